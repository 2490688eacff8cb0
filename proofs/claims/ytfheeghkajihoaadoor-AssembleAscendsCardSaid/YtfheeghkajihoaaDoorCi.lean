/- Layer 22: what is given out ascends (the law). -/
import Derived.Test.YtfheeghkajihoaaDoorCh
import Derived.Test.YtfheeghkajihoaaDoorCf
import Derived.Test.YtfheeghkajihoaaDoorCl8
namespace Go.Proofs.YtfheeghkajihoaaDoor
open Go Go.Lx
set_option linter.unusedSimpArgs false
set_option linter.unusedVariables false
set_option maxRecDepth 100000
set_option maxHeartbeats 4000000

theorem len_cnt : ∀ {l : List Ev}, (∀ e ∈ l, evG e) → l.length ≤ cnt l
  | [], _ => Nat.le_refl _
  | e :: l, h => by
    have h1 := len_cnt (l := l) fun x hx => h x (by simp [hx])
    have h2 : 0 < e.rs.length := List.length_pos_iff.2 (h e (by simp)).1
    simp [cnt] at h1 ⊢
    omega
theorem cnt_mem {l : List Ev} {e : Ev} (h : e ∈ l) : e.rs.length ≤ cnt l := by
  obtain ⟨A, B, rfl⟩ := List.append_of_mem h
  rw [cnt_mid]; omega
theorem ascendsL (l : List Int) (hl : l.length ≤ 200000000000000 ∧ ∀ n ∈ l, -9223372036854775808 ≤ n ∧ n ≤ 9223372036854775807) : Pure Tryd.prog gl 8 [Ms l] (.bool true) := by
  refine fn_viewT Tryd.func8 t8 Tryd.ntmps8 (by simp) ?_
  have hnw := new_ l
  have hok : ∀ k : Int, 0 ≤ k → k ≤ 100 → okS l k := fun k h0 h1 => ⟨hl.1, hl.2, by omega, by omega⟩
  have h0 := new 1
  unfold c8 r8
  rw [Ms] at hnw ⊢
  repeat' (first | (simp (disch := first | omega | (simp only [List.length_cons, List.length_nil]; first | done | omega)) only [go_sem, Nat.reduceAdd, Nat.reduceMul, Nat.reduceSub, Nat.reduceEqDiff, Nat.reduceLeDiff, Nat.reduceMod, Nat.reduceLT, Int.reduceToNat, Int.reduceAdd, Int.reduceSub, Int.reduceMul, Int.reduceNeg, Int.reduceLE, Int.reduceLT, Int.reduceNe, Int.reduceEq, Int.reduceBEq, Int.reduceBNe, Int.reduceTMod, Int.reduceTDiv, Nat.reduceBEq]) | (refine allI (fun b => ?_)) | (refine allT (fun τ => ?_)) | (refine brP (fun h => ?_) (fun h => ?_) <;> (try simp only [zgx, zbx] at h)) | (apply And.intro; focus (first | omega | (simp; done) | (simp +contextual; done) | (intros; and_intros <;> first | assumption | omega) | (intros; simp_all; done) | (intro hgd; refine ⟨hgd, ?_⟩; simp [hgd]; done) | (intro hgd; simp only [zgx] at hgd ⊢; omega))) | fail)
  first | refine newsE_U (hnw) ?_ | refine newsE_T (hnw) ?_ | refine newsE_of (hnw) ?_
  rintro _ _ ⟨BS, rfl, rfl⟩
  repeat' (first | (simp (disch := first | omega | (simp only [List.length_cons, List.length_nil]; first | done | omega)) only [go_sem, Nat.reduceAdd, Nat.reduceMul, Nat.reduceSub, Nat.reduceEqDiff, Nat.reduceLeDiff, Nat.reduceMod, Nat.reduceLT, Int.reduceToNat, Int.reduceAdd, Int.reduceSub, Int.reduceMul, Int.reduceNeg, Int.reduceLE, Int.reduceLT, Int.reduceNe, Int.reduceEq, Int.reduceBEq, Int.reduceBNe, Int.reduceTMod, Int.reduceTDiv, Nat.reduceBEq]) | (refine allI (fun b => ?_)) | (refine allT (fun τ => ?_)) | (refine brP (fun h => ?_) (fun h => ?_) <;> (try simp only [zgx, zbx] at h)) | (apply And.intro; focus (first | omega | (simp; done) | (simp +contextual; done) | (intros; and_intros <;> first | assumption | omega) | (intros; simp_all; done) | (intro hgd; refine ⟨hgd, ?_⟩; simp [hgd]; done) | (intro hgd; simp only [zgx] at hgd ⊢; omega))) | fail)
  first | refine actsE_U (records BS l 0 24 (hok 0 (by omega) (by omega)) (by omega) (by omega)) (by first | rfl | simp only [getH, if_true]) ?_ | refine actsE_T (records BS l 0 24 (hok 0 (by omega) (by omega)) (by omega) (by omega)) (by first | rfl | simp only [getH, if_true]) ?_ | refine actsE_N (records BS l 0 24 (hok 0 (by omega) (by omega)) (by omega) (by omega)) (by first | rfl | simp only [getH, if_true]) ?_ | refine actsE_of (records BS l 0 24 (hok 0 (by omega) (by omega)) (by omega) (by omega)) (by first | rfl | simp only [getH, if_true]) ?_
  rintro _ _ ⟨rs, a1, rfl, hn, hps, ha, rfl⟩
  have hps2 : ∀ r ∈ rs, r.ps.length ≤ 1000000 := fun r hr => by have := hps r hr; omega
  have hf := feedO (as0 1) 0 (okA0 1) rs (by omega) hps2
  have ok1 := okA_feedS (okA0 1) rs hps2
  have hg := flush (feedS (as0 1) rs).1 _ ok1 (by omega)
  have ok2 := okA_flushS ok1
  obtain ⟨hasc, hop⟩ := asc_all 1 rs hps2
  generalize feedS (as0 1) rs = s1 at *
  generalize flushS s1.1 = s2 at *
  simp only [as0, AsC_eq, List.flatMap_nil, List.length_nil] at h0 hf hg
  repeat' (first | (simp (disch := first | omega | (simp only [List.length_cons, List.length_nil]; first | done | omega)) only [go_sem, Nat.reduceAdd, Nat.reduceMul, Nat.reduceSub, Nat.reduceEqDiff, Nat.reduceLeDiff, Nat.reduceMod, Nat.reduceLT, Int.reduceToNat, Int.reduceAdd, Int.reduceSub, Int.reduceMul, Int.reduceNeg, Int.reduceLE, Int.reduceLT, Int.reduceNe, Int.reduceEq, Int.reduceBEq, Int.reduceBNe, Int.reduceTMod, Int.reduceTDiv, Nat.reduceBEq]) | (refine allI (fun b => ?_)) | (refine allT (fun τ => ?_)) | (refine brP (fun h => ?_) (fun h => ?_) <;> (try simp only [zgx, zbx] at h)) | refine call_U (h0) ?_ | refine callG_U (fun _ => h0) ?_ | refine call_T (h0) ?_ | refine callG_T (fun _ => h0) ?_ | refine call_N (h0) ?_ | refine call_of (h0) ?_ | refine callG_of (fun _ => h0) ?_ | (apply And.intro; focus (first | omega | (simp; done) | (simp +contextual; done) | (intros; and_intros <;> first | assumption | omega) | (intros; simp_all; done) | (intro hgd; refine ⟨hgd, ?_⟩; simp [hgd]; done) | (intro hgd; simp only [zgx] at hgd ⊢; omega))) | fail)
  first | refine newsQ_U (hf) ?_ | refine newsQ_T (hf) ?_ | refine newsQ_of (hf) ?_
  rintro _ _ ⟨τ, rfl, rfl⟩
  have hst := ok2.st
  have hN := len_cnt hasc.eo
  have hcn := hasc.n
  have hcs : s1.2.flatMap EvC ++ s2.2.flatMap EvC = (s1.2 ++ s2.2).flatMap EvC := (List.flatMap_append ..).symm
  have hcl : s1.2.length + s2.2.length = (s1.2 ++ s2.2).length := (List.length_append ..).symm
  simp only [pre, hop, cnt, List.map_nil, List.sum_nil, Nat.zero_add] at hN hcn
  simp only [pre] at hasc
  change _ ≤ cnt _ at hN
  change ((cnt _ : Nat) : Int) + _ = _ at hcn
  repeat' (first | (simp (disch := first | omega | (simp only [List.length_cons, List.length_nil]; first | done | omega)) only [go_sem, Nat.reduceAdd, Nat.reduceMul, Nat.reduceSub, Nat.reduceEqDiff, Nat.reduceLeDiff, Nat.reduceMod, Nat.reduceLT, Int.reduceToNat, Int.reduceAdd, Int.reduceSub, Int.reduceMul, Int.reduceNeg, Int.reduceLE, Int.reduceLT, Int.reduceNe, Int.reduceEq, Int.reduceBEq, Int.reduceBNe, Int.reduceTMod, Int.reduceTDiv, Nat.reduceBEq, hcs, hcl]) | (refine allI (fun b => ?_)) | (refine allT (fun τ => ?_)) | (refine brP (fun h => ?_) (fun h => ?_) <;> (try simp only [zgx, zbx] at h)) | refine call_U (hg) ?_ | refine callG_U (fun _ => hg) ?_ | refine call_T (hg) ?_ | refine callG_T (fun _ => hg) ?_ | refine call_N (hg) ?_ | refine call_of (hg) ?_ | refine callG_of (fun _ => hg) ?_ | (apply And.intro; focus (first | omega | (simp; done) | (simp +contextual; done) | (intros; and_intros <;> first | assumption | omega) | (intros; simp_all; done) | (intro hgd; refine ⟨hgd, ?_⟩; simp [hgd]; done) | (intro hgd; simp only [zgx] at hgd ⊢; omega))) | fail)
  generalize s1.2 ++ s2.2 = O at *
  obtain ⟨A, o2⟩ := s2
  dsimp only at *
  refine ⟨by simp only [roomy]; omega, fun τ1 => ?_⟩
  refine loopI (ι := Nat) (fun i => i ≤ O.length) (fun i => [(10, .int .i64 i), (9, .int .i64 (cnt (O.take i) : Nat)), (8, .osl 64 τ1 5 O.length (O.flatMap EvC)), (5, .ptr 5 b 0), (4, .sl 4 rs.length (rs.flatMap RcC))]) (fun _ => [(64, .tok τ1), (5, .blk b [.int .i64 A.bo, .int .i64 A.nx, .int .i64 A.st, .sl 5 A.op.length (A.op.flatMap EvC), .sl 5 A.ls.length (A.ls.flatMap LsC), .sl 2 A.gs.length (A.gs.flatMap GpC), .int .i64 A.la])]) (fun i => O.length - i) 0 (Nat.zero_le _) (Ents.sub (by simp [go_sem, cnt]) ⟨_, .cons_cons _ (.cons_cons _ (List.nil_sublist _)), List.Perm.refl _⟩) ?_
  intro i hi
  have hlO := len_ev O
  have hlG := len_gp A.gs
  have hGb : A.gs.length ≤ 1073741825 := by
    have h1 : (A.gs.length : Int) < A.nx := ok2.lG
    have h2 : 1 ≤ A.nx ∧ A.nx ≤ 1073741825 := ok2.nx
    omega
  simp (disch := first | omega | (simp only [List.length_cons, List.length_nil]; first | done | omega)) only [go_sem, Nat.reduceAdd, Nat.reduceMul, Nat.reduceSub, Nat.reduceEqDiff, Nat.reduceLeDiff, Nat.reduceMod, Nat.reduceLT, Int.reduceToNat, Int.reduceAdd, Int.reduceSub, Int.reduceMul, Int.reduceNeg, Int.reduceLE, Int.reduceLT, Int.reduceNe, Int.reduceEq, Int.reduceBEq, Int.reduceBNe, Int.reduceTMod, Int.reduceTDiv, Nat.reduceBEq]
  refine brP (fun hb => ?_) (fun hb => ?_)
  · have hlt : i < O.length := by simpa using hb
    have f0 := take_rows (f := EvC) (w := 5) (fun _ => rfl) ev0 O hlt
    have f1 := getD_rows (f := EvC) (w := 5) (fun _ => rfl) (j := 1) (by omega) ev0 O i hlt
    have f2 := getD_rows (f := EvC) (w := 5) (fun _ => rfl) (j := 2) (by omega) ev0 O i hlt
    have f3 := getD_rows (f := EvC) (w := 5) (fun _ => rfl) (j := 3) (by omega) ev0 O i hlt
    have f4 := getD_rows (f := EvC) (w := 5) (fun _ => rfl) (j := 4) (by omega) ev0 O i hlt
    have hmem : O.getD i ev0 ∈ O := getD_memA ev0 hlt
    obtain ⟨v1, v2, v3, v4⟩ := hasc.eo _ hmem
    have hco := rcomp (O.getD i ev0) (by have := cnt_mem hmem; omega)
    have hcm := cnt_mem hmem
    have v5 : 0 < (O.getD i ev0).rs.length := List.length_pos_iff.2 v1
    have g1 := getD_rows (f := RcC) (w := 4) (fun _ => rfl) (j := 1) (by omega) rc0 (O.getD i ev0).rs 0 v5
    have hgo := fun g hg => hasc.go g hg _ hmem
    have hcs1 : cnt (O.take (i + 1)) = cnt (O.take i) + (O.getD i ev0).rs.length := by rw [take_succ_getD ev0 O hlt, cnt_app]; simp [cnt]
    have hpr : ∀ j, i = j + 1 → (O.getD j ev0).se < (O.getD i ev0).se := fun j hj => by
      subst hj
      have := List.pairwise_iff_getElem.1 hasc.out j (j + 1) (show j < O.length by omega) hlt (by omega)
      simpa [List.getD, hlt, show j < O.length by omega] using this
    have f6 : (O.flatMap EvC).getD (((i : Int) - 1).toNat * 5 + 1) .any = .int .i64 (O.getD (i - 1) ev0).se := by
      rw [show ((i : Int) - 1).toNat = i - 1 by omega]
      exact getD_rows (f := EvC) (w := 5) (fun _ => rfl) (j := 1) (by omega) ev0 O (i - 1) (by omega)
    generalize O.getD i ev0 = e at *
    rw [EvC_eq] at f0 f1 f2 f3 f4 hco
    rw [RcC_eq] at g1
    simp only [List.getD_cons_zero, List.getD_cons_succ, Nat.zero_mul, Nat.zero_add] at f1 f2 f3 f4 g1
    have d5 : ((e.rs.length : Int) == 0) = false := beq_eq_false_iff_ne.2 (by omega)
    have v6 : ((e.rs.getD 0 rc0).ti : Int) = e.ti := v3
    rw [v6] at g1
    rw [v2] at f0 f4 hco
    have hco2 : (compS e.rs == compS e.rs) = true := beq_self_eq_true _
    have hct : cnt (O.take i) ≤ cnt O := by
      have := cnt_app (O.take i) (O.drop i)
      rw [List.take_append_drop] at this
      omega
    have hlR := len_rc e.rs
    have hAll : ∀ r ∈ e.rs, r.se = e.se := v4
    have hgl := len_gp A.gs
    rcases Bool.eq_false_or_eq_true (decide (0 < (i : Int))) with d6 | d6
    case' inl =>
      have hi1 : 0 < i := by simpa using d6
      have d7 : decide (e.se ≤ (O.getD (i - 1) ev0).se) = false := decide_eq_false (by have := hpr (i - 1) (by omega); omega)
      repeat' (first | (simp (disch := first | omega | (simp only [List.length_cons, List.length_nil]; first | done | omega)) only [go_sem, Nat.reduceAdd, Nat.reduceMul, Nat.reduceSub, Nat.reduceEqDiff, Nat.reduceLeDiff, Nat.reduceMod, Nat.reduceLT, Int.reduceToNat, Int.reduceAdd, Int.reduceSub, Int.reduceMul, Int.reduceNeg, Int.reduceLE, Int.reduceLT, Int.reduceNe, Int.reduceEq, Int.reduceBEq, Int.reduceBNe, Int.reduceTMod, Int.reduceTDiv, Nat.reduceBEq, f0, f1, f2, f3, f4, f6, g1, d5, d6, d7]) | (refine allI (fun b => ?_)) | (refine allT (fun τ => ?_)) | (refine brP (fun h => ?_) (fun h => ?_) <;> (try simp only [zgx, zbx] at h)) | refine call_U (hco) ?_ | refine callG_U (fun _ => hco) ?_ | refine call_T (hco) ?_ | refine callG_T (fun _ => hco) ?_ | refine call_N (hco) ?_ | refine call_of (hco) ?_ | refine callG_of (fun _ => hco) ?_ | (apply And.intro; focus (first | omega | (simp; done) | (simp +contextual; done) | (intros; and_intros <;> first | assumption | omega) | (intros; simp_all; done) | (intro hgd; refine ⟨hgd, ?_⟩; simp [hgd]; done) | (intro hgd; simp only [zgx] at hgd ⊢; omega))) | fail)
    case' inr =>
      repeat' (first | (simp (disch := first | omega | (simp only [List.length_cons, List.length_nil]; first | done | omega)) only [go_sem, Nat.reduceAdd, Nat.reduceMul, Nat.reduceSub, Nat.reduceEqDiff, Nat.reduceLeDiff, Nat.reduceMod, Nat.reduceLT, Int.reduceToNat, Int.reduceAdd, Int.reduceSub, Int.reduceMul, Int.reduceNeg, Int.reduceLE, Int.reduceLT, Int.reduceNe, Int.reduceEq, Int.reduceBEq, Int.reduceBNe, Int.reduceTMod, Int.reduceTDiv, Nat.reduceBEq, f0, f1, f2, f3, f4, f6, g1, d5, d6]) | (refine allI (fun b => ?_)) | (refine allT (fun τ => ?_)) | (refine brP (fun h => ?_) (fun h => ?_) <;> (try simp only [zgx, zbx] at h)) | refine call_U (hco) ?_ | refine callG_U (fun _ => hco) ?_ | refine call_T (hco) ?_ | refine callG_T (fun _ => hco) ?_ | refine call_N (hco) ?_ | refine call_of (hco) ?_ | refine callG_of (fun _ => hco) ?_ | (apply And.intro; focus (first | omega | (simp; done) | (simp +contextual; done) | (intros; and_intros <;> first | assumption | omega) | (intros; simp_all; done) | (intro hgd; refine ⟨hgd, ?_⟩; simp [hgd]; done) | (intro hgd; simp only [zgx] at hgd ⊢; omega))) | fail)
    all_goals
      refine loopI (ι := Nat) (fun k => k ≤ A.gs.length) (fun k => [(11, .int .i64 k), (10, .int .i64 i), (9, .int .i64 (cnt (O.take i) : Nat)), (8, .osl 64 τ1 5 O.length (O.flatMap EvC)), (5, .ptr 5 b 0), (4, .sl 4 rs.length (rs.flatMap RcC))]) (fun _ => [(64, .tok τ1), (5, .blk b [.int .i64 A.bo, .int .i64 A.nx, .int .i64 A.st, .sl 5 A.op.length (A.op.flatMap EvC), .sl 5 A.ls.length (A.ls.flatMap LsC), .sl 2 A.gs.length (A.gs.flatMap GpC), .int .i64 A.la])]) (fun k => A.gs.length - k) 0 (Nat.zero_le _) (Ents.sub (by simp [go_sem]) ⟨_, List.Sublist.refl _, List.Perm.refl _⟩) ?_
      intro k hk
      simp (disch := first | omega | (simp only [List.length_cons, List.length_nil]; first | done | omega)) only [go_sem, Nat.reduceAdd, Nat.reduceMul, Nat.reduceSub, Nat.reduceEqDiff, Nat.reduceLeDiff, Nat.reduceMod, Nat.reduceLT, Int.reduceToNat, Int.reduceAdd, Int.reduceSub, Int.reduceMul, Int.reduceNeg, Int.reduceLE, Int.reduceLT, Int.reduceNe, Int.reduceEq, Int.reduceBEq, Int.reduceBNe, Int.reduceTMod, Int.reduceTDiv, Nat.reduceBEq]
      refine brP (fun hb2 => ?_) (fun hb2 => ?_)
      · have hkl : k < A.gs.length := by simpa using hb2
        have q0 := getD_rows (f := GpC) (w := 2) (fun _ => rfl) (j := 0) (by omega) gp0 A.gs k hkl
        have q1 := getD_rows (f := GpC) (w := 2) (fun _ => rfl) (j := 1) (by omega) gp0 A.gs k hkl
        have hg2 := hgo _ (getD_memA gp0 hkl)
        generalize A.gs.getD k gp0 = g at *
        rw [GpC_eq] at q0 q1
        simp only [List.getD_cons_zero, List.getD_cons_succ, Nat.add_zero] at q0 q1
        rcases Bool.eq_false_or_eq_true (decide (g.f ≤ e.se)) with d8 | d8
        case' inl =>
          have d9 : decide (e.se ≤ g.l) = false := decide_eq_false (by simp at d8; omega)
          repeat' (first | (simp (disch := first | omega | (simp only [List.length_cons, List.length_nil]; first | done | omega)) only [go_sem, Nat.reduceAdd, Nat.reduceMul, Nat.reduceSub, Nat.reduceEqDiff, Nat.reduceLeDiff, Nat.reduceMod, Nat.reduceLT, Int.reduceToNat, Int.reduceAdd, Int.reduceSub, Int.reduceMul, Int.reduceNeg, Int.reduceLE, Int.reduceLT, Int.reduceNe, Int.reduceEq, Int.reduceBEq, Int.reduceBNe, Int.reduceTMod, Int.reduceTDiv, Nat.reduceBEq, f1, q0, q1, d8, d9]) | (refine allI (fun b => ?_)) | (refine allT (fun τ => ?_)) | (refine brP (fun h => ?_) (fun h => ?_) <;> (try simp only [zgx, zbx] at h)) | (apply And.intro; focus (first | omega | (simp; done) | (simp +contextual; done) | (intros; and_intros <;> first | assumption | omega) | (intros; simp_all; done) | (intro hgd; refine ⟨hgd, ?_⟩; simp [hgd]; done) | (intro hgd; simp only [zgx] at hgd ⊢; omega))) | fail)
        case' inr =>
          repeat' (first | (simp (disch := first | omega | (simp only [List.length_cons, List.length_nil]; first | done | omega)) only [go_sem, Nat.reduceAdd, Nat.reduceMul, Nat.reduceSub, Nat.reduceEqDiff, Nat.reduceLeDiff, Nat.reduceMod, Nat.reduceLT, Int.reduceToNat, Int.reduceAdd, Int.reduceSub, Int.reduceMul, Int.reduceNeg, Int.reduceLE, Int.reduceLT, Int.reduceNe, Int.reduceEq, Int.reduceBEq, Int.reduceBNe, Int.reduceTMod, Int.reduceTDiv, Nat.reduceBEq, f1, q0, q1, d8]) | (refine allI (fun b => ?_)) | (refine allT (fun τ => ?_)) | (refine brP (fun h => ?_) (fun h => ?_) <;> (try simp only [zgx, zbx] at h)) | (apply And.intro; focus (first | omega | (simp; done) | (simp +contextual; done) | (intros; and_intros <;> first | assumption | omega) | (intros; simp_all; done) | (intro hgd; refine ⟨hgd, ?_⟩; simp [hgd]; done) | (intro hgd; simp only [zgx] at hgd ⊢; omega))) | fail)
        all_goals exact ⟨⟨k + 1, by omega⟩, by dsimp only; omega, Ents.sub (by simp [go_sem]) ⟨_, List.Sublist.refl _, List.Perm.refl _⟩⟩
      · repeat' (first | (simp (disch := first | omega | (simp only [List.length_cons, List.length_nil]; first | done | omega)) only [go_sem, Nat.reduceAdd, Nat.reduceMul, Nat.reduceSub, Nat.reduceEqDiff, Nat.reduceLeDiff, Nat.reduceMod, Nat.reduceLT, Int.reduceToNat, Int.reduceAdd, Int.reduceSub, Int.reduceMul, Int.reduceNeg, Int.reduceLE, Int.reduceLT, Int.reduceNe, Int.reduceEq, Int.reduceBEq, Int.reduceBNe, Int.reduceTMod, Int.reduceTDiv, Nat.reduceBEq]) | (refine allI (fun b => ?_)) | (refine allT (fun τ => ?_)) | (refine brP (fun h => ?_) (fun h => ?_) <;> (try simp only [zgx, zbx] at h)) | (apply And.intro; focus (first | omega | (simp; done) | (simp +contextual; done) | (intros; and_intros <;> first | assumption | omega) | (intros; simp_all; done) | (intro hgd; refine ⟨hgd, ?_⟩; simp [hgd]; done) | (intro hgd; simp only [zgx] at hgd ⊢; omega))) | fail)
        refine loopI (ι := Nat) (fun k => k ≤ e.rs.length) (fun k => [(12, .int .i64 k), (10, .int .i64 i), (9, .int .i64 (cnt (O.take i) : Nat)), (8, .osl 64 τ1 5 O.length (O.flatMap EvC)), (5, .ptr 5 b 0), (4, .sl 4 rs.length (rs.flatMap RcC))]) (fun _ => [(64, .tok τ1), (5, .blk b [.int .i64 A.bo, .int .i64 A.nx, .int .i64 A.st, .sl 5 A.op.length (A.op.flatMap EvC), .sl 5 A.ls.length (A.ls.flatMap LsC), .sl 2 A.gs.length (A.gs.flatMap GpC), .int .i64 A.la])]) (fun k => e.rs.length - k) 0 (Nat.zero_le _) (Ents.sub (by simp [go_sem]) ⟨_, List.Sublist.refl _, List.Perm.refl _⟩) ?_
        intro k2 hk2
        simp (disch := first | omega | (simp only [List.length_cons, List.length_nil]; first | done | omega)) only [go_sem, Nat.reduceAdd, Nat.reduceMul, Nat.reduceSub, Nat.reduceEqDiff, Nat.reduceLeDiff, Nat.reduceMod, Nat.reduceLT, Int.reduceToNat, Int.reduceAdd, Int.reduceSub, Int.reduceMul, Int.reduceNeg, Int.reduceLE, Int.reduceLT, Int.reduceNe, Int.reduceEq, Int.reduceBEq, Int.reduceBNe, Int.reduceTMod, Int.reduceTDiv, Nat.reduceBEq, f3]
        refine ⟨by omega, by omega, brP (fun hb3 => ?_) (fun hb3 => ?_)⟩
        · have hkl : k2 < e.rs.length := by simpa using hb3
          have q2 := getD_rows (f := RcC) (w := 4) (fun _ => rfl) (j := 2) (by omega) rc0 e.rs k2 hkl
          have hse := hAll _ (getD_memA rc0 hkl)
          rw [RcC_eq] at q2
          simp only [List.getD_cons_zero, List.getD_cons_succ, hse] at q2
          repeat' (first | (simp (disch := first | omega | (simp only [List.length_cons, List.length_nil]; first | done | omega)) only [go_sem, Nat.reduceAdd, Nat.reduceMul, Nat.reduceSub, Nat.reduceEqDiff, Nat.reduceLeDiff, Nat.reduceMod, Nat.reduceLT, Int.reduceToNat, Int.reduceAdd, Int.reduceSub, Int.reduceMul, Int.reduceNeg, Int.reduceLE, Int.reduceLT, Int.reduceNe, Int.reduceEq, Int.reduceBEq, Int.reduceBNe, Int.reduceTMod, Int.reduceTDiv, Nat.reduceBEq, f1, f3, q2]) | (refine allI (fun b => ?_)) | (refine allT (fun τ => ?_)) | (refine brP (fun h => ?_) (fun h => ?_) <;> (try simp only [zgx, zbx] at h)) | (apply And.intro; focus (first | omega | (simp; done) | (simp +contextual; done) | (intros; and_intros <;> first | assumption | omega) | (intros; simp_all; done) | (intro hgd; refine ⟨hgd, ?_⟩; simp [hgd]; done) | (intro hgd; simp only [zgx] at hgd ⊢; omega))) | fail)
          exact ⟨⟨k2 + 1, by omega⟩, by dsimp only; omega, Ents.sub (by simp [go_sem]) ⟨_, List.Sublist.refl _, List.Perm.refl _⟩⟩
        · repeat' (first | (simp (disch := first | omega | (simp only [List.length_cons, List.length_nil]; first | done | omega)) only [go_sem, Nat.reduceAdd, Nat.reduceMul, Nat.reduceSub, Nat.reduceEqDiff, Nat.reduceLeDiff, Nat.reduceMod, Nat.reduceLT, Int.reduceToNat, Int.reduceAdd, Int.reduceSub, Int.reduceMul, Int.reduceNeg, Int.reduceLE, Int.reduceLT, Int.reduceNe, Int.reduceEq, Int.reduceBEq, Int.reduceBNe, Int.reduceTMod, Int.reduceTDiv, Nat.reduceBEq, f3]) | (refine allI (fun b => ?_)) | (refine allT (fun τ => ?_)) | (refine brP (fun h => ?_) (fun h => ?_) <;> (try simp only [zgx, zbx] at h)) | (apply And.intro; focus (first | omega | (simp; done) | (simp +contextual; done) | (intros; and_intros <;> first | assumption | omega) | (intros; simp_all; done) | (intro hgd; refine ⟨hgd, ?_⟩; simp [hgd]; done) | (intro hgd; simp only [zgx] at hgd ⊢; omega))) | fail)
          refine ⟨⟨i + 1, by omega⟩, by dsimp only; omega, Ents.sub (by simp [go_sem, hcs1]) ⟨_, List.Sublist.refl _, List.Perm.refl _⟩⟩
  · have hie : i = O.length := by simp only [decide_eq_false_iff_not] at hb; omega
    subst hie
    rw [List.take_length]
    repeat' (first | (simp (disch := first | omega | (simp only [List.length_cons, List.length_nil]; first | done | omega)) only [go_sem, Nat.reduceAdd, Nat.reduceMul, Nat.reduceSub, Nat.reduceEqDiff, Nat.reduceLeDiff, Nat.reduceMod, Nat.reduceLT, Int.reduceToNat, Int.reduceAdd, Int.reduceSub, Int.reduceMul, Int.reduceNeg, Int.reduceLE, Int.reduceLT, Int.reduceNe, Int.reduceEq, Int.reduceBEq, Int.reduceBNe, Int.reduceTMod, Int.reduceTDiv, Nat.reduceBEq]) | (refine allI (fun b => ?_)) | (refine allT (fun τ => ?_)) | (refine brP (fun h => ?_) (fun h => ?_) <;> (try simp only [zgx, zbx] at h)) | (apply And.intro; focus (first | omega | (simp; done) | (simp +contextual; done) | (intros; and_intros <;> first | assumption | omega) | (intros; simp_all; done) | (intro hgd; refine ⟨hgd, ?_⟩; simp [hgd]; done) | (intro hgd; simp only [zgx] at hgd ⊢; omega))) | fail)
    refine loopI (ι := Nat) (fun k => k ≤ A.gs.length) (fun k => [(13, .int .i64 k), (9, .int .i64 (cnt O : Nat)), (5, .ptr 5 b 0), (4, .sl 4 rs.length (rs.flatMap RcC))]) (fun _ => [(64, .tok τ1), (5, .blk b [.int .i64 A.bo, .int .i64 A.nx, .int .i64 A.st, .sl 5 A.op.length (A.op.flatMap EvC), .sl 5 A.ls.length (A.ls.flatMap LsC), .sl 2 A.gs.length (A.gs.flatMap GpC), .int .i64 A.la])]) (fun k => A.gs.length - k) 0 (Nat.zero_le _) (Ents.sub (by simp [go_sem]) ⟨_, List.Sublist.refl _, List.Perm.refl _⟩) ?_
    intro k hk
    simp (disch := first | omega | (simp only [List.length_cons, List.length_nil]; first | done | omega)) only [go_sem, Nat.reduceAdd, Nat.reduceMul, Nat.reduceSub, Nat.reduceEqDiff, Nat.reduceLeDiff, Nat.reduceMod, Nat.reduceLT, Int.reduceToNat, Int.reduceAdd, Int.reduceSub, Int.reduceMul, Int.reduceNeg, Int.reduceLE, Int.reduceLT, Int.reduceNe, Int.reduceEq, Int.reduceBEq, Int.reduceBNe, Int.reduceTMod, Int.reduceTDiv, Nat.reduceBEq]
    refine brP (fun hb2 => ?_) (fun hb2 => ?_)
    · have hkl : k < A.gs.length := by simpa using hb2
      have q0 := getD_rows (f := GpC) (w := 2) (fun _ => rfl) (j := 0) (by omega) gp0 A.gs k hkl
      have q1 := getD_rows (f := GpC) (w := 2) (fun _ => rfl) (j := 1) (by omega) gp0 A.gs k hkl
      have q6 : (A.gs.flatMap GpC).getD (((k : Int) - 1).toNat * 2 + 1) .any = .int .i64 (A.gs.getD (k - 1) gp0).l := by
        rw [show ((k : Int) - 1).toNat = k - 1 by omega]
        exact getD_rows (f := GpC) (w := 2) (fun _ => rfl) (j := 1) (by omega) gp0 A.gs (k - 1) (by omega)
      have hg2 := hasc.gl _ (getD_memA gp0 hkl)
      have hp2 : 0 < k → (A.gs.getD (k - 1) gp0).l + 1 < (A.gs.getD k gp0).f := fun hj => by
        have := List.pairwise_iff_getElem.1 hasc.gp (k - 1) k (show k - 1 < A.gs.length by omega) hkl (by omega)
        simpa [List.getD, hkl, show k - 1 < A.gs.length by omega] using this
      have hgm := ok2.gs _ (getD_memA gp0 (l := A.gs) (i := k - 1) (by omega))
      dsimp only at hg2 hgm
      generalize A.gs.getD k gp0 = g at *
      generalize A.gs.getD (k - 1) gp0 = g' at *
      rw [GpC_eq] at q0 q1
      simp only [List.getD_cons_zero, List.getD_cons_succ, Nat.add_zero] at q0 q1
      have d5 : decide (g.l < g.f) = false := decide_eq_false (by omega)
      rcases Bool.eq_false_or_eq_true (decide (0 < (k : Int))) with d6 | d6
      case' inl =>
        have hi1 : 0 < k := by simpa using d6
        have d7 : decide (g.f ≤ g'.l + 1) = false := decide_eq_false (by have := hp2 hi1; omega)
        repeat' (first | (simp (disch := first | omega | (simp only [List.length_cons, List.length_nil]; first | done | omega)) only [go_sem, Nat.reduceAdd, Nat.reduceMul, Nat.reduceSub, Nat.reduceEqDiff, Nat.reduceLeDiff, Nat.reduceMod, Nat.reduceLT, Int.reduceToNat, Int.reduceAdd, Int.reduceSub, Int.reduceMul, Int.reduceNeg, Int.reduceLE, Int.reduceLT, Int.reduceNe, Int.reduceEq, Int.reduceBEq, Int.reduceBNe, Int.reduceTMod, Int.reduceTDiv, Nat.reduceBEq, q0, q1, q6, d5, d6, d7]) | (refine allI (fun b => ?_)) | (refine allT (fun τ => ?_)) | (refine brP (fun h => ?_) (fun h => ?_) <;> (try simp only [zgx, zbx] at h)) | (apply And.intro; focus (first | omega | (simp; done) | (simp +contextual; done) | (intros; and_intros <;> first | assumption | omega) | (intros; simp_all; done) | (intro hgd; refine ⟨hgd, ?_⟩; simp [hgd]; done) | (intro hgd; simp only [zgx] at hgd ⊢; omega))) | fail)
      case' inr =>
        repeat' (first | (simp (disch := first | omega | (simp only [List.length_cons, List.length_nil]; first | done | omega)) only [go_sem, Nat.reduceAdd, Nat.reduceMul, Nat.reduceSub, Nat.reduceEqDiff, Nat.reduceLeDiff, Nat.reduceMod, Nat.reduceLT, Int.reduceToNat, Int.reduceAdd, Int.reduceSub, Int.reduceMul, Int.reduceNeg, Int.reduceLE, Int.reduceLT, Int.reduceNe, Int.reduceEq, Int.reduceBEq, Int.reduceBNe, Int.reduceTMod, Int.reduceTDiv, Nat.reduceBEq, q0, q1, q6, d5, d6]) | (refine allI (fun b => ?_)) | (refine allT (fun τ => ?_)) | (refine brP (fun h => ?_) (fun h => ?_) <;> (try simp only [zgx, zbx] at h)) | (apply And.intro; focus (first | omega | (simp; done) | (simp +contextual; done) | (intros; and_intros <;> first | assumption | omega) | (intros; simp_all; done) | (intro hgd; refine ⟨hgd, ?_⟩; simp [hgd]; done) | (intro hgd; simp only [zgx] at hgd ⊢; omega))) | fail)
      all_goals exact ⟨⟨k + 1, by omega⟩, by dsimp only; omega, Ents.sub (by simp [go_sem]) ⟨_, List.Sublist.refl _, List.Perm.refl _⟩⟩
    · have hst2 : ((cnt O : Nat) : Int) + A.st = rs.length := hcn
      have d8 : (((cnt O : Nat) : Int) + A.st == (rs.length : Int)) = true := beq_iff_eq.2 hst2
      rw [hop]
      simp only [List.length_nil]
      repeat' (first | (simp (disch := first | omega | (simp only [List.length_cons, List.length_nil]; first | done | omega)) only [go_sem, Nat.reduceAdd, Nat.reduceMul, Nat.reduceSub, Nat.reduceEqDiff, Nat.reduceLeDiff, Nat.reduceMod, Nat.reduceLT, Int.reduceToNat, Int.reduceAdd, Int.reduceSub, Int.reduceMul, Int.reduceNeg, Int.reduceLE, Int.reduceLT, Int.reduceNe, Int.reduceEq, Int.reduceBEq, Int.reduceBNe, Int.reduceTMod, Int.reduceTDiv, Nat.reduceBEq, d8]) | (refine allI (fun b => ?_)) | (refine allT (fun τ => ?_)) | (refine brP (fun h => ?_) (fun h => ?_) <;> (try simp only [zgx, zbx] at h)) | refine call_U (awake) ?_ | refine callG_U (fun _ => awake) ?_ | refine call_T (awake) ?_ | refine callG_T (fun _ => awake) ?_ | refine call_N (awake) ?_ | refine call_of (awake) ?_ | refine callG_of (fun _ => awake) ?_ | (apply And.intro; focus (first | omega | (simp; done) | (simp +contextual; done) | (intros; and_intros <;> first | assumption | omega) | (intros; simp_all; done) | (intro hgd; refine ⟨hgd, ?_⟩; simp [hgd]; done) | (intro hgd; simp only [zgx] at hgd ⊢; omega))) | fail)
      exact view_sub (leV.refl _) (List.nil_sublist _)
end Go.Proofs.YtfheeghkajihoaaDoor
