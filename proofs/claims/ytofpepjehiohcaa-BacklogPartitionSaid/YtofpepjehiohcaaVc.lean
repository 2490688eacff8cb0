/- Layer 20: the accounting: the law. -/
import Derived.Test.YtofpepjehiohcaaVb
import Derived.Test.YtofpepjehiohcaaCl5
namespace Go.Proofs.Ytofpepjehiohcaa
open Go Go.Lx
set_option linter.unusedSimpArgs false
set_option linter.unusedVariables false
set_option maxRecDepth 100000
set_option maxHeartbeats 4000000

theorem Stepd.lim {x x' : Pl} (hs : Stepd x x') (h : 1 ≤ x.b.lim ∧ x.b.lim ≤ 64) : 1 ≤ x'.b.lim ∧ x'.b.lim ≤ 64 := by
  cases hs with
  | off n =>
    have h1 : (offB x.b x.ti n).1.lim = x.b.lim := by
      unfold offB
      split
      · rfl
      · dsimp only
        cases pend x.b.pd <;> simp only [if_true, Bool.false_eq_true, if_false] <;> split <;> rfl
    have : (offP x n).b.lim = x.b.lim := by
      unfold offP
      dsimp only
      split <;> exact h1
    omega
  | put i hi =>
    have : (putP x i).b.lim = x.b.lim := by unfold putP; dsimp only; split <;> rfl
    omega
  | non => exact h
  | tak n =>
    have : (takP x n).b.lim = x.b.lim := by unfold takP takeB; dsimp only; split <;> rfl
    omega
  | tick d h1 h2 => exact h
  | conf l r f hs =>
    have hb : confB x.b l r f = { x.b with lim := l, rate := r, fail := f } := by rw [confB, if_pos hs]
    simp only [setOk, decide_eq_true_eq] at hs
    rw [hb]
    dsimp only
    omega
theorem begX_lim (l : List Int) (a : Int) : 1 ≤ (begX l a).b.lim ∧ (begX l a).b.lim ≤ 64 := by
  have hb : (begX l a).b = { bl0 with lim := begL l a, rate := begR l a, fail := begF l a } := by
    simp only [begX, confB, beg_ok l a, if_true]
  have hlim := beg_ok l a
  simp only [setOk, decide_eq_true_eq] at hlim
  rw [hb]
  dsimp only
  omega
theorem begX_AP (l : List Int) (a : Int) : AP (begX l a) := by
  have hb : (begX l a).b = { bl0 with lim := begL l a, rate := begR l a, fail := begF l a } := by
    simp only [begX, confB, beg_ok l a, if_true]
  refine ⟨Gd.zero.conf _ _ _, ?_, by simp [begX], ?_, by simp [begX], fun k k1 k2 => ?_, ?_, ?_⟩
  · rw [hb]; simp [begX, bl0]
  · rw [hb]; simp [bl0, pend, lo0]
  · rw [hb] at k2; simp [bl0] at k2; omega
  · rw [hb]; simp [begX, bl0, lsum, pdS, lo0]
  · rw [hb]; simp [bl0, lo0]
def FK (i : Nat) (x : Pl) : Prop := okP i x ∧ JP 64 x ∧ AP x ∧ 1 ≤ x.b.lim ∧ x.b.lim ≤ 64
theorem FK.step {i : Nat} {x x' : Pl} (h : FK i x) (hi : i + 1 ≤ 1000) (hs : Stepd x x') : FK (i + 1) x' := by
  obtain ⟨h1, h2, h3, h4⟩ := h
  have h5 := hs.lim h4
  refine ⟨h1.step hi hs, ?_, h3.step (fun l hl => (h1.on l hl).1) hs, h5⟩
  have := h2.step hs
  rwa [if_neg (by omega)] at this
theorem FK.fin {x : Pl} (h : FK 40 x) : FI 40 x := by
  obtain ⟨h1, h2, h3, h4, h5⟩ := h
  have h6 := h1.b.ser
  have h7 := h2.bnd
  exact ⟨h1, h2, h3, h4, by omega, by omega⟩
theorem zeros_arr (n : Nat) : zeros ([.int .i64 0] : List LV) (n * 1) = arrF n (fun _ => 0) := by
  rw [Nat.mul_one]
  induction n with
  | zero => rfl
  | succ n ih =>
    rw [zeros_one, ih]
    simp only [arrF, List.range_succ_eq_map, List.map_cons, List.map_map]
    rfl
theorem Sp_row {cs : List LV} {k a w : Nat} (h : a + w ≤ cs.length) : ((Sp cs k).drop a).take w = (cs.drop a).take w := by
  rw [Sp, List.drop_append_of_le_length (by omega), List.take_append_of_le_length (by rw [List.length_drop]; omega)]
def sumK (p : Lo) (k : Nat) : Int := if k ≤ 2 then 0 else if k = 3 then p.r else if k = 4 then p.r + p.u else p.r + p.u + p.s
theorem sumK_2 (p : Lo) : sumK p 2 = 0 := rfl
theorem sumK_3 (p : Lo) : sumK p 3 = p.r := rfl
theorem sumK_4 (p : Lo) : sumK p 4 = p.r + p.u := rfl
theorem sumK_5 (p : Lo) : sumK p 5 = p.r + p.u + p.s := rfl
theorem partL (l : List Int) (hl : okS l 0) : Pure Try.prog gl 5 [Ms l] (.bool true) := by
  refine fn_pureT Try.func5 t5 Try.ntmps5 (by simp) ?_
  have hs := new_ l
  unfold Ms at hs
  unfold c5 r5 Ms
  simp (disch := first | omega | (simp only [List.length_cons, List.length_nil]; first | done | omega)) only [go_sem, Nat.reduceAdd, Nat.reduceMul, Nat.reduceSub, Nat.reduceEqDiff, Nat.reduceLeDiff, Nat.reduceMod, Nat.reduceLT, Int.reduceToNat, Int.reduceAdd, Int.reduceSub, Int.reduceMul, Int.reduceNeg, Int.reduceLE, Int.reduceLT, Int.toNat_natCast, Int.cast_ofNat_Int, Int.reduceNe, Int.reduceEq, Int.reduceBEq, Int.reduceBNe, not_false_eq_true, ne_eq, Int.reduceTMod, Int.reduceTDiv, beq_self_eq_true, bne_self_eq_false, List.contains_cons, List.contains_nil, Nat.reduceBEq]
  first | refine newsE_U (hs) ?_ | refine newsE_T (hs) ?_ | refine newsE_of (hs) ?_
  rintro _ _ ⟨sb, rfl, rfl⟩
  simp (disch := first | omega | (simp only [List.length_cons, List.length_nil]; first | done | omega)) only [go_sem, Nat.reduceAdd, Nat.reduceMul, Nat.reduceSub, Nat.reduceEqDiff, Nat.reduceLeDiff, Nat.reduceMod, Nat.reduceLT, Int.reduceToNat, Int.reduceAdd, Int.reduceSub, Int.reduceMul, Int.reduceNeg, Int.reduceLE, Int.reduceLT, Int.toNat_natCast, Int.cast_ofNat_Int, Int.reduceNe, Int.reduceEq, Int.reduceBEq, Int.reduceBNe, not_false_eq_true, ne_eq, Int.reduceTMod, Int.reduceTDiv, beq_self_eq_true, bne_self_eq_false, List.contains_cons, List.contains_nil, Nat.reduceBEq]
  first | refine actsQ_U (pbegin sb l 0 hl (by omega)) (pick_perm rfl (List.Perm.refl _)) ?_ | refine actsQ_T (pbegin sb l 0 hl (by omega)) (pick_perm rfl (List.Perm.refl _)) ?_ | refine actsQ_N (pbegin sb l 0 hl (by omega)) (pick_perm rfl (List.Perm.refl _)) ?_ | refine actsQ_of (pbegin sb l 0 hl (by omega)) (pick_perm rfl (List.Perm.refl _)) ?_
  rintro _ _ ⟨p, rfl, rfl⟩
  have hF : FK 0 (begX l 0) := ⟨begX_ok l 0, (begX_JP l 0).mono (begX_lim l 0).2, begX_AP l 0, begX_lim l 0⟩
  have hb0 : (begX l 0).op.length ≤ 0 ∧ (begX l 0).tk.length ≤ 0 ∧ (begX l 0).gv.length ≤ 0 := by simp [begX]
  generalize begX l 0 = x0 at *
  simp (disch := first | omega | (simp only [List.length_cons, List.length_nil]; first | done | omega)) only [go_sem, Nat.reduceAdd, Nat.reduceMul, Nat.reduceSub, Nat.reduceEqDiff, Nat.reduceLeDiff, Nat.reduceMod, Nat.reduceLT, Int.reduceToNat, Int.reduceAdd, Int.reduceSub, Int.reduceMul, Int.reduceNeg, Int.reduceLE, Int.reduceLT, Int.toNat_natCast, Int.cast_ofNat_Int, Int.reduceNe, Int.reduceEq, Int.reduceBEq, Int.reduceBNe, not_false_eq_true, ne_eq, Int.reduceTMod, Int.reduceTDiv, beq_self_eq_true, bne_self_eq_false, List.contains_cons, List.contains_nil, Nat.reduceBEq]
  refine loopI (ι := Nat × Pl × Int × Nat × Nat × Nat × Nat × Nat × Nat) (fun y => y.1 ≤ 40 ∧ FK y.1 y.2.1 ∧ (0 ≤ y.2.2.1 ∧ y.2.2.1 ≤ 3 + 4 * y.1) ∧ (y.2.1.op.length ≤ y.2.2.2.2.1 ∧ y.2.1.tk.length ≤ y.2.2.2.2.2.2.1 ∧ y.2.1.gv.length ≤ y.2.2.2.2.2.2.2.2))
    (fun y => (5, .int .i64 y.1) :: _) (fun y => PlS y.2.1 p y.2.2.2.1 y.2.2.2.2.1 y.2.2.2.2.2.1 y.2.2.2.2.2.2.1 y.2.2.2.2.2.2.2.1 y.2.2.2.2.2.2.2.2 sb l y.2.2.1) (fun y => 40 - y.1) (0, x0, 3, 0, 0, 0, 0, 0, 0) ⟨by omega, hF, by dsimp only; omega, hb0⟩ Ents.same ?_
  rintro ⟨i, x, a, b1, c1, b2, c2, b3, c3⟩ ⟨hi, hx, ha, hc⟩
  dsimp only at hi hx ha hc ⊢
  repeat' (first | (simp (disch := first | omega | (simp only [List.length_cons, List.length_nil]; first | done | omega)) only [go_sem, Nat.reduceAdd, Nat.reduceMul, Nat.reduceSub, Nat.reduceEqDiff, Nat.reduceLeDiff, Nat.reduceMod, Nat.reduceLT, Int.reduceToNat, Int.reduceAdd, Int.reduceSub, Int.reduceMul, Int.reduceNeg, Int.reduceLE, Int.reduceLT, Int.toNat_natCast, Int.cast_ofNat_Int, Int.reduceNe, Int.reduceEq, Int.reduceBEq, Int.reduceBNe, not_false_eq_true, ne_eq, Int.reduceTMod, Int.reduceTDiv, beq_self_eq_true, bne_self_eq_false, List.contains_cons, List.contains_nil, Nat.reduceBEq]) | (refine allI (fun b => ?_)) | (refine allT (fun τ => ?_)) | (refine brP (fun h => ?_) (fun h => ?_) <;> (try simp only [Bool.and_eq_true, Bool.and_eq_false_iff, Bool.or_eq_true, Bool.or_eq_false_iff, Bool.not_eq_true', Bool.not_eq_false', decide_eq_true_eq, decide_eq_false_iff_not, beq_iff_eq, beq_eq_false_iff_ne, ne_eq, bne_iff_ne, Int.not_lt, Int.not_le] at h)))
  · have hst := pstep x i hx.1 (by omega) p b1 c1 b2 c2 b3 c3 hc sb l a ⟨hl.1, hl.2.1, by omega, by omega⟩ (by omega)
    refine actsQ_U (H2 := []) hst (List.Perm.refl _ |>.trans (by rw [List.append_nil])) ?_
    rintro _ _ ⟨x', a', b1', c1', b2', c2', b3', c3', hs, ha', hc', rfl, rfl⟩
    rw [List.append_nil]
    repeat' (first | (simp (disch := first | omega | (simp only [List.length_cons, List.length_nil]; first | done | omega)) only [go_sem, Nat.reduceAdd, Nat.reduceMul, Nat.reduceSub, Nat.reduceEqDiff, Nat.reduceLeDiff, Nat.reduceMod, Nat.reduceLT, Int.reduceToNat, Int.reduceAdd, Int.reduceSub, Int.reduceMul, Int.reduceNeg, Int.reduceLE, Int.reduceLT, Int.toNat_natCast, Int.cast_ofNat_Int, Int.reduceNe, Int.reduceEq, Int.reduceBEq, Int.reduceBNe, not_false_eq_true, ne_eq, Int.reduceTMod, Int.reduceTDiv, beq_self_eq_true, bne_self_eq_false, List.contains_cons, List.contains_nil, Nat.reduceBEq, Bool.not_true]) | (refine allI (fun b => ?_)) | (refine allT (fun τ => ?_)) | (refine brP (fun h => ?_) (fun h => ?_) <;> (try simp only [Bool.and_eq_true, Bool.and_eq_false_iff, Bool.or_eq_true, Bool.or_eq_false_iff, Bool.not_eq_true', Bool.not_eq_false', decide_eq_true_eq, decide_eq_false_iff_not, beq_iff_eq, beq_eq_false_iff_ne, ne_eq, bne_iff_ne, Int.not_lt, Int.not_le] at h)))
    exact ⟨⟨(i + 1, x', a', b1', c1', b2', c2', b3', c3'), by omega, hx.step (by omega) hs, by dsimp only; omega, hc'⟩, by dsimp only; omega, Ents.envH (by simp [go_sem]) rfl⟩
  · obtain rfl : i = 40 := by omega
    have hpf := pfinish x 40 hx.fin p b1 c1 b2 c2 b3 c3 hc
    refine actsQ_U (H2 := [(3000, SB sb l a)]) hpf (List.Perm.refl _) ?_
    clear hpf hx hc b1 c1 b2 c2 b3 c3 hF hb0 x
    rintro _ _ ⟨x, r0, hx, b1, c1, b2, c2, b3, c3, hc, rfl, rfl⟩
    unfold PlH PlC
    have hsame := sameB x.b hx.ok.b.okB
    unfold BlL at hsame
    simp only [BlC, InS, RcS_eq, NoS, List.cons_append, List.nil_append] at hsame ⊢
    simp (disch := first | omega | (simp only [List.length_cons, List.length_nil]; first | done | omega)) only [go_sem, Nat.reduceAdd, Nat.reduceMul, Nat.reduceSub, Nat.reduceEqDiff, Nat.reduceLeDiff, Nat.reduceMod, Nat.reduceLT, Int.reduceToNat, Int.reduceAdd, Int.reduceSub, Int.reduceMul, Int.reduceNeg, Int.reduceLE, Int.reduceLT, Int.toNat_natCast, Int.cast_ofNat_Int, Int.reduceNe, Int.reduceEq, Int.reduceBEq, Int.reduceBNe, not_false_eq_true, ne_eq, Int.reduceTMod, Int.reduceTDiv, beq_self_eq_true, bne_self_eq_false, List.contains_cons, List.contains_nil, Nat.reduceBEq]
    first | refine call_U (hsame) ?_ | refine call_T (hsame) ?_ | refine call_N (hsame) ?_ | refine call_of (hsame) ?_
    simp (disch := first | omega | (simp only [List.length_cons, List.length_nil]; first | done | omega)) only [go_sem, Nat.reduceAdd, Nat.reduceMul, Nat.reduceSub, Nat.reduceEqDiff, Nat.reduceLeDiff, Nat.reduceMod, Nat.reduceLT, Int.reduceToNat, Int.reduceAdd, Int.reduceSub, Int.reduceMul, Int.reduceNeg, Int.reduceLE, Int.reduceLT, Int.toNat_natCast, Int.cast_ofNat_Int, Int.reduceNe, Int.reduceEq, Int.reduceBEq, Int.reduceBNe, not_false_eq_true, ne_eq, Int.reduceTMod, Int.reduceTDiv, beq_self_eq_true, bne_self_eq_false, List.contains_cons, List.contains_nil, Nat.reduceBEq]
    have hP := hx.pd
    have hser := hx.ser
    have hgs := hx.a.gs
    have hgl := hx.ok.gl
    have htl := hx.ok.tl
    intro b6
    repeat' (first | (simp (disch := first | omega | (simp only [List.length_cons, List.length_nil]; first | done | omega)) only [go_sem, Nat.reduceAdd, Nat.reduceMul, Nat.reduceSub, Nat.reduceEqDiff, Nat.reduceLeDiff, Nat.reduceMod, Nat.reduceLT, Int.reduceToNat, Int.reduceAdd, Int.reduceSub, Int.reduceMul, Int.reduceNeg, Int.reduceLE, Int.reduceLT, Int.toNat_natCast, Int.cast_ofNat_Int, Int.reduceNe, Int.reduceEq, Int.reduceBEq, Int.reduceBNe, not_false_eq_true, ne_eq, Int.reduceTMod, Int.reduceTDiv, beq_self_eq_true, bne_self_eq_false, List.contains_cons, List.contains_nil, Nat.reduceBEq, pend_eq, hP]) | (refine allI (fun b => ?_)) | (refine allT (fun τ => ?_)) | (refine brP (fun h => ?_) (fun h => ?_) <;> (try simp only [Bool.and_eq_true, Bool.and_eq_false_iff, Bool.or_eq_true, Bool.or_eq_false_iff, Bool.not_eq_true', Bool.not_eq_false', decide_eq_true_eq, decide_eq_false_iff_not, beq_iff_eq, beq_eq_false_iff_ne, ne_eq, bne_iff_ne, Int.not_lt, Int.not_le] at h)))
    · omega
    · refine ⟨⟨by omega, by omega, by omega, by omega⟩, rfl, .inr fun b7 => ?_⟩
      obtain ⟨N, hN⟩ : ∃ N : Nat, (x.b.ser + 1).toNat = N := ⟨_, rfl⟩
      rw [hN, zeros_arr, arrF_ext (n := N) (F := fun _ => 0) (G := fun k => ((x.gv.take 0).count k : Nat)) (fun k _ => by simp)]
      refine loopI (ι := Nat) (fun i => i ≤ x.gv.length) (fun i => [(8, .int .i64 i), (7, .msl 65 1 b7 0 N N), (6, .ptr 6 b6 0), (4, .ptr 5000 p 0), (2, .bool false)]) (fun i => (65, .blk b7 (arrF N (fun k => ((x.gv.take i).count k : Nat)))) :: _) (fun i => x.gv.length - i) 0 (by omega) (Ents.envH (by simp [go_sem]) rfl) ?_
      intro i hi
      repeat' (first | (simp (disch := first | omega | (simp only [List.length_cons, List.length_nil]; first | done | omega)) only [go_sem, Nat.reduceAdd, Nat.reduceMul, Nat.reduceSub, Nat.reduceEqDiff, Nat.reduceLeDiff, Nat.reduceMod, Nat.reduceLT, Int.reduceToNat, Int.reduceAdd, Int.reduceSub, Int.reduceMul, Int.reduceNeg, Int.reduceLE, Int.reduceLT, Int.toNat_natCast, Int.cast_ofNat_Int, Int.reduceNe, Int.reduceEq, Int.reduceBEq, Int.reduceBNe, not_false_eq_true, ne_eq, Int.reduceTMod, Int.reduceTDiv, beq_self_eq_true, bne_self_eq_false, List.contains_cons, List.contains_nil, Nat.reduceBEq]) | (refine allI (fun b => ?_)) | (refine allT (fun τ => ?_)) | (refine brP (fun h => ?_) (fun h => ?_) <;> (try simp only [Bool.and_eq_true, Bool.and_eq_false_iff, Bool.or_eq_true, Bool.or_eq_false_iff, Bool.not_eq_true', Bool.not_eq_false', decide_eq_true_eq, decide_eq_false_iff_not, beq_iff_eq, beq_eq_false_iff_ne, ne_eq, bne_iff_ne, Int.not_lt, Int.not_le] at h)))
      · have hlt : i < x.gv.length := by omega
        have hg := hgs _ (getD_memA 0 hlt)
        obtain ⟨s, hs⟩ : ∃ s : Nat, x.gv.getD i 0 = (s : Int) := ⟨(x.gv.getD i 0).toNat, by omega⟩
        rw [hs] at hg
        have hsN : s < N := by omega
        have hcv : ((x.gv.take i).count (s : Int) : Nat) ≤ x.gv.length := Nat.le_trans List.count_le_length (by rw [List.length_take]; omega)
        have e1 : (Sp (x.gv.map (LV.int .i64)) ((c3 - x.gv.length) * 1)).getD (i * 1) .any = .int .i64 s := by
          rw [Nat.mul_one i, getD_Sp (by simpa using hlt), getD_int hlt, hs]
        have e2 : (Sp (x.gv.map (LV.int .i64)) ((c3 - x.gv.length) * 1)).length = x.gv.length + (c3 - x.gv.length) * 1 := by rw [length_Sp, List.length_map]
        have e3 := arrF_get (F := fun k => ((x.gv.take i).count k : Nat)) hsN
        have e4 := arrF_len N (fun k => ((x.gv.take i).count k : Nat))
        have e5 := arrF_set (F := fun k => ((x.gv.take i).count k : Nat)) hsN (((x.gv.take i).count (s : Int) : Nat) + 1)
        rw [e1, e2]
        simp (disch := first | omega | (simp only [List.length_cons, List.length_nil]; first | done | omega)) only [go_sem, Nat.reduceAdd, Nat.reduceMul, Nat.reduceSub, Nat.reduceEqDiff, Nat.reduceLeDiff, Nat.reduceMod, Nat.reduceLT, Int.reduceToNat, Int.reduceAdd, Int.reduceSub, Int.reduceMul, Int.reduceNeg, Int.reduceLE, Int.reduceLT, Int.toNat_natCast, Int.cast_ofNat_Int, Int.reduceNe, Int.reduceEq, Int.reduceBEq, Int.reduceBNe, not_false_eq_true, ne_eq, Int.reduceTMod, Int.reduceTDiv, beq_self_eq_true, bne_self_eq_false, List.contains_cons, List.contains_nil, Nat.reduceBEq, Int.toNat_natCast, e3, e4, e5]
        refine ⟨by omega, by omega, by omega, by omega, by omega, by omega, ⟨i + 1, by omega⟩, by dsimp only; omega, Ents.envH (by simp [go_sem]) ?_⟩
        rw [arrF_ext (n := N) (F := fun k => if k = (s : Int) then _ else _) (G := fun k => ((x.gv.take (i + 1)).count k : Nat)) (fun k _ => ?_)]
        rw [take_succ_getD 0 x.gv hlt, hs, List.count_append, List.count_singleton]
        by_cases hk : (k : Int) = s
        · rw [if_pos hk, hk, beq_self_eq_true]; simp
        · rw [if_neg hk, if_neg (by simpa using fun h => hk h.symm)]; simp
      · obtain rfl : i = x.gv.length := by omega
        rw [List.take_length]
        have htn := lsV_nn (rs := x.tk) (s := x.b.ser) fun r hr ht => hx.a.ls r (List.mem_append_left _ hr) ht
        have hlo : lsum x.tk = x.b.lost := by
          have h1 := hx.a.lo
          have h2 := pend_false hP
          rw [hx.qu, List.append_nil] at h1
          simp only [pdS] at h1
          omega
        have hlost := hx.ok.b.lost
        rw [arrF_ext (n := N) (F := fun k => (x.gv.count k : Nat)) (G := fun k => ((x.gv.count k + cntL k (x.tk.take 0) : Nat) : Int)) (fun k _ => by simp [cntL])]
        refine loopI (ι := Nat) (fun i => i ≤ x.tk.length) (fun i => [(10, .int .i64 i), (9, .int .i64 (lsum (x.tk.take i))), (7, .msl 65 1 b7 0 N N), (6, .ptr 6 b6 0), (4, .ptr 5000 p 0), (2, .bool false)]) (fun i => (65, .blk b7 (arrF N (fun k => ((x.gv.count k + cntL k (x.tk.take i) : Nat) : Int)))) :: _) (fun i => x.tk.length - i) 0 (by omega) (Ents.envH (by simp [go_sem, lsum]) rfl) ?_
        intro i hi
        have htl4 := len_rc x.tk
        repeat' (first | (simp (disch := first | omega | (simp only [List.length_cons, List.length_nil]; first | done | omega)) only [go_sem, Nat.reduceAdd, Nat.reduceMul, Nat.reduceSub, Nat.reduceEqDiff, Nat.reduceLeDiff, Nat.reduceMod, Nat.reduceLT, Int.reduceToNat, Int.reduceAdd, Int.reduceSub, Int.reduceMul, Int.reduceNeg, Int.reduceLE, Int.reduceLT, Int.toNat_natCast, Int.cast_ofNat_Int, Int.reduceNe, Int.reduceEq, Int.reduceBEq, Int.reduceBNe, not_false_eq_true, ne_eq, Int.reduceTMod, Int.reduceTDiv, beq_self_eq_true, bne_self_eq_false, List.contains_cons, List.contains_nil, Nat.reduceBEq, length_Sp]) | (refine allI (fun b => ?_)) | (refine allT (fun τ => ?_)) | (refine brP (fun h => ?_) (fun h => ?_) <;> (try simp only [Bool.and_eq_true, Bool.and_eq_false_iff, Bool.or_eq_true, Bool.or_eq_false_iff, Bool.not_eq_true', Bool.not_eq_false', decide_eq_true_eq, decide_eq_false_iff_not, beq_iff_eq, beq_eq_false_iff_ne, ne_eq, bne_iff_ne, Int.not_lt, Int.not_le] at h)))
        · have hlt : i < x.tk.length := by omega
          have e1 : ((Sp (x.tk.flatMap RcC) ((c2 - x.tk.length) * 4)).drop (i * 4)).take 4 = RcC (x.tk.getD i rc0) := by
            rw [Sp_row (by rw [htl4]; omega), take_rows (f := RcC) (fun _ => rfl) rc0 _ hlt]
          have hmem := getD_memA rc0 hlt
          have hts := take_succ_getD rc0 x.tk hlt
          have hls := lsum_take htn (i + 1)
          have hls0 := lsum_take htn i
          have hcl : ∀ k, cntL k (x.tk.take i) ≤ x.tk.length := fun k => Nat.le_trans (cntL_le k _) (by rw [List.length_take]; omega)
          have hcc : ∀ k, x.gv.count k ≤ x.gv.length := fun k => List.count_le_length
          obtain ⟨r, hr⟩ : ∃ r, x.tk.getD i rc0 = r := ⟨_, rfl⟩
          rw [e1, hr, RcC_eq]
          rw [hr] at hmem hts
          refine ⟨by omega, by omega, fun b11 => ?_⟩
          repeat' (first | (simp (disch := first | omega | (simp only [List.length_cons, List.length_nil]; first | done | omega)) only [go_sem, Nat.reduceAdd, Nat.reduceMul, Nat.reduceSub, Nat.reduceEqDiff, Nat.reduceLeDiff, Nat.reduceMod, Nat.reduceLT, Int.reduceToNat, Int.reduceAdd, Int.reduceSub, Int.reduceMul, Int.reduceNeg, Int.reduceLE, Int.reduceLT, Int.toNat_natCast, Int.cast_ofNat_Int, Int.reduceNe, Int.reduceEq, Int.reduceBEq, Int.reduceBNe, not_false_eq_true, ne_eq, Int.reduceTMod, Int.reduceTDiv, beq_self_eq_true, bne_self_eq_false, List.contains_cons, List.contains_nil, Nat.reduceBEq]) | (refine allI (fun b => ?_)) | (refine allT (fun τ => ?_)) | (refine brP (fun h => ?_) (fun h => ?_) <;> (try simp only [Bool.and_eq_true, Bool.and_eq_false_iff, Bool.or_eq_true, Bool.or_eq_false_iff, Bool.not_eq_true', Bool.not_eq_false', decide_eq_true_eq, decide_eq_false_iff_not, beq_iff_eq, beq_eq_false_iff_ne, ne_eq, bne_iff_ne, Int.not_lt, Int.not_le] at h)))
          · have hz : ∀ k, cntL k (x.tk.take (i + 1)) = cntL k (x.tk.take i) := fun k => by
              rw [hts, cntL_app, show cntL k [r] = cov k r by simp [cntL], cov_zero h, Nat.add_zero]
            have hzs : lsum (x.tk.take (i + 1)) = lsum (x.tk.take i) := by
              rw [hts, lsum_app, show lsum [r] = lsV r by simp [lsum], lsV, if_neg h, Int.add_zero]
            refine ⟨⟨i + 1, by omega⟩, by dsimp only; omega, Ents.sub (by simp [go_sem, hzs]) ⟨_, List.Sublist.cons _ (List.Sublist.refl _), ?_⟩⟩
            simp only [hz]
            exact List.Perm.refl _
          · simp only [bne_eq_false_iff_eq] at h
            obtain ⟨⟨P, T, hPr⟩, q1, q2, q3, q4, q5, q6⟩ := hx.a.ls r (List.mem_append_left _ hmem) h
            subst hPr
            clear h
            have hgf := getF P T (P.l + 1)
            have hgl2 := getL P T (P.l + 1)
            have hps : (lossR P T (P.l + 1)).ps = lossP P := rfl
            rw [RcC_eq, hps] at hgf hgl2
            have eF : (lossP P).getD 0 pa0 = ⟨[102, 105, 114, 115, 116], 1, P.f, []⟩ := rfl
            have eL : (lossP P).getD 1 pa0 = ⟨[108, 97, 115, 116], 1, P.l, []⟩ := rfl
            rw [eF, PaC_eq] at hgf
            rw [eL, PaC_eq] at hgl2
            rw [hps]
            have ety : (lossR P T (P.l + 1)).ty = 1331 := rfl
            have eti : (lossR P T (P.l + 1)).ti = T := rfl
            have ese : (lossR P T (P.l + 1)).se = P.l + 1 := rfl
            have efn : fN (lossR P T (P.l + 1)) = P.f := rfl
            have eln : lN (lossR P T (P.l + 1)) = P.l := rfl
            have esn : sN (lossR P T (P.l + 1)) = P.r + P.u + P.s := rfl
            rw [esn, eln, efn] at q1
            rw [eln] at q5
            rw [efn] at q3
            rw [efn, eln] at q4
            have q6 : 0 ≤ P.r ∧ 0 ≤ P.u ∧ 0 ≤ P.s := q6
            rw [ety, eti, ese] at hgf hgl2 ⊢
            first | refine call_U (hgf) ?_ | refine call_T (hgf) ?_ | refine call_N (hgf) ?_ | refine call_of (hgf) ?_
            simp (disch := first | omega | (simp only [List.length_cons, List.length_nil]; first | done | omega)) only [go_sem, Nat.reduceAdd, Nat.reduceMul, Nat.reduceSub, Nat.reduceEqDiff, Nat.reduceLeDiff, Nat.reduceMod, Nat.reduceLT, Int.reduceToNat, Int.reduceAdd, Int.reduceSub, Int.reduceMul, Int.reduceNeg, Int.reduceLE, Int.reduceLT, Int.toNat_natCast, Int.cast_ofNat_Int, Int.reduceNe, Int.reduceEq, Int.reduceBEq, Int.reduceBNe, not_false_eq_true, ne_eq, Int.reduceTMod, Int.reduceTDiv, beq_self_eq_true, bne_self_eq_false, List.contains_cons, List.contains_nil, Nat.reduceBEq]
            intro b12
            first | refine call_U (hgl2) ?_ | refine call_T (hgl2) ?_ | refine call_N (hgl2) ?_ | refine call_of (hgl2) ?_
            simp (disch := first | omega | (simp only [List.length_cons, List.length_nil]; first | done | omega)) only [go_sem, Nat.reduceAdd, Nat.reduceMul, Nat.reduceSub, Nat.reduceEqDiff, Nat.reduceLeDiff, Nat.reduceMod, Nat.reduceLT, Int.reduceToNat, Int.reduceAdd, Int.reduceSub, Int.reduceMul, Int.reduceNeg, Int.reduceLE, Int.reduceLT, Int.toNat_natCast, Int.cast_ofNat_Int, Int.reduceNe, Int.reduceEq, Int.reduceBEq, Int.reduceBNe, not_false_eq_true, ne_eq, Int.reduceTMod, Int.reduceTDiv, beq_self_eq_true, bne_self_eq_false, List.contains_cons, List.contains_nil, Nat.reduceBEq]
            intro b14
            refine loopI (ι := Nat) (fun k => 2 ≤ k ∧ k ≤ 5) (fun k => (17, .int .i64 k) :: (16, .int .i64 (sumK P k)) :: _) (fun _ => _) (fun k => 5 - k) 2 (by omega) Ents.same ?_
            intro k hk
            have hl5 : (lossP P).length = 5 := rfl
            have hc5 : (lossP P).flatMap PaC = [.str [102, 105, 114, 115, 116], .int .i64 1, .int .i64 P.f, .str [], .str [108, 97, 115, 116], .int .i64 1, .int .i64 P.l, .str [], .str [114, 97, 116, 101, 100], .int .i64 1, .int .i64 P.r, .str [], .str [102, 117, 108, 108], .int .i64 1, .int .i64 P.u, .str [], .str [115, 116, 97, 108, 108, 101, 100], .int .i64 1, .int .i64 P.s, .str []] := rfl
            rw [PaS_eq, hl5, hc5]
            rcases (by omega : k = 2 ∨ k = 3 ∨ k = 4 ∨ k = 5) with rfl | rfl | rfl | rfl
            · simp (disch := first | omega | (simp only [List.length_cons, List.length_nil]; first | done | omega)) only [go_sem, Nat.reduceAdd, Nat.reduceMul, Nat.reduceSub, Nat.reduceEqDiff, Nat.reduceLeDiff, Nat.reduceMod, Nat.reduceLT, Int.reduceToNat, Int.reduceAdd, Int.reduceSub, Int.reduceMul, Int.reduceNeg, Int.reduceLE, Int.reduceLT, Int.toNat_natCast, Int.cast_ofNat_Int, Int.reduceNe, Int.reduceEq, Int.reduceBEq, Int.reduceBNe, not_false_eq_true, ne_eq, Int.reduceTMod, Int.reduceTDiv, beq_self_eq_true, bne_self_eq_false, List.contains_cons, List.contains_nil, Nat.reduceBEq, sumK_2]
              exact ⟨⟨3, by omega⟩, by dsimp only; omega, Ents.envH (by simp [go_sem, sumK_3]) rfl⟩
            · simp (disch := first | omega | (simp only [List.length_cons, List.length_nil]; first | done | omega)) only [go_sem, Nat.reduceAdd, Nat.reduceMul, Nat.reduceSub, Nat.reduceEqDiff, Nat.reduceLeDiff, Nat.reduceMod, Nat.reduceLT, Int.reduceToNat, Int.reduceAdd, Int.reduceSub, Int.reduceMul, Int.reduceNeg, Int.reduceLE, Int.reduceLT, Int.toNat_natCast, Int.cast_ofNat_Int, Int.reduceNe, Int.reduceEq, Int.reduceBEq, Int.reduceBNe, not_false_eq_true, ne_eq, Int.reduceTMod, Int.reduceTDiv, beq_self_eq_true, bne_self_eq_false, List.contains_cons, List.contains_nil, Nat.reduceBEq, sumK_3]
              exact ⟨⟨4, by omega⟩, by dsimp only; omega, Ents.envH (by simp [go_sem, sumK_4]) rfl⟩
            · simp (disch := first | omega | (simp only [List.length_cons, List.length_nil]; first | done | omega)) only [go_sem, Nat.reduceAdd, Nat.reduceMul, Nat.reduceSub, Nat.reduceEqDiff, Nat.reduceLeDiff, Nat.reduceMod, Nat.reduceLT, Int.reduceToNat, Int.reduceAdd, Int.reduceSub, Int.reduceMul, Int.reduceNeg, Int.reduceLE, Int.reduceLT, Int.toNat_natCast, Int.cast_ofNat_Int, Int.reduceNe, Int.reduceEq, Int.reduceBEq, Int.reduceBNe, not_false_eq_true, ne_eq, Int.reduceTMod, Int.reduceTDiv, beq_self_eq_true, bne_self_eq_false, List.contains_cons, List.contains_nil, Nat.reduceBEq, sumK_4]
              exact ⟨⟨5, by omega⟩, by dsimp only; omega, Ents.envH (by simp [go_sem, sumK_5]) rfl⟩
            · have hne : (P.l != P.l + 1 - 1 || P.r + P.u + P.s != P.l - P.f + 1) = false := by
                simp only [Bool.or_eq_false_iff, bne_eq_false_iff_eq]
                omega
              have hls3 : lsum (x.tk.take (i + 1)) = lsum (x.tk.take i) + (P.r + P.u + P.s) := by
                rw [hts, lsum_app]
                simp [lsum, lsV, lossR, sN, lossP, numP]
              have hcv : ∀ k : Nat, cntL k (x.tk.take (i + 1)) = cntL k (x.tk.take i) + (if P.f ≤ k ∧ k < P.l + 1 + 1 then 1 else 0) := fun k => by
                rw [hts, cntL_app]
                have : cntL k [lossR P T (P.l + 1)] = cov k (lossR P T (P.l + 1)) := by simp [cntL]
                rw [this, cov, efn, ety, ese]
                congr 1
                by_cases hk : P.f ≤ (k : Int) ∧ (k : Int) ≤ P.l + 1
                · rw [if_pos ⟨rfl, hk⟩, if_pos (by omega)]
                · rw [if_neg (fun h => hk h.2), if_neg (by omega)]
              repeat' (first | (simp (disch := first | omega | (simp only [List.length_cons, List.length_nil]; first | done | omega)) only [go_sem, Nat.reduceAdd, Nat.reduceMul, Nat.reduceSub, Nat.reduceEqDiff, Nat.reduceLeDiff, Nat.reduceMod, Nat.reduceLT, Int.reduceToNat, Int.reduceAdd, Int.reduceSub, Int.reduceMul, Int.reduceNeg, Int.reduceLE, Int.reduceLT, Int.toNat_natCast, Int.cast_ofNat_Int, Int.reduceNe, Int.reduceEq, Int.reduceBEq, Int.reduceBNe, not_false_eq_true, ne_eq, Int.reduceTMod, Int.reduceTDiv, beq_self_eq_true, bne_self_eq_false, List.contains_cons, List.contains_nil, Nat.reduceBEq, sumK_5, hne]) | (refine allI (fun b => ?_)) | (refine allT (fun τ => ?_)) | (refine brP (fun h => ?_) (fun h => ?_) <;> (try simp only [Bool.and_eq_true, Bool.and_eq_false_iff, Bool.or_eq_true, Bool.or_eq_false_iff, Bool.not_eq_true', Bool.not_eq_false', decide_eq_true_eq, decide_eq_false_iff_not, beq_iff_eq, beq_eq_false_iff_ne, ne_eq, bne_iff_ne, Int.not_lt, Int.not_le] at h)))
              rw [arrF_ext (n := N) (F := fun j => ((x.gv.count j + cntL j (x.tk.take i) : Nat) : Int)) (G := fun j => ((x.gv.count j + cntL j (x.tk.take i) : Nat) : Int) + (if P.f ≤ j ∧ j < P.f then 1 else 0)) (fun k _ => by rw [if_neg (by omega)]; omega)]
              refine loopI (ι := Int) (fun k => P.f ≤ k ∧ k ≤ P.l + 2) (fun k => [(18, .int .i64 k), (9, .int .i64 (lsum (x.tk.take i) + (P.r + P.u + P.s))), (11, .ptr 11 b11 0), (10, .int .i64 i), (7, .msl 65 1 b7 0 N N), (6, .ptr 6 b6 0), (4, .ptr 5000 p 0), (2, .bool false)]) (fun k => (14, _) :: (12, _) :: (11, _) :: (65, .blk b7 (arrF N (fun j => ((x.gv.count j + cntL j (x.tk.take i) : Nat) : Int) + (if P.f ≤ j ∧ j < k then 1 else 0)))) :: _) (fun k => (P.l + 2 - k).toNat) P.f (by omega) (Ents.envH (by simp [go_sem]) rfl) ?_
              intro k hk
              obtain ⟨s, rfl⟩ : ∃ s : Nat, k = (s : Int) := ⟨k.toNat, by omega⟩
              have hc1 := hcc s
              have hc2 := hcl s
              repeat' (first | (simp (disch := first | omega | (simp only [List.length_cons, List.length_nil]; first | done | omega)) only [go_sem, Nat.reduceAdd, Nat.reduceMul, Nat.reduceSub, Nat.reduceEqDiff, Nat.reduceLeDiff, Nat.reduceMod, Nat.reduceLT, Int.reduceToNat, Int.reduceAdd, Int.reduceSub, Int.reduceMul, Int.reduceNeg, Int.reduceLE, Int.reduceLT, Int.toNat_natCast, Int.cast_ofNat_Int, Int.reduceNe, Int.reduceEq, Int.reduceBEq, Int.reduceBNe, not_false_eq_true, ne_eq, Int.reduceTMod, Int.reduceTDiv, beq_self_eq_true, bne_self_eq_false, List.contains_cons, List.contains_nil, Nat.reduceBEq]) | (refine allI (fun b => ?_)) | (refine allT (fun τ => ?_)) | (refine brP (fun h => ?_) (fun h => ?_) <;> (try simp only [Bool.and_eq_true, Bool.and_eq_false_iff, Bool.or_eq_true, Bool.or_eq_false_iff, Bool.not_eq_true', Bool.not_eq_false', decide_eq_true_eq, decide_eq_false_iff_not, beq_iff_eq, beq_eq_false_iff_ne, ne_eq, bne_iff_ne, Int.not_lt, Int.not_le] at h)))
              · have hsN : s < N := by omega
                have e3 := arrF_get (F := fun j => ((x.gv.count j + cntL j (x.tk.take i) : Nat) : Int) + (if P.f ≤ j ∧ j < (s : Int) then 1 else 0)) hsN
                have e4 := arrF_len N (fun j => ((x.gv.count j + cntL j (x.tk.take i) : Nat) : Int) + (if P.f ≤ j ∧ j < (s : Int) then 1 else 0))
                rw [if_neg (by omega), Int.add_zero] at e3
                have e5 := arrF_set (F := fun j => ((x.gv.count j + cntL j (x.tk.take i) : Nat) : Int) + (if P.f ≤ j ∧ j < (s : Int) then 1 else 0)) hsN (((x.gv.count (s : Int) + cntL s (x.tk.take i) : Nat) : Int) + 1)
                simp (disch := first | omega | (simp only [List.length_cons, List.length_nil]; first | done | omega)) only [go_sem, Nat.reduceAdd, Nat.reduceMul, Nat.reduceSub, Nat.reduceEqDiff, Nat.reduceLeDiff, Nat.reduceMod, Nat.reduceLT, Int.reduceToNat, Int.reduceAdd, Int.reduceSub, Int.reduceMul, Int.reduceNeg, Int.reduceLE, Int.reduceLT, Int.toNat_natCast, Int.cast_ofNat_Int, Int.reduceNe, Int.reduceEq, Int.reduceBEq, Int.reduceBNe, not_false_eq_true, ne_eq, Int.reduceTMod, Int.reduceTDiv, beq_self_eq_true, bne_self_eq_false, List.contains_cons, List.contains_nil, Nat.reduceBEq, Int.toNat_natCast, e3, e4, e5]
                refine ⟨by omega, by omega, by omega, by omega, ⟨s + 1, by omega⟩, by dsimp only; omega, Ents.envH (by simp [go_sem]) ?_⟩
                rw [arrF_ext (n := N) (F := fun k => if k = (s : Int) then _ else _) (G := fun j => ((x.gv.count j + cntL j (x.tk.take i) : Nat) : Int) + (if P.f ≤ j ∧ j < (s : Int) + 1 then 1 else 0)) (fun k _ => ?_)]
                by_cases hk : (k : Int) = s
                · rw [if_pos hk, hk, if_pos (by omega)]
                · rw [if_neg hk]
                  by_cases hk2 : P.f ≤ (k : Int) ∧ (k : Int) < s
                  · rw [if_pos hk2, if_pos (by omega)]
                  · rw [if_neg hk2, if_neg (by omega)]
              · refine ⟨⟨i + 1, by omega⟩, by dsimp only; omega, Ents.sub (by simp [go_sem, hls3]) ⟨_, List.Sublist.cons _ (List.Sublist.cons _ (List.Sublist.cons _ (List.Sublist.refl _))), ?_⟩⟩
                have hE : arrF N (fun j => ((x.gv.count j + cntL j (x.tk.take i) : Nat) : Int) + (if P.f ≤ j ∧ j < (s : Int) then 1 else 0)) = arrF N (fun j => ((x.gv.count j + cntL j (x.tk.take (i + 1)) : Nat) : Int)) := arrF_ext fun k hkN => by
                  rw [hcv k]
                  by_cases hk2 : P.f ≤ (k : Int) ∧ (k : Int) < s
                  · rw [if_pos hk2, if_pos (by omega)]; omega
                  · rw [if_neg hk2, if_neg (by omega)]; omega
                rw [hE]
        · obtain rfl : i = x.tk.length := by omega
          rw [List.take_length]
          refine loopI (ι := Int) (fun k => 1 ≤ k ∧ k ≤ x.b.ser + 1) (fun k => (19, .int .i64 k) :: _) (fun _ => _) (fun k => (x.b.ser + 1 - k).toNat) 1 (by omega) Ents.same ?_
          intro k hk
          obtain ⟨s, rfl⟩ : ∃ s : Nat, k = (s : Int) := ⟨k.toNat, by omega⟩
          repeat' (first | (simp (disch := first | omega | (simp only [List.length_cons, List.length_nil]; first | done | omega)) only [go_sem, Nat.reduceAdd, Nat.reduceMul, Nat.reduceSub, Nat.reduceEqDiff, Nat.reduceLeDiff, Nat.reduceMod, Nat.reduceLT, Int.reduceToNat, Int.reduceAdd, Int.reduceSub, Int.reduceMul, Int.reduceNeg, Int.reduceLE, Int.reduceLT, Int.toNat_natCast, Int.cast_ofNat_Int, Int.reduceNe, Int.reduceEq, Int.reduceBEq, Int.reduceBNe, not_false_eq_true, ne_eq, Int.reduceTMod, Int.reduceTDiv, beq_self_eq_true, bne_self_eq_false, List.contains_cons, List.contains_nil, Nat.reduceBEq]) | (refine allI (fun b => ?_)) | (refine allT (fun τ => ?_)) | (refine brP (fun h => ?_) (fun h => ?_) <;> (try simp only [Bool.and_eq_true, Bool.and_eq_false_iff, Bool.or_eq_true, Bool.or_eq_false_iff, Bool.not_eq_true', Bool.not_eq_false', decide_eq_true_eq, decide_eq_false_iff_not, beq_iff_eq, beq_eq_false_iff_ne, ne_eq, bne_iff_ne, Int.not_lt, Int.not_le] at h)))
          · have hsN : s < N := by omega
            have e3 := arrF_get (F := fun j => ((x.gv.count j + cntL j x.tk : Nat) : Int)) hsN
            have e4 := arrF_len N (fun j => ((x.gv.count j + cntL j x.tk : Nat) : Int))
            have hone : x.gv.count (s : Int) + cntL s x.tk = 1 := by
              have h1 := hx.a.c1 s hk.1 (by omega)
              simp only [cnt, hx.qu, List.append_nil, pc, hP] at h1
              simpa using h1
            rw [hone] at e3
            repeat' (first | (simp (disch := first | omega | (simp only [List.length_cons, List.length_nil]; first | done | omega)) only [go_sem, Nat.reduceAdd, Nat.reduceMul, Nat.reduceSub, Nat.reduceEqDiff, Nat.reduceLeDiff, Nat.reduceMod, Nat.reduceLT, Int.reduceToNat, Int.reduceAdd, Int.reduceSub, Int.reduceMul, Int.reduceNeg, Int.reduceLE, Int.reduceLT, Int.toNat_natCast, Int.cast_ofNat_Int, Int.reduceNe, Int.reduceEq, Int.reduceBEq, Int.reduceBNe, not_false_eq_true, ne_eq, Int.reduceTMod, Int.reduceTDiv, beq_self_eq_true, bne_self_eq_false, List.contains_cons, List.contains_nil, Nat.reduceBEq, Int.toNat_natCast, e3, e4]) | (refine allI (fun b => ?_)) | (refine allT (fun τ => ?_)) | (refine brP (fun h => ?_) (fun h => ?_) <;> (try simp only [Bool.and_eq_true, Bool.and_eq_false_iff, Bool.or_eq_true, Bool.or_eq_false_iff, Bool.not_eq_true', Bool.not_eq_false', decide_eq_true_eq, decide_eq_false_iff_not, beq_iff_eq, beq_eq_false_iff_ne, ne_eq, bne_iff_ne, Int.not_lt, Int.not_le] at h)))
            exact ⟨by omega, by omega, ⟨s + 1, by omega⟩, by dsimp only; omega, Ents.envH (by simp [go_sem]) rfl⟩
          · first | refine callG_U (fun hg => awake) ?_ | refine callG_T (fun hg => awake) ?_ | refine callG_of (fun hg => awake) ?_
            simp (disch := first | omega | (simp only [List.length_cons, List.length_nil]; first | done | omega)) only [go_sem, Nat.reduceAdd, Nat.reduceMul, Nat.reduceSub, Nat.reduceEqDiff, Nat.reduceLeDiff, Nat.reduceMod, Nat.reduceLT, Int.reduceToNat, Int.reduceAdd, Int.reduceSub, Int.reduceMul, Int.reduceNeg, Int.reduceLE, Int.reduceLT, Int.toNat_natCast, Int.cast_ofNat_Int, Int.reduceNe, Int.reduceEq, Int.reduceBEq, Int.reduceBNe, not_false_eq_true, ne_eq, Int.reduceTMod, Int.reduceTDiv, beq_self_eq_true, bne_self_eq_false, List.contains_cons, List.contains_nil, Nat.reduceBEq, hlo, beq_self_eq_true]
end Go.Proofs.Ytofpepjehiohcaa
