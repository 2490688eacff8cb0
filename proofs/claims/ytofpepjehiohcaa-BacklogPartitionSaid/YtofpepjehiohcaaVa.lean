/- Layer 20: plays: everything is put and taken. -/
import Derived.Test.YtofpepjehiohcaaUz
namespace Go.Proofs.Ytofpepjehiohcaa
open Go Go.Lx
set_option linter.unusedSimpArgs false
set_option linter.unusedVariables false
set_option maxRecDepth 100000
set_option maxHeartbeats 4000000

structure FI (k : Nat) (x : Pl) : Prop where
  ok : okP k x
  j : JP 64 x
  a : AP x
  lim : 1 ≤ x.b.lim
  ser : x.b.ser ≤ 80
  sum : k + x.b.res ≤ 104
theorem FI.put {k : Nat} {x : Pl} (h : FI k x) (hp : 0 < x.op.length) : FI (k + 1) (putP x 0) ∧ (putP x 0).b.res = x.b.res - 1 ∧ 0 < x.b.res := by
  obtain ⟨h1, h2, h3, h4, h5, h6⟩ := h
  have hj := h2.put 0 hp
  have hr : (putP x 0).b.res = x.b.res - 1 := by
    unfold putP; dsimp only; split <;> rfl
  have h7 := hj.res
  have h8 : (putP x 0).b.lim = x.b.lim ∧ (putP x 0).b.ser = x.b.ser := by
    unfold putP; dsimp only; split <;> exact ⟨rfl, rfl⟩
  refine ⟨⟨h1.put (by omega) 0 hp, hj, h3.put 0 hp (fun l hl => (h1.on l hl).1), by omega, by omega, by omega⟩, hr, by omega⟩
/-- what is left in the end -/
structure FE (x : Pl) : Prop where
  ok : okP 110 x
  a : AP x
  pd : pend x.b.pd = false
  qu : x.b.qu = []
  ser : 0 ≤ x.b.ser ∧ x.b.ser ≤ 82
theorem FI.done {k : Nat} {x : Pl} (h : FI k x) (h0 : x.op.length = 0) (hk : k ≤ 104) : FE (takP (takP x 64) 64) := by
  obtain ⟨h1, h2, h3, h4, h5, h6⟩ := h
  have hop : x.op = [] := List.length_eq_zero_iff.1 h0
  have hres : x.b.res = 0 := by rw [h2.res, hop]; rfl
  have hbop : x.b.op = [] := by rw [h2.ser, hop]; rfl
  have hbn := h2.bnd
  have hti := h1.ti
  have hs0 := h3.gd.s0
  have ok1 := (h1.tak (by omega) 64).tak (by omega) 64
  have a1 := (h3.tak 64).tak 64
  have hn1 : takeN x.b 64 = x.b.qu.length := by simp only [takeN]; omega
  have hq1 : (restB x.b 64).qu = [] := by rw [restB, hn1]; simp
  have hb1 : (takP x 64).b = takeB x.b x.ti 64 := rfl
  have hcan : canTell (restB x.b 64) x.ti := by
    refine ⟨?_, ?_, by omega, by omega, .inl ?_⟩
    · rw [hq1]; show ((0 : Nat) : Int) + x.b.res < x.b.lim; omega
    · show x.b.ser ≤ _; omega
    · show x.b.op.length = 0; rw [hbop]; rfl
  have hT : pend (takeB x.b x.ti 64).pd = false ∧ (takeB x.b x.ti 64).qu.length ≤ 1 ∧ x.b.ser ≤ (takeB x.b x.ti 64).ser ∧ (takeB x.b x.ti 64).ser ≤ x.b.ser + 1 := by
    unfold takeB
    cases hp : pend x.b.pd
    · rw [if_neg (by simp)]
      refine ⟨hp, by rw [hq1]; simp, ?_, ?_⟩
      · show x.b.ser ≤ x.b.ser; omega
      · show x.b.ser ≤ x.b.ser + 1; omega
    · rw [if_pos ⟨rfl, hcan⟩]
      refine ⟨by simp [reportB, pend, lo0], by simp [reportB, hq1], ?_, ?_⟩
      · show x.b.ser ≤ x.b.ser + 1; omega
      · show x.b.ser + 1 ≤ x.b.ser + 1; omega
  rw [← hb1] at hT
  have hb2 : (takP (takP x 64) 64).b = restB (takP x 64).b 64 := by
    show takeB (takP x 64).b (takP x 64).ti 64 = _
    unfold takeB
    rw [if_neg (by rw [hT.1]; simp)]
  refine ⟨ok1.mono (by omega) (by omega), a1, by rw [hb2]; exact hT.1, ?_, ?_⟩
  · rw [hb2]
    show (takP x 64).b.qu.drop (takeN (takP x 64).b 64) = []
    refine List.drop_eq_nil_of_le ?_
    simp only [takeN]; omega
  · rw [hb2]
    show 0 ≤ (takP x 64).b.ser ∧ (takP x 64).b.ser ≤ 82
    omega
def PfQ (p : Nat) (r : LV) (H : Heap) : Prop := ∃ x' r0, FE x' ∧ PlQ x' p r0 r H
theorem pfinish (x : Pl) (k : Nat) (hx : FI k x) (p b1 c1 b2 c2 b3 c3 : Nat) (hc : x.op.length ≤ c1 ∧ x.tk.length ≤ c2 ∧ x.gv.length ≤ c3) :
    LCalls Try.prog gl 22 [.ptr 5000 p 0] (PlH x p b1 c1 b2 c2 b3 c3) (PfQ p) := by
  refine fn_viewT Try.func22 t22 Try.ntmps22 (by simp) ?_
  unfold c22 r22
  simp (disch := first | omega | (simp only [List.length_cons, List.length_nil]; first | done | omega)) only [go_sem, Nat.reduceAdd, Nat.reduceMul, Nat.reduceSub, Nat.reduceEqDiff, Nat.reduceLeDiff, Nat.reduceMod, Nat.reduceLT, Int.reduceToNat, Int.reduceAdd, Int.reduceSub, Int.reduceMul, Int.reduceNeg, Int.reduceLE, Int.reduceLT, Int.toNat_natCast, Int.cast_ofNat_Int, Int.reduceNe, Int.reduceEq, Int.reduceBEq, Int.reduceBNe, not_false_eq_true, ne_eq, Int.reduceTMod, Int.reduceTDiv, beq_self_eq_true, bne_self_eq_false, List.contains_cons, List.contains_nil, Nat.reduceBEq]
  refine loopI (ι := Nat × Pl × Nat × Nat × Nat × Nat × Nat × Nat) (fun y => FI y.1 y.2.1 ∧ (y.2.1.op.length ≤ y.2.2.2.1 ∧ y.2.1.tk.length ≤ y.2.2.2.2.2.1 ∧ y.2.1.gv.length ≤ y.2.2.2.2.2.2.2))
    (fun y => [(0, .ptr 5000 p 0)]) (fun y => PlH y.2.1 p y.2.2.1 y.2.2.2.1 y.2.2.2.2.1 y.2.2.2.2.2.1 y.2.2.2.2.2.2.1 y.2.2.2.2.2.2.2) (fun y => y.2.1.b.res.toNat) (k, x, b1, c1, b2, c2, b3, c3) ⟨hx, hc⟩ Ents.same ?_
  rintro ⟨k, x, b1, c1, b2, c2, b3, c3⟩ ⟨hx, hc⟩
  dsimp only at hx hc ⊢
  have hs := hx.sum
  have hr0 := hx.j.res
  have hkk : k ≤ 104 := by omega
  unfold PlH PlC
  simp only [BlC, InS, RcS_eq, NoS, List.cons_append, List.nil_append]
  repeat' (first | (simp (disch := first | omega | (simp only [List.length_cons, List.length_nil]; first | done | omega)) only [go_sem, Nat.reduceAdd, Nat.reduceMul, Nat.reduceSub, Nat.reduceEqDiff, Nat.reduceLeDiff, Nat.reduceMod, Nat.reduceLT, Int.reduceToNat, Int.reduceAdd, Int.reduceSub, Int.reduceMul, Int.reduceNeg, Int.reduceLE, Int.reduceLT, Int.toNat_natCast, Int.cast_ofNat_Int, Int.reduceNe, Int.reduceEq, Int.reduceBEq, Int.reduceBNe, not_false_eq_true, ne_eq, Int.reduceTMod, Int.reduceTDiv, beq_self_eq_true, bne_self_eq_false, List.contains_cons, List.contains_nil, Nat.reduceBEq]) | (refine allI (fun b => ?_)) | (refine allT (fun τ => ?_)) | (refine brP (fun h => ?_) (fun h => ?_) <;> (try simp only [Bool.and_eq_true, Bool.and_eq_false_iff, Bool.or_eq_true, Bool.or_eq_false_iff, Bool.not_eq_true', Bool.not_eq_false', decide_eq_true_eq, decide_eq_false_iff_not, beq_iff_eq, beq_eq_false_iff_ne, ne_eq, bne_iff_ne, Int.not_lt, Int.not_le] at h)))
  · have hpo := pput x k hx.ok (by omega) p b1 c1 b2 c2 b3 c3 hc 0 (by omega)
    obtain ⟨hf, hres, hpos⟩ := hx.put (by omega)
    unfold PlH PlC at hpo
    simp only [BlC, InS, RcS_eq, NoS, List.cons_append, List.nil_append] at hpo
    first | refine actsQ_U (hpo) (pick_perm rfl (pick_perm rfl (pick_perm rfl (pick_perm rfl (List.Perm.refl _))))) ?_ | refine actsQ_T (hpo) (pick_perm rfl (pick_perm rfl (pick_perm rfl (pick_perm rfl (List.Perm.refl _))))) ?_ | refine actsQ_N (hpo) (pick_perm rfl (pick_perm rfl (pick_perm rfl (pick_perm rfl (List.Perm.refl _))))) ?_ | refine actsQ_of (hpo) (pick_perm rfl (pick_perm rfl (pick_perm rfl (pick_perm rfl (List.Perm.refl _))))) ?_
    rintro _ _ ⟨r0, b1', c1', b2', c2', b3', c3', hc', rfl, rfl⟩
    unfold PlH PlC
    simp only [BlC, InS, RcS_eq, NoS, List.cons_append, List.nil_append]
    simp (disch := first | omega | (simp only [List.length_cons, List.length_nil]; first | done | omega)) only [go_sem, Nat.reduceAdd, Nat.reduceMul, Nat.reduceSub, Nat.reduceEqDiff, Nat.reduceLeDiff, Nat.reduceMod, Nat.reduceLT, Int.reduceToNat, Int.reduceAdd, Int.reduceSub, Int.reduceMul, Int.reduceNeg, Int.reduceLE, Int.reduceLT, Int.toNat_natCast, Int.cast_ofNat_Int, Int.reduceNe, Int.reduceEq, Int.reduceBEq, Int.reduceBNe, not_false_eq_true, ne_eq, Int.reduceTMod, Int.reduceTDiv, beq_self_eq_true, bne_self_eq_false, List.contains_cons, List.contains_nil, Nat.reduceBEq]
    exact ⟨⟨(k + 1, putP x 0, b1', c1', b2', c2', b3', c3'), hf, hc'⟩, by dsimp only; omega, Ents.envH (by simp [go_sem]) rfl⟩
  · have hd := hx.done (by omega) hkk
    have hp1 := ptake x k hx.ok (by omega) p b1 c1 b2 c2 b3 c3 hc 64
    have ok1 := hx.ok.tak (by omega) 64
    unfold PlH PlC at hp1
    simp only [BlC, InS, RcS_eq, NoS, List.cons_append, List.nil_append] at hp1
    first | refine actsQ_U (hp1) (pick_perm rfl (pick_perm rfl (pick_perm rfl (pick_perm rfl (List.Perm.refl _))))) ?_ | refine actsQ_T (hp1) (pick_perm rfl (pick_perm rfl (pick_perm rfl (pick_perm rfl (List.Perm.refl _))))) ?_ | refine actsQ_N (hp1) (pick_perm rfl (pick_perm rfl (pick_perm rfl (pick_perm rfl (List.Perm.refl _))))) ?_ | refine actsQ_of (hp1) (pick_perm rfl (pick_perm rfl (pick_perm rfl (pick_perm rfl (List.Perm.refl _))))) ?_
    rintro _ _ ⟨b1', c1', b2', c2', b3', c3', hc', rfl, rfl⟩
    have hp2 := ptake (takP x 64) (k + 1) ok1 (by omega) p b1' c1' b2' c2' b3' c3' hc' 64
    unfold PlH PlC at hp2 ⊢
    simp only [BlC, InS, RcS_eq, NoS, List.cons_append, List.nil_append] at hp2 ⊢
    simp (disch := first | omega | (simp only [List.length_cons, List.length_nil]; first | done | omega)) only [go_sem, Nat.reduceAdd, Nat.reduceMul, Nat.reduceSub, Nat.reduceEqDiff, Nat.reduceLeDiff, Nat.reduceMod, Nat.reduceLT, Int.reduceToNat, Int.reduceAdd, Int.reduceSub, Int.reduceMul, Int.reduceNeg, Int.reduceLE, Int.reduceLT, Int.toNat_natCast, Int.cast_ofNat_Int, Int.reduceNe, Int.reduceEq, Int.reduceBEq, Int.reduceBNe, not_false_eq_true, ne_eq, Int.reduceTMod, Int.reduceTDiv, beq_self_eq_true, bne_self_eq_false, List.contains_cons, List.contains_nil, Nat.reduceBEq]
    first | refine actsQ_U (hp2) (pick_perm rfl (pick_perm rfl (pick_perm rfl (pick_perm rfl (List.Perm.refl _))))) ?_ | refine actsQ_T (hp2) (pick_perm rfl (pick_perm rfl (pick_perm rfl (pick_perm rfl (List.Perm.refl _))))) ?_ | refine actsQ_N (hp2) (pick_perm rfl (pick_perm rfl (pick_perm rfl (pick_perm rfl (List.Perm.refl _))))) ?_ | refine actsQ_of (hp2) (pick_perm rfl (pick_perm rfl (pick_perm rfl (pick_perm rfl (List.Perm.refl _))))) ?_
    rintro _ _ ⟨b1', c1', b2', c2', b3', c3', hc', rfl, rfl⟩
    simp (disch := first | omega | (simp only [List.length_cons, List.length_nil]; first | done | omega)) only [go_sem, Nat.reduceAdd, Nat.reduceMul, Nat.reduceSub, Nat.reduceEqDiff, Nat.reduceLeDiff, Nat.reduceMod, Nat.reduceLT, Int.reduceToNat, Int.reduceAdd, Int.reduceSub, Int.reduceMul, Int.reduceNeg, Int.reduceLE, Int.reduceLT, Int.toNat_natCast, Int.cast_ofNat_Int, Int.reduceNe, Int.reduceEq, Int.reduceBEq, Int.reduceBNe, not_false_eq_true, ne_eq, Int.reduceTMod, Int.reduceTDiv, beq_self_eq_true, bne_self_eq_false, List.contains_cons, List.contains_nil, Nat.reduceBEq]
    exact ⟨_, _, leVH.pickd (leV.refl _) (List.Perm.refl _) (heapLe_refl _), _, _, hd, b1', c1', b2', c2', b3', c3', hc', rfl, rfl⟩
end Go.Proofs.Ytofpepjehiohcaa
