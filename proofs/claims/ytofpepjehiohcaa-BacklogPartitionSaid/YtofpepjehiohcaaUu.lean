/- Layer 20: plays: the beginning; plays. -/
import Derived.Test.YtofpepjehiohcaaUt
namespace Go.Proofs.Ytofpepjehiohcaa
open Go Go.Lx
set_option linter.unusedSimpArgs false
set_option linter.unusedVariables false
set_option maxRecDepth 100000
set_option maxHeartbeats 4000000

def begL (l : List Int) (a : Int) : Int := pickV l a [64, 64, 20, 8, 5, 1, 3]
def begR (l : List Int) (a : Int) : Int := pickV l (a + 1) [0, 0, 0, 2, 5]
def begF (l : List Int) (a : Int) : Int := 1 + nV l (a + 1 + 1) (3 - 1 + 1)
theorem beg_ok (l : List Int) (a : Int) : setOk (begL l a) (begR l a) (begF l a) = true := by
  have hm1 := pickV_mem l a [64, 64, 20, 8, 5, 1, 3] (by simp)
  have hm2 := pickV_mem l (a + 1) [0, 0, 0, 2, 5] (by simp)
  have hm3 := nV_range l (a + 1 + 1) (n := 3 - 1 + 1) (by omega)
  simp only [begL, begR, begF]
  generalize pickV l a [64, 64, 20, 8, 5, 1, 3] = u at *
  generalize pickV l (a + 1) [0, 0, 0, 2, 5] = v at *
  simp at hm1 hm2
  simp only [setOk, decide_eq_true_eq]
  omega
def begX (l : List Int) (a : Int) : Pl := ⟨confB bl0 (begL l a) (begR l a) (begF l a), [], 0, [], []⟩
theorem leVH.permR {x r : LV} {H H' H'' : Heap} (h : leVH gl x H r H') (hp : H'.Perm H'') : leVH gl x H r H'' := fun w0 M HF w v hI hv => by
  obtain ⟨M', h1, h2, h3⟩ := h w0 M HF w v hI hv
  exact ⟨M', h1, h2, h3.perm (hp.append_right HF)⟩
def PbQ (l : List Int) (sb : Nat) (a : Int) (r : LV) (H : Heap) : Prop := ∃ p, r = .ptr 5000 p 0 ∧ H = PlS (begX l a) p 0 0 0 0 0 0 sb l (a + 1 + 1 + 1)
theorem begX_ok (l : List Int) (a : Int) : okP 0 (begX l a) :=
  ⟨by omega, (okK.zero 0 (by omega)).conf _ _ _, Gd.zero.conf _ _ _, by simp [begX], by simp [begX], by simp [begX], by simp [begX], by simp [begX]⟩
theorem pbegin (sb : Nat) (l : List Int) (a : Int) (hl : okS l a) (ha : a ≤ 1000000) : LCalls Try.prog gl 20 [.ptr 3000 sb 0] [(3000, SB sb l a)] (PbQ l sb a) := by
  refine fn_viewT Try.func20 t20 Try.ntmps20 (by simp) ?_
  have hl1 : okS l (a + 1) := ⟨hl.1, hl.2.1, by have := hl.2.2; omega, by omega⟩
  have hl2 : okS l (a + 1 + 1) := ⟨hl.1, hl.2.1, by have := hl.2.2; omega, by omega⟩
  have hp1 : ActsE _ _ _ _ _ _ _ := pick_ 3000 sb l a [64, 64, 20, 8, 5, 1, 3] hl (by simp) (by simp)
  have hp2 : ActsE _ _ _ _ _ _ _ := pick_ 3000 sb l (a + 1) [0, 0, 0, 2, 5] hl1 (by simp) (by simp)
  have hp3 : ActsE _ _ _ _ _ _ _ := range_ 3000 sb l (a + 1 + 1) 1 3 hl2 (by omega) (by omega)
  have hX : begX l a = ⟨confB bl0 (begL l a) (begR l a) (begF l a), [], 0, [], []⟩ := rfl
  rw [show pickV l a [64, 64, 20, 8, 5, 1, 3] = begL l a from rfl] at hp1
  rw [show pickV l (a + 1) [0, 0, 0, 2, 5] = begR l a from rfl] at hp2
  rw [show 1 + nV l (a + 1 + 1) (3 - 1 + 1) = begF l a from rfl] at hp3
  have hn1 := new (begL l a) (begR l a) (begF l a)
  have hn2 := rnew (begL l a) (begR l a) (begF l a)
  generalize begL l a = u at *
  generalize begR l a = v at *
  generalize begF l a = w at *
  generalize confB bl0 u v w = B at *
  unfold BlL BlC InS RcS NoS at hn1 hn2
  unfold c20 r20
  simp (disch := first | omega | (simp only [List.length_cons, List.length_nil]; first | done | omega)) only [go_sem, Nat.reduceAdd, Nat.reduceMul, Nat.reduceSub, Nat.reduceEqDiff, Nat.reduceLeDiff, Nat.reduceMod, Nat.reduceLT, Int.reduceToNat, Int.reduceAdd, Int.reduceSub, Int.reduceMul, Int.reduceNeg, Int.reduceLE, Int.reduceLT, Int.toNat_natCast, Int.cast_ofNat_Int, Int.reduceNe, Int.reduceEq, Int.reduceBEq, Int.reduceBNe, not_false_eq_true, ne_eq, Int.reduceTMod, Int.reduceTDiv, beq_self_eq_true, bne_self_eq_false, List.contains_cons, List.contains_nil, Nat.reduceBEq]
  intro p
  first | refine actsE_U (hp1) (by first | rfl | simp only [getH, if_true]) ?_ | refine actsE_T (hp1) (by first | rfl | simp only [getH, if_true]) ?_ | refine actsE_N (hp1) (by first | rfl | simp only [getH, if_true]) ?_ | refine actsE_of (hp1) (by first | rfl | simp only [getH, if_true]) ?_
  rintro _ _ ⟨rfl, rfl⟩
  simp (disch := first | omega | (simp only [List.length_cons, List.length_nil]; first | done | omega)) only [go_sem, Nat.reduceAdd, Nat.reduceMul, Nat.reduceSub, Nat.reduceEqDiff, Nat.reduceLeDiff, Nat.reduceMod, Nat.reduceLT, Int.reduceToNat, Int.reduceAdd, Int.reduceSub, Int.reduceMul, Int.reduceNeg, Int.reduceLE, Int.reduceLT, Int.toNat_natCast, Int.cast_ofNat_Int, Int.reduceNe, Int.reduceEq, Int.reduceBEq, Int.reduceBNe, not_false_eq_true, ne_eq, Int.reduceTMod, Int.reduceTDiv, beq_self_eq_true, bne_self_eq_false, List.contains_cons, List.contains_nil, Nat.reduceBEq]
  first | refine actsE_U (hp2) (by first | rfl | simp only [getH, if_true]) ?_ | refine actsE_T (hp2) (by first | rfl | simp only [getH, if_true]) ?_ | refine actsE_N (hp2) (by first | rfl | simp only [getH, if_true]) ?_ | refine actsE_of (hp2) (by first | rfl | simp only [getH, if_true]) ?_
  rintro _ _ ⟨rfl, rfl⟩
  simp (disch := first | omega | (simp only [List.length_cons, List.length_nil]; first | done | omega)) only [go_sem, Nat.reduceAdd, Nat.reduceMul, Nat.reduceSub, Nat.reduceEqDiff, Nat.reduceLeDiff, Nat.reduceMod, Nat.reduceLT, Int.reduceToNat, Int.reduceAdd, Int.reduceSub, Int.reduceMul, Int.reduceNeg, Int.reduceLE, Int.reduceLT, Int.toNat_natCast, Int.cast_ofNat_Int, Int.reduceNe, Int.reduceEq, Int.reduceBEq, Int.reduceBNe, not_false_eq_true, ne_eq, Int.reduceTMod, Int.reduceTDiv, beq_self_eq_true, bne_self_eq_false, List.contains_cons, List.contains_nil, Nat.reduceBEq]
  first | refine actsE_U (hp3) (by first | rfl | simp only [getH, if_true]) ?_ | refine actsE_T (hp3) (by first | rfl | simp only [getH, if_true]) ?_ | refine actsE_N (hp3) (by first | rfl | simp only [getH, if_true]) ?_ | refine actsE_of (hp3) (by first | rfl | simp only [getH, if_true]) ?_
  rintro _ _ ⟨rfl, rfl⟩
  simp (disch := first | omega | (simp only [List.length_cons, List.length_nil]; first | done | omega)) only [go_sem, Nat.reduceAdd, Nat.reduceMul, Nat.reduceSub, Nat.reduceEqDiff, Nat.reduceLeDiff, Nat.reduceMod, Nat.reduceLT, Int.reduceToNat, Int.reduceAdd, Int.reduceSub, Int.reduceMul, Int.reduceNeg, Int.reduceLE, Int.reduceLT, Int.toNat_natCast, Int.cast_ofNat_Int, Int.reduceNe, Int.reduceEq, Int.reduceBEq, Int.reduceBNe, not_false_eq_true, ne_eq, Int.reduceTMod, Int.reduceTDiv, beq_self_eq_true, bne_self_eq_false, List.contains_cons, List.contains_nil, Nat.reduceBEq]
  first | refine call_U (hn1) ?_ | refine call_T (hn1) ?_ | refine call_N (hn1) ?_ | refine call_of (hn1) ?_
  simp (disch := first | omega | (simp only [List.length_cons, List.length_nil]; first | done | omega)) only [go_sem, Nat.reduceAdd, Nat.reduceMul, Nat.reduceSub, Nat.reduceEqDiff, Nat.reduceLeDiff, Nat.reduceMod, Nat.reduceLT, Int.reduceToNat, Int.reduceAdd, Int.reduceSub, Int.reduceMul, Int.reduceNeg, Int.reduceLE, Int.reduceLT, Int.toNat_natCast, Int.cast_ofNat_Int, Int.reduceNe, Int.reduceEq, Int.reduceBEq, Int.reduceBNe, not_false_eq_true, ne_eq, Int.reduceTMod, Int.reduceTDiv, beq_self_eq_true, bne_self_eq_false, List.contains_cons, List.contains_nil, Nat.reduceBEq]
  first | refine call_U (hn2) ?_ | refine call_T (hn2) ?_ | refine call_N (hn2) ?_ | refine call_of (hn2) ?_
  simp (disch := first | omega | (simp only [List.length_cons, List.length_nil]; first | done | omega)) only [go_sem, Nat.reduceAdd, Nat.reduceMul, Nat.reduceSub, Nat.reduceEqDiff, Nat.reduceLeDiff, Nat.reduceMod, Nat.reduceLT, Int.reduceToNat, Int.reduceAdd, Int.reduceSub, Int.reduceMul, Int.reduceNeg, Int.reduceLE, Int.reduceLT, Int.toNat_natCast, Int.cast_ofNat_Int, Int.reduceNe, Int.reduceEq, Int.reduceBEq, Int.reduceBNe, not_false_eq_true, ne_eq, Int.reduceTMod, Int.reduceTDiv, beq_self_eq_true, bne_self_eq_false, List.contains_cons, List.contains_nil, Nat.reduceBEq]
  refine ⟨_, _, leVH.permR (H' := [(5003, _), (5002, _), (5001, _), (5000, _), (3000, _)]) (leVH.mkE 5003 (leVH.mkE 5002 (leVH.mkE 5001 (leVH.pickd (H2 := [(8, _), (3000, _)]) (H' := [(5000, .blk p (PlC (begX l a) (.msl 5001 1 0 0 0 0) (.msl 5002 4 0 0 0 0) (.msl 5003 1 0 0 0 0))), (3000, SB sb l (a + 1 + 1 + 1))]) (leV.ptr_name 8 5000 p 0) (pick_perm rfl (pick_perm rfl (List.Perm.refl _))) ?_)))) (pick_perm rfl (pick_perm rfl (pick_perm rfl (pick_perm rfl (pick_perm rfl (List.Perm.refl _)))))), p, rfl, rfl⟩
  rw [hX]
  refine ⟨⟨rfl, ?_⟩, ⟨rfl, leVs.refl _⟩, trivial⟩
  exact leVs.app (leVs.refl (BlC B (InS B.op) (RcS B.qu) (NoS B.no))) (leVs.app (leVs.refl (BlC B (InS B.op) (RcS B.qu) (NoS B.no))) ⟨leV.nil_msl _ _ _, leV.refl _, leV.nil_msl _ _ _, leV.nil_msl _ _ _, trivial⟩)
end Go.Proofs.Ytofpepjehiohcaa
