/- Layer 20: backlog: records that are taken. -/
import Derived.Test.YtofpepjehiohcaaUg
namespace Go.Proofs.Ytofpepjehiohcaa
open Go Go.Lx
set_option linter.unusedSimpArgs false
set_option linter.unusedVariables false
set_option maxRecDepth 100000
set_option maxHeartbeats 1000000

theorem take_rcS (l : List Rc) {i k : Nat} (h : i < l.length) : ((Sp (l.flatMap RcC) k).drop (i * 4)).take 4 = RcC (l.getD i rc0) := by
  rw [Sp, List.drop_append_of_le_length (by rw [len_rc]; omega), List.take_append_of_le_length (by rw [List.length_drop, len_rc]; omega), take_rc l h]
/-- copies of the first records of a list of which the block is owned -/
theorem crecsM (l : List Rc) (hl : okR l) (b c m k : Nat) (hm : m ≤ l.length) (hmc : m ≤ c) : Acts Try.prog gl 49 [.msl 2002 4 b 0 m c] [(2002, .blk b (Sp (l.flatMap RcC) k))] (RcS (l.take m)) [(2002, .blk b (Sp (l.flatMap RcC) k))] := by
  refine fn_viewT Try.func49 t49 Try.ntmps49 (by simp) ?_
  obtain ⟨hn, hp⟩ := hl
  have hlen := len_rc l
  unfold c49 r49 RcS
  simp (disch := first | omega | (simp only [List.length_cons, List.length_nil]; first | done | omega)) only [go_sem, Nat.reduceAdd, Nat.reduceMul, Nat.reduceSub, Nat.reduceEqDiff, Nat.reduceLeDiff, Nat.reduceMod, Nat.reduceLT, Int.reduceToNat, Int.reduceAdd, Int.reduceSub, Int.reduceMul, Int.reduceNeg, Int.reduceLE, Int.reduceLT, Int.toNat_natCast, Int.cast_ofNat_Int, Int.reduceNe, Int.reduceEq, Int.reduceBEq, Int.reduceBNe, not_false_eq_true, ne_eq, Int.reduceTMod, Int.reduceTDiv, beq_self_eq_true, bne_self_eq_false, List.contains_cons, List.contains_nil, Nat.reduceBEq]
  refine ⟨by omega, rfl, .inr fun b0 => ?_⟩
  refine loopI (ι := Nat × Nat × Nat) (fun x => x.1 ≤ m ∧ x.1 ≤ x.2.2) (fun x => [(11, .int .i64 x.1), (10, .int .i64 m), (9, .msl 2002 4 b 0 m c), (3, .msl 8 4 x.2.1 0 x.1 x.2.2), (2, .fsl 1 0 []), (0, .msl 2002 4 b 0 m c)]) (fun x => [(8, .blk x.2.1 (Sp ((l.take x.1).flatMap RcC) ((x.2.2 - x.1) * 4))), (2002, .blk b (Sp (l.flatMap RcC) k))]) (fun x => m - x.1) (0, b0, m) (by simp) (Ents.le (by simp [go_sem]) ⟨⟨rfl, leVs_any (by simp [zeros, Sp])⟩, ⟨rfl, leVs.refl _⟩, trivial⟩) ?_
  rintro ⟨i, b', c'⟩ ⟨h1, h2⟩
  dsimp only at h1 h2 ⊢
  have htl : ((l.take i).flatMap RcC).length = i * 4 := by rw [len_rc, List.length_take, Nat.min_eq_left (by omega)]
  repeat' (first | (simp (disch := first | omega | (simp only [List.length_cons, List.length_nil]; first | done | omega)) only [go_sem, Nat.reduceAdd, Nat.reduceMul, Nat.reduceSub, Nat.reduceEqDiff, Nat.reduceLeDiff, Nat.reduceMod, Nat.reduceLT, Int.reduceToNat, Int.reduceAdd, Int.reduceSub, Int.reduceMul, Int.reduceNeg, Int.reduceLE, Int.reduceLT, Int.toNat_natCast, Int.cast_ofNat_Int, Int.reduceNe, Int.reduceEq, Int.reduceBEq, Int.reduceBNe, not_false_eq_true, ne_eq, Int.reduceTMod, Int.reduceTDiv, beq_self_eq_true, bne_self_eq_false, List.contains_cons, List.contains_nil, Nat.reduceBEq]) | (refine allI (fun b => ?_)) | (refine allT (fun τ => ?_)) | (refine brP (fun h => ?_) (fun h => ?_) <;> (try simp only [Bool.and_eq_true, Bool.and_eq_false_iff, Bool.or_eq_true, Bool.or_eq_false_iff, Bool.not_eq_true', Bool.not_eq_false', decide_eq_true_eq, decide_eq_false_iff_not, beq_iff_eq, beq_eq_false_iff_ne, ne_eq, bne_iff_ne, Int.not_lt, Int.not_le] at h)))
  · have hlt : i < l.length := by omega
    have hc := crec (l.getD i rc0) (hp _ (by simp [List.getD, hlt]))
    rw [take_rcS l hlt]
    refine ⟨by omega, by rw [length_Sp]; omega, fun b5 => ?_⟩
    rw [RcC_eq] at hc
    simp (disch := first | omega | (simp only [List.length_cons, List.length_nil]; first | done | omega)) only [go_sem, Nat.reduceAdd, Nat.reduceMul, Nat.reduceSub, Nat.reduceEqDiff, Nat.reduceLeDiff, Nat.reduceMod, Nat.reduceLT, Int.reduceToNat, Int.reduceAdd, Int.reduceSub, Int.reduceMul, Int.reduceNeg, Int.reduceLE, Int.reduceLT, Int.toNat_natCast, Int.cast_ofNat_Int, Int.reduceNe, Int.reduceEq, Int.reduceBEq, Int.reduceBNe, not_false_eq_true, ne_eq, Int.reduceTMod, Int.reduceTDiv, beq_self_eq_true, bne_self_eq_false, List.contains_cons, List.contains_nil, Nat.reduceBEq, RcC_eq, PaS_eq]
    rw [PaS_eq] at hc
    first | refine call_U (hc) ?_ | refine call_T (hc) ?_ | refine call_N (hc) ?_ | refine call_of (hc) ?_
    simp (disch := first | omega | (simp only [List.length_cons, List.length_nil]; first | done | omega)) only [go_sem, Nat.reduceAdd, Nat.reduceMul, Nat.reduceSub, Nat.reduceEqDiff, Nat.reduceLeDiff, Nat.reduceMod, Nat.reduceLT, Int.reduceToNat, Int.reduceAdd, Int.reduceSub, Int.reduceMul, Int.reduceNeg, Int.reduceLE, Int.reduceLT, Int.toNat_natCast, Int.cast_ofNat_Int, Int.reduceNe, Int.reduceEq, Int.reduceBEq, Int.reduceBNe, not_false_eq_true, ne_eq, Int.reduceTMod, Int.reduceTDiv, beq_self_eq_true, bne_self_eq_false, List.contains_cons, List.contains_nil, Nat.reduceBEq, zR]
    refine ⟨rfl, .inl ⟨by rw [length_Sp, htl]; omega, by rw [length_Sp, htl]; omega, by simp only [roomy]; omega, fun b2 c2 h3 => ?_⟩⟩
    rw [take_Sp _ htl, ← PaS_eq, ← RcC_eq]
    refine ⟨⟨(i + 1, b2, c2), by dsimp only; omega⟩, by dsimp only; omega, Ents.sub (by simp [go_sem]) ⟨_, List.Sublist.cons_cons _ (List.Sublist.cons _ (List.Sublist.refl _)), ?_⟩⟩
    dsimp only
    rw [take_succ_rc l hlt, List.flatMap_append, List.flatMap_singleton]
    exact List.Perm.refl _
  · obtain rfl : i = m := by omega
    refine view_end (leVH.pub 8 rfl ?_ ?_)
    · simp only [pubV, pubA, pubC, if_true]
      exact ⟨trivial, by rw [length_Sp, htl]; omega, h2⟩
    · simp only [pubV, pubA, pubC, if_true]
      rw [sp_take _ htl]
      refine leVH.of (leV.of_eq ?_) ⟨_, List.Sublist.refl _, List.Perm.refl _⟩
      rw [List.length_take, Nat.min_eq_left hm]
def takeN (b : Bl) (n : Int) : Nat := (max 0 (min n b.qu.length)).toNat
def canTell (b : Bl) (t : Int) : Prop := b.qu.length + b.res < b.lim ∧ b.ser ≤ 1073741821 ∧ 0 ≤ t ∧ t ≤ 1099511627776 ∧ (b.op.length = 0 ∨ b.ser + 1 - b.op.getD 0 0 < 64)
instance (b : Bl) (t : Int) : Decidable (canTell b t) := by unfold canTell; exact inferInstance
def restB (b : Bl) (n : Int) : Bl := { b with qu := b.qu.drop (takeN b n) }
def takeB (b : Bl) (t n : Int) : Bl := if pend b.pd = true ∧ canTell (restB b n) t then reportB (restB b n) t else restB b n
theorem okK.rest {k : Nat} {b : Bl} (h : okK k b) (n : Int) : okK k (restB b n) := by
  obtain ⟨k0, k1_, k2, k3, k4, k5, k6, k7, k8, k9, k10, k11, k12, k13, k14⟩ := h
  exact ⟨k0, k1_, by simp only [restB, List.length_drop]; omega, fun r hr => k3 r (List.mem_of_mem_drop hr), k4, k5, k6, k7, k8, k9, k10, k11, k12, k13, k14⟩
theorem drop_rc (l : List Rc) (m : Nat) : (l.flatMap RcC).drop (m * 4) = (l.drop m).flatMap RcC := by
  induction l generalizing m with
  | nil => simp
  | cons x l ih =>
    cases m with
    | zero => simp
    | succ m =>
      rw [List.flatMap_cons, List.drop_succ_cons, ← ih m, show (m + 1) * 4 = (RcC x).length + m * 4 by simp [RcC]; omega, List.drop_append, List.drop_eq_nil_of_le (by omega), List.nil_append, Nat.add_sub_cancel_left]
theorem takeR (b : Bl) (k : Nat) (hk : okK k b) (t n : Int) : Pure Try.prog gl 26 [BlL b, .int .i64 t, .int .i64 n] (.tup [BlL (takeB b t n), RcS (b.qu.take (takeN b n))]) := by
  refine fn_viewT Try.func26 t26 Try.ntmps26 (by simp) ?_
  have hc := clone b hk.okB
  have hk' := hk
  obtain ⟨k0, k1_, k2, k3, k4, k5, k6, k7, k8, k9, k10, k11, k12, k13, k14⟩ := hk'
  generalize hB : takeB b t n = B
  rw [show BlL B = .agg (BlC B (InS B.op) (RcS B.qu) (NoS B.no)) from rfl]
  generalize hX : LV.agg (BlC B (InS B.op) (RcS B.qu) (NoS B.no)) = X
  generalize hT : b.qu.take (takeN b n) = T
  unfold BlL BlC InS RcS NoS at hc
  unfold c26 r26 BlL BlC InS RcS NoS
  simp (disch := first | omega | (simp only [List.length_cons, List.length_nil]; first | done | omega)) only [go_sem, Nat.reduceAdd, Nat.reduceMul, Nat.reduceSub, Nat.reduceEqDiff, Nat.reduceLeDiff, Nat.reduceMod, Nat.reduceLT, Int.reduceToNat, Int.reduceAdd, Int.reduceSub, Int.reduceMul, Int.reduceNeg, Int.reduceLE, Int.reduceLT, Int.toNat_natCast, Int.cast_ofNat_Int, Int.reduceNe, Int.reduceEq, Int.reduceBEq, Int.reduceBNe, not_false_eq_true, ne_eq, Int.reduceTMod, Int.reduceTDiv, beq_self_eq_true, bne_self_eq_false, List.contains_cons, List.contains_nil, Nat.reduceBEq]
  intro p3 p6
  first | refine newsQ_U (hc) ?_ | refine newsQ_T (hc) ?_ | refine newsQ_of (hc) ?_
  rintro _ _ ⟨b1, c1, b2, c2, b3, c3, g, rfl, rfl⟩
  unfold BlO BlH BlC
  have hm : (if 0 < if (b.qu.length : Int) < n then (b.qu.length : Int) else n then if (b.qu.length : Int) < n then (b.qu.length : Int) else n else 0) = (takeN b n : Int) := by
    simp only [takeN]
    split <;> split <;> omega
  have hml : takeN b n ≤ b.qu.length := by simp only [takeN]; omega
  have e0 : (if c2 = 0 then 0 else 0) = 0 := by split <;> rfl
  have hlen := len_rc b.qu
  have hcr := crecsM b.qu ⟨by omega, fun r hr => Nat.le_trans (k3 r hr) (by omega)⟩ b2 c2 (takeN b n) ((c2 - b.qu.length) * 4) hml (by omega)
  have hd := delr b2 b.qu.length c2 0 (takeN b n) (b.qu.flatMap RcC) hlen g.2.1 (by omega) hml (by omega)
  have hkr := hk.rest n
  have hrl : (restB b n).qu.length = b.qu.length - takeN b n := by simp [restB]
  have hp := report (restB b n) k hkr p3 b2 c2 (by rw [hrl]; omega) (.msl 2001 1 b1 0 b.op.length c1) (.msl 2003 2 b3 0 b.no.length c3) t
  rw [hrl] at hp
  have hrq : (b.qu.flatMap RcC).take (0 * 4) ++ (b.qu.flatMap RcC).drop (takeN b n * 4) = (restB b n).qu.flatMap RcC := by
    rw [Nat.zero_mul, List.take_zero, List.nil_append, restB, drop_rc]
  rw [hrq, Nat.sub_zero] at hd
  rw [hT] at hcr
  unfold RcS at hcr
  have hP0 : (b.pd.f == 0 && (b.pd.l == 0 && (b.pd.r == 0 && (b.pd.u == 0 && b.pd.s == 0)))) = !pend b.pd := by simp [pend]
  have hdry : Dry [.sl 4 T.length (T.flatMap RcC)] := fun _ _ _ => by simp only [pubAs, pubA, pubC, and_self]
  have hend0 : restB b n = B → ∀ H : Heap, getH H 2001 = some (.blk b1 (Sp (b.op.map (LV.int .i64)) ((c1 - b.op.length) * 1))) → getH H 2002 = some (.blk b2 (Sp ((restB b n).qu.flatMap RcC) ((c2 - (b.qu.length - takeN b n)) * 4))) → getH H 2003 = some (.blk b3 (Sp (b.no.flatMap NoC) ((c3 - b.no.length) * 2))) →
      ∃ r' H', leVH gl (.tup [.agg [.int .i64 b.lim, .int .i64 b.rate, .int .i64 b.fail, .int .i64 b.ser, .int .i64 b.res, .msl 2001 1 b1 0 b.op.length c1, .msl 2002 4 b2 0 (b.qu.length - takeN b n) c2, .int .i64 b.pd.f, .int .i64 b.pd.l, .int .i64 b.pd.r, .int .i64 b.pd.u, .int .i64 b.pd.s, .int .i64 b.win, .int .i64 b.used, .int .i64 b.lost, .bool b.hal, .msl 2003 2 b3 0 b.no.length c3], .sl 4 T.length (T.flatMap RcC)]) H r' H' ∧ r' = .tup [X, .sl 4 T.length (T.flatMap RcC)] ∧ H' = [] := by
    intro h0 H g1 g2 g3
    subst hX
    subst h0
    rw [← hrl]
    exact view_end (pubB (b := restB b n) (rest := [.sl 4 T.length (T.flatMap RcC)]) hdry ⟨g.1, by rw [hrl]; omega, g.2.2⟩ g1 g2 g3)
  simp (disch := first | omega | (simp only [List.length_cons, List.length_nil]; first | done | omega)) only [go_sem, Nat.reduceAdd, Nat.reduceMul, Nat.reduceSub, Nat.reduceEqDiff, Nat.reduceLeDiff, Nat.reduceMod, Nat.reduceLT, Int.reduceToNat, Int.reduceAdd, Int.reduceSub, Int.reduceMul, Int.reduceNeg, Int.reduceLE, Int.reduceLT, Int.toNat_natCast, Int.cast_ofNat_Int, Int.reduceNe, Int.reduceEq, Int.reduceBEq, Int.reduceBNe, not_false_eq_true, ne_eq, Int.reduceTMod, Int.reduceTDiv, beq_self_eq_true, bne_self_eq_false, List.contains_cons, List.contains_nil, Nat.reduceBEq, hm, e0, Nat.sub_zero]
  refine ⟨by omega, ?_⟩
  first | refine acts_U (hcr) (by simp (disch := first | omega | (simp only [List.length_cons, List.length_nil]; first | done | omega)) only [go_sem, Nat.reduceAdd, Nat.reduceMul, Nat.reduceSub, Nat.reduceEqDiff, Nat.reduceLeDiff, Nat.reduceMod, Nat.reduceLT, Int.reduceToNat, Int.reduceAdd, Int.reduceSub, Int.reduceMul, Int.reduceNeg, Int.reduceLE, Int.reduceLT, Int.toNat_natCast, Int.cast_ofNat_Int, Int.reduceNe, Int.reduceEq, Int.reduceBEq, Int.reduceBNe, not_false_eq_true, ne_eq, Int.reduceTMod, Int.reduceTDiv, beq_self_eq_true, bne_self_eq_false, List.contains_cons, List.contains_nil, Nat.reduceBEq]) ?_ | refine acts_T (hcr) (by simp (disch := first | omega | (simp only [List.length_cons, List.length_nil]; first | done | omega)) only [go_sem, Nat.reduceAdd, Nat.reduceMul, Nat.reduceSub, Nat.reduceEqDiff, Nat.reduceLeDiff, Nat.reduceMod, Nat.reduceLT, Int.reduceToNat, Int.reduceAdd, Int.reduceSub, Int.reduceMul, Int.reduceNeg, Int.reduceLE, Int.reduceLT, Int.toNat_natCast, Int.cast_ofNat_Int, Int.reduceNe, Int.reduceEq, Int.reduceBEq, Int.reduceBNe, not_false_eq_true, ne_eq, Int.reduceTMod, Int.reduceTDiv, beq_self_eq_true, bne_self_eq_false, List.contains_cons, List.contains_nil, Nat.reduceBEq]) ?_ | refine acts_N (hcr) (by simp (disch := first | omega | (simp only [List.length_cons, List.length_nil]; first | done | omega)) only [go_sem, Nat.reduceAdd, Nat.reduceMul, Nat.reduceSub, Nat.reduceEqDiff, Nat.reduceLeDiff, Nat.reduceMod, Nat.reduceLT, Int.reduceToNat, Int.reduceAdd, Int.reduceSub, Int.reduceMul, Int.reduceNeg, Int.reduceLE, Int.reduceLT, Int.toNat_natCast, Int.cast_ofNat_Int, Int.reduceNe, Int.reduceEq, Int.reduceBEq, Int.reduceBNe, not_false_eq_true, ne_eq, Int.reduceTMod, Int.reduceTDiv, beq_self_eq_true, bne_self_eq_false, List.contains_cons, List.contains_nil, Nat.reduceBEq]) ?_ | refine acts_of (H1 := []) (hcr) (by simp (disch := first | omega | (simp only [List.length_cons, List.length_nil]; first | done | omega)) only [go_sem, Nat.reduceAdd, Nat.reduceMul, Nat.reduceSub, Nat.reduceEqDiff, Nat.reduceLeDiff, Nat.reduceMod, Nat.reduceLT, Int.reduceToNat, Int.reduceAdd, Int.reduceSub, Int.reduceMul, Int.reduceNeg, Int.reduceLE, Int.reduceLT, Int.toNat_natCast, Int.cast_ofNat_Int, Int.reduceNe, Int.reduceEq, Int.reduceBEq, Int.reduceBNe, not_false_eq_true, ne_eq, Int.reduceTMod, Int.reduceTDiv, beq_self_eq_true, bne_self_eq_false, List.contains_cons, List.contains_nil, Nat.reduceBEq]) ?_
  simp (disch := first | omega | (simp only [List.length_cons, List.length_nil]; first | done | omega)) only [go_sem, Nat.reduceAdd, Nat.reduceMul, Nat.reduceSub, Nat.reduceEqDiff, Nat.reduceLeDiff, Nat.reduceMod, Nat.reduceLT, Int.reduceToNat, Int.reduceAdd, Int.reduceSub, Int.reduceMul, Int.reduceNeg, Int.reduceLE, Int.reduceLT, Int.toNat_natCast, Int.cast_ofNat_Int, Int.reduceNe, Int.reduceEq, Int.reduceBEq, Int.reduceBNe, not_false_eq_true, ne_eq, Int.reduceTMod, Int.reduceTDiv, beq_self_eq_true, bne_self_eq_false, List.contains_cons, List.contains_nil, Nat.reduceBEq]
  first | refine actsE_U (hd) (by first | rfl | simp only [getH, if_true]) ?_ | refine actsE_T (hd) (by first | rfl | simp only [getH, if_true]) ?_ | refine actsE_N (hd) (by first | rfl | simp only [getH, if_true]) ?_ | refine actsE_of (hd) (by first | rfl | simp only [getH, if_true]) ?_
  rintro _ _ ⟨rfl, rfl⟩
  have hno : (¬ canTell (restB b n) t) → restB b n = B := fun h => by rw [← hB, takeB, if_neg (fun h' => h h'.2)]
  have hcan : canTell (restB b n) t ↔ (((b.qu.length - takeN b n : Nat) : Int) + b.res < b.lim ∧ b.ser ≤ 1073741821 ∧ 0 ≤ t ∧ t ≤ 1099511627776 ∧ (b.op.length = 0 ∨ b.ser + 1 - b.op.getD 0 0 < 64)) := by rw [← hrl]; exact Iff.rfl
  have hd0 : ∃ g x : Bool, decide ((0 : Int) < b.op.length) = g ∧ (g = true → (0 < b.op.length ∧ (Sp (b.op.map (LV.int .i64)) ((c1 - b.op.length) * 1)).getD 0 .any = .int .i64 (b.op.getD 0 0))) := by
    refine ⟨_, true, rfl, fun h => ?_⟩
    simp only [decide_eq_true_eq] at h
    have h : 0 < b.op.length := by omega
    exact ⟨h, by rw [getD_Sp (by simpa using h), getD_int h]⟩
  obtain ⟨gg, _, hd0, hgd⟩ := hd0
  cases hP : pend b.pd
  · repeat' (first | (simp (disch := first | omega | (simp only [List.length_cons, List.length_nil]; first | done | omega)) only [go_sem, Nat.reduceAdd, Nat.reduceMul, Nat.reduceSub, Nat.reduceEqDiff, Nat.reduceLeDiff, Nat.reduceMod, Nat.reduceLT, Int.reduceToNat, Int.reduceAdd, Int.reduceSub, Int.reduceMul, Int.reduceNeg, Int.reduceLE, Int.reduceLT, Int.toNat_natCast, Int.cast_ofNat_Int, Int.reduceNe, Int.reduceEq, Int.reduceBEq, Int.reduceBNe, not_false_eq_true, ne_eq, Int.reduceTMod, Int.reduceTDiv, beq_self_eq_true, bne_self_eq_false, List.contains_cons, List.contains_nil, Nat.reduceBEq, hP0, hP, Bool.not_false, Bool.not_true]) | (refine allI (fun b => ?_)) | (refine allT (fun τ => ?_)) | (refine brP (fun h => ?_) (fun h => ?_) <;> (try simp only [Bool.and_eq_true, Bool.and_eq_false_iff, Bool.or_eq_true, Bool.or_eq_false_iff, Bool.not_eq_true', Bool.not_eq_false', decide_eq_true_eq, decide_eq_false_iff_not, beq_iff_eq, beq_eq_false_iff_ne, ne_eq, bne_iff_ne, Int.not_lt, Int.not_le] at h)))
    refine hend0 ?_ _ rfl rfl rfl
    rw [← hB, takeB, if_neg (by simp [hP])]
  · repeat' (first | (simp (disch := first | omega | (simp only [List.length_cons, List.length_nil]; first | done | omega)) only [go_sem, Nat.reduceAdd, Nat.reduceMul, Nat.reduceSub, Nat.reduceEqDiff, Nat.reduceLeDiff, Nat.reduceMod, Nat.reduceLT, Int.reduceToNat, Int.reduceAdd, Int.reduceSub, Int.reduceMul, Int.reduceNeg, Int.reduceLE, Int.reduceLT, Int.toNat_natCast, Int.cast_ofNat_Int, Int.reduceNe, Int.reduceEq, Int.reduceBEq, Int.reduceBNe, not_false_eq_true, ne_eq, Int.reduceTMod, Int.reduceTDiv, beq_self_eq_true, bne_self_eq_false, List.contains_cons, List.contains_nil, Nat.reduceBEq, hP0, hP, Bool.not_false, Bool.not_true]) | (refine allI (fun b => ?_)) | (refine allT (fun τ => ?_)) | (refine brP (fun h => ?_) (fun h => ?_) <;> (try simp only [Bool.and_eq_true, Bool.and_eq_false_iff, Bool.or_eq_true, Bool.or_eq_false_iff, Bool.not_eq_true', Bool.not_eq_false', decide_eq_true_eq, decide_eq_false_iff_not, beq_iff_eq, beq_eq_false_iff_ne, ne_eq, bne_iff_ne, Int.not_lt, Int.not_le] at h)))
    · exact hend0 (hno (by rw [hcan]; omega)) _ rfl rfl rfl
    · exact hend0 (hno (by rw [hcan]; omega)) _ rfl rfl rfl
    · have hyes : (b.op.length = 0 ∨ b.ser + 1 - b.op.getD 0 0 < 64) → reportB (restB b n) t = B := fun h' => by rw [← hB, takeB, if_pos ⟨hP, by rw [hcan]; omega⟩]
      rw [hd0]
      cases gg with
      | false =>
        simp only [decide_eq_false_iff_not] at hd0
        have h0 : b.op = [] := List.length_eq_zero_iff.1 (by omega)
        have h1 : (Sp (b.op.map (LV.int .i64)) ((c1 - b.op.length) * 1)).getD 0 .any = .any := by rw [h0]; cases ((c1 - ([] : List Int).length) * 1) <;> rfl
        rw [h1]
        repeat' (first | (simp (disch := first | omega | (simp only [List.length_cons, List.length_nil]; first | done | omega)) only [go_sem, Nat.reduceAdd, Nat.reduceMul, Nat.reduceSub, Nat.reduceEqDiff, Nat.reduceLeDiff, Nat.reduceMod, Nat.reduceLT, Int.reduceToNat, Int.reduceAdd, Int.reduceSub, Int.reduceMul, Int.reduceNeg, Int.reduceLE, Int.reduceLT, Int.toNat_natCast, Int.cast_ofNat_Int, Int.reduceNe, Int.reduceEq, Int.reduceBEq, Int.reduceBNe, not_false_eq_true, ne_eq, Int.reduceTMod, Int.reduceTDiv, beq_self_eq_true, bne_self_eq_false, List.contains_cons, List.contains_nil, Nat.reduceBEq, Bool.false_eq_true, false_implies, true_and, bin_anyR, bin_anyL, pick_0a0]) | (refine allI (fun b => ?_)) | (refine allT (fun τ => ?_)) | (refine brP (fun h => ?_) (fun h => ?_) <;> (try simp only [Bool.and_eq_true, Bool.and_eq_false_iff, Bool.or_eq_true, Bool.or_eq_false_iff, Bool.not_eq_true', Bool.not_eq_false', decide_eq_true_eq, decide_eq_false_iff_not, beq_iff_eq, beq_eq_false_iff_ne, ne_eq, bne_iff_ne, Int.not_lt, Int.not_le] at h)))
        have hop : b.op.length = 0 := by omega
        first | refine acts2_U (hp) (by omega) rfl rfl ?_ | refine acts2_T (hp) (by omega) rfl rfl ?_ | refine acts2_N (hp) (by omega) rfl rfl ?_ | refine acts2_of (hp) (by omega) rfl rfl ?_
        rintro _ _ _ ⟨b2', c2', g2, rfl, rfl⟩
        simp only [BlC]
        simp (disch := first | omega | (simp only [List.length_cons, List.length_nil]; first | done | omega)) only [go_sem, Nat.reduceAdd, Nat.reduceMul, Nat.reduceSub, Nat.reduceEqDiff, Nat.reduceLeDiff, Nat.reduceMod, Nat.reduceLT, Int.reduceToNat, Int.reduceAdd, Int.reduceSub, Int.reduceMul, Int.reduceNeg, Int.reduceLE, Int.reduceLT, Int.toNat_natCast, Int.cast_ofNat_Int, Int.reduceNe, Int.reduceEq, Int.reduceBEq, Int.reduceBNe, not_false_eq_true, ne_eq, Int.reduceTMod, Int.reduceTDiv, beq_self_eq_true, bne_self_eq_false, List.contains_cons, List.contains_nil, Nat.reduceBEq]
        have hfin := hyes (by omega)
        subst hX
        subst hfin
        exact view_end (pubB (b := reportB (restB b n) t) (rest := [.sl 4 T.length (T.flatMap RcC)]) hdry ⟨g.1, g2, g.2.2⟩ rfl rfl rfl)
      | true =>
        obtain ⟨h0, h1⟩ := hgd rfl
        have h2 : 0 ≤ b.op.getD 0 0 ∧ b.op.getD 0 0 ≤ 2 * k := k7 _ (getD_mem h0)
        rw [h1]
        repeat' (first | (simp (disch := first | omega | (simp only [List.length_cons, List.length_nil]; first | done | omega)) only [go_sem, Nat.reduceAdd, Nat.reduceMul, Nat.reduceSub, Nat.reduceEqDiff, Nat.reduceLeDiff, Nat.reduceMod, Nat.reduceLT, Int.reduceToNat, Int.reduceAdd, Int.reduceSub, Int.reduceMul, Int.reduceNeg, Int.reduceLE, Int.reduceLT, Int.toNat_natCast, Int.cast_ofNat_Int, Int.reduceNe, Int.reduceEq, Int.reduceBEq, Int.reduceBNe, not_false_eq_true, ne_eq, Int.reduceTMod, Int.reduceTDiv, beq_self_eq_true, bne_self_eq_false, List.contains_cons, List.contains_nil, Nat.reduceBEq, forall_const, true_and, length_Sp, List.length_map]) | (refine allI (fun b => ?_)) | (refine allT (fun τ => ?_)) | (refine brP (fun h => ?_) (fun h => ?_) <;> (try simp only [Bool.and_eq_true, Bool.and_eq_false_iff, Bool.or_eq_true, Bool.or_eq_false_iff, Bool.not_eq_true', Bool.not_eq_false', decide_eq_true_eq, decide_eq_false_iff_not, beq_iff_eq, beq_eq_false_iff_ne, ne_eq, bne_iff_ne, Int.not_lt, Int.not_le] at h)))
        refine ⟨by omega, by omega, ?_⟩
        repeat' (first | (simp (disch := first | omega | (simp only [List.length_cons, List.length_nil]; first | done | omega)) only [go_sem, Nat.reduceAdd, Nat.reduceMul, Nat.reduceSub, Nat.reduceEqDiff, Nat.reduceLeDiff, Nat.reduceMod, Nat.reduceLT, Int.reduceToNat, Int.reduceAdd, Int.reduceSub, Int.reduceMul, Int.reduceNeg, Int.reduceLE, Int.reduceLT, Int.toNat_natCast, Int.cast_ofNat_Int, Int.reduceNe, Int.reduceEq, Int.reduceBEq, Int.reduceBNe, not_false_eq_true, ne_eq, Int.reduceTMod, Int.reduceTDiv, beq_self_eq_true, bne_self_eq_false, List.contains_cons, List.contains_nil, Nat.reduceBEq]) | (refine allI (fun b => ?_)) | (refine allT (fun τ => ?_)) | (refine brP (fun h => ?_) (fun h => ?_) <;> (try simp only [Bool.and_eq_true, Bool.and_eq_false_iff, Bool.or_eq_true, Bool.or_eq_false_iff, Bool.not_eq_true', Bool.not_eq_false', decide_eq_true_eq, decide_eq_false_iff_not, beq_iff_eq, beq_eq_false_iff_ne, ne_eq, bne_iff_ne, Int.not_lt, Int.not_le] at h)))
        · exact hend0 (hno (by rw [hcan]; omega)) _ rfl rfl rfl
        · first | refine acts2_U (hp) (by omega) rfl rfl ?_ | refine acts2_T (hp) (by omega) rfl rfl ?_ | refine acts2_N (hp) (by omega) rfl rfl ?_ | refine acts2_of (hp) (by omega) rfl rfl ?_
          rintro _ _ _ ⟨b2', c2', g2, rfl, rfl⟩
          simp only [BlC]
          simp (disch := first | omega | (simp only [List.length_cons, List.length_nil]; first | done | omega)) only [go_sem, Nat.reduceAdd, Nat.reduceMul, Nat.reduceSub, Nat.reduceEqDiff, Nat.reduceLeDiff, Nat.reduceMod, Nat.reduceLT, Int.reduceToNat, Int.reduceAdd, Int.reduceSub, Int.reduceMul, Int.reduceNeg, Int.reduceLE, Int.reduceLT, Int.toNat_natCast, Int.cast_ofNat_Int, Int.reduceNe, Int.reduceEq, Int.reduceBEq, Int.reduceBNe, not_false_eq_true, ne_eq, Int.reduceTMod, Int.reduceTDiv, beq_self_eq_true, bne_self_eq_false, List.contains_cons, List.contains_nil, Nat.reduceBEq]
          have hfin := hyes (by omega)
          subst hX
          subst hfin
          exact view_end (pubB (b := reportB (restB b n) t) (rest := [.sl 4 T.length (T.flatMap RcC)]) hdry ⟨g.1, g2, g.2.2⟩ rfl rfl rfl)
end Go.Proofs.Ytofpepjehiohcaa
