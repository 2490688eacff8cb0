/- Layer 9: OpenFile and CloseFile on a table of one process. -/
import Derived.Test.YtkdblnejpmbnfaaPs
namespace Go.Proofs.Ytkdblnejpmbnfaa
open Go Go.Lx
set_option linter.unusedSimpArgs false
set_option linter.unusedVariables false
set_option maxRecDepth 100000
set_option maxHeartbeats 4000000

theorem cut_rowsD (l : List De) (i : Nat) : (l.flatMap DeC).take (i * 4) ++ (l.flatMap DeC).drop ((i + 1) * 4) = (l.eraseIdx i).flatMap DeC := by
  rw [take_rowsN, ← drop_rows, List.eraseIdx_eq_take_drop_succ, List.flatMap_append]
theorem fdI_lt (l : List De) (fd : Int) : fdI l fd < l.length := by
  rcases firstI_cases l.length (fdP l fd) with ⟨h, _⟩ | ⟨i, h1, h2, _⟩
  · rw [fdI, h]; omega
  · rw [fdI, h2]; omega
def clG (fd : Int) (p : Ps) : Int × Ps := if fdI p.op fd < 0 then (9, p) else (0, { p with op := p.op.eraseIdx (fdI p.op fd).toNat })
theorem clE {e : Int} {t : Tb} {p : Ps} {bt b bo c : Nat} {Hc : Heap} (hc : p.op.length ≤ c) : ∃ r' H', leVH gl (.int .i64 e) (ChO bt t p b bo c ++ Hc) r' H' ∧ ∃ bo' c', ((e, p) : Int × Ps).2.op.length ≤ c' ∧ r' = .int .i64 ((e, p) : Int × Ps).1 ∧ H' = ChO bt t ((e, p) : Int × Ps).2 b bo' c' ++ Hc :=
  ⟨_, _, leVH.of (leV.refl _) ⟨_, List.Sublist.refl _, List.Perm.refl _⟩, bo, c, hc, rfl, rfl⟩
theorem cl1 (fd : Int) (b5 : Nat) (t : Tb) (p : Ps) (hp : p.op.length ≤ 1000) : ClO 51 [.ptr 5 b5 0] [(5, .blk b5 [.int .i64 fd])] [(5, .blk b5 [.int .i64 fd])] t p (clG fd p) := by
  intro bt b bo
  refine fn_viewT Try.func51 t51 Try.ntmps51 (by simp) ?_
  have hle := len_de p.op
  have hx := idxd p.op b5 bo p.op.length fd hp
  have hlt := fdI_lt p.op fd
  have hR : clG fd p = if fdI p.op fd < 0 then (9, p) else (0, { p with op := p.op.eraseIdx (fdI p.op fd).toNat }) := rfl
  generalize fdI p.op fd = k at *
  unfold c51 r51 ChO
  rw [PsO_eq]
  simp only [List.cons_append, List.nil_append]
  repeat' (first | (simp (disch := first | omega | (simp only [List.length_cons, List.length_nil]; first | done | omega)) only [go_sem, Nat.reduceAdd, Nat.reduceMul, Nat.reduceSub, Nat.reduceEqDiff, Nat.reduceLeDiff, Nat.reduceMod, Nat.reduceLT, Int.reduceToNat, Int.reduceAdd, Int.reduceSub, Int.reduceMul, Int.reduceNeg, Int.reduceLE, Int.reduceLT, Int.toNat_natCast, Int.cast_ofNat_Int, Int.reduceNe, Int.reduceEq, Int.reduceBEq, Int.reduceBNe, not_false_eq_true, ne_eq, Int.reduceTMod, Int.reduceTDiv, beq_self_eq_true, bne_self_eq_false, List.contains_cons, List.contains_nil, Nat.reduceBEq]) | (refine allI (fun b => ?_)) | (refine allT (fun τ => ?_)) | (refine brP (fun h => ?_) (fun h => ?_) <;> (try simp only [Bool.and_eq_true, Bool.and_eq_false_iff, Bool.or_eq_true, Bool.or_eq_false_iff, Bool.not_eq_true', Bool.not_eq_false', decide_eq_true_eq, decide_eq_false_iff_not, beq_iff_eq, beq_eq_false_iff_ne, ne_eq, bne_iff_ne, Int.not_lt, Int.not_le] at h)) | (apply And.intro; focus (first | omega | (simp; done) | (simp +contextual; done) | (intros; and_intros <;> first | assumption | omega) | (intros; simp_all; done) | (intro hgd; refine ⟨hgd, ?_⟩; simp [hgd]; done) | (intro hgd; simp only [beq_eq_false_iff_ne, beq_iff_eq, decide_eq_true_eq, decide_eq_false_iff_not, bne_iff_ne, ne_eq, Bool.and_eq_true, Bool.or_eq_false_iff, Bool.or_eq_true, Bool.and_eq_false_iff] at hgd ⊢; omega))) | fail)
  refine actsP_U (H2 := [(3, _), (6000, _)]) hx (pick_perm rfl (pick_perm rfl (List.Perm.refl _))) ?_
  rintro _ _ ⟨rfl, rfl⟩
  simp only [List.cons_append, List.nil_append]
  repeat' (first | (simp (disch := first | omega | (simp only [List.length_cons, List.length_nil]; first | done | omega)) only [go_sem, Nat.reduceAdd, Nat.reduceMul, Nat.reduceSub, Nat.reduceEqDiff, Nat.reduceLeDiff, Nat.reduceMod, Nat.reduceLT, Int.reduceToNat, Int.reduceAdd, Int.reduceSub, Int.reduceMul, Int.reduceNeg, Int.reduceLE, Int.reduceLT, Int.toNat_natCast, Int.cast_ofNat_Int, Int.reduceNe, Int.reduceEq, Int.reduceBEq, Int.reduceBNe, not_false_eq_true, ne_eq, Int.reduceTMod, Int.reduceTDiv, beq_self_eq_true, bne_self_eq_false, List.contains_cons, List.contains_nil, Nat.reduceBEq]) | (refine allI (fun b => ?_)) | (refine allT (fun τ => ?_)) | (refine brP (fun h => ?_) (fun h => ?_) <;> (try simp only [Bool.and_eq_true, Bool.and_eq_false_iff, Bool.or_eq_true, Bool.or_eq_false_iff, Bool.not_eq_true', Bool.not_eq_false', decide_eq_true_eq, decide_eq_false_iff_not, beq_iff_eq, beq_eq_false_iff_ne, ne_eq, bne_iff_ne, Int.not_lt, Int.not_le] at h)) | (apply And.intro; focus (first | omega | (simp; done) | (simp +contextual; done) | (intros; and_intros <;> first | assumption | omega) | (intros; simp_all; done) | (intro hgd; refine ⟨hgd, ?_⟩; simp [hgd]; done) | (intro hgd; simp only [beq_eq_false_iff_ne, beq_iff_eq, decide_eq_true_eq, decide_eq_false_iff_not, bne_iff_ne, ne_eq, Bool.and_eq_true, Bool.or_eq_false_iff, Bool.or_eq_true, Bool.and_eq_false_iff] at hgd ⊢; omega))) | fail)
  · rw [hR, if_pos (by assumption)]
    exact clE (Nat.le_refl _)
  · obtain ⟨n, rfl⟩ : ∃ n : Nat, k = (n : Int) := ⟨k.toNat, by omega⟩
    rw [Int.toNat_natCast, if_neg (by omega)] at hR
    have hd := deld bo p.op.length p.op.length n (n + 1) _ hle (by omega) (by omega) (by omega) (by omega)
    first | refine actsE_U (hd) (by first | rfl | simp only [getH, if_true]) ?_ | refine actsE_T (hd) (by first | rfl | simp only [getH, if_true]) ?_ | refine actsE_N (hd) (by first | rfl | simp only [getH, if_true]) ?_ | refine actsE_of (hd) (by first | rfl | simp only [getH, if_true]) ?_
    rintro _ _ ⟨rfl, rfl⟩
    rw [cut_rowsD]
    have hE : (p.op.eraseIdx n).length = p.op.length - 1 := by rw [List.length_eraseIdx, if_pos (by omega)]
    rw [show p.op.length - (n + 1 - n) = (p.op.eraseIdx n).length by omega]
    repeat' (first | (simp (disch := first | omega | (simp only [List.length_cons, List.length_nil]; first | done | omega)) only [go_sem, Nat.reduceAdd, Nat.reduceMul, Nat.reduceSub, Nat.reduceEqDiff, Nat.reduceLeDiff, Nat.reduceMod, Nat.reduceLT, Int.reduceToNat, Int.reduceAdd, Int.reduceSub, Int.reduceMul, Int.reduceNeg, Int.reduceLE, Int.reduceLT, Int.toNat_natCast, Int.cast_ofNat_Int, Int.reduceNe, Int.reduceEq, Int.reduceBEq, Int.reduceBNe, not_false_eq_true, ne_eq, Int.reduceTMod, Int.reduceTDiv, beq_self_eq_true, bne_self_eq_false, List.contains_cons, List.contains_nil, Nat.reduceBEq]) | (refine allI (fun b => ?_)) | (refine allT (fun τ => ?_)) | (refine brP (fun h => ?_) (fun h => ?_) <;> (try simp only [Bool.and_eq_true, Bool.and_eq_false_iff, Bool.or_eq_true, Bool.or_eq_false_iff, Bool.not_eq_true', Bool.not_eq_false', decide_eq_true_eq, decide_eq_false_iff_not, beq_iff_eq, beq_eq_false_iff_ne, ne_eq, bne_iff_ne, Int.not_lt, Int.not_le] at h)) | (apply And.intro; focus (first | omega | (simp; done) | (simp +contextual; done) | (intros; and_intros <;> first | assumption | omega) | (intros; simp_all; done) | (intro hgd; refine ⟨hgd, ?_⟩; simp [hgd]; done) | (intro hgd; simp only [beq_eq_false_iff_ne, beq_iff_eq, decide_eq_true_eq, decide_eq_false_iff_not, bne_iff_ne, ne_eq, Bool.and_eq_true, Bool.or_eq_false_iff, Bool.or_eq_true, Bool.and_eq_false_iff] at hgd ⊢; omega))) | fail)
    rw [hR]
    exact clE (p := { p with op := p.op.eraseIdx n }) (by dsimp only; omega)
def clR (t : Tb) (p : Ps) (fd : Int) : Int × Tb := chO t (clG fd p)
theorem cl (t : Tb) (p : Ps) (ht : t.ps = [p]) (hp : p.op.length ≤ 1000) (fd : Int) : Pure Try.prog gl 28 [TbL t, .int .i64 p.pid, .int .i64 fd] (.tup [TbL (clR t p fd).2, .int .i64 (clR t p fd).1]) := by
  refine fn_pureT Try.func28 t28 Try.ntmps28 (by simp) ?_
  have hc := fun b5 => changeO t p ht hp 51 [.ptr 5 b5 0] [(5, _)] [(5, _)] (clG fd p) (by kernel_rfl) (cl1 fd b5 t p hp)
  unfold c28 r28
  rw [TbL_eq t] at *
  repeat' (first | (simp (disch := first | omega | (simp only [List.length_cons, List.length_nil]; first | done | omega)) only [go_sem, Nat.reduceAdd, Nat.reduceMul, Nat.reduceSub, Nat.reduceEqDiff, Nat.reduceLeDiff, Nat.reduceMod, Nat.reduceLT, Int.reduceToNat, Int.reduceAdd, Int.reduceSub, Int.reduceMul, Int.reduceNeg, Int.reduceLE, Int.reduceLT, Int.toNat_natCast, Int.cast_ofNat_Int, Int.reduceNe, Int.reduceEq, Int.reduceBEq, Int.reduceBNe, not_false_eq_true, ne_eq, Int.reduceTMod, Int.reduceTDiv, beq_self_eq_true, bne_self_eq_false, List.contains_cons, List.contains_nil, Nat.reduceBEq]) | (refine allI (fun b => ?_)) | (refine allT (fun τ => ?_)) | (refine brP (fun h => ?_) (fun h => ?_) <;> (try simp only [Bool.and_eq_true, Bool.and_eq_false_iff, Bool.or_eq_true, Bool.or_eq_false_iff, Bool.not_eq_true', Bool.not_eq_false', decide_eq_true_eq, decide_eq_false_iff_not, beq_iff_eq, beq_eq_false_iff_ne, ne_eq, bne_iff_ne, Int.not_lt, Int.not_le] at h)) | (apply And.intro; focus (first | omega | (simp; done) | (simp +contextual; done) | (intros; and_intros <;> first | assumption | omega) | (intros; simp_all; done) | (intro hgd; refine ⟨hgd, ?_⟩; simp [hgd]; done) | (intro hgd; simp only [beq_eq_false_iff_ne, beq_iff_eq, decide_eq_true_eq, decide_eq_false_iff_not, bne_iff_ne, ne_eq, Bool.and_eq_true, Bool.or_eq_false_iff, Bool.or_eq_true, Bool.and_eq_false_iff] at hgd ⊢; omega))) | fail)
  rename_i b1 b2
  refine actsP_U (hc b2) (List.Perm.swap _ _ _) ?_
  rintro _ _ ⟨rfl, rfl⟩
  have hR : clR t p fd = chO t (clG fd p) := rfl
  rw [← hR]
  generalize clR t p fd = R at *
  obtain ⟨e, t'⟩ := R
  dsimp only
  rw [TbL_eq t']
  repeat' (first | (simp (disch := first | omega | (simp only [List.length_cons, List.length_nil]; first | done | omega)) only [go_sem, Nat.reduceAdd, Nat.reduceMul, Nat.reduceSub, Nat.reduceEqDiff, Nat.reduceLeDiff, Nat.reduceMod, Nat.reduceLT, Int.reduceToNat, Int.reduceAdd, Int.reduceSub, Int.reduceMul, Int.reduceNeg, Int.reduceLE, Int.reduceLT, Int.toNat_natCast, Int.cast_ofNat_Int, Int.reduceNe, Int.reduceEq, Int.reduceBEq, Int.reduceBNe, not_false_eq_true, ne_eq, Int.reduceTMod, Int.reduceTDiv, beq_self_eq_true, bne_self_eq_false, List.contains_cons, List.contains_nil, Nat.reduceBEq]) | (refine allI (fun b => ?_)) | (refine allT (fun τ => ?_)) | (refine brP (fun h => ?_) (fun h => ?_) <;> (try simp only [Bool.and_eq_true, Bool.and_eq_false_iff, Bool.or_eq_true, Bool.or_eq_false_iff, Bool.not_eq_true', Bool.not_eq_false', decide_eq_true_eq, decide_eq_false_iff_not, beq_iff_eq, beq_eq_false_iff_ne, ne_eq, bne_iff_ne, Int.not_lt, Int.not_le] at h)) | (apply And.intro; focus (first | omega | (simp; done) | (simp +contextual; done) | (intros; and_intros <;> first | assumption | omega) | (intros; simp_all; done) | (intro hgd; refine ⟨hgd, ?_⟩; simp [hgd]; done) | (intro hgd; simp only [beq_eq_false_iff_ne, beq_iff_eq, decide_eq_true_eq, decide_eq_false_iff_not, bne_iff_ne, ne_eq, Bool.and_eq_true, Bool.or_eq_false_iff, Bool.or_eq_true, Bool.and_eq_false_iff] at hgd ⊢; omega))) | fail)
/-- the least number that is not open, where the numbers ascend -/
def lfA : List De → Nat → Nat
  | [], k => k
  | x :: l, k => if x.fd = k then lfA l (k + 1) else k
theorem lfA_le : ∀ (l : List De) (k : Nat), k ≤ lfA l k ∧ lfA l k ≤ k + l.length
  | [], k => by simp [lfA]
  | x :: l, k => by
    have := lfA_le l (k + 1)
    simp only [lfA, List.length_cons]
    split <;> omega
theorem lfA_step {l : List De} {k : Nat} (h : k < l.length) : lfA (l.drop k) k = if (l.getD k de0).fd = k then lfA (l.drop (k + 1)) (k + 1) else k := by
  rw [List.drop_eq_getElem_cons h, lfA]
  simp [List.getD, h]
def opG (d i fl : Int) (p : Ps) : Int × Ps := if 8 ≤ p.op.length then (24, p) else (0, { p with op := p.op.take (lfA p.op 0) ++ ⟨lfA p.op 0, d, i, fl⟩ :: p.op.drop (lfA p.op 0) })
def opK (p : Ps) : Nat := if 8 ≤ p.op.length then 0 else lfA p.op 0
theorem op1 (d i fl : Int) (bf ba bg : Nat) (t : Tb) (p : Ps) (hp : p.op.length ≤ 1000) : ClO 55 [.ptr 11 bf 0, .ptr 6 ba 0, .ptr 7 bg 0] [(11, .blk bf [.int .i64 0]), (7, .blk bg [.int .i64 fl]), (6, .blk ba [.int .i64 d, .int .i64 i])] [(11, .blk bf [.int .i64 (opK p)]), (7, .blk bg [.int .i64 fl]), (6, .blk ba [.int .i64 d, .int .i64 i])] t p (opG d i fl p) := by
  intro bt b bo
  refine fn_viewT Try.func55 t55 Try.ntmps55 (by simp) ?_
  have hle := len_de p.op
  have hS : Sp (p.op.flatMap DeC) ((p.op.length - p.op.length) * 4) = p.op.flatMap DeC := by rw [Nat.sub_self, Nat.zero_mul]; simp [Sp]
  have hR : opG d i fl p = if 8 ≤ p.op.length then (24, p) else (0, { p with op := p.op.take (lfA p.op 0) ++ ⟨lfA p.op 0, d, i, fl⟩ :: p.op.drop (lfA p.op 0) }) := rfl
  have hK : opK p = if 8 ≤ p.op.length then 0 else lfA p.op 0 := rfl
  unfold c55 r55
  rw [ChO, hS, PsO_eq]
  simp only [List.cons_append, List.nil_append]
  repeat' (first | (simp (disch := first | omega | (simp only [List.length_cons, List.length_nil]; first | done | omega)) only [go_sem, Nat.reduceAdd, Nat.reduceMul, Nat.reduceSub, Nat.reduceEqDiff, Nat.reduceLeDiff, Nat.reduceMod, Nat.reduceLT, Int.reduceToNat, Int.reduceAdd, Int.reduceSub, Int.reduceMul, Int.reduceNeg, Int.reduceLE, Int.reduceLT, Int.toNat_natCast, Int.cast_ofNat_Int, Int.reduceNe, Int.reduceEq, Int.reduceBEq, Int.reduceBNe, not_false_eq_true, ne_eq, Int.reduceTMod, Int.reduceTDiv, beq_self_eq_true, bne_self_eq_false, List.contains_cons, List.contains_nil, Nat.reduceBEq]) | (refine allI (fun b => ?_)) | (refine allT (fun τ => ?_)) | (refine brP (fun h => ?_) (fun h => ?_) <;> (try simp only [Bool.and_eq_true, Bool.and_eq_false_iff, Bool.or_eq_true, Bool.or_eq_false_iff, Bool.not_eq_true', Bool.not_eq_false', decide_eq_true_eq, decide_eq_false_iff_not, beq_iff_eq, beq_eq_false_iff_ne, ne_eq, bne_iff_ne, Int.not_lt, Int.not_le] at h)) | (apply And.intro; focus (first | omega | (simp; done) | (simp +contextual; done) | (intros; and_intros <;> first | assumption | omega) | (intros; simp_all; done) | (intro hgd; refine ⟨hgd, ?_⟩; simp [hgd]; done) | (intro hgd; simp only [beq_eq_false_iff_ne, beq_iff_eq, decide_eq_true_eq, decide_eq_false_iff_not, bne_iff_ne, ne_eq, Bool.and_eq_true, Bool.or_eq_false_iff, Bool.or_eq_true, Bool.and_eq_false_iff] at hgd ⊢; omega))) | fail)
  · rw [hR, hK, if_pos (by omega), if_pos (by omega)]
    have := clE (e := 24) (t := t) (p := p) (bt := bt) (b := b) (bo := bo) (c := p.op.length) (Hc := [(11, .blk bf [.int .i64 (0 : Nat)]), (7, .blk bg [.int .i64 fl]), (6, .blk ba [.int .i64 d, .int .i64 i])]) (Nat.le_refl _)
    rw [ChO, hS] at this
    exact this
  · rw [if_neg (by omega)] at hR hK
    refine loopI (ι := Nat) (fun k => k ≤ p.op.length ∧ lfA p.op 0 = lfA (p.op.drop k) k) (fun k => [(0, .ptr 3 bt 0), (1, .ptr 6000 b 0), (2, .ptr 11 bf 0), (3, .ptr 6 ba 0), (4, .ptr 7 bg 0)])
      (fun k => [(3, .blk bt [.int .i64 t.nx, .int .i64 t.ns, .msl 6000 14 b 0 1 1]), (6000, .blk b (PsO p (.msl 6001 4 bo 0 p.op.length p.op.length))), (6001, .blk bo (p.op.flatMap DeC)), (11, .blk bf [.int .i64 (k : Nat)]), (7, .blk bg [.int .i64 fl]), (6, .blk ba [.int .i64 d, .int .i64 i])]) (fun k => p.op.length - k) 0 ⟨by omega, by simp⟩ (Ents.envH (by simp [go_sem]) rfl) ?_
    rintro k ⟨hk, hl⟩
    rw [PsO_eq]
    rcases Nat.lt_or_ge k p.op.length with hlt | hge
    · have d1 : decide ((k : Int) < p.op.length) = true := by simp; omega
      have e3 : (p.op.flatMap DeC).getD (k * 4) .any = .int .i64 (p.op.getD k de0).fd := by
        rw [← Nat.add_zero (k * 4), getD_rows (f := DeC) (w := 4) (fun _ => rfl) (by omega) de0 _ _ hlt]; rfl
      have hst := lfA_step hlt
      generalize p.op.getD k de0 = q at *
      repeat' (first | (simp (disch := first | omega | (simp only [List.length_cons, List.length_nil]; first | done | omega)) only [go_sem, Nat.reduceAdd, Nat.reduceMul, Nat.reduceSub, Nat.reduceEqDiff, Nat.reduceLeDiff, Nat.reduceMod, Nat.reduceLT, Int.reduceToNat, Int.reduceAdd, Int.reduceSub, Int.reduceMul, Int.reduceNeg, Int.reduceLE, Int.reduceLT, Int.toNat_natCast, Int.cast_ofNat_Int, Int.reduceNe, Int.reduceEq, Int.reduceBEq, Int.reduceBNe, not_false_eq_true, ne_eq, Int.reduceTMod, Int.reduceTDiv, beq_self_eq_true, bne_self_eq_false, List.contains_cons, List.contains_nil, Nat.reduceBEq, d1, e3, zDe]) | (refine allI (fun b => ?_)) | (refine allT (fun τ => ?_)) | (refine brP (fun h => ?_) (fun h => ?_) <;> (try simp only [Bool.and_eq_true, Bool.and_eq_false_iff, Bool.or_eq_true, Bool.or_eq_false_iff, Bool.not_eq_true', Bool.not_eq_false', decide_eq_true_eq, decide_eq_false_iff_not, beq_iff_eq, beq_eq_false_iff_ne, ne_eq, bne_iff_ne, Int.not_lt, Int.not_le] at h)) | (apply And.intro; focus (first | omega | (simp; done) | (simp +contextual; done) | (intros; and_intros <;> first | assumption | omega) | (intros; simp_all; done) | (intro hgd; refine ⟨hgd, ?_⟩; simp [hgd]; done) | (intro hgd; simp only [beq_eq_false_iff_ne, beq_iff_eq, decide_eq_true_eq, decide_eq_false_iff_not, bne_iff_ne, ne_eq, Bool.and_eq_true, Bool.or_eq_false_iff, Bool.or_eq_true, Bool.and_eq_false_iff] at hgd ⊢; omega))) | fail)
      · refine ⟨⟨k + 1, by omega, by rw [hl, hst, if_pos (by assumption)]⟩, by dsimp only; omega, Ents.envH (by simp [go_sem]) (by simp)⟩
      · have hz : lfA p.op 0 = k := by rw [hl, hst, if_neg (by assumption)]
        have hi := ins bo k p.op ⟨k, d, i, fl⟩ (by omega) hp
        rw [DeC_eq] at hi
        refine actsE_of hi rfl ?_
        rintro _ _ ⟨b2, c2, hc, rfl, rfl⟩
        repeat' (first | (simp (disch := first | omega | (simp only [List.length_cons, List.length_nil]; first | done | omega)) only [go_sem, Nat.reduceAdd, Nat.reduceMul, Nat.reduceSub, Nat.reduceEqDiff, Nat.reduceLeDiff, Nat.reduceMod, Nat.reduceLT, Int.reduceToNat, Int.reduceAdd, Int.reduceSub, Int.reduceMul, Int.reduceNeg, Int.reduceLE, Int.reduceLT, Int.toNat_natCast, Int.cast_ofNat_Int, Int.reduceNe, Int.reduceEq, Int.reduceBEq, Int.reduceBNe, not_false_eq_true, ne_eq, Int.reduceTMod, Int.reduceTDiv, beq_self_eq_true, bne_self_eq_false, List.contains_cons, List.contains_nil, Nat.reduceBEq]) | (refine allI (fun b => ?_)) | (refine allT (fun τ => ?_)) | (refine brP (fun h => ?_) (fun h => ?_) <;> (try simp only [Bool.and_eq_true, Bool.and_eq_false_iff, Bool.or_eq_true, Bool.or_eq_false_iff, Bool.not_eq_true', Bool.not_eq_false', decide_eq_true_eq, decide_eq_false_iff_not, beq_iff_eq, beq_eq_false_iff_ne, ne_eq, bne_iff_ne, Int.not_lt, Int.not_le] at h)) | (apply And.intro; focus (first | omega | (simp; done) | (simp +contextual; done) | (intros; and_intros <;> first | assumption | omega) | (intros; simp_all; done) | (intro hgd; refine ⟨hgd, ?_⟩; simp [hgd]; done) | (intro hgd; simp only [beq_eq_false_iff_ne, beq_iff_eq, decide_eq_true_eq, decide_eq_false_iff_not, bne_iff_ne, ne_eq, Bool.and_eq_true, Bool.or_eq_false_iff, Bool.or_eq_true, Bool.and_eq_false_iff] at hgd ⊢; omega))) | fail)
        rw [hR, hK, hz]
        have hL : (p.op.take k ++ (⟨k, d, i, fl⟩ : De) :: p.op.drop k).length = p.op.length + 1 := by simp; omega
        refine ⟨_, _, leVH.of (leV.refl _) ⟨_, List.Sublist.refl _, List.Perm.refl _⟩, b2, c2, ?_, rfl, ?_⟩
        · dsimp only; omega
        · rw [ChO]; dsimp only; rw [hL]; rfl
    · have d1 : decide ((k : Int) < p.op.length) = false := by simp; omega
      have e3 : (p.op.flatMap DeC).getD (k * 4) .any = .any := by
        rw [List.getD_eq_getElem?_getD, List.getElem?_eq_none (by omega)]; rfl
      repeat' (first | (simp (disch := first | omega | (simp only [List.length_cons, List.length_nil]; first | done | omega)) only [go_sem, Nat.reduceAdd, Nat.reduceMul, Nat.reduceSub, Nat.reduceEqDiff, Nat.reduceLeDiff, Nat.reduceMod, Nat.reduceLT, Int.reduceToNat, Int.reduceAdd, Int.reduceSub, Int.reduceMul, Int.reduceNeg, Int.reduceLE, Int.reduceLT, Int.toNat_natCast, Int.cast_ofNat_Int, Int.reduceNe, Int.reduceEq, Int.reduceBEq, Int.reduceBNe, not_false_eq_true, ne_eq, Int.reduceTMod, Int.reduceTDiv, beq_self_eq_true, bne_self_eq_false, List.contains_cons, List.contains_nil, Nat.reduceBEq, d1, e3, zDe, bin_anyL, pick_0a0]) | (refine allI (fun b => ?_)) | (refine allT (fun τ => ?_)) | (refine brP (fun h => ?_) (fun h => ?_) <;> (try simp only [Bool.and_eq_true, Bool.and_eq_false_iff, Bool.or_eq_true, Bool.or_eq_false_iff, Bool.not_eq_true', Bool.not_eq_false', decide_eq_true_eq, decide_eq_false_iff_not, beq_iff_eq, beq_eq_false_iff_ne, ne_eq, bne_iff_ne, Int.not_lt, Int.not_le] at h)) | (apply And.intro; focus (first | omega | (simp; done) | (simp +contextual; done) | (intros; and_intros <;> first | assumption | omega) | (intros; simp_all; done) | (intro hgd; refine ⟨hgd, ?_⟩; simp [hgd]; done) | (intro hgd; simp only [beq_eq_false_iff_ne, beq_iff_eq, decide_eq_true_eq, decide_eq_false_iff_not, bne_iff_ne, ne_eq, Bool.and_eq_true, Bool.or_eq_false_iff, Bool.or_eq_true, Bool.and_eq_false_iff] at hgd ⊢; omega))) | fail)
      have hz : lfA p.op 0 = k := by
        obtain rfl : k = p.op.length := by omega
        rw [hl, List.drop_length]; rfl
      have hi := ins bo k p.op ⟨k, d, i, fl⟩ (by omega) hp
      rw [DeC_eq] at hi
      refine actsE_of hi rfl ?_
      rintro _ _ ⟨b2, c2, hc, rfl, rfl⟩
      repeat' (first | (simp (disch := first | omega | (simp only [List.length_cons, List.length_nil]; first | done | omega)) only [go_sem, Nat.reduceAdd, Nat.reduceMul, Nat.reduceSub, Nat.reduceEqDiff, Nat.reduceLeDiff, Nat.reduceMod, Nat.reduceLT, Int.reduceToNat, Int.reduceAdd, Int.reduceSub, Int.reduceMul, Int.reduceNeg, Int.reduceLE, Int.reduceLT, Int.toNat_natCast, Int.cast_ofNat_Int, Int.reduceNe, Int.reduceEq, Int.reduceBEq, Int.reduceBNe, not_false_eq_true, ne_eq, Int.reduceTMod, Int.reduceTDiv, beq_self_eq_true, bne_self_eq_false, List.contains_cons, List.contains_nil, Nat.reduceBEq]) | (refine allI (fun b => ?_)) | (refine allT (fun τ => ?_)) | (refine brP (fun h => ?_) (fun h => ?_) <;> (try simp only [Bool.and_eq_true, Bool.and_eq_false_iff, Bool.or_eq_true, Bool.or_eq_false_iff, Bool.not_eq_true', Bool.not_eq_false', decide_eq_true_eq, decide_eq_false_iff_not, beq_iff_eq, beq_eq_false_iff_ne, ne_eq, bne_iff_ne, Int.not_lt, Int.not_le] at h)) | (apply And.intro; focus (first | omega | (simp; done) | (simp +contextual; done) | (intros; and_intros <;> first | assumption | omega) | (intros; simp_all; done) | (intro hgd; refine ⟨hgd, ?_⟩; simp [hgd]; done) | (intro hgd; simp only [beq_eq_false_iff_ne, beq_iff_eq, decide_eq_true_eq, decide_eq_false_iff_not, bne_iff_ne, ne_eq, Bool.and_eq_true, Bool.or_eq_false_iff, Bool.or_eq_true, Bool.and_eq_false_iff] at hgd ⊢; omega))) | fail)
      rw [hR, hK, hz]
      have hL : (p.op.take k ++ (⟨k, d, i, fl⟩ : De) :: p.op.drop k).length = p.op.length + 1 := by simp; omega
      refine ⟨_, _, leVH.of (leV.refl _) ⟨_, List.Sublist.refl _, List.Perm.refl _⟩, b2, c2, ?_, rfl, ?_⟩
      · dsimp only; omega
      · rw [ChO]; dsimp only; rw [hL]; rfl
def opR (t : Tb) (p : Ps) (d i fl : Int) : Int × Tb := chO t (opG d i fl p)
theorem op (t : Tb) (p : Ps) (ht : t.ps = [p]) (hp : p.op.length ≤ 1000) (d i fl : Int) : Pure Try.prog gl 29 [TbL t, .int .i64 p.pid, .agg [.int .i64 d, .int .i64 i], .int .i64 fl] (.tup [TbL (opR t p d i fl).2, .int .i64 (if (opR t p d i fl).1 = 0 then (opK p : Int) else 0), .int .i64 (opR t p d i fl).1]) := by
  refine fn_pureT Try.func29 t29 Try.ntmps29 (by simp) ?_
  have hc := fun bf ba bg => changeO t p ht hp 55 [.ptr 11 bf 0, .ptr 6 ba 0, .ptr 7 bg 0] [(11, _), (7, _), (6, _)] [(11, _), (7, _), (6, _)] (opG d i fl p) (by kernel_rfl) (op1 d i fl bf ba bg t p hp)
  unfold c29 r29
  rw [TbL_eq t] at *
  repeat' (first | (simp (disch := first | omega | (simp only [List.length_cons, List.length_nil]; first | done | omega)) only [go_sem, Nat.reduceAdd, Nat.reduceMul, Nat.reduceSub, Nat.reduceEqDiff, Nat.reduceLeDiff, Nat.reduceMod, Nat.reduceLT, Int.reduceToNat, Int.reduceAdd, Int.reduceSub, Int.reduceMul, Int.reduceNeg, Int.reduceLE, Int.reduceLT, Int.toNat_natCast, Int.cast_ofNat_Int, Int.reduceNe, Int.reduceEq, Int.reduceBEq, Int.reduceBNe, not_false_eq_true, ne_eq, Int.reduceTMod, Int.reduceTDiv, beq_self_eq_true, bne_self_eq_false, List.contains_cons, List.contains_nil, Nat.reduceBEq]) | (refine allI (fun b => ?_)) | (refine allT (fun τ => ?_)) | (refine brP (fun h => ?_) (fun h => ?_) <;> (try simp only [Bool.and_eq_true, Bool.and_eq_false_iff, Bool.or_eq_true, Bool.or_eq_false_iff, Bool.not_eq_true', Bool.not_eq_false', decide_eq_true_eq, decide_eq_false_iff_not, beq_iff_eq, beq_eq_false_iff_ne, ne_eq, bne_iff_ne, Int.not_lt, Int.not_le] at h)) | (apply And.intro; focus (first | omega | (simp; done) | (simp +contextual; done) | (intros; and_intros <;> first | assumption | omega) | (intros; simp_all; done) | (intro hgd; refine ⟨hgd, ?_⟩; simp [hgd]; done) | (intro hgd; simp only [beq_eq_false_iff_ne, beq_iff_eq, decide_eq_true_eq, decide_eq_false_iff_not, bne_iff_ne, ne_eq, Bool.and_eq_true, Bool.or_eq_false_iff, Bool.or_eq_true, Bool.and_eq_false_iff] at hgd ⊢; omega))) | fail)
  rename_i b1 b2 b3 b4
  refine actsP_U (H2 := [(8, _), (4, _)]) (hc b b2 b3) (pick_perm rfl (pick_perm rfl (pick_perm rfl (List.Perm.refl _)))) ?_
  rintro _ _ ⟨rfl, rfl⟩
  have hR : opR t p d i fl = chO t (opG d i fl p) := rfl
  have hz : (opR t p d i fl).1 ≠ 0 → (opR t p d i fl).2 = tb0 := fun h => by
    rw [hR] at h ⊢
    unfold chO at h ⊢
    split
    · rfl
    · rename_i h2
      rw [if_neg h2] at h
      exact absurd rfl h
  rw [← hR]
  generalize opR t p d i fl = R at *
  obtain ⟨e, t'⟩ := R
  dsimp only
  rw [TbL_eq t']
  repeat' (first | (simp (disch := first | omega | (simp only [List.length_cons, List.length_nil]; first | done | omega)) only [go_sem, Nat.reduceAdd, Nat.reduceMul, Nat.reduceSub, Nat.reduceEqDiff, Nat.reduceLeDiff, Nat.reduceMod, Nat.reduceLT, Int.reduceToNat, Int.reduceAdd, Int.reduceSub, Int.reduceMul, Int.reduceNeg, Int.reduceLE, Int.reduceLT, Int.toNat_natCast, Int.cast_ofNat_Int, Int.reduceNe, Int.reduceEq, Int.reduceBEq, Int.reduceBNe, not_false_eq_true, ne_eq, Int.reduceTMod, Int.reduceTDiv, beq_self_eq_true, bne_self_eq_false, List.contains_cons, List.contains_nil, Nat.reduceBEq]) | (refine allI (fun b => ?_)) | (refine allT (fun τ => ?_)) | (refine brP (fun h => ?_) (fun h => ?_) <;> (try simp only [Bool.and_eq_true, Bool.and_eq_false_iff, Bool.or_eq_true, Bool.or_eq_false_iff, Bool.not_eq_true', Bool.not_eq_false', decide_eq_true_eq, decide_eq_false_iff_not, beq_iff_eq, beq_eq_false_iff_ne, ne_eq, bne_iff_ne, Int.not_lt, Int.not_le] at h)) | (apply And.intro; focus (first | omega | (simp; done) | (simp +contextual; done) | (intros; and_intros <;> first | assumption | omega) | (intros; simp_all; done) | (intro hgd; refine ⟨hgd, ?_⟩; simp [hgd]; done) | (intro hgd; simp only [beq_eq_false_iff_ne, beq_iff_eq, decide_eq_true_eq, decide_eq_false_iff_not, bne_iff_ne, ne_eq, Bool.and_eq_true, Bool.or_eq_false_iff, Bool.or_eq_true, Bool.and_eq_false_iff] at hgd ⊢; omega))) | fail)
  · have h0 := hz h
    dsimp only at h0
    subst h0
    rw [if_neg h]
    exact leV.tup ⟨tb0_le, leV.refl _, leV.refl _, trivial⟩
  · have h0 : e = 0 := by simpa using h
    subst h0
    exact leV.refl _
end Go.Proofs.Ytkdblnejpmbnfaa
