/- Layer 9: open files of one process: slices.Insert, slices.Delete, slices.IndexFunc on a slice that is owned. -/
import Derived.Test.YtkdblnejpmbnfaaPn
import Derived.Test.YtkdblnejpmbnfaaLxV
namespace Go.Proofs.Ytkdblnejpmbnfaa
open Go Go.Lx
set_option linter.unusedSimpArgs false
set_option linter.unusedVariables false
set_option maxRecDepth 100000
set_option maxHeartbeats 4000000

theorem leVH.ren {x r : LV} {H : Heap} {i : Nat} (j : Nat) {e : Ent} (h : leV x r) (hs : [(i, e)].Sublist H) : leVH gl x H r [(j, e)] := fun _ M HF _ v hI hv =>
  ⟨M, MLe.refl M, h M v hv, (hI.sub (hs.append_right HF)).names (by simp)⟩
theorem ins_eq {P Z R X Y : List LV} {p q : Nat} (hp : P.length = p) (hz : Z.length = X.length + Y.length) (hq : q = p + X.length) : List.take q (List.take p (P ++ Z ++ R) ++ X ++ List.drop (p + X.length) (P ++ Z ++ R)) ++ Y ++ List.drop (q + Y.length) (List.take p (P ++ Z ++ R) ++ X ++ List.drop (p + X.length) (P ++ Z ++ R)) = P ++ X ++ Y ++ R := by
  subst hp; subst hq
  have h1 : List.take P.length (P ++ Z ++ R) = P := by simp
  have h2 : List.drop (P.length + X.length) (P ++ Z ++ R) = List.drop X.length Z ++ R := by
    rw [List.append_assoc, ← List.drop_drop, List.drop_left, List.drop_append_of_le_length (by omega)]
  have h3 : (List.drop X.length Z).length = Y.length := by rw [List.length_drop, hz]; omega
  rw [h1, h2]
  have h4 : List.take (P.length + X.length) (P ++ X ++ (List.drop X.length Z ++ R)) = P ++ X := List.take_left' (by simp)
  have h5 : List.drop (P.length + X.length + Y.length) (P ++ X ++ (List.drop X.length Z ++ R)) = R := by
    rw [← List.append_assoc]
    exact List.drop_left' (by simp [h3]; omega)
  rw [h4, h5]
theorem drop_rows (l : List De) (i : Nat) : (l.drop i).flatMap DeC = (l.flatMap DeC).drop (i * 4) := by
  induction l generalizing i with
  | nil => simp
  | cons a l ih =>
    cases i with
    | zero => simp
    | succ i =>
      have h : (DeC a).length = 4 := rfl
      rw [List.drop_succ_cons, ih, List.flatMap_cons, List.drop_append, List.drop_eq_nil_of_le (show (DeC a).length ≤ (i + 1) * 4 by omega), h, show (i + 1) * 4 - 4 = i * 4 by omega, List.nil_append]
theorem take_rowsN (l : List De) (i : Nat) : (l.flatMap DeC).take (i * 4) = (l.take i).flatMap DeC := by
  induction l generalizing i with
  | nil => simp
  | cons a l ih =>
    cases i with
    | zero => simp
    | succ i =>
      have h : (DeC a).length = 4 := rfl
      rw [List.take_succ_cons, List.flatMap_cons, List.flatMap_cons, ← ih, List.take_append, List.take_of_length_le (show (DeC a).length ≤ (i + 1) * 4 by omega), h, show (i + 1) * 4 - 4 = i * 4 by omega]
theorem ins (b i : Nat) (l : List De) (x : De) (hi : i ≤ l.length) (hl : l.length ≤ 1000) : ActsE Try.prog gl 56 [.msl 6001 4 b 0 l.length l.length, .int .i64 i, .fsl 4 1 (DeC x)] 6001 (.blk b (l.flatMap DeC)) fun r e => ∃ b2 c2, l.length + 1 ≤ c2 ∧ r = .msl 6001 4 b2 0 (l.length + 1) c2 ∧ e = .blk b2 (Sp ((l.take i ++ x :: l.drop i).flatMap DeC) ((c2 - (l.length + 1)) * 4)) := by
  refine fn_viewT Try.func56 t56 Try.ntmps56 (by simp) ?_
  have hle := len_de l
  unfold c56 r56
  have hX : [LV.int .i64 x.fd, LV.int .i64 x.d, LV.int .i64 x.i, LV.int .i64 x.fl] = DeC x := rfl
  rw [DeC_eq]
  repeat' (first | (simp (disch := first | omega | (simp only [List.length_cons, List.length_nil]; first | done | omega)) only [go_sem, Nat.reduceAdd, Nat.reduceMul, Nat.reduceSub, Nat.reduceEqDiff, Nat.reduceLeDiff, Nat.reduceMod, Nat.reduceLT, Int.reduceToNat, Int.reduceAdd, Int.reduceSub, Int.reduceMul, Int.reduceNeg, Int.reduceLE, Int.reduceLT, Int.toNat_natCast, Int.cast_ofNat_Int, Int.reduceNe, Int.reduceEq, Int.reduceBEq, Int.reduceBNe, not_false_eq_true, ne_eq, Int.reduceTMod, Int.reduceTDiv, beq_self_eq_true, bne_self_eq_false, List.contains_cons, List.contains_nil, Nat.reduceBEq]) | (refine allI (fun b => ?_)) | (refine allT (fun τ => ?_)) | (refine brP (fun h => ?_) (fun h => ?_) <;> (try simp only [Bool.and_eq_true, Bool.and_eq_false_iff, Bool.or_eq_true, Bool.or_eq_false_iff, Bool.not_eq_true', Bool.not_eq_false', decide_eq_true_eq, decide_eq_false_iff_not, beq_iff_eq, beq_eq_false_iff_ne, ne_eq, bne_iff_ne, Int.not_lt, Int.not_le] at h)) | (apply And.intro; focus (first | omega | (simp; done) | (simp +contextual; done) | (intros; and_intros <;> first | assumption | omega) | (intros; simp_all; done) | (intro hgd; refine ⟨hgd, ?_⟩; simp [hgd]; done) | (intro hgd; simp only [beq_eq_false_iff_ne, beq_iff_eq, decide_eq_true_eq, decide_eq_false_iff_not, bne_iff_ne, ne_eq, Bool.and_eq_true, Bool.or_eq_false_iff, Bool.or_eq_true, Bool.and_eq_false_iff] at hgd ⊢; omega))) | fail)
  · obtain rfl : i = l.length := by omega
    refine .inl ⟨by omega, by omega, by simp only [roomy]; omega, fun b2 c2 hc => ⟨_, _, leVH.self _ _, _, rfl, b2, c2, hc, rfl, ?_⟩⟩
    rw [List.take_length, List.drop_length, List.take_of_length_le (by omega), hX]
    simp [Sp]
  · have hlt : i < l.length := by omega
    have z1 : ((l.length : Int) + 1 - i).toNat = l.length + 1 - i := by omega
    have z2 : ((i : Int) + 1).toNat = i + 1 := by omega
    have z3 : i + (l.length + 1 - i) = l.length + 1 := by omega
    have z4 : ¬ l.length = i := by omega
    have z5 : min 1 (l.length + 1 - i) = 1 := by omega
    simp only [Nat.sub_zero, z1, z2, z3, if_neg z4, z5, ite_self]
    refine .inr ?_
    refine ⟨?_, fun b2 c2 hc => ?_⟩
    · exact ⟨trivial, by omega, by omega, by simp only [roomy]; omega⟩
    have z6 : ¬ c2 = i := by omega
    have z7 : ¬ c2 = i + 1 := by omega
    have z8 : l.length + 1 - (i + 1) = l.length - i := by omega
    simp only [if_neg z6, if_neg z7, z8, Nat.min_self]
    have hX4 : List.take (1 * 4) [LV.int .i64 x.fd, LV.int .i64 x.d, LV.int .i64 x.i, LV.int .i64 x.fl] = DeC x := rfl
    have hY : List.take ((l.length - i) * 4) (List.take ((l.length - i) * 4) (List.drop (i * 4) (l.flatMap DeC))) = (l.drop i).flatMap DeC := by
      rw [List.take_take, Nat.min_self, List.take_of_length_le (by rw [List.length_drop, hle]; omega), ← drop_rows]
    have hP : List.take (i * 4) (l.flatMap DeC) = (l.take i).flatMap DeC := by rw [take_rowsN]
    have hPl : ((l.take i).flatMap DeC).length = i * 4 := by rw [len_de, List.length_take, Nat.min_eq_left hi]
    have hYl : ((l.drop i).flatMap DeC).length = (l.length - i) * 4 := by rw [len_de, List.length_drop]
    have hZl : (zeros [LV.int .i64 0, LV.int .i64 0, LV.int .i64 0, LV.int .i64 0] ((l.length + 1 - i) * 4)).length = (DeC x).length + ((l.drop i).flatMap DeC).length := by
      rw [hYl, show (DeC x).length = 4 from rfl]
      simp only [zeros, List.length_map, List.length_range]
      omega
    have hXl : (DeC x).length = 4 := rfl
    rw [hX4, hP, hY]
    generalize zeros [LV.int .i64 0, LV.int .i64 0, LV.int .i64 0, LV.int .i64 0] ((l.length + 1 - i) * 4) = Z at *
    have hE := ins_eq (P := (l.take i).flatMap DeC) (Z := Z) (R := List.replicate ((c2 - (l.length + 1)) * 4) LV.any) (X := DeC x) (Y := (l.drop i).flatMap DeC) (p := i * 4) (q := (i + 1) * 4) hPl hZl (by rw [hXl]; omega)
    rw [hE]
    refine ⟨by omega, ?_, by omega, by omega, by omega, ?_, ?_⟩
    · simp only [List.length_append, List.length_replicate, hPl, hZl, hXl, hYl]
      omega
    · simp only [List.length_append, List.length_replicate, List.length_take, List.length_drop, hPl, hZl, hXl, hYl]
      omega
    · refine ⟨_, _, leVH.ren 6001 (leV.msl_name _ 6001 _ _ _ _ _) sub1, _, rfl, b2, c2, hc, rfl, ?_⟩
      rw [Sp, List.flatMap_append, List.flatMap_cons]
      simp only [List.append_assoc]
  · omega
/-- the test of a closure -/
theorem cl11 (x : De) (b : Nat) (fd : Int) : Acts Try.prog gl 53 [.agg (DeC x), .ptr 5 b 0] [(5, .blk b [.int .i64 fd])] (.bool (x.fd == fd)) [(5, .blk b [.int .i64 fd])] := by
  refine fn_actsT Try.func53 t53 Try.ntmps53 (by simp) ?_
  unfold c53 r53
  rw [DeC_eq]
  repeat' (first | (simp (disch := first | omega | (simp only [List.length_cons, List.length_nil]; first | done | omega)) only [go_sem, Nat.reduceAdd, Nat.reduceMul, Nat.reduceSub, Nat.reduceEqDiff, Nat.reduceLeDiff, Nat.reduceMod, Nat.reduceLT, Int.reduceToNat, Int.reduceAdd, Int.reduceSub, Int.reduceMul, Int.reduceNeg, Int.reduceLE, Int.reduceLT, Int.toNat_natCast, Int.cast_ofNat_Int, Int.reduceNe, Int.reduceEq, Int.reduceBEq, Int.reduceBNe, not_false_eq_true, ne_eq, Int.reduceTMod, Int.reduceTDiv, beq_self_eq_true, bne_self_eq_false, List.contains_cons, List.contains_nil, Nat.reduceBEq]) | (refine allI (fun b => ?_)) | (refine allT (fun τ => ?_)) | (refine brP (fun h => ?_) (fun h => ?_) <;> (try simp only [Bool.and_eq_true, Bool.and_eq_false_iff, Bool.or_eq_true, Bool.or_eq_false_iff, Bool.not_eq_true', Bool.not_eq_false', decide_eq_true_eq, decide_eq_false_iff_not, beq_iff_eq, beq_eq_false_iff_ne, ne_eq, bne_iff_ne, Int.not_lt, Int.not_le] at h)) | (apply And.intro; focus (first | omega | (simp; done) | (simp +contextual; done) | (intros; and_intros <;> first | assumption | omega) | (intros; simp_all; done) | (intro hgd; refine ⟨hgd, ?_⟩; simp [hgd]; done) | (intro hgd; simp only [beq_eq_false_iff_ne, beq_iff_eq, decide_eq_true_eq, decide_eq_false_iff_not, bne_iff_ne, ne_eq, Bool.and_eq_true, Bool.or_eq_false_iff, Bool.or_eq_true, Bool.and_eq_false_iff] at hgd ⊢; omega))) | fail)
  exact acts_end (leV.refl _) (by simp)
def fdP (l : List De) (fd : Int) (i : Nat) : Bool := (l.getD i de0).fd == fd
def fdI (l : List De) (fd : Int) : Int := firstI l.length (fdP l fd)
theorem idxd (l : List De) (b bo c : Nat) (fd : Int) (hl : l.length ≤ 1000) : LCalls Try.prog gl 52 [.msl 6001 4 bo 0 l.length c, .clo 53 [.ptr 5 b 0]] [(6001, .blk bo (Sp (l.flatMap DeC) ((c - l.length) * 4))), (5, .blk b [.int .i64 fd])] fun r H => r = .int .i64 (fdI l fd) ∧ H = [(6001, .blk bo (Sp (l.flatMap DeC) ((c - l.length) * 4))), (5, .blk b [.int .i64 fd])] := by
  refine fn_viewT Try.func52 t52 Try.ntmps52 (by simp) ?_
  have hle := len_de l
  have hs := length_Sp (l.flatMap DeC) ((c - l.length) * 4)
  unfold c52 r52
  simp (disch := first | omega | (simp only [List.length_cons, List.length_nil]; first | done | omega)) only [go_sem, Nat.reduceAdd, Nat.reduceMul, Nat.reduceSub, Nat.reduceEqDiff, Nat.reduceLeDiff, Nat.reduceMod, Nat.reduceLT, Int.reduceToNat, Int.reduceAdd, Int.reduceSub, Int.reduceMul, Int.reduceNeg, Int.reduceLE, Int.reduceLT, Int.toNat_natCast, Int.cast_ofNat_Int, Int.reduceNe, Int.reduceEq, Int.reduceBEq, Int.reduceBNe, not_false_eq_true, ne_eq, Int.reduceTMod, Int.reduceTDiv, beq_self_eq_true, bne_self_eq_false, List.contains_cons, List.contains_nil, Nat.reduceBEq]
  refine loopI (ι := Nat) (fun i => i ≤ l.length ∧ ∀ j, j < i → fdP l fd j = false) (fun i => (8, .int .i64 i) :: _) (fun _ => _) (fun i => l.length - i) 0 ⟨by omega, fun j hj => absurd hj (by omega)⟩ Ents.same ?_
  intro i hi
  have hiB := hi.1
  simp (disch := first | omega | (simp only [List.length_cons, List.length_nil]; first | done | omega)) only [go_sem, Nat.reduceAdd, Nat.reduceMul, Nat.reduceSub, Nat.reduceEqDiff, Nat.reduceLeDiff, Nat.reduceMod, Nat.reduceLT, Int.reduceToNat, Int.reduceAdd, Int.reduceSub, Int.reduceMul, Int.reduceNeg, Int.reduceLE, Int.reduceLT, Int.toNat_natCast, Int.cast_ofNat_Int, Int.reduceNe, Int.reduceEq, Int.reduceBEq, Int.reduceBNe, not_false_eq_true, ne_eq, Int.reduceTMod, Int.reduceTDiv, beq_self_eq_true, bne_self_eq_false, List.contains_cons, List.contains_nil, Nat.reduceBEq]
  refine brP (fun hb => ?_) (fun hb => ?_)
  · have hlt : i < l.length := by simpa using hb
    have e2 : ((Sp (l.flatMap DeC) ((c - l.length) * 4)).drop (i * 4)).take 4 = DeC (l.getD i de0) := by
      rw [← take_rows (f := DeC) (w := 4) (fun _ => rfl) de0 l hlt, Sp, List.drop_append_of_le_length (by omega), List.take_append_of_le_length (by rw [List.length_drop]; omega)]
    have hf : fdP l fd i = ((l.getD i de0).fd == fd) := rfl
    have ha := cl11 (l.getD i de0) b fd
    generalize l.getD i de0 = p at *
    repeat' (first | (simp (disch := first | omega | (simp only [List.length_cons, List.length_nil]; first | done | omega)) only [go_sem, Nat.reduceAdd, Nat.reduceMul, Nat.reduceSub, Nat.reduceEqDiff, Nat.reduceLeDiff, Nat.reduceMod, Nat.reduceLT, Int.reduceToNat, Int.reduceAdd, Int.reduceSub, Int.reduceMul, Int.reduceNeg, Int.reduceLE, Int.reduceLT, Int.toNat_natCast, Int.cast_ofNat_Int, Int.reduceNe, Int.reduceEq, Int.reduceBEq, Int.reduceBNe, not_false_eq_true, ne_eq, Int.reduceTMod, Int.reduceTDiv, beq_self_eq_true, bne_self_eq_false, List.contains_cons, List.contains_nil, Nat.reduceBEq, e2]) | (refine allI (fun b => ?_)) | (refine allT (fun τ => ?_)) | (refine brP (fun h => ?_) (fun h => ?_) <;> (try simp only [Bool.and_eq_true, Bool.and_eq_false_iff, Bool.or_eq_true, Bool.or_eq_false_iff, Bool.not_eq_true', Bool.not_eq_false', decide_eq_true_eq, decide_eq_false_iff_not, beq_iff_eq, beq_eq_false_iff_ne, ne_eq, bne_iff_ne, Int.not_lt, Int.not_le] at h)) | (apply And.intro; focus (first | omega | (simp; done) | (simp +contextual; done) | (intros; and_intros <;> first | assumption | omega) | (intros; simp_all; done) | (intro hgd; refine ⟨hgd, ?_⟩; simp [hgd]; done) | (intro hgd; simp only [beq_eq_false_iff_ne, beq_iff_eq, decide_eq_true_eq, decide_eq_false_iff_not, bne_iff_ne, ne_eq, Bool.and_eq_true, Bool.or_eq_false_iff, Bool.or_eq_true, Bool.and_eq_false_iff] at hgd ⊢; omega))) | fail)
    refine ⟨by kernel_rfl, ?_⟩
    first | refine acts_U (ha) (by simp (disch := first | omega | (simp only [List.length_cons, List.length_nil]; first | done | omega)) only [go_sem, Nat.reduceAdd, Nat.reduceMul, Nat.reduceSub, Nat.reduceEqDiff, Nat.reduceLeDiff, Nat.reduceMod, Nat.reduceLT, Int.reduceToNat, Int.reduceAdd, Int.reduceSub, Int.reduceMul, Int.reduceNeg, Int.reduceLE, Int.reduceLT, Int.toNat_natCast, Int.cast_ofNat_Int, Int.reduceNe, Int.reduceEq, Int.reduceBEq, Int.reduceBNe, not_false_eq_true, ne_eq, Int.reduceTMod, Int.reduceTDiv, beq_self_eq_true, bne_self_eq_false, List.contains_cons, List.contains_nil, Nat.reduceBEq]) ?_ | refine acts_T (ha) (by simp (disch := first | omega | (simp only [List.length_cons, List.length_nil]; first | done | omega)) only [go_sem, Nat.reduceAdd, Nat.reduceMul, Nat.reduceSub, Nat.reduceEqDiff, Nat.reduceLeDiff, Nat.reduceMod, Nat.reduceLT, Int.reduceToNat, Int.reduceAdd, Int.reduceSub, Int.reduceMul, Int.reduceNeg, Int.reduceLE, Int.reduceLT, Int.toNat_natCast, Int.cast_ofNat_Int, Int.reduceNe, Int.reduceEq, Int.reduceBEq, Int.reduceBNe, not_false_eq_true, ne_eq, Int.reduceTMod, Int.reduceTDiv, beq_self_eq_true, bne_self_eq_false, List.contains_cons, List.contains_nil, Nat.reduceBEq]) ?_ | refine acts_N (ha) (by simp (disch := first | omega | (simp only [List.length_cons, List.length_nil]; first | done | omega)) only [go_sem, Nat.reduceAdd, Nat.reduceMul, Nat.reduceSub, Nat.reduceEqDiff, Nat.reduceLeDiff, Nat.reduceMod, Nat.reduceLT, Int.reduceToNat, Int.reduceAdd, Int.reduceSub, Int.reduceMul, Int.reduceNeg, Int.reduceLE, Int.reduceLT, Int.toNat_natCast, Int.cast_ofNat_Int, Int.reduceNe, Int.reduceEq, Int.reduceBEq, Int.reduceBNe, not_false_eq_true, ne_eq, Int.reduceTMod, Int.reduceTDiv, beq_self_eq_true, bne_self_eq_false, List.contains_cons, List.contains_nil, Nat.reduceBEq]) ?_ | refine acts_of (H1 := []) (ha) (by simp (disch := first | omega | (simp only [List.length_cons, List.length_nil]; first | done | omega)) only [go_sem, Nat.reduceAdd, Nat.reduceMul, Nat.reduceSub, Nat.reduceEqDiff, Nat.reduceLeDiff, Nat.reduceMod, Nat.reduceLT, Int.reduceToNat, Int.reduceAdd, Int.reduceSub, Int.reduceMul, Int.reduceNeg, Int.reduceLE, Int.reduceLT, Int.toNat_natCast, Int.cast_ofNat_Int, Int.reduceNe, Int.reduceEq, Int.reduceBEq, Int.reduceBNe, not_false_eq_true, ne_eq, Int.reduceTMod, Int.reduceTDiv, beq_self_eq_true, bne_self_eq_false, List.contains_cons, List.contains_nil, Nat.reduceBEq]) ?_
    repeat' (first | (simp (disch := first | omega | (simp only [List.length_cons, List.length_nil]; first | done | omega)) only [go_sem, Nat.reduceAdd, Nat.reduceMul, Nat.reduceSub, Nat.reduceEqDiff, Nat.reduceLeDiff, Nat.reduceMod, Nat.reduceLT, Int.reduceToNat, Int.reduceAdd, Int.reduceSub, Int.reduceMul, Int.reduceNeg, Int.reduceLE, Int.reduceLT, Int.toNat_natCast, Int.cast_ofNat_Int, Int.reduceNe, Int.reduceEq, Int.reduceBEq, Int.reduceBNe, not_false_eq_true, ne_eq, Int.reduceTMod, Int.reduceTDiv, beq_self_eq_true, bne_self_eq_false, List.contains_cons, List.contains_nil, Nat.reduceBEq]) | (refine allI (fun b => ?_)) | (refine allT (fun τ => ?_)) | (refine brP (fun h => ?_) (fun h => ?_) <;> (try simp only [Bool.and_eq_true, Bool.and_eq_false_iff, Bool.or_eq_true, Bool.or_eq_false_iff, Bool.not_eq_true', Bool.not_eq_false', decide_eq_true_eq, decide_eq_false_iff_not, beq_iff_eq, beq_eq_false_iff_ne, ne_eq, bne_iff_ne, Int.not_lt, Int.not_le] at h)) | (apply And.intro; focus (first | omega | (simp; done) | (simp +contextual; done) | (intros; and_intros <;> first | assumption | omega) | (intros; simp_all; done) | (intro hgd; refine ⟨hgd, ?_⟩; simp [hgd]; done) | (intro hgd; simp only [beq_eq_false_iff_ne, beq_iff_eq, decide_eq_true_eq, decide_eq_false_iff_not, bne_iff_ne, ne_eq, Bool.and_eq_true, Bool.or_eq_false_iff, Bool.or_eq_true, Bool.and_eq_false_iff] at hgd ⊢; omega))) | fail)
    · refine acts_end (leV.of_eq ?_) (by simp)
      rw [fdI, firstI_is hlt (by rw [hf]; simpa using h) hi.2]
    · have hf2 : fdP l fd i = false := by rw [hf]; simpa using h
      exact ⟨⟨i + 1, by omega, fun j hj => (by omega : j < i ∨ j = i).elim (fun h3 => hi.2 j h3) (fun h3 => h3 ▸ hf2)⟩, by dsimp only; omega, Ents.envH (by simp [go_sem]) rfl⟩
  · repeat' (first | (simp (disch := first | omega | (simp only [List.length_cons, List.length_nil]; first | done | omega)) only [go_sem, Nat.reduceAdd, Nat.reduceMul, Nat.reduceSub, Nat.reduceEqDiff, Nat.reduceLeDiff, Nat.reduceMod, Nat.reduceLT, Int.reduceToNat, Int.reduceAdd, Int.reduceSub, Int.reduceMul, Int.reduceNeg, Int.reduceLE, Int.reduceLT, Int.toNat_natCast, Int.cast_ofNat_Int, Int.reduceNe, Int.reduceEq, Int.reduceBEq, Int.reduceBNe, not_false_eq_true, ne_eq, Int.reduceTMod, Int.reduceTDiv, beq_self_eq_true, bne_self_eq_false, List.contains_cons, List.contains_nil, Nat.reduceBEq]) | (refine allI (fun b => ?_)) | (refine allT (fun τ => ?_)) | (refine brP (fun h => ?_) (fun h => ?_) <;> (try simp only [Bool.and_eq_true, Bool.and_eq_false_iff, Bool.or_eq_true, Bool.or_eq_false_iff, Bool.not_eq_true', Bool.not_eq_false', decide_eq_true_eq, decide_eq_false_iff_not, beq_iff_eq, beq_eq_false_iff_ne, ne_eq, bne_iff_ne, Int.not_lt, Int.not_le] at h)) | (apply And.intro; focus (first | omega | (simp; done) | (simp +contextual; done) | (intros; and_intros <;> first | assumption | omega) | (intros; simp_all; done) | (intro hgd; refine ⟨hgd, ?_⟩; simp [hgd]; done) | (intro hgd; simp only [beq_eq_false_iff_ne, beq_iff_eq, decide_eq_true_eq, decide_eq_false_iff_not, bne_iff_ne, ne_eq, Bool.and_eq_true, Bool.or_eq_false_iff, Bool.or_eq_true, Bool.and_eq_false_iff] at hgd ⊢; omega))) | fail)
    refine acts_end (leV.of_eq ?_) (by simp)
    rw [fdI, firstI_none fun j hj => hi.2 j (by simp only [decide_eq_false_iff_not] at hb; omega)]
theorem deld (b n c i j : Nat) (cs : List LV) (hc : cs.length = n * 4) (hn : n ≤ c) (hi : i ≤ j) (hj : j ≤ n) (hb : n ≤ 1000000000) :
    ActsE Try.prog gl 54 [.msl 6001 4 b 0 n c, .int .i64 i, .int .i64 j] 6001 (.blk b (Sp cs ((c - n) * 4))) fun r e => r = .msl 6001 4 b 0 (n - (j - i)) c ∧ e = .blk b (Sp (cs.take (i * 4) ++ cs.drop (j * 4)) ((c - (n - (j - i))) * 4)) := by
  refine fn_viewT Try.func54 t54 Try.ntmps54 (by simp) ?_
  unfold c54 r54
  simp (disch := first | omega | (simp only [List.length_cons, List.length_nil]; first | done | omega)) only [go_sem, Nat.reduceAdd, Nat.reduceMul, Nat.reduceSub, Nat.reduceEqDiff, Nat.reduceLeDiff, Nat.reduceMod, Nat.reduceLT, Int.reduceToNat, Int.reduceAdd, Int.reduceSub, Int.reduceMul, Int.reduceNeg, Int.reduceLE, Int.reduceLT, Int.toNat_natCast, Int.cast_ofNat_Int, Int.reduceNe, Int.reduceEq, Int.reduceBEq, Int.reduceBNe, not_false_eq_true, ne_eq, Int.reduceTMod, Int.reduceTDiv, beq_self_eq_true, bne_self_eq_false, List.contains_cons, List.contains_nil, Nat.reduceBEq]
  refine ⟨by omega, ?_⟩
  have hl : (Sp cs ((c - n) * 4)).length = c * 4 := by rw [length_Sp, hc]; omega
  repeat' (first | (simp (disch := first | omega | (simp only [List.length_cons, List.length_nil]; first | done | omega)) only [go_sem, Nat.reduceAdd, Nat.reduceMul, Nat.reduceSub, Nat.reduceEqDiff, Nat.reduceLeDiff, Nat.reduceMod, Nat.reduceLT, Int.reduceToNat, Int.reduceAdd, Int.reduceSub, Int.reduceMul, Int.reduceNeg, Int.reduceLE, Int.reduceLT, Int.toNat_natCast, Int.cast_ofNat_Int, Int.reduceNe, Int.reduceEq, Int.reduceBEq, Int.reduceBNe, not_false_eq_true, ne_eq, Int.reduceTMod, Int.reduceTDiv, beq_self_eq_true, bne_self_eq_false, List.contains_cons, List.contains_nil, Nat.reduceBEq]) | (refine allI (fun b => ?_)) | (refine allT (fun τ => ?_)) | (refine brP (fun h => ?_) (fun h => ?_) <;> (try simp only [Bool.and_eq_true, Bool.and_eq_false_iff, Bool.or_eq_true, Bool.or_eq_false_iff, Bool.not_eq_true', Bool.not_eq_false', decide_eq_true_eq, decide_eq_false_iff_not, beq_iff_eq, beq_eq_false_iff_ne, ne_eq, bne_iff_ne, Int.not_lt, Int.not_le] at h)))
  · obtain rfl : i = j := by omega
    rw [Nat.sub_self, Nat.sub_zero, List.take_append_drop]
    exact viewE_end (leV.refl _) (List.Sublist.refl _) ⟨rfl, rfl⟩
  · have e0 : (if c = 0 then 0 else 0) = 0 := by split <;> rfl
    have e2 : ¬ c = i + (n - j) := by omega
    have e3 := cut_len hc hi hj
    have e4 : (Sp cs ((c - n) * 4)).take (i * 4) = cs.take (i * 4) := take_Sp_le (by rw [hc]; exact Nat.mul_le_mul_right _ (by omega))
    simp only [Nat.sub_zero, e0, if_neg e2, Nat.zero_add, take_drop_Sp hc hj hn, e4]
    refine ⟨by omega, by omega, by split <;> omega, rfl, .inr ?_⟩
    have e5 : n - (j - i) = i + (n - j) := by omega
    have e6 : (cs.drop (j * 4)).length = (n - j) * 4 := by rw [List.length_drop, hc, Nat.sub_mul]
    rw [e5, e6]
    refine ⟨by omega, by omega, by omega, ?_, ?_⟩
    · simp only [List.length_append, List.length_drop, List.length_take, hl, hc]
      omega
    rw [List.take_left' e3, List.append_assoc]
    refine ⟨_, [(6001, .blk b (Sp (cs.take (i * 4) ++ cs.drop (j * 4)) ((c - (i + (n - j))) * 4)))], leVH.le ⟨⟨rfl, leVs.sp ?_⟩, trivial⟩, _, rfl, rfl, rfl⟩
    simp only [List.length_append, List.length_drop, List.length_take, hl, hc, zeros, List.length_map, List.length_range]
    omega
end Go.Proofs.Ytkdblnejpmbnfaa
