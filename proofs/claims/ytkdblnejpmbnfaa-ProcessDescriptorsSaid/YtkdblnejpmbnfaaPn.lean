/- Layer 9: processes are removed. -/
import Derived.Test.YtkdblnejpmbnfaaPl
import Derived.Test.YtkdblnejpmbnfaaLxV
namespace Go.Proofs.Ytkdblnejpmbnfaa
open Go Go.Lx
set_option linter.unusedSimpArgs false
set_option linter.unusedVariables false
set_option maxRecDepth 100000
set_option maxHeartbeats 4000000

theorem take_drop_Sp {cs : List LV} {n j c w k : Nat} (hc : cs.length = n * w) (hj : j ≤ n) (hn : n ≤ c) : List.take ((n - j) * w) (List.drop (if c = j then 0 else j * w) (Sp cs k)) = cs.drop (j * w) := by
  by_cases h : c = j
  · obtain rfl : n = j := by omega
    rw [Nat.sub_self, Nat.zero_mul, List.take_zero, List.drop_eq_nil_of_le (by omega)]
  · rw [if_neg h, Sp, List.drop_append_of_le_length (by rw [hc]; exact Nat.mul_le_mul_right w hj)]
    refine List.take_left' ?_
    rw [List.length_drop, hc, Nat.sub_mul]
theorem cut_len {cs : List LV} {n i j w : Nat} (hc : cs.length = n * w) (hi : i ≤ j) (hj : j ≤ n) : (cs.take (i * w) ++ cs.drop (j * w)).length = (i + (n - j)) * w := by
  rw [List.length_append, List.length_take, List.length_drop, hc, Nat.min_eq_left (Nat.mul_le_mul_right w (by omega)), Nat.add_mul, Nat.sub_mul]
theorem delp (b n c i j : Nat) (cs : List LV) (hc : cs.length = n * 14) (hn : n ≤ c) (hi : i ≤ j) (hj : j ≤ n) (hb : n ≤ 1000000000) :
    ActsE Try.prog gl 62 [.msl 6000 14 b 0 n c, .int .i64 i, .int .i64 j] 6000 (.blk b (Sp cs ((c - n) * 14))) fun r e => r = .msl 6000 14 b 0 (n - (j - i)) c ∧ e = .blk b (Sp (cs.take (i * 14) ++ cs.drop (j * 14)) ((c - (n - (j - i))) * 14)) := by
  refine fn_viewT Try.func62 t62 Try.ntmps62 (by simp) ?_
  unfold c62 r62
  simp (disch := first | omega | (simp only [List.length_cons, List.length_nil]; first | done | omega)) only [go_sem, Nat.reduceAdd, Nat.reduceMul, Nat.reduceSub, Nat.reduceEqDiff, Nat.reduceLeDiff, Nat.reduceMod, Nat.reduceLT, Int.reduceToNat, Int.reduceAdd, Int.reduceSub, Int.reduceMul, Int.reduceNeg, Int.reduceLE, Int.reduceLT, Int.toNat_natCast, Int.cast_ofNat_Int, Int.reduceNe, Int.reduceEq, Int.reduceBEq, Int.reduceBNe, not_false_eq_true, ne_eq, Int.reduceTMod, Int.reduceTDiv, beq_self_eq_true, bne_self_eq_false, List.contains_cons, List.contains_nil, Nat.reduceBEq]
  refine ⟨by omega, ?_⟩
  have hl : (Sp cs ((c - n) * 14)).length = c * 14 := by rw [length_Sp, hc]; omega
  repeat' (first | (simp (disch := first | omega | (simp only [List.length_cons, List.length_nil]; first | done | omega)) only [go_sem, Nat.reduceAdd, Nat.reduceMul, Nat.reduceSub, Nat.reduceEqDiff, Nat.reduceLeDiff, Nat.reduceMod, Nat.reduceLT, Int.reduceToNat, Int.reduceAdd, Int.reduceSub, Int.reduceMul, Int.reduceNeg, Int.reduceLE, Int.reduceLT, Int.toNat_natCast, Int.cast_ofNat_Int, Int.reduceNe, Int.reduceEq, Int.reduceBEq, Int.reduceBNe, not_false_eq_true, ne_eq, Int.reduceTMod, Int.reduceTDiv, beq_self_eq_true, bne_self_eq_false, List.contains_cons, List.contains_nil, Nat.reduceBEq]) | (refine allI (fun b => ?_)) | (refine allT (fun τ => ?_)) | (refine brP (fun h => ?_) (fun h => ?_) <;> (try simp only [Bool.and_eq_true, Bool.and_eq_false_iff, Bool.or_eq_true, Bool.or_eq_false_iff, Bool.not_eq_true', Bool.not_eq_false', decide_eq_true_eq, decide_eq_false_iff_not, beq_iff_eq, beq_eq_false_iff_ne, ne_eq, bne_iff_ne, Int.not_lt, Int.not_le] at h)))
  · obtain rfl : i = j := by omega
    rw [Nat.sub_self, Nat.sub_zero, List.take_append_drop]
    exact viewE_end (leV.refl _) (List.Sublist.refl _) ⟨rfl, rfl⟩
  · have e0 : (if c = 0 then 0 else 0) = 0 := by split <;> rfl
    have e2 : ¬ c = i + (n - j) := by omega
    have e3 := cut_len hc hi hj
    have e4 : (Sp cs ((c - n) * 14)).take (i * 14) = cs.take (i * 14) := take_Sp_le (by rw [hc]; exact Nat.mul_le_mul_right _ (by omega))
    simp only [Nat.sub_zero, e0, if_neg e2, Nat.zero_add, take_drop_Sp hc hj hn, e4]
    refine ⟨by omega, by omega, by split <;> omega, rfl, .inr ?_⟩
    have e5 : n - (j - i) = i + (n - j) := by omega
    have e6 : (cs.drop (j * 14)).length = (n - j) * 14 := by rw [List.length_drop, hc, Nat.sub_mul]
    rw [e5, e6]
    refine ⟨by omega, by omega, by omega, ?_, ?_⟩
    · simp only [List.length_append, List.length_drop, List.length_take, hl, hc]
      omega
    rw [List.take_left' e3, List.append_assoc]
    refine ⟨_, [(6000, .blk b (Sp (cs.take (i * 14) ++ cs.drop (j * 14)) ((c - (i + (n - j))) * 14)))], leVH.le ⟨⟨rfl, leVs.sp ?_⟩, trivial⟩, _, rfl, rfl, rfl⟩
    simp only [List.length_append, List.length_drop, List.length_take, hl, hc, zeros, List.length_map, List.length_range]
    omega
theorem cut_rows : ∀ (l : List Ps) (i : Nat), (l.flatMap PsC).take (i * 14) ++ (l.flatMap PsC).drop ((i + 1) * 14) = (l.eraseIdx i).flatMap PsC
  | [], i => by simp
  | p :: l, 0 => by
    have hp : (PsC p).length = 14 := rfl
    simp [List.flatMap_cons, List.drop_append, hp]
  | p :: l, i + 1 => by
    have hp : (PsC p).length = 14 := rfl
    have ih := cut_rows l i
    rw [List.flatMap_cons, List.eraseIdx_cons_succ, List.flatMap_cons, ← ih, List.take_append, List.drop_append, hp, List.take_of_length_le (by omega), List.drop_eq_nil_of_le (by omega), show (i + 1) * 14 - 14 = i * 14 by omega, show (i + 1 + 1) * 14 - 14 = (i + 1) * 14 by omega]
    simp
/-- the children of a process that ends -/
def orp (pid : Int) (p : Ps) : Ps := if p.ppid = pid then { p with ppid := 1 } else p
def rmP (t : Tb) (pid : Int) (i : Nat) : List Ps := (t.ps.eraseIdx i).map (orp pid)
def rmT (t : Tb) (pid : Int) : Tb := if findI t pid < 0 then t else { t with ps := rmP t pid (findI t pid).toNat }
theorem noPs (l : List Ps) : noNs (l.flatMap PsC) = true := by
  refine noNs_flat l fun p _ => ?_
  have h : noNs (p.op.flatMap DeC) = true := noNs_flat _ fun _ _ => rfl
  rw [PsC_eq, DeS_eq]
  simp [noNs, noN, h]
theorem noTb (t : Tb) (pid : Int) : noNs [TbL t, .int .i64 pid] = true := by
  rw [TbL_eq]
  simp [noNs, noN, noPs]
theorem gl0 (g : Nat) : gl g = none := rfl
theorem lentT {b c : Nat} {t : Tb} {pid : Int} {H : Heap} (hc : t.ps.length ≤ c) (hH : getH H 6000 = some (.blk b (Sp (t.ps.flatMap PsC) ((c - t.ps.length) * 14)))) : Lent gl H [.agg [.int .i64 t.nx, .int .i64 t.ns, .msl 6000 14 b 0 t.ps.length c], .int .i64 pid] (delH H 6000) [TbL t, .int .i64 pid] := by
  have hl := len_ps t.ps
  have h := Lent.pub (gl := gl) (args := [.agg [.int .i64 t.nx, .int .i64 t.ns, .msl 6000 14 b 0 t.ps.length c], .int .i64 pid]) 6000 hH (by simp [go_sem, length_Sp, hl]; omega)
  have e : (pubAs 6000 b (Sp (t.ps.flatMap PsC) ((c - t.ps.length) * 14)) [.agg [.int .i64 t.nx, .int .i64 t.ns, .msl 6000 14 b 0 t.ps.length c], .int .i64 pid]).2 = [TbL t, .int .i64 pid] := by
    rw [TbL_eq]
    simp [go_sem, Sp, ← hl]
  rw [e] at h
  exact h
/-- a list of which the first elements were changed -/
def mapTo {α : Type} (f : α → α) (l : List α) (j : Nat) : List α := (l.take j).map f ++ l.drop j
theorem mapTo_zero {α : Type} (f : α → α) (l : List α) : mapTo f l 0 = l := by simp [mapTo]
theorem mapTo_all {α : Type} (f : α → α) (l : List α) : mapTo f l l.length = l.map f := by simp [mapTo]
theorem mapTo_length {α : Type} (f : α → α) (l : List α) (j : Nat) : (mapTo f l j).length = l.length := by simp [mapTo]; omega
theorem mapTo_getD {α : Type} (d : α) (f : α → α) (l : List α) (j : Nat) (h : j < l.length) : (mapTo f l j).getD j d = l.getD j d := by
  have h2 : (List.map f (l.take j)).length = j := by simp; omega
  simp only [mapTo, List.getD_eq_getElem?_getD]
  rw [List.getElem?_append_right (by omega), h2]
  simp
theorem mapTo_succ {α : Type} (d : α) (f : α → α) (l : List α) (j : Nat) (h : j < l.length) : mapTo f l (j + 1) = (mapTo f l j).set j (f (l.getD j d)) := by
  have h2 : (List.map f (l.take j)).length = j := by simp; omega
  rw [mapTo, take_succ_getD d l h, List.map_append, mapTo, List.set_append_right _ _ (by omega), h2, Nat.sub_self, List.drop_eq_getElem_cons h, List.set_cons_zero]
  simp
theorem set_same {l : List Ps} {j : Nat} {q : Ps} (h : l.getD j ps0 = q) (hj : j < l.length) : l.set j q = l := by
  subst h
  simp [List.getD, hj]
theorem remove (t : Tb) (pid : Int) (bt b c : Nat) (ht : t.ps.length ≤ 1000000) (hc : t.ps.length ≤ c) : LCalls Try.prog gl 49 [.ptr 3 bt 0, .int .i64 pid] (ChH bt t b c) fun v H => ∃ b' c', (rmT t pid).ps.length ≤ c' ∧ H = ChH bt (rmT t pid) b' c' := by
  refine fn_viewT Try.func49 t49 Try.ntmps49 (by simp) ?_
  have hF := find t pid ht
  have hlt := findI_lt t pid
  have hR : rmT t pid = if findI t pid < 0 then t else { t with ps := rmP t pid (findI t pid).toNat } := rfl
  generalize findI t pid = k at *
  unfold c49 r49 ChH
  repeat' (first | (simp (disch := first | omega | (simp only [List.length_cons, List.length_nil]; first | done | omega)) only [go_sem, Nat.reduceAdd, Nat.reduceMul, Nat.reduceSub, Nat.reduceEqDiff, Nat.reduceLeDiff, Nat.reduceMod, Nat.reduceLT, Int.reduceToNat, Int.reduceAdd, Int.reduceSub, Int.reduceMul, Int.reduceNeg, Int.reduceLE, Int.reduceLT, Int.toNat_natCast, Int.cast_ofNat_Int, Int.reduceNe, Int.reduceEq, Int.reduceBEq, Int.reduceBNe, not_false_eq_true, ne_eq, Int.reduceTMod, Int.reduceTDiv, beq_self_eq_true, bne_self_eq_false, List.contains_cons, List.contains_nil, Nat.reduceBEq]) | (refine allI (fun b => ?_)) | (refine allT (fun τ => ?_)) | (refine brP (fun h => ?_) (fun h => ?_) <;> (try simp only [Bool.and_eq_true, Bool.and_eq_false_iff, Bool.or_eq_true, Bool.or_eq_false_iff, Bool.not_eq_true', Bool.not_eq_false', decide_eq_true_eq, decide_eq_false_iff_not, beq_iff_eq, beq_eq_false_iff_ne, ne_eq, bne_iff_ne, Int.not_lt, Int.not_le] at h)) | (apply And.intro; focus (first | omega | (simp; done) | (simp +contextual; done) | (intros; and_intros <;> first | assumption | omega) | (intros; simp_all; done) | (intro hgd; refine ⟨hgd, ?_⟩; simp [hgd]; done) | (intro hgd; simp only [beq_eq_false_iff_ne, beq_iff_eq, decide_eq_true_eq, decide_eq_false_iff_not, bne_iff_ne, ne_eq, Bool.and_eq_true, Bool.or_eq_false_iff, Bool.or_eq_true, Bool.and_eq_false_iff] at hgd ⊢; omega))) | fail)
  refine lend_U gl0 (lentT hc (by rfl)) (noTb t pid) hF rfl ?_
  repeat' (first | (simp (disch := first | omega | (simp only [List.length_cons, List.length_nil]; first | done | omega)) only [go_sem, Nat.reduceAdd, Nat.reduceMul, Nat.reduceSub, Nat.reduceEqDiff, Nat.reduceLeDiff, Nat.reduceMod, Nat.reduceLT, Int.reduceToNat, Int.reduceAdd, Int.reduceSub, Int.reduceMul, Int.reduceNeg, Int.reduceLE, Int.reduceLT, Int.toNat_natCast, Int.cast_ofNat_Int, Int.reduceNe, Int.reduceEq, Int.reduceBEq, Int.reduceBNe, not_false_eq_true, ne_eq, Int.reduceTMod, Int.reduceTDiv, beq_self_eq_true, bne_self_eq_false, List.contains_cons, List.contains_nil, Nat.reduceBEq]) | (refine allI (fun b => ?_)) | (refine allT (fun τ => ?_)) | (refine brP (fun h => ?_) (fun h => ?_) <;> (try simp only [Bool.and_eq_true, Bool.and_eq_false_iff, Bool.or_eq_true, Bool.or_eq_false_iff, Bool.not_eq_true', Bool.not_eq_false', decide_eq_true_eq, decide_eq_false_iff_not, beq_iff_eq, beq_eq_false_iff_ne, ne_eq, bne_iff_ne, Int.not_lt, Int.not_le] at h)) | (apply And.intro; focus (first | omega | (simp; done) | (simp +contextual; done) | (intros; and_intros <;> first | assumption | omega) | (intros; simp_all; done) | (intro hgd; refine ⟨hgd, ?_⟩; simp [hgd]; done) | (intro hgd; simp only [beq_eq_false_iff_ne, beq_iff_eq, decide_eq_true_eq, decide_eq_false_iff_not, bne_iff_ne, ne_eq, Bool.and_eq_true, Bool.or_eq_false_iff, Bool.or_eq_true, Bool.and_eq_false_iff] at hgd ⊢; omega))) | fail)
  · rw [hR, if_pos (by assumption)]
    exact ⟨_, _, leVH.of (leV.any _) ⟨_, List.Sublist.refl _, List.Perm.refl _⟩, b, c, hc, rfl⟩
  · obtain ⟨n, rfl⟩ : ∃ n : Nat, k = (n : Int) := ⟨k.toNat, by omega⟩
    rw [Int.toNat_natCast, if_neg (by omega)] at hR
    have hle := len_ps t.ps
    have hd := delp b t.ps.length c n (n + 1) _ hle hc (by omega) (by omega) (by omega)
    first | refine actsE_U (hd) (by first | rfl | simp only [getH, if_true]) ?_ | refine actsE_T (hd) (by first | rfl | simp only [getH, if_true]) ?_ | refine actsE_N (hd) (by first | rfl | simp only [getH, if_true]) ?_ | refine actsE_of (hd) (by first | rfl | simp only [getH, if_true]) ?_
    rintro _ _ ⟨rfl, rfl⟩
    have hE : (t.ps.eraseIdx n).length = t.ps.length - 1 := by rw [List.length_eraseIdx, if_pos (by omega)]
    rw [cut_rows]
    rw [show t.ps.length - (n + 1 - n) = (t.ps.eraseIdx n).length by omega]
    have hr : rmP t pid n = (t.ps.eraseIdx n).map (orp pid) := rfl
    rw [hr] at hR
    generalize t.ps.eraseIdx n = E at *
    repeat' (first | (simp (disch := first | omega | (simp only [List.length_cons, List.length_nil]; first | done | omega)) only [go_sem, Nat.reduceAdd, Nat.reduceMul, Nat.reduceSub, Nat.reduceEqDiff, Nat.reduceLeDiff, Nat.reduceMod, Nat.reduceLT, Int.reduceToNat, Int.reduceAdd, Int.reduceSub, Int.reduceMul, Int.reduceNeg, Int.reduceLE, Int.reduceLT, Int.toNat_natCast, Int.cast_ofNat_Int, Int.reduceNe, Int.reduceEq, Int.reduceBEq, Int.reduceBNe, not_false_eq_true, ne_eq, Int.reduceTMod, Int.reduceTDiv, beq_self_eq_true, bne_self_eq_false, List.contains_cons, List.contains_nil, Nat.reduceBEq]) | (refine allI (fun b => ?_)) | (refine allT (fun τ => ?_)) | (refine brP (fun h => ?_) (fun h => ?_) <;> (try simp only [Bool.and_eq_true, Bool.and_eq_false_iff, Bool.or_eq_true, Bool.or_eq_false_iff, Bool.not_eq_true', Bool.not_eq_false', decide_eq_true_eq, decide_eq_false_iff_not, beq_iff_eq, beq_eq_false_iff_ne, ne_eq, bne_iff_ne, Int.not_lt, Int.not_le] at h)) | (apply And.intro; focus (first | omega | (simp; done) | (simp +contextual; done) | (intros; and_intros <;> first | assumption | omega) | (intros; simp_all; done) | (intro hgd; refine ⟨hgd, ?_⟩; simp [hgd]; done) | (intro hgd; simp only [beq_eq_false_iff_ne, beq_iff_eq, decide_eq_true_eq, decide_eq_false_iff_not, bne_iff_ne, ne_eq, Bool.and_eq_true, Bool.or_eq_false_iff, Bool.or_eq_true, Bool.and_eq_false_iff] at hgd ⊢; omega))) | fail)
    refine loopI (ι := Nat) (fun j => j ≤ E.length) (fun j => [(29, .int .i64 j), (28, .int .i64 E.length), (0, .ptr 3 bt 0), (1, .int .i64 pid)]) (fun j => [(3, .blk bt [.int .i64 t.nx, .int .i64 t.ns, .msl 6000 14 b 0 E.length c]), (6000, .blk b (Sp ((mapTo (orp pid) E j).flatMap PsC) ((c - E.length) * 14)))]) (fun j => E.length - j) 0 (by omega) (Ents.envH (by simp [go_sem]) (by rw [mapTo_zero])) ?_
    intro j hj
    simp (disch := first | omega | (simp only [List.length_cons, List.length_nil]; first | done | omega)) only [go_sem, Nat.reduceAdd, Nat.reduceMul, Nat.reduceSub, Nat.reduceEqDiff, Nat.reduceLeDiff, Nat.reduceMod, Nat.reduceLT, Int.reduceToNat, Int.reduceAdd, Int.reduceSub, Int.reduceMul, Int.reduceNeg, Int.reduceLE, Int.reduceLT, Int.toNat_natCast, Int.cast_ofNat_Int, Int.reduceNe, Int.reduceEq, Int.reduceBEq, Int.reduceBNe, not_false_eq_true, ne_eq, Int.reduceTMod, Int.reduceTDiv, beq_self_eq_true, bne_self_eq_false, List.contains_cons, List.contains_nil, Nat.reduceBEq]
    refine brP (fun hb => ?_) (fun hb => ?_)
    · have hjl : j < E.length := by simp only [decide_eq_true_eq] at hb; omega
      have hml := mapTo_length (orp pid) E j
      have hml2 := len_ps (mapTo (orp pid) E j)
      have hs := length_Sp ((mapTo (orp pid) E j).flatMap PsC) ((c - E.length) * 14)
      have g1 := gdSp (k := (c - E.length) * 14) (l := mapTo (orp pid) E j) (i := j) (j := 1) (by omega) (by omega)
      have hG := mapTo_getD ps0 (orp pid) E j hjl
      have hS := mapTo_succ ps0 (orp pid) E j hjl
      have hrow := fun (p' : Ps) (he : PsC p' = putC (PsC ((mapTo (orp pid) E j).getD j ps0)) 1 (.int .i64 1)) => rowSet (l := mapTo (orp pid) E j) (i := j) (j := 1) (k := (c - E.length) * 14) p' (by omega) (by omega) he
      rw [hG] at g1 hrow
      generalize E.getD j ps0 = q at *
      rw [PsC_eq] at g1
      simp only [List.getD_cons_zero, List.getD_cons_succ] at g1
      repeat' (first | (simp (disch := first | omega | (simp only [List.length_cons, List.length_nil]; first | done | omega)) only [go_sem, Nat.reduceAdd, Nat.reduceMul, Nat.reduceSub, Nat.reduceEqDiff, Nat.reduceLeDiff, Nat.reduceMod, Nat.reduceLT, Int.reduceToNat, Int.reduceAdd, Int.reduceSub, Int.reduceMul, Int.reduceNeg, Int.reduceLE, Int.reduceLT, Int.toNat_natCast, Int.cast_ofNat_Int, Int.reduceNe, Int.reduceEq, Int.reduceBEq, Int.reduceBNe, not_false_eq_true, ne_eq, Int.reduceTMod, Int.reduceTDiv, beq_self_eq_true, bne_self_eq_false, List.contains_cons, List.contains_nil, Nat.reduceBEq, g1, putC_eq, putC_len]) | (refine allI (fun b => ?_)) | (refine allT (fun τ => ?_)) | (refine brP (fun h => ?_) (fun h => ?_) <;> (try simp only [Bool.and_eq_true, Bool.and_eq_false_iff, Bool.or_eq_true, Bool.or_eq_false_iff, Bool.not_eq_true', Bool.not_eq_false', decide_eq_true_eq, decide_eq_false_iff_not, beq_iff_eq, beq_eq_false_iff_ne, ne_eq, bne_iff_ne, Int.not_lt, Int.not_le] at h)) | (apply And.intro; focus (first | omega | (simp; done) | (simp +contextual; done) | (intros; and_intros <;> first | assumption | omega) | (intros; simp_all; done) | (intro hgd; refine ⟨hgd, ?_⟩; simp [hgd]; done) | (intro hgd; simp only [beq_eq_false_iff_ne, beq_iff_eq, decide_eq_true_eq, decide_eq_false_iff_not, bne_iff_ne, ne_eq, Bool.and_eq_true, Bool.or_eq_false_iff, Bool.or_eq_true, Bool.and_eq_false_iff] at hgd ⊢; omega))) | fail)
      · rw [hrow { q with ppid := 1 } (Eq.trans rfl rfl)]
        refine ⟨⟨j + 1, by omega⟩, by dsimp only; omega, Ents.envH (by simp [go_sem]) ?_⟩
        dsimp only
        rw [hS, orp, if_pos (by assumption)]
      · refine ⟨⟨j + 1, by omega⟩, by dsimp only; omega, Ents.envH (by simp [go_sem]) ?_⟩
        dsimp only
        rw [hS, orp, if_neg (by assumption), set_same hG (by omega)]
    · have hje : j = E.length := by simp only [decide_eq_false_iff_not] at hb; omega
      repeat' (first | (simp (disch := first | omega | (simp only [List.length_cons, List.length_nil]; first | done | omega)) only [go_sem, Nat.reduceAdd, Nat.reduceMul, Nat.reduceSub, Nat.reduceEqDiff, Nat.reduceLeDiff, Nat.reduceMod, Nat.reduceLT, Int.reduceToNat, Int.reduceAdd, Int.reduceSub, Int.reduceMul, Int.reduceNeg, Int.reduceLE, Int.reduceLT, Int.toNat_natCast, Int.cast_ofNat_Int, Int.reduceNe, Int.reduceEq, Int.reduceBEq, Int.reduceBNe, not_false_eq_true, ne_eq, Int.reduceTMod, Int.reduceTDiv, beq_self_eq_true, bne_self_eq_false, List.contains_cons, List.contains_nil, Nat.reduceBEq]) | (refine allI (fun b => ?_)) | (refine allT (fun τ => ?_)) | (refine brP (fun h => ?_) (fun h => ?_) <;> (try simp only [Bool.and_eq_true, Bool.and_eq_false_iff, Bool.or_eq_true, Bool.or_eq_false_iff, Bool.not_eq_true', Bool.not_eq_false', decide_eq_true_eq, decide_eq_false_iff_not, beq_iff_eq, beq_eq_false_iff_ne, ne_eq, bne_iff_ne, Int.not_lt, Int.not_le] at h)) | (apply And.intro; focus (first | omega | (simp; done) | (simp +contextual; done) | (intros; and_intros <;> first | assumption | omega) | (intros; simp_all; done) | (intro hgd; refine ⟨hgd, ?_⟩; simp [hgd]; done) | (intro hgd; simp only [beq_eq_false_iff_ne, beq_iff_eq, decide_eq_true_eq, decide_eq_false_iff_not, bne_iff_ne, ne_eq, Bool.and_eq_true, Bool.or_eq_false_iff, Bool.or_eq_true, Bool.and_eq_false_iff] at hgd ⊢; omega))) | fail)
      subst hje
      rw [mapTo_all, hR]
      exact ⟨_, _, leVH.of (leV.any _) ⟨_, List.Sublist.refl _, List.Perm.refl _⟩, b, c, by simp; omega, by simp⟩
/-- a process ends -/
def xtG (pid : Int) (t : Tb) : Int × Tb := if pid = 1 then (1, t) else (0, rmT t pid)
theorem xtE {e : Int} {t : Tb} {bt b c : Nat} {Hc : Heap} (hc : t.ps.length ≤ c) : ∃ r' H', leVH gl (.int .i64 e) (ChH bt t b c ++ Hc) r' H' ∧ ∃ b' c', ((e, t) : Int × Tb).2.ps.length ≤ c' ∧ r' = .int .i64 ((e, t) : Int × Tb).1 ∧ H' = ChH bt ((e, t) : Int × Tb).2 b' c' ++ Hc :=
  ⟨_, _, leVH.of (leV.refl _) ⟨_, List.Sublist.refl _, List.Perm.refl _⟩, b, c, hc, rfl, rfl⟩
theorem xt0 (pid : Int) (b4 : Nat) (t : Tb) (i : Nat) (ht : t.ps.length ≤ 1000000) (bt b c : Nat) (hc : t.ps.length ≤ c) : LCalls Try.prog gl 48 [.ptr 3 bt 0, .ptr 6000 b (i * 14), .ptr 6001 b4 0] (ChH bt t b c ++ [(6001, .blk b4 [.int .i64 pid])]) fun v H => ∃ b' c', (xtG pid t).2.ps.length ≤ c' ∧ v = .int .i64 (xtG pid t).1 ∧ H = ChH bt (xtG pid t).2 b' c' ++ [(6001, .blk b4 [.int .i64 pid])] := by
  refine fn_viewT Try.func48 t48 Try.ntmps48 (by simp) ?_
  have hr := remove t pid bt b c ht hc
  have hR : xtG pid t = if pid = 1 then (1, t) else (0, rmT t pid) := rfl
  have hH : ∀ t b c, ChH bt t b c = [(3, .blk bt [.int .i64 t.nx, .int .i64 t.ns, .msl 6000 14 b 0 t.ps.length c]), (6000, .blk b (Sp (t.ps.flatMap PsC) ((c - t.ps.length) * 14)))] := fun _ _ _ => rfl
  unfold c48 r48
  rw [hH t b c]
  simp only [List.cons_append, List.nil_append]
  repeat' (first | (simp (disch := first | omega | (simp only [List.length_cons, List.length_nil]; first | done | omega)) only [go_sem, Nat.reduceAdd, Nat.reduceMul, Nat.reduceSub, Nat.reduceEqDiff, Nat.reduceLeDiff, Nat.reduceMod, Nat.reduceLT, Int.reduceToNat, Int.reduceAdd, Int.reduceSub, Int.reduceMul, Int.reduceNeg, Int.reduceLE, Int.reduceLT, Int.toNat_natCast, Int.cast_ofNat_Int, Int.reduceNe, Int.reduceEq, Int.reduceBEq, Int.reduceBNe, not_false_eq_true, ne_eq, Int.reduceTMod, Int.reduceTDiv, beq_self_eq_true, bne_self_eq_false, List.contains_cons, List.contains_nil, Nat.reduceBEq]) | (refine allI (fun b => ?_)) | (refine allT (fun τ => ?_)) | (refine brP (fun h => ?_) (fun h => ?_) <;> (try simp only [Bool.and_eq_true, Bool.and_eq_false_iff, Bool.or_eq_true, Bool.or_eq_false_iff, Bool.not_eq_true', Bool.not_eq_false', decide_eq_true_eq, decide_eq_false_iff_not, beq_iff_eq, beq_eq_false_iff_ne, ne_eq, bne_iff_ne, Int.not_lt, Int.not_le] at h)) | (apply And.intro; focus (first | omega | (simp; done) | (simp +contextual; done) | (intros; and_intros <;> first | assumption | omega) | (intros; simp_all; done) | (intro hgd; refine ⟨hgd, ?_⟩; simp [hgd]; done) | (intro hgd; simp only [beq_eq_false_iff_ne, beq_iff_eq, decide_eq_true_eq, decide_eq_false_iff_not, bne_iff_ne, ne_eq, Bool.and_eq_true, Bool.or_eq_false_iff, Bool.or_eq_true, Bool.and_eq_false_iff] at hgd ⊢; omega))) | fail)
  · rw [hR, if_pos (by assumption)]
    exact xtE hc
  · refine actsP_U (H2 := [(6001, _)]) hr (List.Perm.refl _) ?_
    rintro _ _ ⟨b', c', h1, rfl⟩
    rw [hR, if_neg (by assumption)]
    generalize rmT t pid = t' at *
    rw [hH t' b' c']
    simp only [List.cons_append, List.nil_append]
    repeat' (first | (simp (disch := first | omega | (simp only [List.length_cons, List.length_nil]; first | done | omega)) only [go_sem, Nat.reduceAdd, Nat.reduceMul, Nat.reduceSub, Nat.reduceEqDiff, Nat.reduceLeDiff, Nat.reduceMod, Nat.reduceLT, Int.reduceToNat, Int.reduceAdd, Int.reduceSub, Int.reduceMul, Int.reduceNeg, Int.reduceLE, Int.reduceLT, Int.toNat_natCast, Int.cast_ofNat_Int, Int.reduceNe, Int.reduceEq, Int.reduceBEq, Int.reduceBNe, not_false_eq_true, ne_eq, Int.reduceTMod, Int.reduceTDiv, beq_self_eq_true, bne_self_eq_false, List.contains_cons, List.contains_nil, Nat.reduceBEq]) | (refine allI (fun b => ?_)) | (refine allT (fun τ => ?_)) | (refine brP (fun h => ?_) (fun h => ?_) <;> (try simp only [Bool.and_eq_true, Bool.and_eq_false_iff, Bool.or_eq_true, Bool.or_eq_false_iff, Bool.not_eq_true', Bool.not_eq_false', decide_eq_true_eq, decide_eq_false_iff_not, beq_iff_eq, beq_eq_false_iff_ne, ne_eq, bne_iff_ne, Int.not_lt, Int.not_le] at h)) | (apply And.intro; focus (first | omega | (simp; done) | (simp +contextual; done) | (intros; and_intros <;> first | assumption | omega) | (intros; simp_all; done) | (intro hgd; refine ⟨hgd, ?_⟩; simp [hgd]; done) | (intro hgd; simp only [beq_eq_false_iff_ne, beq_iff_eq, decide_eq_true_eq, decide_eq_false_iff_not, bne_iff_ne, ne_eq, Bool.and_eq_true, Bool.or_eq_false_iff, Bool.or_eq_true, Bool.and_eq_false_iff] at hgd ⊢; omega))) | fail)
    exact ⟨_, _, leVH.of (leV.refl _) ⟨_, List.Sublist.refl _, (List.perm_middle (l₁ := [_, _]) (l₂ := [])).symm⟩, b', c', h1, rfl, rfl⟩
theorem xt1 (pid : Int) (b4 : Nat) (t : Tb) (i : Nat) (ht : t.ps.length ≤ 1000000) : ClOk 48 [.ptr 3 b4 0] [(3, .blk b4 [.int .i64 pid])] t i (xtG pid t) := by
  intro bt b c hc
  refine callLab ((xt0 pid b4 t i ht bt b c hc).mono ?_) rfl fun M vs h => h
  rintro v H ⟨b', c', h1, rfl, rfl⟩
  exact ⟨ChH bt (xtG pid t).2 b' c' ++ [(3, .blk b4 [.int .i64 pid])], by simp [ChH], b', c', h1, rfl, rfl⟩
def xtR (t : Tb) (pid : Int) : Int × Tb := chR t pid fun _ => xtG pid t
theorem xt (t : Tb) (pid : Int) (ht : okT t) : Pure Try.prog gl 25 [TbL t, .int .i64 pid] (.tup [TbL (xtR t pid).2, .int .i64 (xtR t pid).1]) := by
  refine fn_pureT Try.func25 t25 Try.ntmps25 (by simp) ?_
  have hF := findI_lt t pid
  unfold c25 r25
  rw [TbL_eq t]
  repeat' (first | (simp (disch := first | omega | (simp only [List.length_cons, List.length_nil]; first | done | omega)) only [go_sem, Nat.reduceAdd, Nat.reduceMul, Nat.reduceSub, Nat.reduceEqDiff, Nat.reduceLeDiff, Nat.reduceMod, Nat.reduceLT, Int.reduceToNat, Int.reduceAdd, Int.reduceSub, Int.reduceMul, Int.reduceNeg, Int.reduceLE, Int.reduceLT, Int.toNat_natCast, Int.cast_ofNat_Int, Int.reduceNe, Int.reduceEq, Int.reduceBEq, Int.reduceBNe, not_false_eq_true, ne_eq, Int.reduceTMod, Int.reduceTDiv, beq_self_eq_true, bne_self_eq_false, List.contains_cons, List.contains_nil, Nat.reduceBEq]) | (refine allI (fun b => ?_)) | (refine allT (fun τ => ?_)) | (refine brP (fun h => ?_) (fun h => ?_) <;> (try simp only [Bool.and_eq_true, Bool.and_eq_false_iff, Bool.or_eq_true, Bool.or_eq_false_iff, Bool.not_eq_true', Bool.not_eq_false', decide_eq_true_eq, decide_eq_false_iff_not, beq_iff_eq, beq_eq_false_iff_ne, ne_eq, bne_iff_ne, Int.not_lt, Int.not_le] at h)) | (apply And.intro; focus (first | omega | (simp; done) | (simp +contextual; done) | (intros; and_intros <;> first | assumption | omega) | (intros; simp_all; done) | (intro hgd; refine ⟨hgd, ?_⟩; simp [hgd]; done) | (intro hgd; simp only [beq_eq_false_iff_ne, beq_iff_eq, decide_eq_true_eq, decide_eq_false_iff_not, bne_iff_ne, ne_eq, Bool.and_eq_true, Bool.or_eq_false_iff, Bool.or_eq_true, Bool.and_eq_false_iff] at hgd ⊢; omega))) | fail)
  rename_i b1 b2
  refine actsP_U (change t pid ht 48 [.ptr 3 b2 0] [(3, _)] (fun _ => xtG pid t) (by kernel_rfl) fun i hi => xt1 pid b2 t i ht.1) (List.Perm.swap _ _ _) ?_
  rintro _ _ ⟨rfl, rfl⟩
  have hR : xtR t pid = chR t pid fun _ => xtG pid t := rfl
  rw [← hR]
  generalize xtR t pid = R at *
  obtain ⟨e, t'⟩ := R
  dsimp only
  rw [TbL_eq t']
  repeat' (first | (simp (disch := first | omega | (simp only [List.length_cons, List.length_nil]; first | done | omega)) only [go_sem, Nat.reduceAdd, Nat.reduceMul, Nat.reduceSub, Nat.reduceEqDiff, Nat.reduceLeDiff, Nat.reduceMod, Nat.reduceLT, Int.reduceToNat, Int.reduceAdd, Int.reduceSub, Int.reduceMul, Int.reduceNeg, Int.reduceLE, Int.reduceLT, Int.toNat_natCast, Int.cast_ofNat_Int, Int.reduceNe, Int.reduceEq, Int.reduceBEq, Int.reduceBNe, not_false_eq_true, ne_eq, Int.reduceTMod, Int.reduceTDiv, beq_self_eq_true, bne_self_eq_false, List.contains_cons, List.contains_nil, Nat.reduceBEq]) | (refine allI (fun b => ?_)) | (refine allT (fun τ => ?_)) | (refine brP (fun h => ?_) (fun h => ?_) <;> (try simp only [Bool.and_eq_true, Bool.and_eq_false_iff, Bool.or_eq_true, Bool.or_eq_false_iff, Bool.not_eq_true', Bool.not_eq_false', decide_eq_true_eq, decide_eq_false_iff_not, beq_iff_eq, beq_eq_false_iff_ne, ne_eq, bne_iff_ne, Int.not_lt, Int.not_le] at h)) | (apply And.intro; focus (first | omega | (simp; done) | (simp +contextual; done) | (intros; and_intros <;> first | assumption | omega) | (intros; simp_all; done) | (intro hgd; refine ⟨hgd, ?_⟩; simp [hgd]; done) | (intro hgd; simp only [beq_eq_false_iff_ne, beq_iff_eq, decide_eq_true_eq, decide_eq_false_iff_not, bne_iff_ne, ne_eq, Bool.and_eq_true, Bool.or_eq_false_iff, Bool.or_eq_true, Bool.and_eq_false_iff] at hgd ⊢; omega))) | fail)
end Go.Proofs.Ytkdblnejpmbnfaa
