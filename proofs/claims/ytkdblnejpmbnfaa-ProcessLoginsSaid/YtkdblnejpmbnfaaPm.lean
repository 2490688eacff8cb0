/- Layer 9: Logins. -/
import Derived.Test.YtkdblnejpmbnfaaPl
import Derived.Test.YtkdblnejpmbnfaaPg
import Derived.Test.YtkdblnejpmbnfaaMkS
namespace Go.Proofs.Ytkdblnejpmbnfaa
open Go Go.Lx
set_option linter.unusedSimpArgs false
set_option linter.unusedVariables false
set_option maxRecDepth 100000
set_option maxHeartbeats 4000000

def pL (a : Int) : Ps := { p1 0 1 with pid := 2, ppid := 1, auid := a, ses := 1 }
def tL (a : Int) : Tb := ⟨3, 2, [p1 0 1, pL a]⟩
theorem lo_tb (a : Int) (h : 0 ≤ a ∧ a ≤ 65535) : loR tb 2 a = (0, tL a) := by
  have hf : findI tb 2 = 1 := rfl
  have hi : ¬ idB a = false := by simp [idB]; omega
  rw [loR, chR, hf, if_neg (by decide)]
  have hG : loG a tb (Int.toNat 1) = (0, tL a) := by
    unfold loG
    rw [if_neg hi, if_neg (fun h => h.1 rfl), if_neg (by decide)]
    rfl
  rw [hG]
  rfl
theorem LgI_tL (a : Int) : LgI (tL a) 2 a 1 0 := by
  refine ⟨by simp [tL], fun p hp => ?_, by simp [tL], by simp [tL], by rw [show findI (tL a) 2 = 1 from rfl]; decide, rfl, rfl⟩
  simp only [tL, List.mem_cons, List.not_mem_nil, or_false] at hp
  rcases hp with rfl | rfl <;> simp [p1, pL, tL]
theorem get_L (a : Int) : getR (tL a) 2 = (pL a, true) := by rfl
theorem okL (a : Int) : okT (tL a) := (LgI_tL a).ok (by omega)
theorem loginsL (l : List Int) (hl : okS l 0) (ua : Int) (ha : 0 ≤ ua ∧ ua ≤ 65535) : Pure Try.prog gl 4 [Ms l, .int .u16 ua] (.bool true) := by
  refine fn_pureT Try.func4 t4 Try.ntmps4 (by simp) ?_
  have hs := new_ l
  have h1 : Pure Try.prog gl 9 [.agg [.int .i64 0, .int .i64 1]] (TbL ta) := new9 0 1
  have h2 := fk ta 1 ok_ta (by decide)
  have h3 := lo tb 2 ua ok_tb (by decide)
  have h4 := get_ (tL ua) 2 (okL ua)
  have n1 : ta.nx = 2 := rfl
  rw [fk_ta, n1] at h2
  rw [lo_tb ua ha] at h3
  rw [get_L] at h4
  simp only [if_true] at h2
  rw [TbL_eq tb] at h2 h3
  rw [TbL_eq ta] at h1 h2
  rw [TbL_eq] at h3 h4
  rw [PsC_eq] at h4
  unfold Ms at hs ⊢
  unfold c4 r4
  repeat' (first | (simp (disch := first | omega | (simp only [List.length_cons, List.length_nil]; first | done | omega)) only [go_sem, Nat.reduceAdd, Nat.reduceMul, Nat.reduceSub, Nat.reduceEqDiff, Nat.reduceLeDiff, Nat.reduceMod, Nat.reduceLT, Int.reduceToNat, Int.reduceAdd, Int.reduceSub, Int.reduceMul, Int.reduceNeg, Int.reduceLE, Int.reduceLT, Int.toNat_natCast, Int.cast_ofNat_Int, Int.reduceNe, Int.reduceEq, Int.reduceBEq, Int.reduceBNe, not_false_eq_true, ne_eq, Int.reduceTMod, Int.reduceTDiv, beq_self_eq_true, bne_self_eq_false, List.contains_cons, List.contains_nil, Nat.reduceBEq]) | (refine allI (fun b => ?_)) | (refine allT (fun τ => ?_)) | (refine brP (fun h => ?_) (fun h => ?_) <;> (try simp only [Bool.and_eq_true, Bool.and_eq_false_iff, Bool.or_eq_true, Bool.or_eq_false_iff, Bool.not_eq_true', Bool.not_eq_false', decide_eq_true_eq, decide_eq_false_iff_not, beq_iff_eq, beq_eq_false_iff_ne, ne_eq, bne_iff_ne, Int.not_lt, Int.not_le] at h)) | (apply And.intro; focus (first | omega | (simp; done) | (simp +contextual; done) | (intros; and_intros <;> first | assumption | omega) | (intros; simp_all; done) | (intro hgd; refine ⟨hgd, ?_⟩; simp [hgd]; done) | (intro hgd; simp only [beq_eq_false_iff_ne, beq_iff_eq, decide_eq_true_eq, decide_eq_false_iff_not, bne_iff_ne, ne_eq, Bool.and_eq_true, Bool.or_eq_false_iff, Bool.or_eq_true, Bool.and_eq_false_iff] at hgd ⊢; omega))) | fail)
  first | refine newsE_U (hs) ?_ | refine newsE_T (hs) ?_ | refine newsE_of (hs) ?_
  rintro _ _ ⟨sb, rfl, rfl⟩
  repeat' (first | (simp (disch := first | omega | (simp only [List.length_cons, List.length_nil]; first | done | omega)) only [go_sem, Nat.reduceAdd, Nat.reduceMul, Nat.reduceSub, Nat.reduceEqDiff, Nat.reduceLeDiff, Nat.reduceMod, Nat.reduceLT, Int.reduceToNat, Int.reduceAdd, Int.reduceSub, Int.reduceMul, Int.reduceNeg, Int.reduceLE, Int.reduceLT, Int.toNat_natCast, Int.cast_ofNat_Int, Int.reduceNe, Int.reduceEq, Int.reduceBEq, Int.reduceBNe, not_false_eq_true, ne_eq, Int.reduceTMod, Int.reduceTDiv, beq_self_eq_true, bne_self_eq_false, List.contains_cons, List.contains_nil, Nat.reduceBEq, pL, p1]) | (refine allI (fun b => ?_)) | (refine allT (fun τ => ?_)) | (refine brP (fun h => ?_) (fun h => ?_) <;> (try simp only [Bool.and_eq_true, Bool.and_eq_false_iff, Bool.or_eq_true, Bool.or_eq_false_iff, Bool.not_eq_true', Bool.not_eq_false', decide_eq_true_eq, decide_eq_false_iff_not, beq_iff_eq, beq_eq_false_iff_ne, ne_eq, bne_iff_ne, Int.not_lt, Int.not_le] at h)) | refine call_U (h1) ?_ | refine callG_U (fun _ => h1) ?_ | refine call_T (h1) ?_ | refine callG_T (fun _ => h1) ?_ | refine call_U (h2) ?_ | refine callG_U (fun _ => h2) ?_ | refine call_T (h2) ?_ | refine callG_T (fun _ => h2) ?_ | refine call_U (h3) ?_ | refine callG_U (fun _ => h3) ?_ | refine call_T (h3) ?_ | refine callG_T (fun _ => h3) ?_ | refine call_U (h4) ?_ | refine callG_U (fun _ => h4) ?_ | refine call_T (h4) ?_ | refine callG_T (fun _ => h4) ?_ | refine call_N (h1) ?_ | refine call_of (h1) ?_ | refine callG_of (fun _ => h1) ?_ | refine call_N (h2) ?_ | refine call_of (h2) ?_ | refine callG_of (fun _ => h2) ?_ | refine call_N (h3) ?_ | refine call_of (h3) ?_ | refine callG_of (fun _ => h3) ?_ | refine call_N (h4) ?_ | refine call_of (h4) ?_ | refine callG_of (fun _ => h4) ?_ | (apply And.intro; focus (first | omega | (simp; done) | (simp +contextual; done) | (intros; and_intros <;> first | assumption | omega) | (intros; simp_all; done) | (intro hgd; refine ⟨hgd, ?_⟩; simp [hgd]; done) | (intro hgd; simp only [beq_eq_false_iff_ne, beq_iff_eq, decide_eq_true_eq, decide_eq_false_iff_not, bne_iff_ne, ne_eq, Bool.and_eq_true, Bool.or_eq_false_iff, Bool.or_eq_true, Bool.and_eq_false_iff] at hgd ⊢; omega))) | fail)
  rename_i b6
  refine loopI (ι := Nat × Int × Tb × Int) (fun z => z.1 ≤ 8 ∧ LgI z.2.2.1 z.2.1 ua 1 z.1 ∧ 0 ≤ z.2.2.2 ∧ z.2.2.2 ≤ 20 * z.1) (fun z => [(12, .int .i64 z.1), (10, .ptr 10 b 0), (7, .int .i64 z.2.1), (6, .ptr 6 b6 0), (5, .ptr 3000 sb 0)])
    (fun z => [(10, .blk b [.int .i64 2, .int .i64 1, .int .i64 0, .int .i64 0, .int .i64 0, .int .i64 0, .int .i64 ua, .int .i64 1, .int .i64 0, .int .i64 1, .str [105, 110, 105, 116], .str [47, 105, 110, 105, 116], DeS [], .bool true]), (6, .blk b6 [.int .i64 z.2.2.1.nx, .int .i64 z.2.2.1.ns, .sl 14 z.2.2.1.ps.length (z.2.2.1.ps.flatMap PsC)]), (3000, SB sb l z.2.2.2)]) (fun z => 8 - z.1) (0, 2, tL ua, 0) ⟨by dsimp only; omega, LgI_tL ua, by dsimp only; omega⟩ (Ents.envH (by simp [go_sem]) rfl) ?_
  rintro ⟨i, pid, t, n⟩ ⟨hi, hI, hn⟩
  dsimp only at hi hI hn ⊢
  clear h1 h2 h3 h4
  have hlen := hI.len
  have hnx := hI.nx
  have hns := hI.ns
  simp (disch := first | omega | (simp only [List.length_cons, List.length_nil]; first | done | omega)) only [go_sem, Nat.reduceAdd, Nat.reduceMul, Nat.reduceSub, Nat.reduceEqDiff, Nat.reduceLeDiff, Nat.reduceMod, Nat.reduceLT, Int.reduceToNat, Int.reduceAdd, Int.reduceSub, Int.reduceMul, Int.reduceNeg, Int.reduceLE, Int.reduceLT, Int.toNat_natCast, Int.cast_ofNat_Int, Int.reduceNe, Int.reduceEq, Int.reduceBEq, Int.reduceBNe, not_false_eq_true, ne_eq, Int.reduceTMod, Int.reduceTDiv, beq_self_eq_true, bne_self_eq_false, List.contains_cons, List.contains_nil, Nat.reduceBEq]
  refine brP (fun hb => ?_) (fun hb => ?_)
  · have hlt : i < 8 := by simp only [decide_eq_true_eq] at hb; omega
    have q1 := fk t pid (hI.ok (by omega)) hnx.1
    have q2 := fun u => su t pid u (hI.ok (by omega))
    have q3 := fun u => sg t pid u (hI.ok (by omega))
    have q4 := fun e c => ex t pid e c (hI.ok (by omega))
    simp only [TbL_eq] at q1 q2 q3 q4
    repeat' (first | (simp (disch := first | omega | (simp only [List.length_cons, List.length_nil]; first | done | omega)) only [go_sem, Nat.reduceAdd, Nat.reduceMul, Nat.reduceSub, Nat.reduceEqDiff, Nat.reduceLeDiff, Nat.reduceMod, Nat.reduceLT, Int.reduceToNat, Int.reduceAdd, Int.reduceSub, Int.reduceMul, Int.reduceNeg, Int.reduceLE, Int.reduceLT, Int.toNat_natCast, Int.cast_ofNat_Int, Int.reduceNe, Int.reduceEq, Int.reduceBEq, Int.reduceBNe, not_false_eq_true, ne_eq, Int.reduceTMod, Int.reduceTDiv, beq_self_eq_true, bne_self_eq_false, List.contains_cons, List.contains_nil, Nat.reduceBEq]) | (refine allI (fun b => ?_)) | (refine allT (fun τ => ?_)) | (refine brP (fun h => ?_) (fun h => ?_) <;> (try simp only [Bool.and_eq_true, Bool.and_eq_false_iff, Bool.or_eq_true, Bool.or_eq_false_iff, Bool.not_eq_true', Bool.not_eq_false', decide_eq_true_eq, decide_eq_false_iff_not, beq_iff_eq, beq_eq_false_iff_ne, ne_eq, bne_iff_ne, Int.not_lt, Int.not_le] at h)) | (apply And.intro; focus (first | omega | (simp; done) | (simp +contextual; done) | (intros; and_intros <;> first | assumption | omega) | (intros; simp_all; done) | (intro hgd; refine ⟨hgd, ?_⟩; simp [hgd]; done) | (intro hgd; simp only [beq_eq_false_iff_ne, beq_iff_eq, decide_eq_true_eq, decide_eq_false_iff_not, bne_iff_ne, ne_eq, Bool.and_eq_true, Bool.or_eq_false_iff, Bool.or_eq_true, Bool.and_eq_false_iff] at hgd ⊢; omega))) | fail)
    first | refine actsE_U (gn 4 (by omega) 3000 sb l n (hl.at (by omega) (by omega)) (by omega)) (by first | rfl | simp only [getH, if_true]) ?_ | refine actsE_T (gn 4 (by omega) 3000 sb l n (hl.at (by omega) (by omega)) (by omega)) (by first | rfl | simp only [getH, if_true]) ?_ | refine actsE_N (gn 4 (by omega) 3000 sb l n (hl.at (by omega) (by omega)) (by omega)) (by first | rfl | simp only [getH, if_true]) ?_ | refine actsE_of (gn 4 (by omega) 3000 sb l n (hl.at (by omega) (by omega)) (by omega)) (by first | rfl | simp only [getH, if_true]) ?_
    rintro _ _ ⟨a1, ha1, ⟨v, hv, rfl⟩, rfl⟩
    repeat' (first | (simp (disch := first | omega | (simp only [List.length_cons, List.length_nil]; first | done | omega)) only [go_sem, Nat.reduceAdd, Nat.reduceMul, Nat.reduceSub, Nat.reduceEqDiff, Nat.reduceLeDiff, Nat.reduceMod, Nat.reduceLT, Int.reduceToNat, Int.reduceAdd, Int.reduceSub, Int.reduceMul, Int.reduceNeg, Int.reduceLE, Int.reduceLT, Int.toNat_natCast, Int.cast_ofNat_Int, Int.reduceNe, Int.reduceEq, Int.reduceBEq, Int.reduceBNe, not_false_eq_true, ne_eq, Int.reduceTMod, Int.reduceTDiv, beq_self_eq_true, bne_self_eq_false, List.contains_cons, List.contains_nil, Nat.reduceBEq]) | (refine allI (fun b => ?_)) | (refine allT (fun τ => ?_)) | (refine brP (fun h => ?_) (fun h => ?_) <;> (try simp only [Bool.and_eq_true, Bool.and_eq_false_iff, Bool.or_eq_true, Bool.or_eq_false_iff, Bool.not_eq_true', Bool.not_eq_false', decide_eq_true_eq, decide_eq_false_iff_not, beq_iff_eq, beq_eq_false_iff_ne, ne_eq, bne_iff_ne, Int.not_lt, Int.not_le] at h)) | refine call_U (q1) ?_ | refine callG_U (fun _ => q1) ?_ | refine call_T (q1) ?_ | refine callG_T (fun _ => q1) ?_ | refine call_N (q1) ?_ | refine call_of (q1) ?_ | refine callG_of (fun _ => q1) ?_ | (apply And.intro; focus (first | omega | (simp; done) | (simp +contextual; done) | (intros; and_intros <;> first | assumption | omega) | (intros; simp_all; done) | (intro hgd; refine ⟨hgd, ?_⟩; simp [hgd]; done) | (intro hgd; simp only [beq_eq_false_iff_ne, beq_iff_eq, decide_eq_true_eq, decide_eq_false_iff_not, bne_iff_ne, ne_eq, Bool.and_eq_true, Bool.or_eq_false_iff, Bool.or_eq_true, Bool.and_eq_false_iff] at hgd ⊢; omega))) | fail)
    · have hT := hI.fk h
      rw [if_pos h]
      generalize (fkR t pid).2 = T at hT ⊢
      have hNN : 0 ≤ a1 ∧ a1 ≤ 20 * (i + 1) := by omega
      have g1 := get_ T t.nx (hT.ok (by omega))
      have g2 := lo T t.nx 3 (hT.ok (by omega)) hT.ns
      have g3 := hT.lo (by omega)
      have g4 := hT.at_
      rw [getR, if_neg (by omega)] at g1
      have e1 := hT.au
      have e2 := hT.se
      generalize pAt T (findI T t.nx).toNat = q at g1 g3 e1 e2
      generalize loR T t.nx 3 = R at g2 g3
      simp only [TbL_eq, PsC_eq] at g1 g2
      repeat' (first | (simp (disch := first | omega | (simp only [List.length_cons, List.length_nil]; first | done | omega)) only [go_sem, Nat.reduceAdd, Nat.reduceMul, Nat.reduceSub, Nat.reduceEqDiff, Nat.reduceLeDiff, Nat.reduceMod, Nat.reduceLT, Int.reduceToNat, Int.reduceAdd, Int.reduceSub, Int.reduceMul, Int.reduceNeg, Int.reduceLE, Int.reduceLT, Int.toNat_natCast, Int.cast_ofNat_Int, Int.reduceNe, Int.reduceEq, Int.reduceBEq, Int.reduceBNe, not_false_eq_true, ne_eq, Int.reduceTMod, Int.reduceTDiv, beq_self_eq_true, bne_self_eq_false, List.contains_cons, List.contains_nil, Nat.reduceBEq]) | (refine allI (fun b => ?_)) | (refine allT (fun τ => ?_)) | (refine brP (fun h => ?_) (fun h => ?_) <;> (try simp only [Bool.and_eq_true, Bool.and_eq_false_iff, Bool.or_eq_true, Bool.or_eq_false_iff, Bool.not_eq_true', Bool.not_eq_false', decide_eq_true_eq, decide_eq_false_iff_not, beq_iff_eq, beq_eq_false_iff_ne, ne_eq, bne_iff_ne, Int.not_lt, Int.not_le] at h)) | refine call_U (g1) ?_ | refine callG_U (fun _ => g1) ?_ | refine call_T (g1) ?_ | refine callG_T (fun _ => g1) ?_ | refine call_U (g2) ?_ | refine callG_U (fun _ => g2) ?_ | refine call_T (g2) ?_ | refine callG_T (fun _ => g2) ?_ | refine call_N (g1) ?_ | refine call_of (g1) ?_ | refine callG_of (fun _ => g1) ?_ | refine call_N (g2) ?_ | refine call_of (g2) ?_ | refine callG_of (fun _ => g2) ?_ | (apply And.intro; focus (first | omega | (simp; done) | (simp +contextual; done) | (intros; and_intros <;> first | assumption | omega) | (intros; simp_all; done) | (intro hgd; refine ⟨hgd, ?_⟩; simp [hgd]; done) | (intro hgd; simp only [beq_eq_false_iff_ne, beq_iff_eq, decide_eq_true_eq, decide_eq_false_iff_not, bne_iff_ne, ne_eq, Bool.and_eq_true, Bool.or_eq_false_iff, Bool.or_eq_true, Bool.and_eq_false_iff] at hgd ⊢; omega))) | fail)
      · omega
      · exact h (Bool.eq_iff_iff.2 (by simpa using g3))
      · refine ⟨⟨(i + 1, t.nx, T, a1), by omega, hT, by dsimp only; omega⟩, by dsimp only; omega, Ents.sub (by simp [go_sem]) ⟨_, ?_, List.Perm.refl _⟩⟩
        repeat (first | exact List.Sublist.refl _ | apply List.Sublist.cons)
    · have hT := hI.more
      have hNN : 0 ≤ a1 ∧ a1 ≤ 20 * (i + 1) := by omega
      have g1 := get_ t pid (hT.ok (by omega))
      have g2 := lo t pid 3 (hT.ok (by omega)) hT.ns
      have g3 := hT.lo (by omega)
      have g4 := hT.at_
      rw [getR, if_neg (by omega)] at g1
      have e1 := hT.au
      have e2 := hT.se
      generalize pAt t (findI t pid).toNat = q at g1 g3 e1 e2
      generalize loR t pid 3 = R at g2 g3
      simp only [TbL_eq, PsC_eq] at g1 g2
      repeat' (first | (simp (disch := first | omega | (simp only [List.length_cons, List.length_nil]; first | done | omega)) only [go_sem, Nat.reduceAdd, Nat.reduceMul, Nat.reduceSub, Nat.reduceEqDiff, Nat.reduceLeDiff, Nat.reduceMod, Nat.reduceLT, Int.reduceToNat, Int.reduceAdd, Int.reduceSub, Int.reduceMul, Int.reduceNeg, Int.reduceLE, Int.reduceLT, Int.toNat_natCast, Int.cast_ofNat_Int, Int.reduceNe, Int.reduceEq, Int.reduceBEq, Int.reduceBNe, not_false_eq_true, ne_eq, Int.reduceTMod, Int.reduceTDiv, beq_self_eq_true, bne_self_eq_false, List.contains_cons, List.contains_nil, Nat.reduceBEq]) | (refine allI (fun b => ?_)) | (refine allT (fun τ => ?_)) | (refine brP (fun h => ?_) (fun h => ?_) <;> (try simp only [Bool.and_eq_true, Bool.and_eq_false_iff, Bool.or_eq_true, Bool.or_eq_false_iff, Bool.not_eq_true', Bool.not_eq_false', decide_eq_true_eq, decide_eq_false_iff_not, beq_iff_eq, beq_eq_false_iff_ne, ne_eq, bne_iff_ne, Int.not_lt, Int.not_le] at h)) | refine call_U (g1) ?_ | refine callG_U (fun _ => g1) ?_ | refine call_T (g1) ?_ | refine callG_T (fun _ => g1) ?_ | refine call_U (g2) ?_ | refine callG_U (fun _ => g2) ?_ | refine call_T (g2) ?_ | refine callG_T (fun _ => g2) ?_ | refine call_N (g1) ?_ | refine call_of (g1) ?_ | refine callG_of (fun _ => g1) ?_ | refine call_N (g2) ?_ | refine call_of (g2) ?_ | refine callG_of (fun _ => g2) ?_ | (apply And.intro; focus (first | omega | (simp; done) | (simp +contextual; done) | (intros; and_intros <;> first | assumption | omega) | (intros; simp_all; done) | (intro hgd; refine ⟨hgd, ?_⟩; simp [hgd]; done) | (intro hgd; simp only [beq_eq_false_iff_ne, beq_iff_eq, decide_eq_true_eq, decide_eq_false_iff_not, bne_iff_ne, ne_eq, Bool.and_eq_true, Bool.or_eq_false_iff, Bool.or_eq_true, Bool.and_eq_false_iff] at hgd ⊢; omega))) | fail)
      · omega
      · exact h (Bool.eq_iff_iff.2 (by simpa using g3))
      · refine ⟨⟨(i + 1, pid, t, a1), by omega, hT, by dsimp only; omega⟩, by dsimp only; omega, Ents.sub (by simp [go_sem]) ⟨_, ?_, List.Perm.refl _⟩⟩
        repeat (first | exact List.Sublist.refl _ | apply List.Sublist.cons)
    · refine actsE_of (gn 9 (by omega) 3000 sb l a1 (hl.at (by omega) (by omega)) (by omega)) rfl ?_
      rintro _ _ ⟨a2, ha2, ⟨u, hu, rfl⟩, rfl⟩
      repeat' (first | (simp (disch := first | omega | (simp only [List.length_cons, List.length_nil]; first | done | omega)) only [go_sem, Nat.reduceAdd, Nat.reduceMul, Nat.reduceSub, Nat.reduceEqDiff, Nat.reduceLeDiff, Nat.reduceMod, Nat.reduceLT, Int.reduceToNat, Int.reduceAdd, Int.reduceSub, Int.reduceMul, Int.reduceNeg, Int.reduceLE, Int.reduceLT, Int.toNat_natCast, Int.cast_ofNat_Int, Int.reduceNe, Int.reduceEq, Int.reduceBEq, Int.reduceBNe, not_false_eq_true, ne_eq, Int.reduceTMod, Int.reduceTDiv, beq_self_eq_true, bne_self_eq_false, List.contains_cons, List.contains_nil, Nat.reduceBEq]) | (refine allI (fun b => ?_)) | (refine allT (fun τ => ?_)) | (refine brP (fun h => ?_) (fun h => ?_) <;> (try simp only [Bool.and_eq_true, Bool.and_eq_false_iff, Bool.or_eq_true, Bool.or_eq_false_iff, Bool.not_eq_true', Bool.not_eq_false', decide_eq_true_eq, decide_eq_false_iff_not, beq_iff_eq, beq_eq_false_iff_ne, ne_eq, bne_iff_ne, Int.not_lt, Int.not_le] at h)) | refine call_U (q2 u) ?_ | refine callG_U (fun _ => q2 u) ?_ | refine call_T (q2 u) ?_ | refine callG_T (fun _ => q2 u) ?_ | refine call_N (q2 u) ?_ | refine call_of (q2 u) ?_ | refine callG_of (fun _ => q2 u) ?_ | (apply And.intro; focus (first | omega | (simp; done) | (simp +contextual; done) | (intros; and_intros <;> first | assumption | omega) | (intros; simp_all; done) | (intro hgd; refine ⟨hgd, ?_⟩; simp [hgd]; done) | (intro hgd; simp only [beq_eq_false_iff_ne, beq_iff_eq, decide_eq_true_eq, decide_eq_false_iff_not, bne_iff_ne, ne_eq, Bool.and_eq_true, Bool.or_eq_false_iff, Bool.or_eq_true, Bool.and_eq_false_iff] at hgd ⊢; omega))) | fail)
      · have hT := hI.su h
        generalize (suR t pid u).2 = T at hT ⊢
        have hNN : 0 ≤ a2 ∧ a2 ≤ 20 * (i + 1) := by omega
        have g1 := get_ T pid (hT.ok (by omega))
        have g2 := lo T pid 3 (hT.ok (by omega)) hT.ns
        have g3 := hT.lo (by omega)
        have g4 := hT.at_
        rw [getR, if_neg (by omega)] at g1
        have e1 := hT.au
        have e2 := hT.se
        generalize pAt T (findI T pid).toNat = q at g1 g3 e1 e2
        generalize loR T pid 3 = R at g2 g3
        simp only [TbL_eq, PsC_eq] at g1 g2
        repeat' (first | (simp (disch := first | omega | (simp only [List.length_cons, List.length_nil]; first | done | omega)) only [go_sem, Nat.reduceAdd, Nat.reduceMul, Nat.reduceSub, Nat.reduceEqDiff, Nat.reduceLeDiff, Nat.reduceMod, Nat.reduceLT, Int.reduceToNat, Int.reduceAdd, Int.reduceSub, Int.reduceMul, Int.reduceNeg, Int.reduceLE, Int.reduceLT, Int.toNat_natCast, Int.cast_ofNat_Int, Int.reduceNe, Int.reduceEq, Int.reduceBEq, Int.reduceBNe, not_false_eq_true, ne_eq, Int.reduceTMod, Int.reduceTDiv, beq_self_eq_true, bne_self_eq_false, List.contains_cons, List.contains_nil, Nat.reduceBEq]) | (refine allI (fun b => ?_)) | (refine allT (fun τ => ?_)) | (refine brP (fun h => ?_) (fun h => ?_) <;> (try simp only [Bool.and_eq_true, Bool.and_eq_false_iff, Bool.or_eq_true, Bool.or_eq_false_iff, Bool.not_eq_true', Bool.not_eq_false', decide_eq_true_eq, decide_eq_false_iff_not, beq_iff_eq, beq_eq_false_iff_ne, ne_eq, bne_iff_ne, Int.not_lt, Int.not_le] at h)) | refine call_U (g1) ?_ | refine callG_U (fun _ => g1) ?_ | refine call_T (g1) ?_ | refine callG_T (fun _ => g1) ?_ | refine call_U (g2) ?_ | refine callG_U (fun _ => g2) ?_ | refine call_T (g2) ?_ | refine callG_T (fun _ => g2) ?_ | refine call_N (g1) ?_ | refine call_of (g1) ?_ | refine callG_of (fun _ => g1) ?_ | refine call_N (g2) ?_ | refine call_of (g2) ?_ | refine callG_of (fun _ => g2) ?_ | (apply And.intro; focus (first | omega | (simp; done) | (simp +contextual; done) | (intros; and_intros <;> first | assumption | omega) | (intros; simp_all; done) | (intro hgd; refine ⟨hgd, ?_⟩; simp [hgd]; done) | (intro hgd; simp only [beq_eq_false_iff_ne, beq_iff_eq, decide_eq_true_eq, decide_eq_false_iff_not, bne_iff_ne, ne_eq, Bool.and_eq_true, Bool.or_eq_false_iff, Bool.or_eq_true, Bool.and_eq_false_iff] at hgd ⊢; omega))) | fail)
        · omega
        · exact h (Bool.eq_iff_iff.2 (by simpa using g3))
        · refine ⟨⟨(i + 1, pid, T, a2), by omega, hT, by dsimp only; omega⟩, by dsimp only; omega, Ents.sub (by simp [go_sem]) ⟨_, ?_, List.Perm.refl _⟩⟩
          repeat (first | exact List.Sublist.refl _ | apply List.Sublist.cons)
      · have hT := hI.more
        have hNN : 0 ≤ a2 ∧ a2 ≤ 20 * (i + 1) := by omega
        have g1 := get_ t pid (hT.ok (by omega))
        have g2 := lo t pid 3 (hT.ok (by omega)) hT.ns
        have g3 := hT.lo (by omega)
        have g4 := hT.at_
        rw [getR, if_neg (by omega)] at g1
        have e1 := hT.au
        have e2 := hT.se
        generalize pAt t (findI t pid).toNat = q at g1 g3 e1 e2
        generalize loR t pid 3 = R at g2 g3
        simp only [TbL_eq, PsC_eq] at g1 g2
        repeat' (first | (simp (disch := first | omega | (simp only [List.length_cons, List.length_nil]; first | done | omega)) only [go_sem, Nat.reduceAdd, Nat.reduceMul, Nat.reduceSub, Nat.reduceEqDiff, Nat.reduceLeDiff, Nat.reduceMod, Nat.reduceLT, Int.reduceToNat, Int.reduceAdd, Int.reduceSub, Int.reduceMul, Int.reduceNeg, Int.reduceLE, Int.reduceLT, Int.toNat_natCast, Int.cast_ofNat_Int, Int.reduceNe, Int.reduceEq, Int.reduceBEq, Int.reduceBNe, not_false_eq_true, ne_eq, Int.reduceTMod, Int.reduceTDiv, beq_self_eq_true, bne_self_eq_false, List.contains_cons, List.contains_nil, Nat.reduceBEq]) | (refine allI (fun b => ?_)) | (refine allT (fun τ => ?_)) | (refine brP (fun h => ?_) (fun h => ?_) <;> (try simp only [Bool.and_eq_true, Bool.and_eq_false_iff, Bool.or_eq_true, Bool.or_eq_false_iff, Bool.not_eq_true', Bool.not_eq_false', decide_eq_true_eq, decide_eq_false_iff_not, beq_iff_eq, beq_eq_false_iff_ne, ne_eq, bne_iff_ne, Int.not_lt, Int.not_le] at h)) | refine call_U (g1) ?_ | refine callG_U (fun _ => g1) ?_ | refine call_T (g1) ?_ | refine callG_T (fun _ => g1) ?_ | refine call_U (g2) ?_ | refine callG_U (fun _ => g2) ?_ | refine call_T (g2) ?_ | refine callG_T (fun _ => g2) ?_ | refine call_N (g1) ?_ | refine call_of (g1) ?_ | refine callG_of (fun _ => g1) ?_ | refine call_N (g2) ?_ | refine call_of (g2) ?_ | refine callG_of (fun _ => g2) ?_ | (apply And.intro; focus (first | omega | (simp; done) | (simp +contextual; done) | (intros; and_intros <;> first | assumption | omega) | (intros; simp_all; done) | (intro hgd; refine ⟨hgd, ?_⟩; simp [hgd]; done) | (intro hgd; simp only [beq_eq_false_iff_ne, beq_iff_eq, decide_eq_true_eq, decide_eq_false_iff_not, bne_iff_ne, ne_eq, Bool.and_eq_true, Bool.or_eq_false_iff, Bool.or_eq_true, Bool.and_eq_false_iff] at hgd ⊢; omega))) | fail)
        · omega
        · exact h (Bool.eq_iff_iff.2 (by simpa using g3))
        · refine ⟨⟨(i + 1, pid, t, a2), by omega, hT, by dsimp only; omega⟩, by dsimp only; omega, Ents.sub (by simp [go_sem]) ⟨_, ?_, List.Perm.refl _⟩⟩
          repeat (first | exact List.Sublist.refl _ | apply List.Sublist.cons)
    · refine actsE_of (gn 9 (by omega) 3000 sb l a1 (hl.at (by omega) (by omega)) (by omega)) rfl ?_
      rintro _ _ ⟨a2, ha2, ⟨u, hu, rfl⟩, rfl⟩
      repeat' (first | (simp (disch := first | omega | (simp only [List.length_cons, List.length_nil]; first | done | omega)) only [go_sem, Nat.reduceAdd, Nat.reduceMul, Nat.reduceSub, Nat.reduceEqDiff, Nat.reduceLeDiff, Nat.reduceMod, Nat.reduceLT, Int.reduceToNat, Int.reduceAdd, Int.reduceSub, Int.reduceMul, Int.reduceNeg, Int.reduceLE, Int.reduceLT, Int.toNat_natCast, Int.cast_ofNat_Int, Int.reduceNe, Int.reduceEq, Int.reduceBEq, Int.reduceBNe, not_false_eq_true, ne_eq, Int.reduceTMod, Int.reduceTDiv, beq_self_eq_true, bne_self_eq_false, List.contains_cons, List.contains_nil, Nat.reduceBEq]) | (refine allI (fun b => ?_)) | (refine allT (fun τ => ?_)) | (refine brP (fun h => ?_) (fun h => ?_) <;> (try simp only [Bool.and_eq_true, Bool.and_eq_false_iff, Bool.or_eq_true, Bool.or_eq_false_iff, Bool.not_eq_true', Bool.not_eq_false', decide_eq_true_eq, decide_eq_false_iff_not, beq_iff_eq, beq_eq_false_iff_ne, ne_eq, bne_iff_ne, Int.not_lt, Int.not_le] at h)) | refine call_U (q3 u) ?_ | refine callG_U (fun _ => q3 u) ?_ | refine call_T (q3 u) ?_ | refine callG_T (fun _ => q3 u) ?_ | refine call_N (q3 u) ?_ | refine call_of (q3 u) ?_ | refine callG_of (fun _ => q3 u) ?_ | (apply And.intro; focus (first | omega | (simp; done) | (simp +contextual; done) | (intros; and_intros <;> first | assumption | omega) | (intros; simp_all; done) | (intro hgd; refine ⟨hgd, ?_⟩; simp [hgd]; done) | (intro hgd; simp only [beq_eq_false_iff_ne, beq_iff_eq, decide_eq_true_eq, decide_eq_false_iff_not, bne_iff_ne, ne_eq, Bool.and_eq_true, Bool.or_eq_false_iff, Bool.or_eq_true, Bool.and_eq_false_iff] at hgd ⊢; omega))) | fail)
      · have hT := hI.sg h
        generalize (sgR t pid u).2 = T at hT ⊢
        have hNN : 0 ≤ a2 ∧ a2 ≤ 20 * (i + 1) := by omega
        have g1 := get_ T pid (hT.ok (by omega))
        have g2 := lo T pid 3 (hT.ok (by omega)) hT.ns
        have g3 := hT.lo (by omega)
        have g4 := hT.at_
        rw [getR, if_neg (by omega)] at g1
        have e1 := hT.au
        have e2 := hT.se
        generalize pAt T (findI T pid).toNat = q at g1 g3 e1 e2
        generalize loR T pid 3 = R at g2 g3
        simp only [TbL_eq, PsC_eq] at g1 g2
        repeat' (first | (simp (disch := first | omega | (simp only [List.length_cons, List.length_nil]; first | done | omega)) only [go_sem, Nat.reduceAdd, Nat.reduceMul, Nat.reduceSub, Nat.reduceEqDiff, Nat.reduceLeDiff, Nat.reduceMod, Nat.reduceLT, Int.reduceToNat, Int.reduceAdd, Int.reduceSub, Int.reduceMul, Int.reduceNeg, Int.reduceLE, Int.reduceLT, Int.toNat_natCast, Int.cast_ofNat_Int, Int.reduceNe, Int.reduceEq, Int.reduceBEq, Int.reduceBNe, not_false_eq_true, ne_eq, Int.reduceTMod, Int.reduceTDiv, beq_self_eq_true, bne_self_eq_false, List.contains_cons, List.contains_nil, Nat.reduceBEq]) | (refine allI (fun b => ?_)) | (refine allT (fun τ => ?_)) | (refine brP (fun h => ?_) (fun h => ?_) <;> (try simp only [Bool.and_eq_true, Bool.and_eq_false_iff, Bool.or_eq_true, Bool.or_eq_false_iff, Bool.not_eq_true', Bool.not_eq_false', decide_eq_true_eq, decide_eq_false_iff_not, beq_iff_eq, beq_eq_false_iff_ne, ne_eq, bne_iff_ne, Int.not_lt, Int.not_le] at h)) | refine call_U (g1) ?_ | refine callG_U (fun _ => g1) ?_ | refine call_T (g1) ?_ | refine callG_T (fun _ => g1) ?_ | refine call_U (g2) ?_ | refine callG_U (fun _ => g2) ?_ | refine call_T (g2) ?_ | refine callG_T (fun _ => g2) ?_ | refine call_N (g1) ?_ | refine call_of (g1) ?_ | refine callG_of (fun _ => g1) ?_ | refine call_N (g2) ?_ | refine call_of (g2) ?_ | refine callG_of (fun _ => g2) ?_ | (apply And.intro; focus (first | omega | (simp; done) | (simp +contextual; done) | (intros; and_intros <;> first | assumption | omega) | (intros; simp_all; done) | (intro hgd; refine ⟨hgd, ?_⟩; simp [hgd]; done) | (intro hgd; simp only [beq_eq_false_iff_ne, beq_iff_eq, decide_eq_true_eq, decide_eq_false_iff_not, bne_iff_ne, ne_eq, Bool.and_eq_true, Bool.or_eq_false_iff, Bool.or_eq_true, Bool.and_eq_false_iff] at hgd ⊢; omega))) | fail)
        · omega
        · exact h (Bool.eq_iff_iff.2 (by simpa using g3))
        · refine ⟨⟨(i + 1, pid, T, a2), by omega, hT, by dsimp only; omega⟩, by dsimp only; omega, Ents.sub (by simp [go_sem]) ⟨_, ?_, List.Perm.refl _⟩⟩
          repeat (first | exact List.Sublist.refl _ | apply List.Sublist.cons)
      · have hT := hI.more
        have hNN : 0 ≤ a2 ∧ a2 ≤ 20 * (i + 1) := by omega
        have g1 := get_ t pid (hT.ok (by omega))
        have g2 := lo t pid 3 (hT.ok (by omega)) hT.ns
        have g3 := hT.lo (by omega)
        have g4 := hT.at_
        rw [getR, if_neg (by omega)] at g1
        have e1 := hT.au
        have e2 := hT.se
        generalize pAt t (findI t pid).toNat = q at g1 g3 e1 e2
        generalize loR t pid 3 = R at g2 g3
        simp only [TbL_eq, PsC_eq] at g1 g2
        repeat' (first | (simp (disch := first | omega | (simp only [List.length_cons, List.length_nil]; first | done | omega)) only [go_sem, Nat.reduceAdd, Nat.reduceMul, Nat.reduceSub, Nat.reduceEqDiff, Nat.reduceLeDiff, Nat.reduceMod, Nat.reduceLT, Int.reduceToNat, Int.reduceAdd, Int.reduceSub, Int.reduceMul, Int.reduceNeg, Int.reduceLE, Int.reduceLT, Int.toNat_natCast, Int.cast_ofNat_Int, Int.reduceNe, Int.reduceEq, Int.reduceBEq, Int.reduceBNe, not_false_eq_true, ne_eq, Int.reduceTMod, Int.reduceTDiv, beq_self_eq_true, bne_self_eq_false, List.contains_cons, List.contains_nil, Nat.reduceBEq]) | (refine allI (fun b => ?_)) | (refine allT (fun τ => ?_)) | (refine brP (fun h => ?_) (fun h => ?_) <;> (try simp only [Bool.and_eq_true, Bool.and_eq_false_iff, Bool.or_eq_true, Bool.or_eq_false_iff, Bool.not_eq_true', Bool.not_eq_false', decide_eq_true_eq, decide_eq_false_iff_not, beq_iff_eq, beq_eq_false_iff_ne, ne_eq, bne_iff_ne, Int.not_lt, Int.not_le] at h)) | refine call_U (g1) ?_ | refine callG_U (fun _ => g1) ?_ | refine call_T (g1) ?_ | refine callG_T (fun _ => g1) ?_ | refine call_U (g2) ?_ | refine callG_U (fun _ => g2) ?_ | refine call_T (g2) ?_ | refine callG_T (fun _ => g2) ?_ | refine call_N (g1) ?_ | refine call_of (g1) ?_ | refine callG_of (fun _ => g1) ?_ | refine call_N (g2) ?_ | refine call_of (g2) ?_ | refine callG_of (fun _ => g2) ?_ | (apply And.intro; focus (first | omega | (simp; done) | (simp +contextual; done) | (intros; and_intros <;> first | assumption | omega) | (intros; simp_all; done) | (intro hgd; refine ⟨hgd, ?_⟩; simp [hgd]; done) | (intro hgd; simp only [beq_eq_false_iff_ne, beq_iff_eq, decide_eq_true_eq, decide_eq_false_iff_not, bne_iff_ne, ne_eq, Bool.and_eq_true, Bool.or_eq_false_iff, Bool.or_eq_true, Bool.and_eq_false_iff] at hgd ⊢; omega))) | fail)
        · omega
        · exact h (Bool.eq_iff_iff.2 (by simpa using g3))
        · refine ⟨⟨(i + 1, pid, t, a2), by omega, hT, by dsimp only; omega⟩, by dsimp only; omega, Ents.sub (by simp [go_sem]) ⟨_, ?_, List.Perm.refl _⟩⟩
          repeat (first | exact List.Sublist.refl _ | apply List.Sublist.cons)
    · refine actsE_of (clean 3000 sb l a1 (hl.at (by omega) (by omega)) (by omega)) rfl ?_
      rintro _ _ ⟨a2, ha2, ⟨u, hu, rfl⟩, rfl⟩
      repeat' (first | (simp (disch := first | omega | (simp only [List.length_cons, List.length_nil]; first | done | omega)) only [go_sem, Nat.reduceAdd, Nat.reduceMul, Nat.reduceSub, Nat.reduceEqDiff, Nat.reduceLeDiff, Nat.reduceMod, Nat.reduceLT, Int.reduceToNat, Int.reduceAdd, Int.reduceSub, Int.reduceMul, Int.reduceNeg, Int.reduceLE, Int.reduceLT, Int.toNat_natCast, Int.cast_ofNat_Int, Int.reduceNe, Int.reduceEq, Int.reduceBEq, Int.reduceBNe, not_false_eq_true, ne_eq, Int.reduceTMod, Int.reduceTDiv, beq_self_eq_true, bne_self_eq_false, List.contains_cons, List.contains_nil, Nat.reduceBEq]) | (refine allI (fun b => ?_)) | (refine allT (fun τ => ?_)) | (refine brP (fun h => ?_) (fun h => ?_) <;> (try simp only [Bool.and_eq_true, Bool.and_eq_false_iff, Bool.or_eq_true, Bool.or_eq_false_iff, Bool.not_eq_true', Bool.not_eq_false', decide_eq_true_eq, decide_eq_false_iff_not, beq_iff_eq, beq_eq_false_iff_ne, ne_eq, bne_iff_ne, Int.not_lt, Int.not_le] at h)) | refine call_U (q4 u _) ?_ | refine callG_U (fun _ => q4 u _) ?_ | refine call_T (q4 u _) ?_ | refine callG_T (fun _ => q4 u _) ?_ | refine call_N (q4 u _) ?_ | refine call_of (q4 u _) ?_ | refine callG_of (fun _ => q4 u _) ?_ | (apply And.intro; focus (first | omega | (simp; done) | (simp +contextual; done) | (intros; and_intros <;> first | assumption | omega) | (intros; simp_all; done) | (intro hgd; refine ⟨hgd, ?_⟩; simp [hgd]; done) | (intro hgd; simp only [beq_eq_false_iff_ne, beq_iff_eq, decide_eq_true_eq, decide_eq_false_iff_not, bne_iff_ne, ne_eq, Bool.and_eq_true, Bool.or_eq_false_iff, Bool.or_eq_true, Bool.and_eq_false_iff] at hgd ⊢; omega))) | fail)
      · have hT := hI.ex h
        generalize (exR t pid u [97]).2 = T at hT ⊢
        have hNN : 0 ≤ a2 ∧ a2 ≤ 20 * (i + 1) := by omega
        have g1 := get_ T pid (hT.ok (by omega))
        have g2 := lo T pid 3 (hT.ok (by omega)) hT.ns
        have g3 := hT.lo (by omega)
        have g4 := hT.at_
        rw [getR, if_neg (by omega)] at g1
        have e1 := hT.au
        have e2 := hT.se
        generalize pAt T (findI T pid).toNat = q at g1 g3 e1 e2
        generalize loR T pid 3 = R at g2 g3
        simp only [TbL_eq, PsC_eq] at g1 g2
        repeat' (first | (simp (disch := first | omega | (simp only [List.length_cons, List.length_nil]; first | done | omega)) only [go_sem, Nat.reduceAdd, Nat.reduceMul, Nat.reduceSub, Nat.reduceEqDiff, Nat.reduceLeDiff, Nat.reduceMod, Nat.reduceLT, Int.reduceToNat, Int.reduceAdd, Int.reduceSub, Int.reduceMul, Int.reduceNeg, Int.reduceLE, Int.reduceLT, Int.toNat_natCast, Int.cast_ofNat_Int, Int.reduceNe, Int.reduceEq, Int.reduceBEq, Int.reduceBNe, not_false_eq_true, ne_eq, Int.reduceTMod, Int.reduceTDiv, beq_self_eq_true, bne_self_eq_false, List.contains_cons, List.contains_nil, Nat.reduceBEq]) | (refine allI (fun b => ?_)) | (refine allT (fun τ => ?_)) | (refine brP (fun h => ?_) (fun h => ?_) <;> (try simp only [Bool.and_eq_true, Bool.and_eq_false_iff, Bool.or_eq_true, Bool.or_eq_false_iff, Bool.not_eq_true', Bool.not_eq_false', decide_eq_true_eq, decide_eq_false_iff_not, beq_iff_eq, beq_eq_false_iff_ne, ne_eq, bne_iff_ne, Int.not_lt, Int.not_le] at h)) | refine call_U (g1) ?_ | refine callG_U (fun _ => g1) ?_ | refine call_T (g1) ?_ | refine callG_T (fun _ => g1) ?_ | refine call_U (g2) ?_ | refine callG_U (fun _ => g2) ?_ | refine call_T (g2) ?_ | refine callG_T (fun _ => g2) ?_ | refine call_N (g1) ?_ | refine call_of (g1) ?_ | refine callG_of (fun _ => g1) ?_ | refine call_N (g2) ?_ | refine call_of (g2) ?_ | refine callG_of (fun _ => g2) ?_ | (apply And.intro; focus (first | omega | (simp; done) | (simp +contextual; done) | (intros; and_intros <;> first | assumption | omega) | (intros; simp_all; done) | (intro hgd; refine ⟨hgd, ?_⟩; simp [hgd]; done) | (intro hgd; simp only [beq_eq_false_iff_ne, beq_iff_eq, decide_eq_true_eq, decide_eq_false_iff_not, bne_iff_ne, ne_eq, Bool.and_eq_true, Bool.or_eq_false_iff, Bool.or_eq_true, Bool.and_eq_false_iff] at hgd ⊢; omega))) | fail)
        · omega
        · exact h (Bool.eq_iff_iff.2 (by simpa using g3))
        · refine ⟨⟨(i + 1, pid, T, a2), by omega, hT, by dsimp only; omega⟩, by dsimp only; omega, Ents.sub (by simp [go_sem]) ⟨_, ?_, List.Perm.refl _⟩⟩
          repeat (first | exact List.Sublist.refl _ | apply List.Sublist.cons)
      · have hT := hI.more
        have hNN : 0 ≤ a2 ∧ a2 ≤ 20 * (i + 1) := by omega
        have g1 := get_ t pid (hT.ok (by omega))
        have g2 := lo t pid 3 (hT.ok (by omega)) hT.ns
        have g3 := hT.lo (by omega)
        have g4 := hT.at_
        rw [getR, if_neg (by omega)] at g1
        have e1 := hT.au
        have e2 := hT.se
        generalize pAt t (findI t pid).toNat = q at g1 g3 e1 e2
        generalize loR t pid 3 = R at g2 g3
        simp only [TbL_eq, PsC_eq] at g1 g2
        repeat' (first | (simp (disch := first | omega | (simp only [List.length_cons, List.length_nil]; first | done | omega)) only [go_sem, Nat.reduceAdd, Nat.reduceMul, Nat.reduceSub, Nat.reduceEqDiff, Nat.reduceLeDiff, Nat.reduceMod, Nat.reduceLT, Int.reduceToNat, Int.reduceAdd, Int.reduceSub, Int.reduceMul, Int.reduceNeg, Int.reduceLE, Int.reduceLT, Int.toNat_natCast, Int.cast_ofNat_Int, Int.reduceNe, Int.reduceEq, Int.reduceBEq, Int.reduceBNe, not_false_eq_true, ne_eq, Int.reduceTMod, Int.reduceTDiv, beq_self_eq_true, bne_self_eq_false, List.contains_cons, List.contains_nil, Nat.reduceBEq]) | (refine allI (fun b => ?_)) | (refine allT (fun τ => ?_)) | (refine brP (fun h => ?_) (fun h => ?_) <;> (try simp only [Bool.and_eq_true, Bool.and_eq_false_iff, Bool.or_eq_true, Bool.or_eq_false_iff, Bool.not_eq_true', Bool.not_eq_false', decide_eq_true_eq, decide_eq_false_iff_not, beq_iff_eq, beq_eq_false_iff_ne, ne_eq, bne_iff_ne, Int.not_lt, Int.not_le] at h)) | refine call_U (g1) ?_ | refine callG_U (fun _ => g1) ?_ | refine call_T (g1) ?_ | refine callG_T (fun _ => g1) ?_ | refine call_U (g2) ?_ | refine callG_U (fun _ => g2) ?_ | refine call_T (g2) ?_ | refine callG_T (fun _ => g2) ?_ | refine call_N (g1) ?_ | refine call_of (g1) ?_ | refine callG_of (fun _ => g1) ?_ | refine call_N (g2) ?_ | refine call_of (g2) ?_ | refine callG_of (fun _ => g2) ?_ | (apply And.intro; focus (first | omega | (simp; done) | (simp +contextual; done) | (intros; and_intros <;> first | assumption | omega) | (intros; simp_all; done) | (intro hgd; refine ⟨hgd, ?_⟩; simp [hgd]; done) | (intro hgd; simp only [beq_eq_false_iff_ne, beq_iff_eq, decide_eq_true_eq, decide_eq_false_iff_not, bne_iff_ne, ne_eq, Bool.and_eq_true, Bool.or_eq_false_iff, Bool.or_eq_true, Bool.and_eq_false_iff] at hgd ⊢; omega))) | fail)
        · omega
        · exact h (Bool.eq_iff_iff.2 (by simpa using g3))
        · refine ⟨⟨(i + 1, pid, t, a2), by omega, hT, by dsimp only; omega⟩, by dsimp only; omega, Ents.sub (by simp [go_sem]) ⟨_, ?_, List.Perm.refl _⟩⟩
          repeat (first | exact List.Sublist.refl _ | apply List.Sublist.cons)
    · have hT := hI.more
      have hNN : 0 ≤ a1 ∧ a1 ≤ 20 * (i + 1) := by omega
      have g1 := get_ t pid (hT.ok (by omega))
      have g2 := lo t pid 3 (hT.ok (by omega)) hT.ns
      have g3 := hT.lo (by omega)
      have g4 := hT.at_
      rw [getR, if_neg (by omega)] at g1
      have e1 := hT.au
      have e2 := hT.se
      generalize pAt t (findI t pid).toNat = q at g1 g3 e1 e2
      generalize loR t pid 3 = R at g2 g3
      simp only [TbL_eq, PsC_eq] at g1 g2
      repeat' (first | (simp (disch := first | omega | (simp only [List.length_cons, List.length_nil]; first | done | omega)) only [go_sem, Nat.reduceAdd, Nat.reduceMul, Nat.reduceSub, Nat.reduceEqDiff, Nat.reduceLeDiff, Nat.reduceMod, Nat.reduceLT, Int.reduceToNat, Int.reduceAdd, Int.reduceSub, Int.reduceMul, Int.reduceNeg, Int.reduceLE, Int.reduceLT, Int.toNat_natCast, Int.cast_ofNat_Int, Int.reduceNe, Int.reduceEq, Int.reduceBEq, Int.reduceBNe, not_false_eq_true, ne_eq, Int.reduceTMod, Int.reduceTDiv, beq_self_eq_true, bne_self_eq_false, List.contains_cons, List.contains_nil, Nat.reduceBEq]) | (refine allI (fun b => ?_)) | (refine allT (fun τ => ?_)) | (refine brP (fun h => ?_) (fun h => ?_) <;> (try simp only [Bool.and_eq_true, Bool.and_eq_false_iff, Bool.or_eq_true, Bool.or_eq_false_iff, Bool.not_eq_true', Bool.not_eq_false', decide_eq_true_eq, decide_eq_false_iff_not, beq_iff_eq, beq_eq_false_iff_ne, ne_eq, bne_iff_ne, Int.not_lt, Int.not_le] at h)) | refine call_U (g1) ?_ | refine callG_U (fun _ => g1) ?_ | refine call_T (g1) ?_ | refine callG_T (fun _ => g1) ?_ | refine call_U (g2) ?_ | refine callG_U (fun _ => g2) ?_ | refine call_T (g2) ?_ | refine callG_T (fun _ => g2) ?_ | refine call_N (g1) ?_ | refine call_of (g1) ?_ | refine callG_of (fun _ => g1) ?_ | refine call_N (g2) ?_ | refine call_of (g2) ?_ | refine callG_of (fun _ => g2) ?_ | (apply And.intro; focus (first | omega | (simp; done) | (simp +contextual; done) | (intros; and_intros <;> first | assumption | omega) | (intros; simp_all; done) | (intro hgd; refine ⟨hgd, ?_⟩; simp [hgd]; done) | (intro hgd; simp only [beq_eq_false_iff_ne, beq_iff_eq, decide_eq_true_eq, decide_eq_false_iff_not, bne_iff_ne, ne_eq, Bool.and_eq_true, Bool.or_eq_false_iff, Bool.or_eq_true, Bool.and_eq_false_iff] at hgd ⊢; omega))) | fail)
      · omega
      · exact h (Bool.eq_iff_iff.2 (by simpa using g3))
      · refine ⟨⟨(i + 1, pid, t, a1), by omega, hT, by dsimp only; omega⟩, by dsimp only; omega, Ents.sub (by simp [go_sem]) ⟨_, ?_, List.Perm.refl _⟩⟩
        repeat (first | exact List.Sublist.refl _ | apply List.Sublist.cons)
  · repeat' (first | (simp (disch := first | omega | (simp only [List.length_cons, List.length_nil]; first | done | omega)) only [go_sem, Nat.reduceAdd, Nat.reduceMul, Nat.reduceSub, Nat.reduceEqDiff, Nat.reduceLeDiff, Nat.reduceMod, Nat.reduceLT, Int.reduceToNat, Int.reduceAdd, Int.reduceSub, Int.reduceMul, Int.reduceNeg, Int.reduceLE, Int.reduceLT, Int.toNat_natCast, Int.cast_ofNat_Int, Int.reduceNe, Int.reduceEq, Int.reduceBEq, Int.reduceBNe, not_false_eq_true, ne_eq, Int.reduceTMod, Int.reduceTDiv, beq_self_eq_true, bne_self_eq_false, List.contains_cons, List.contains_nil, Nat.reduceBEq]) | (refine allI (fun b => ?_)) | (refine allT (fun τ => ?_)) | (refine brP (fun h => ?_) (fun h => ?_) <;> (try simp only [Bool.and_eq_true, Bool.and_eq_false_iff, Bool.or_eq_true, Bool.or_eq_false_iff, Bool.not_eq_true', Bool.not_eq_false', decide_eq_true_eq, decide_eq_false_iff_not, beq_iff_eq, beq_eq_false_iff_ne, ne_eq, bne_iff_ne, Int.not_lt, Int.not_le] at h)) | refine call_U (awake) ?_ | refine callG_U (fun _ => awake) ?_ | refine call_T (awake) ?_ | refine callG_T (fun _ => awake) ?_ | refine call_N (awake) ?_ | refine call_of (awake) ?_ | refine callG_of (fun _ => awake) ?_ | (apply And.intro; focus (first | omega | (simp; done) | (simp +contextual; done) | (intros; and_intros <;> first | assumption | omega) | (intros; simp_all; done) | (intro hgd; refine ⟨hgd, ?_⟩; simp [hgd]; done) | (intro hgd; simp only [beq_eq_false_iff_ne, beq_iff_eq, decide_eq_true_eq, decide_eq_false_iff_not, bne_iff_ne, ne_eq, Bool.and_eq_true, Bool.or_eq_false_iff, Bool.or_eq_true, Bool.and_eq_false_iff] at hgd ⊢; omega))) | fail)
end Go.Proofs.Ytkdblnejpmbnfaa
