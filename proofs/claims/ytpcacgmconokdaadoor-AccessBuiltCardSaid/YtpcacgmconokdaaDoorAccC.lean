/- Layer 8: the law AccessClass. -/
import Derived.Test.YtpcacgmconokdaaDoorAccU
namespace Go.Proofs.YtpcacgmconokdaaDoor
open Go Go.Lx
set_option maxRecDepth 100000
set_option linter.unusedSimpArgs false

/-- Only the class's bits count. -/
theorem bits6 (m o w : Nat) (hw : w < 8) : ((m &&& 448 ||| o &&& 63) >>> 6) &&& w = (m >>> 6) &&& w := by
  rw [low3 _ w hw, low3 (m >>> 6) w hw]
  congr 1
  rw [← show 2 ^ 3 = 8 from rfl, ← Nat.and_two_pow_sub_one_eq_mod, ← Nat.and_two_pow_sub_one_eq_mod, show 2 ^ 3 - 1 = 7 from rfl, Nat.shiftRight_or_distrib, Nat.shiftRight_and_distrib, Nat.shiftRight_and_distrib,
    show (448 : Nat) >>> 6 = 7 from rfl, show (63 : Nat) >>> 6 = 0 from rfl, Nat.and_zero, Nat.or_zero, Nat.and_assoc, show (7 : Nat) &&& 7 = 7 from rfl]
theorem bits3 (m o w : Nat) (hw : w < 8) : ((m &&& 56 ||| o &&& 455) >>> 3) &&& w = (m >>> 3) &&& w := by
  rw [low3 _ w hw, low3 (m >>> 3) w hw]
  congr 1
  rw [← show 2 ^ 3 = 8 from rfl, ← Nat.and_two_pow_sub_one_eq_mod, ← Nat.and_two_pow_sub_one_eq_mod, show 2 ^ 3 - 1 = 7 from rfl, Nat.shiftRight_or_distrib, Nat.shiftRight_and_distrib, Nat.shiftRight_and_distrib,
    show (56 : Nat) >>> 3 = 7 from rfl, show (455 : Nat) >>> 3 = 56 from rfl, Nat.and_or_distrib_right, Nat.and_assoc, Nat.and_assoc, show (7 : Nat) &&& 7 = 7 from rfl, show (56 : Nat) &&& 7 = 0 from rfl, Nat.and_zero, Nat.or_zero]
theorem bits0 (m o w : Nat) (hw : w < 8) : ((m &&& 7 ||| o &&& 504) >>> 0) &&& w = (m >>> 0) &&& w := by
  rw [low3 _ w hw, low3 (m >>> 0) w hw]
  congr 1
  rw [← show 2 ^ 3 = 8 from rfl, ← Nat.and_two_pow_sub_one_eq_mod, ← Nat.and_two_pow_sub_one_eq_mod, show 2 ^ 3 - 1 = 7 from rfl, Nat.shiftRight_zero, Nat.shiftRight_zero,
    Nat.and_or_distrib_right, Nat.and_assoc, Nat.and_assoc, show (7 : Nat) &&& 7 = 7 from rfl, show (504 : Nat) &&& 7 = 0 from rfl, Nat.and_zero, Nat.or_zero]

/-- What the class's other bits are changes nothing. -/
theorem may_class (k u g euid egid : Int) (m o w : Nat) (hm : m < 512) (hw : w < 8) (h0 : euid ≠ 0) :
    may k ((if euid = u then m &&& 448 ||| o &&& 63 else if egid = g then m &&& 56 ||| o &&& 455 else m &&& 7 ||| o &&& 504 : Nat) : Int) u g euid egid w = may k m u g euid egid w := by
  have l6 : m &&& 448 ||| o &&& 63 < 512 := Nat.or_lt_two_pow (n := 9) (Nat.lt_of_le_of_lt Nat.and_le_right (by omega)) (Nat.lt_of_le_of_lt Nat.and_le_right (by omega))
  have l3 : m &&& 56 ||| o &&& 455 < 512 := Nat.or_lt_two_pow (n := 9) (Nat.lt_of_le_of_lt Nat.and_le_right (by omega)) (Nat.lt_of_le_of_lt Nat.and_le_right (by omega))
  have l0 : m &&& 7 ||| o &&& 504 < 512 := Nat.or_lt_two_pow (n := 9) (Nat.lt_of_le_of_lt Nat.and_le_right (by omega)) (Nat.lt_of_le_of_lt Nat.and_le_right (by omega))
  by_cases h1 : euid = u
  · subst h1
    rw [if_pos rfl, may_nat _ _ _ _ _ _ _ l6 hw, may_nat _ _ _ _ _ _ _ hm hw, if_neg h0, if_neg h0, if_pos rfl, bits6 m o w hw]
  · by_cases h2 : egid = g
    · simp only [h1, h2, if_true, if_false]
      rw [may_nat _ _ _ _ _ _ _ l3 hw, may_nat _ _ _ _ _ _ _ hm hw, if_neg h0, if_neg h0, if_neg h1, if_pos rfl, bits3 m o w hw]
    · simp only [h1, h2, if_false]
      rw [may_nat _ _ _ _ _ _ _ l0 hw, may_nat _ _ _ _ _ _ _ hm hw, if_neg h0, if_neg h0, if_neg h1, if_neg h2, bits0 m o w hw]

theorem and_low {a : Nat} {b : Int} (ha : a < 512) (hb : 0 ≤ b) (hb' : b < 512) : bitop .and .i64 (a : Int) b = ((a &&& b.toNat : Nat) : Int) := by
  rw [and_i64 (by omega) (by omega) (by omega) (by omega), Int.toNat_natCast]
theorem or_low {a b : Nat} (ha : a < 512) (hb : b < 512) : bitop .or .i64 (a : Int) (b : Int) = ((a ||| b : Nat) : Int) := by
  rw [or_i64 (by omega) (by omega) (by omega) (by omega), Int.toNat_natCast, Int.toNat_natCast]

/-- A mask of any number: the same bits for all masks. -/
theorem and_bits (a : Int) : ∃ x : Nat, ∀ b : Int, 0 ≤ b → b < 512 → bitop .and .i64 a b = ((x &&& b.toNat : Nat) : Int) := by
  refine ⟨(BitVec.ofInt (IntKind.bits .i64) a).toNat, fun b hb hb' => ?_⟩
  simp only [bitop, BitVec.toNat_and]
  rw [ofInt_toNat hb (by omega)]
  have h1 : (BitVec.ofInt (IntKind.bits .i64) a).toNat &&& b.toNat ≤ b.toNat := Nat.and_le_right
  exact wrap_i64 (by omega) (by omega)

set_option maxHeartbeats 1000000 in
theorem class5 (ino k m u g p : Int) (tg en : LV) (euid egid other c : Int) (hc : 0 ≤ c) (hc' : c ≤ 255) : Pure Tryd.prog gl 5 [node ino k m u g p tg en, .int .i64 euid, .int .i64 egid, .int .i64 other, .int .u8 c] (.bool true) := by
  refine fn_pureT Tryd.func5 t5 Tryd.ntmps5 (by simp) ?_
  unfold c5 r5 node
  simp (disch := first | omega | (simp only [List.length_cons, List.length_nil]; first | done | omega)) only [go_sem, Nat.reduceAdd, Nat.reduceMul, Nat.reduceSub, Nat.reduceEqDiff, Nat.reduceLeDiff, Nat.reduceMod, Nat.reduceLT, Int.reduceToNat, Int.reduceAdd, Int.reduceSub, Int.reduceMul, Int.reduceNeg, Int.reduceLE, Int.reduceLT, Int.toNat_natCast, Int.cast_ofNat_Int, Int.reduceNe, Int.reduceEq, Int.reduceBEq, Int.reduceBNe, not_false_eq_true, ne_eq, Int.reduceTMod, Int.reduceTDiv, beq_self_eq_true, bne_self_eq_false]
  intro b
  obtain ⟨x, hx⟩ := and_nat (a := m) (b := 511) (by omega) (by omega)
  have hm : x &&& (511 : Int).toNat < 512 := Nat.lt_succ_of_le Nat.and_le_right
  rw [hx]
  generalize x &&& (511 : Int).toNat = mn at *
  obtain ⟨cn, rfl⟩ := Int.eq_ofNat_of_zero_le hc
  have wc : IntKind.wrap .i64 ((cn : Int).tmod 8) = ((cn % 8 : Nat) : Int) := by
    rw [Int.tmod_eq_emod_of_nonneg (by omega), wrap_i64 (by omega) (by omega)]; simp
  have h2 : cn % 8 < 8 := Nat.mod_lt _ (by omega)
  generalize cn % 8 = w at *
  refine brS trivial (fun h => ?_) (fun h => ?_)
  · simp only [beq_iff_eq] at h
    subst h
    simp (disch := first | omega | (simp only [List.length_cons, List.length_nil]; first | done | omega)) only [go_sem, Nat.reduceAdd, Nat.reduceMul, Nat.reduceSub, Nat.reduceEqDiff, Nat.reduceLeDiff, Nat.reduceMod, Nat.reduceLT, Int.reduceToNat, Int.reduceAdd, Int.reduceSub, Int.reduceMul, Int.reduceNeg, Int.reduceLE, Int.reduceLT, Int.toNat_natCast, Int.cast_ofNat_Int, Int.reduceNe, Int.reduceEq, Int.reduceBEq, Int.reduceBNe, not_false_eq_true, ne_eq, Int.reduceTMod, Int.reduceTDiv, beq_self_eq_true, bne_self_eq_false]
    refine callD_of (may9 _ _ _ _ _ _ _ _ _ _ _) ?_
    have m6 : may k mn u g 0 egid 6 = true := by
      rw [show (6 : Int) = ((6 : Nat) : Int) from rfl, may_nat _ _ _ _ _ _ _ hm (by omega)]; simp
    simp (disch := first | omega | (simp only [List.length_cons, List.length_nil]; first | done | omega)) only [go_sem, Nat.reduceAdd, Nat.reduceMul, Nat.reduceSub, Nat.reduceEqDiff, Nat.reduceLeDiff, Nat.reduceMod, Nat.reduceLT, Int.reduceToNat, Int.reduceAdd, Int.reduceSub, Int.reduceMul, Int.reduceNeg, Int.reduceLE, Int.reduceLT, Int.toNat_natCast, Int.cast_ofNat_Int, Int.reduceNe, Int.reduceEq, Int.reduceBEq, Int.reduceBNe, not_false_eq_true, ne_eq, Int.reduceTMod, Int.reduceTDiv, beq_self_eq_true, bne_self_eq_false, m6, wc]
    refine callDG_of (fun _ => may9 _ _ _ _ _ _ _ _ _ _ _) ?_
    have me : may k mn u g 0 egid w = may k mn u g 0 other w := by
      rw [may_nat _ _ _ _ _ _ _ hm h2, may_nat _ _ _ _ _ _ _ hm h2]; simp
    rw [me]
    simp (disch := first | omega | (simp only [List.length_cons, List.length_nil]; first | done | omega)) only [go_sem, Nat.reduceAdd, Nat.reduceMul, Nat.reduceSub, Nat.reduceEqDiff, Nat.reduceLeDiff, Nat.reduceMod, Nat.reduceLT, Int.reduceToNat, Int.reduceAdd, Int.reduceSub, Int.reduceMul, Int.reduceNeg, Int.reduceLE, Int.reduceLT, Int.toNat_natCast, Int.cast_ofNat_Int, Int.reduceNe, Int.reduceEq, Int.reduceBEq, Int.reduceBNe, not_false_eq_true, ne_eq, Int.reduceTMod, Int.reduceTDiv, beq_self_eq_true, bne_self_eq_false, wc]
    refine callDG_of (fun _ => may9 _ _ _ _ _ _ _ _ _ _ _) ?_
    simp (disch := first | omega | (simp only [List.length_cons, List.length_nil]; first | done | omega)) only [go_sem, Nat.reduceAdd, Nat.reduceMul, Nat.reduceSub, Nat.reduceEqDiff, Nat.reduceLeDiff, Nat.reduceMod, Nat.reduceLT, Int.reduceToNat, Int.reduceAdd, Int.reduceSub, Int.reduceMul, Int.reduceNeg, Int.reduceLE, Int.reduceLT, Int.toNat_natCast, Int.cast_ofNat_Int, Int.reduceNe, Int.reduceEq, Int.reduceBEq, Int.reduceBNe, not_false_eq_true, ne_eq, Int.reduceTMod, Int.reduceTDiv, beq_self_eq_true, bne_self_eq_false]
    refine callDG_of (fun _ => awake11) ?_
    simp (disch := first | omega | (simp only [List.length_cons, List.length_nil]; first | done | omega)) only [go_sem, Nat.reduceAdd, Nat.reduceMul, Nat.reduceSub, Nat.reduceEqDiff, Nat.reduceLeDiff, Nat.reduceMod, Nat.reduceLT, Int.reduceToNat, Int.reduceAdd, Int.reduceSub, Int.reduceMul, Int.reduceNeg, Int.reduceLE, Int.reduceLT, Int.toNat_natCast, Int.cast_ofNat_Int, Int.reduceNe, Int.reduceEq, Int.reduceBEq, Int.reduceBNe, not_false_eq_true, ne_eq, Int.reduceTMod, Int.reduceTDiv, beq_self_eq_true, bne_self_eq_false]
  · simp only [beq_eq_false_iff_ne] at h
    simp (disch := first | omega | (simp only [List.length_cons, List.length_nil]; first | done | omega)) only [go_sem, Nat.reduceAdd, Nat.reduceMul, Nat.reduceSub, Nat.reduceEqDiff, Nat.reduceLeDiff, Nat.reduceMod, Nat.reduceLT, Int.reduceToNat, Int.reduceAdd, Int.reduceSub, Int.reduceMul, Int.reduceNeg, Int.reduceLE, Int.reduceLT, Int.toNat_natCast, Int.cast_ofNat_Int, Int.reduceNe, Int.reduceEq, Int.reduceBEq, Int.reduceBNe, not_false_eq_true, ne_eq, Int.reduceTMod, Int.reduceTDiv, beq_self_eq_true, bne_self_eq_false, wc]
    intro b'
    obtain ⟨o, ho⟩ := and_bits other
    have o1 := ho 63 (by omega) (by omega)
    have o2 := ho 455 (by omega) (by omega)
    have o3 := ho 504 (by omega) (by omega)
    have a1 := and_low (a := mn) (b := 448) hm (by omega) (by omega)
    have a2 := and_low (a := mn) (b := 56) hm (by omega) (by omega)
    have a3 := and_low (a := mn) (b := 7) hm (by omega) (by omega)
    simp only [Int.reduceToNat] at o1 o2 o3 a1 a2 a3
    have hcl := may_class k u g euid egid mn o w hm h2 h
    have r1 := or_low (a := mn &&& 448) (b := o &&& 63) (Nat.lt_of_le_of_lt Nat.and_le_right (by omega)) (Nat.lt_of_le_of_lt Nat.and_le_right (by omega))
    have r2 := or_low (a := mn &&& 56) (b := o &&& 455) (Nat.lt_of_le_of_lt Nat.and_le_right (by omega)) (Nat.lt_of_le_of_lt Nat.and_le_right (by omega))
    have r3 := or_low (a := mn &&& 7) (b := o &&& 504) (Nat.lt_of_le_of_lt Nat.and_le_right (by omega)) (Nat.lt_of_le_of_lt Nat.and_le_right (by omega))
    refine brS trivial (fun h1 => ?_) (fun h1 => ?_)
    · simp only [beq_iff_eq] at h1
      rw [if_pos h1] at hcl
      subst h1
      simp (disch := first | omega | (simp only [List.length_cons, List.length_nil]; first | done | omega)) only [go_sem, Nat.reduceAdd, Nat.reduceMul, Nat.reduceSub, Nat.reduceEqDiff, Nat.reduceLeDiff, Nat.reduceMod, Nat.reduceLT, Int.reduceToNat, Int.reduceAdd, Int.reduceSub, Int.reduceMul, Int.reduceNeg, Int.reduceLE, Int.reduceLT, Int.toNat_natCast, Int.cast_ofNat_Int, Int.reduceNe, Int.reduceEq, Int.reduceBEq, Int.reduceBNe, not_false_eq_true, ne_eq, Int.reduceTMod, Int.reduceTDiv, beq_self_eq_true, bne_self_eq_false, o1, a1, r1]
      refine callD_of (may9 _ _ _ _ _ _ _ _ _ _ _) ?_
      simp (disch := first | omega | (simp only [List.length_cons, List.length_nil]; first | done | omega)) only [go_sem, Nat.reduceAdd, Nat.reduceMul, Nat.reduceSub, Nat.reduceEqDiff, Nat.reduceLeDiff, Nat.reduceMod, Nat.reduceLT, Int.reduceToNat, Int.reduceAdd, Int.reduceSub, Int.reduceMul, Int.reduceNeg, Int.reduceLE, Int.reduceLT, Int.toNat_natCast, Int.cast_ofNat_Int, Int.reduceNe, Int.reduceEq, Int.reduceBEq, Int.reduceBNe, not_false_eq_true, ne_eq, Int.reduceTMod, Int.reduceTDiv, beq_self_eq_true, bne_self_eq_false]
      refine callD_of (may9 _ _ _ _ _ _ _ _ _ _ _) ?_
      rw [hcl]
      simp (disch := first | omega | (simp only [List.length_cons, List.length_nil]; first | done | omega)) only [go_sem, Nat.reduceAdd, Nat.reduceMul, Nat.reduceSub, Nat.reduceEqDiff, Nat.reduceLeDiff, Nat.reduceMod, Nat.reduceLT, Int.reduceToNat, Int.reduceAdd, Int.reduceSub, Int.reduceMul, Int.reduceNeg, Int.reduceLE, Int.reduceLT, Int.toNat_natCast, Int.cast_ofNat_Int, Int.reduceNe, Int.reduceEq, Int.reduceBEq, Int.reduceBNe, not_false_eq_true, ne_eq, Int.reduceTMod, Int.reduceTDiv, beq_self_eq_true, bne_self_eq_false]
      refine callDG_of (fun _ => may9 _ _ _ _ _ _ _ _ _ _ _) ?_
      have me : may k mn euid g euid egid w = may k mn euid g euid other w := by
        rw [may_nat _ _ _ _ _ _ _ hm h2, may_nat _ _ _ _ _ _ _ hm h2]; simp
      rw [me]
      simp (disch := first | omega | (simp only [List.length_cons, List.length_nil]; first | done | omega)) only [go_sem, Nat.reduceAdd, Nat.reduceMul, Nat.reduceSub, Nat.reduceEqDiff, Nat.reduceLeDiff, Nat.reduceMod, Nat.reduceLT, Int.reduceToNat, Int.reduceAdd, Int.reduceSub, Int.reduceMul, Int.reduceNeg, Int.reduceLE, Int.reduceLT, Int.toNat_natCast, Int.cast_ofNat_Int, Int.reduceNe, Int.reduceEq, Int.reduceBEq, Int.reduceBNe, not_false_eq_true, ne_eq, Int.reduceTMod, Int.reduceTDiv, beq_self_eq_true, bne_self_eq_false]
      refine callDG_of (fun _ => may9 _ _ _ _ _ _ _ _ _ _ _) ?_
      simp (disch := first | omega | (simp only [List.length_cons, List.length_nil]; first | done | omega)) only [go_sem, Nat.reduceAdd, Nat.reduceMul, Nat.reduceSub, Nat.reduceEqDiff, Nat.reduceLeDiff, Nat.reduceMod, Nat.reduceLT, Int.reduceToNat, Int.reduceAdd, Int.reduceSub, Int.reduceMul, Int.reduceNeg, Int.reduceLE, Int.reduceLT, Int.toNat_natCast, Int.cast_ofNat_Int, Int.reduceNe, Int.reduceEq, Int.reduceBEq, Int.reduceBNe, not_false_eq_true, ne_eq, Int.reduceTMod, Int.reduceTDiv, beq_self_eq_true, bne_self_eq_false]
      refine callDG_of (fun _ => awake11) ?_
      simp (disch := first | omega | (simp only [List.length_cons, List.length_nil]; first | done | omega)) only [go_sem, Nat.reduceAdd, Nat.reduceMul, Nat.reduceSub, Nat.reduceEqDiff, Nat.reduceLeDiff, Nat.reduceMod, Nat.reduceLT, Int.reduceToNat, Int.reduceAdd, Int.reduceSub, Int.reduceMul, Int.reduceNeg, Int.reduceLE, Int.reduceLT, Int.toNat_natCast, Int.cast_ofNat_Int, Int.reduceNe, Int.reduceEq, Int.reduceBEq, Int.reduceBNe, not_false_eq_true, ne_eq, Int.reduceTMod, Int.reduceTDiv, beq_self_eq_true, bne_self_eq_false]
    · simp only [beq_eq_false_iff_ne] at h1
      rw [if_neg h1] at hcl
      have hne : (euid != u) = true := by simpa using h1
      simp (disch := first | omega | (simp only [List.length_cons, List.length_nil]; first | done | omega)) only [go_sem, Nat.reduceAdd, Nat.reduceMul, Nat.reduceSub, Nat.reduceEqDiff, Nat.reduceLeDiff, Nat.reduceMod, Nat.reduceLT, Int.reduceToNat, Int.reduceAdd, Int.reduceSub, Int.reduceMul, Int.reduceNeg, Int.reduceLE, Int.reduceLT, Int.toNat_natCast, Int.cast_ofNat_Int, Int.reduceNe, Int.reduceEq, Int.reduceBEq, Int.reduceBNe, not_false_eq_true, ne_eq, Int.reduceTMod, Int.reduceTDiv, beq_self_eq_true, bne_self_eq_false]
      refine brS trivial (fun h3 => ?_) (fun h3 => ?_)
      · simp only [beq_iff_eq] at h3
        rw [if_pos h3] at hcl
        simp (disch := first | omega | (simp only [List.length_cons, List.length_nil]; first | done | omega)) only [go_sem, Nat.reduceAdd, Nat.reduceMul, Nat.reduceSub, Nat.reduceEqDiff, Nat.reduceLeDiff, Nat.reduceMod, Nat.reduceLT, Int.reduceToNat, Int.reduceAdd, Int.reduceSub, Int.reduceMul, Int.reduceNeg, Int.reduceLE, Int.reduceLT, Int.toNat_natCast, Int.cast_ofNat_Int, Int.reduceNe, Int.reduceEq, Int.reduceBEq, Int.reduceBNe, not_false_eq_true, ne_eq, Int.reduceTMod, Int.reduceTDiv, beq_self_eq_true, bne_self_eq_false, o2, a2, r2]
        refine callD_of (may9 _ _ _ _ _ _ _ _ _ _ _) ?_
        simp (disch := first | omega | (simp only [List.length_cons, List.length_nil]; first | done | omega)) only [go_sem, Nat.reduceAdd, Nat.reduceMul, Nat.reduceSub, Nat.reduceEqDiff, Nat.reduceLeDiff, Nat.reduceMod, Nat.reduceLT, Int.reduceToNat, Int.reduceAdd, Int.reduceSub, Int.reduceMul, Int.reduceNeg, Int.reduceLE, Int.reduceLT, Int.toNat_natCast, Int.cast_ofNat_Int, Int.reduceNe, Int.reduceEq, Int.reduceBEq, Int.reduceBNe, not_false_eq_true, ne_eq, Int.reduceTMod, Int.reduceTDiv, beq_self_eq_true, bne_self_eq_false]
        refine callD_of (may9 _ _ _ _ _ _ _ _ _ _ _) ?_
        rw [hcl]
        simp (disch := first | omega | (simp only [List.length_cons, List.length_nil]; first | done | omega)) only [go_sem, Nat.reduceAdd, Nat.reduceMul, Nat.reduceSub, Nat.reduceEqDiff, Nat.reduceLeDiff, Nat.reduceMod, Nat.reduceLT, Int.reduceToNat, Int.reduceAdd, Int.reduceSub, Int.reduceMul, Int.reduceNeg, Int.reduceLE, Int.reduceLT, Int.toNat_natCast, Int.cast_ofNat_Int, Int.reduceNe, Int.reduceEq, Int.reduceBEq, Int.reduceBNe, not_false_eq_true, ne_eq, Int.reduceTMod, Int.reduceTDiv, beq_self_eq_true, bne_self_eq_false, hne]
        refine callDG_of (fun _ => may9 _ _ _ _ _ _ _ _ _ _ _) ?_
        simp (disch := first | omega | (simp only [List.length_cons, List.length_nil]; first | done | omega)) only [go_sem, Nat.reduceAdd, Nat.reduceMul, Nat.reduceSub, Nat.reduceEqDiff, Nat.reduceLeDiff, Nat.reduceMod, Nat.reduceLT, Int.reduceToNat, Int.reduceAdd, Int.reduceSub, Int.reduceMul, Int.reduceNeg, Int.reduceLE, Int.reduceLT, Int.toNat_natCast, Int.cast_ofNat_Int, Int.reduceNe, Int.reduceEq, Int.reduceBEq, Int.reduceBNe, not_false_eq_true, ne_eq, Int.reduceTMod, Int.reduceTDiv, beq_self_eq_true, bne_self_eq_false]
        refine callDG_of (fun _ => may9 _ _ _ _ _ _ _ _ _ _ _) ?_
        simp (disch := first | omega | (simp only [List.length_cons, List.length_nil]; first | done | omega)) only [go_sem, Nat.reduceAdd, Nat.reduceMul, Nat.reduceSub, Nat.reduceEqDiff, Nat.reduceLeDiff, Nat.reduceMod, Nat.reduceLT, Int.reduceToNat, Int.reduceAdd, Int.reduceSub, Int.reduceMul, Int.reduceNeg, Int.reduceLE, Int.reduceLT, Int.toNat_natCast, Int.cast_ofNat_Int, Int.reduceNe, Int.reduceEq, Int.reduceBEq, Int.reduceBNe, not_false_eq_true, ne_eq, Int.reduceTMod, Int.reduceTDiv, beq_self_eq_true, bne_self_eq_false]
        refine callDG_of (fun _ => awake11) ?_
        simp (disch := first | omega | (simp only [List.length_cons, List.length_nil]; first | done | omega)) only [go_sem, Nat.reduceAdd, Nat.reduceMul, Nat.reduceSub, Nat.reduceEqDiff, Nat.reduceLeDiff, Nat.reduceMod, Nat.reduceLT, Int.reduceToNat, Int.reduceAdd, Int.reduceSub, Int.reduceMul, Int.reduceNeg, Int.reduceLE, Int.reduceLT, Int.toNat_natCast, Int.cast_ofNat_Int, Int.reduceNe, Int.reduceEq, Int.reduceBEq, Int.reduceBNe, not_false_eq_true, ne_eq, Int.reduceTMod, Int.reduceTDiv, beq_self_eq_true, bne_self_eq_false]
      · simp only [beq_eq_false_iff_ne] at h3
        rw [if_neg h3] at hcl
        simp (disch := first | omega | (simp only [List.length_cons, List.length_nil]; first | done | omega)) only [go_sem, Nat.reduceAdd, Nat.reduceMul, Nat.reduceSub, Nat.reduceEqDiff, Nat.reduceLeDiff, Nat.reduceMod, Nat.reduceLT, Int.reduceToNat, Int.reduceAdd, Int.reduceSub, Int.reduceMul, Int.reduceNeg, Int.reduceLE, Int.reduceLT, Int.toNat_natCast, Int.cast_ofNat_Int, Int.reduceNe, Int.reduceEq, Int.reduceBEq, Int.reduceBNe, not_false_eq_true, ne_eq, Int.reduceTMod, Int.reduceTDiv, beq_self_eq_true, bne_self_eq_false, o3, a3, r3]
        refine callD_of (may9 _ _ _ _ _ _ _ _ _ _ _) ?_
        simp (disch := first | omega | (simp only [List.length_cons, List.length_nil]; first | done | omega)) only [go_sem, Nat.reduceAdd, Nat.reduceMul, Nat.reduceSub, Nat.reduceEqDiff, Nat.reduceLeDiff, Nat.reduceMod, Nat.reduceLT, Int.reduceToNat, Int.reduceAdd, Int.reduceSub, Int.reduceMul, Int.reduceNeg, Int.reduceLE, Int.reduceLT, Int.toNat_natCast, Int.cast_ofNat_Int, Int.reduceNe, Int.reduceEq, Int.reduceBEq, Int.reduceBNe, not_false_eq_true, ne_eq, Int.reduceTMod, Int.reduceTDiv, beq_self_eq_true, bne_self_eq_false]
        refine callD_of (may9 _ _ _ _ _ _ _ _ _ _ _) ?_
        rw [hcl]
        simp (disch := first | omega | (simp only [List.length_cons, List.length_nil]; first | done | omega)) only [go_sem, Nat.reduceAdd, Nat.reduceMul, Nat.reduceSub, Nat.reduceEqDiff, Nat.reduceLeDiff, Nat.reduceMod, Nat.reduceLT, Int.reduceToNat, Int.reduceAdd, Int.reduceSub, Int.reduceMul, Int.reduceNeg, Int.reduceLE, Int.reduceLT, Int.toNat_natCast, Int.cast_ofNat_Int, Int.reduceNe, Int.reduceEq, Int.reduceBEq, Int.reduceBNe, not_false_eq_true, ne_eq, Int.reduceTMod, Int.reduceTDiv, beq_self_eq_true, bne_self_eq_false, hne]
        refine callDG_of (fun _ => may9 _ _ _ _ _ _ _ _ _ _ _) ?_
        simp (disch := first | omega | (simp only [List.length_cons, List.length_nil]; first | done | omega)) only [go_sem, Nat.reduceAdd, Nat.reduceMul, Nat.reduceSub, Nat.reduceEqDiff, Nat.reduceLeDiff, Nat.reduceMod, Nat.reduceLT, Int.reduceToNat, Int.reduceAdd, Int.reduceSub, Int.reduceMul, Int.reduceNeg, Int.reduceLE, Int.reduceLT, Int.toNat_natCast, Int.cast_ofNat_Int, Int.reduceNe, Int.reduceEq, Int.reduceBEq, Int.reduceBNe, not_false_eq_true, ne_eq, Int.reduceTMod, Int.reduceTDiv, beq_self_eq_true, bne_self_eq_false]
        refine callDG_of (fun _ => may9 _ _ _ _ _ _ _ _ _ _ _) ?_
        simp (disch := first | omega | (simp only [List.length_cons, List.length_nil]; first | done | omega)) only [go_sem, Nat.reduceAdd, Nat.reduceMul, Nat.reduceSub, Nat.reduceEqDiff, Nat.reduceLeDiff, Nat.reduceMod, Nat.reduceLT, Int.reduceToNat, Int.reduceAdd, Int.reduceSub, Int.reduceMul, Int.reduceNeg, Int.reduceLE, Int.reduceLT, Int.toNat_natCast, Int.cast_ofNat_Int, Int.reduceNe, Int.reduceEq, Int.reduceBEq, Int.reduceBNe, not_false_eq_true, ne_eq, Int.reduceTMod, Int.reduceTDiv, beq_self_eq_true, bne_self_eq_false]
        refine callDG_of (fun _ => awake11) ?_
        simp (disch := first | omega | (simp only [List.length_cons, List.length_nil]; first | done | omega)) only [go_sem, Nat.reduceAdd, Nat.reduceMul, Nat.reduceSub, Nat.reduceEqDiff, Nat.reduceLeDiff, Nat.reduceMod, Nat.reduceLT, Int.reduceToNat, Int.reduceAdd, Int.reduceSub, Int.reduceMul, Int.reduceNeg, Int.reduceLE, Int.reduceLT, Int.toNat_natCast, Int.cast_ofNat_Int, Int.reduceNe, Int.reduceEq, Int.reduceBEq, Int.reduceBNe, not_false_eq_true, ne_eq, Int.reduceTMod, Int.reduceTDiv, beq_self_eq_true, bne_self_eq_false]
end Go.Proofs.YtpcacgmconokdaaDoor
