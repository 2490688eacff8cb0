/- Layer 8: the laws AccessUnion and AccessClass. -/
import Derived.Test.YtpcacgmconokdaaDoorAccL
namespace Go.Proofs.YtpcacgmconokdaaDoor
open Go Go.Lx
set_option maxRecDepth 100000
set_option linter.unusedSimpArgs false

theorem low3 (x a : Nat) (ha : a < 8) : x &&& a = x % 8 &&& a := by
  have h7 : 7 &&& a = a := by
    have h8 : ∀ w : Nat, w < 8 → 7 &&& w = w := by decide
    exact h8 a ha
  have := Nat.and_two_pow_sub_one_eq_mod x 3
  rw [← show 2 ^ 3 = 8 from rfl, ← this, Nat.and_assoc, show 2 ^ 3 - 1 = 7 from rfl, h7]

theorem or_may (x a c : Nat) (ha : a < 8) (hc : c < 8) : (x &&& (a ||| c) = a ||| c) ↔ (x &&& a = a ∧ x &&& c = c) := by
  have hac : a ||| c < 8 := Nat.or_lt_two_pow (n := 3) ha hc
  rw [low3 x a ha, low3 x c hc, low3 x (a ||| c) hac]
  have hx : x % 8 < 8 := Nat.mod_lt _ (by omega)
  generalize x % 8 = y at *
  have key : ∀ y : Nat, y < 8 → ∀ a : Nat, a < 8 → ∀ c : Nat, c < 8 → ((y &&& (a ||| c) = a ||| c) ↔ (y &&& a = a ∧ y &&& c = c)) := by decide
  exact key y hx a ha c hc

theorem cast_beq (a b : Nat) : (((a : Int) == (b : Int)) : Bool) = decide (a = b) := by
  rw [Bool.eq_iff_iff]
  simp only [beq_iff_eq, decide_eq_true_eq]
  omega
theorem cast_beq0 (a : Nat) : (((a : Int) == 0) : Bool) = decide (a = 0) := cast_beq a 0
theorem cast_bne0 (a : Nat) : (((a : Int) != 0) : Bool) = decide (¬ a = 0) := by
  rw [Bool.eq_iff_iff]
  simp

/-- May, over numbers that are not negative. -/
theorem may_nat (k u g euid egid : Int) (m w : Nat) (hm : m < 512) (hw : w < 8) : may k m u g euid egid w =
    if euid = 0 then decide (w &&& 1 = 0) || k == 2 || decide (¬ m &&& 73 = 0)
    else decide ((m >>> (if euid = u then 6 else if egid = g then 3 else 0)) &&& w = w) := by
  unfold may
  rw [if_neg (by omega)]
  have e1 : bitop .and .i64 (w : Int) 1 = ((w &&& 1 : Nat) : Int) := by rw [and_i64 (by omega) (by omega) (by omega) (by omega)]; simp
  have e2 : bitop .and .i64 (m : Int) 73 = ((m &&& 73 : Nat) : Int) := by rw [and_i64 (by omega) (by omega) (by omega) (by omega)]; simp
  have e3 : ∀ s : Nat, s ≤ 6 → bitop .and .i64 (shr .i64 (m : Int) (s : Int)) (w : Int) = ((m >>> s &&& w : Nat) : Int) := by
    intro s hs
    rw [shr_nat (by omega) (by omega)]
    have hle : m >>> s ≤ m := by rw [Nat.shiftRight_eq_div_pow]; exact Nat.div_le_self _ _
    rw [Int.toNat_natCast]
    generalize m >>> s = x at *
    rw [and_i64 (by omega) (by omega) (by omega) (by omega)]
    simp
  have f6 := e3 6 (by omega)
  have f3 := e3 3 (by omega)
  have f0 := e3 0 (by omega)
  simp only [Int.cast_ofNat_Int] at f6 f3 f0
  rw [e1, e2, cast_beq0, cast_bne0]
  by_cases h0 : euid = 0
  · simp only [h0, if_true]
  · simp only [h0, if_false]
    by_cases h1 : euid = u
    · simp only [h1, if_true, f6, cast_beq]
    · by_cases h2 : egid = g
      · simp only [h1, h2, if_true, if_false, f3, cast_beq]
      · simp only [h1, h2, if_false, f0, cast_beq]

theorem may_or (k u g euid egid : Int) (m a c : Nat) (hm : m < 512) (ha : a < 8) (hc : c < 8) :
    may k m u g euid egid ((a ||| c : Nat) : Int) = (may k m u g euid egid a && may k m u g euid egid c) := by
  have hac : a ||| c < 8 := Nat.or_lt_two_pow (n := 3) ha hc
  rw [may_nat _ _ _ _ _ _ _ hm hac, may_nat _ _ _ _ _ _ _ hm ha, may_nat _ _ _ _ _ _ _ hm hc]
  split
  · have key : ∀ a : Nat, a < 8 → ∀ c : Nat, c < 8 → decide ((a ||| c) &&& 1 = 0) = (decide (a &&& 1 = 0) && decide (c &&& 1 = 0)) := by decide
    rw [key a ha c hc]
    cases decide (a &&& 1 = 0) <;> cases decide (c &&& 1 = 0) <;> cases (k == 2) <;> cases decide (¬ m &&& 73 = 0) <;> rfl
  · generalize m >>> _ = x
    have := or_may x a c ha hc
    rw [Bool.eq_iff_iff]
    simpa using this

set_option maxHeartbeats 1000000 in
theorem union4 (ino k m u g p : Int) (tg en : LV) (euid egid : Int) (a c : Int) (ha : 0 ≤ a) (ha' : a ≤ 255) (hc : 0 ≤ c) (hc' : c ≤ 255) : Pure Tryd.prog gl 4 [node ino k m u g p tg en, .int .i64 euid, .int .i64 egid, .int .u8 a, .int .u8 c] (.bool true) := by
  refine fn_pureT Tryd.func4 t4 Tryd.ntmps4 (by simp) ?_
  unfold c4 r4 node
  simp (disch := first | omega | (simp only [List.length_cons, List.length_nil]; first | done | omega)) only [go_sem, Nat.reduceAdd, Nat.reduceMul, Nat.reduceSub, Nat.reduceEqDiff, Nat.reduceLeDiff, Nat.reduceMod, Nat.reduceLT, Int.reduceToNat, Int.reduceAdd, Int.reduceSub, Int.reduceMul, Int.reduceNeg, Int.reduceLE, Int.reduceLT, Int.toNat_natCast, Int.cast_ofNat_Int, Int.reduceNe, Int.reduceEq, Int.reduceBEq, Int.reduceBNe, not_false_eq_true, ne_eq, Int.reduceTMod, Int.reduceTDiv, beq_self_eq_true, bne_self_eq_false]
  obtain ⟨x, hx⟩ := and_nat (a := m) (b := 511) (by omega) (by omega)
  have hm : x &&& (511 : Int).toNat < 512 := Nat.lt_succ_of_le Nat.and_le_right
  rw [hx]
  generalize x &&& (511 : Int).toNat = mn at *
  obtain ⟨an, rfl⟩ := Int.eq_ofNat_of_zero_le ha
  obtain ⟨cn, rfl⟩ := Int.eq_ofNat_of_zero_le hc
  have wa : IntKind.wrap .i64 ((an : Int).tmod 8) = ((an % 8 : Nat) : Int) := by
    rw [Int.tmod_eq_emod_of_nonneg (by omega), wrap_i64 (by omega) (by omega)]; simp
  have wc : IntKind.wrap .i64 ((cn : Int).tmod 8) = ((cn % 8 : Nat) : Int) := by
    rw [Int.tmod_eq_emod_of_nonneg (by omega), wrap_i64 (by omega) (by omega)]; simp
  rw [wa, wc]
  have h1 : an % 8 < 8 := Nat.mod_lt _ (by omega)
  have h2 : cn % 8 < 8 := Nat.mod_lt _ (by omega)
  generalize an % 8 = a8 at *
  generalize cn % 8 = c8 at *
  rw [or_i64 (by omega) (by omega) (by omega) (by omega), Int.toNat_natCast, Int.toNat_natCast]
  intro b
  refine callD_of (may9 _ _ _ _ _ _ _ _ _ _ _) ?_
  rw [may_or _ _ _ _ _ _ _ _ hm h1 h2]
  simp (disch := first | omega | (simp only [List.length_cons, List.length_nil]; first | done | omega)) only [go_sem, Nat.reduceAdd, Nat.reduceMul, Nat.reduceSub, Nat.reduceEqDiff, Nat.reduceLeDiff, Nat.reduceMod, Nat.reduceLT, Int.reduceToNat, Int.reduceAdd, Int.reduceSub, Int.reduceMul, Int.reduceNeg, Int.reduceLE, Int.reduceLT, Int.toNat_natCast, Int.cast_ofNat_Int, Int.reduceNe, Int.reduceEq, Int.reduceBEq, Int.reduceBNe, not_false_eq_true, ne_eq, Int.reduceTMod, Int.reduceTDiv, beq_self_eq_true, bne_self_eq_false]
  refine callD_of (may9 _ _ _ _ _ _ _ _ _ _ _) ?_
  simp (disch := first | omega | (simp only [List.length_cons, List.length_nil]; first | done | omega)) only [go_sem, Nat.reduceAdd, Nat.reduceMul, Nat.reduceSub, Nat.reduceEqDiff, Nat.reduceLeDiff, Nat.reduceMod, Nat.reduceLT, Int.reduceToNat, Int.reduceAdd, Int.reduceSub, Int.reduceMul, Int.reduceNeg, Int.reduceLE, Int.reduceLT, Int.toNat_natCast, Int.cast_ofNat_Int, Int.reduceNe, Int.reduceEq, Int.reduceBEq, Int.reduceBNe, not_false_eq_true, ne_eq, Int.reduceTMod, Int.reduceTDiv, beq_self_eq_true, bne_self_eq_false]
  refine callDG_of (fun _ => may9 _ _ _ _ _ _ _ _ _ _ _) ?_
  simp (disch := first | omega | (simp only [List.length_cons, List.length_nil]; first | done | omega)) only [go_sem, Nat.reduceAdd, Nat.reduceMul, Nat.reduceSub, Nat.reduceEqDiff, Nat.reduceLeDiff, Nat.reduceMod, Nat.reduceLT, Int.reduceToNat, Int.reduceAdd, Int.reduceSub, Int.reduceMul, Int.reduceNeg, Int.reduceLE, Int.reduceLT, Int.toNat_natCast, Int.cast_ofNat_Int, Int.reduceNe, Int.reduceEq, Int.reduceBEq, Int.reduceBNe, not_false_eq_true, ne_eq, Int.reduceTMod, Int.reduceTDiv, beq_self_eq_true, bne_self_eq_false]
  refine callDG_of (fun _ => may9 _ _ _ _ _ _ _ _ _ _ _) ?_
  have h0 := may_nat k u g euid egid mn 0 hm (by omega)
  have h0' : may k mn u g euid egid 0 = true := by
    rw [show (0 : Int) = ((0 : Nat) : Int) from rfl, h0]
    split <;> simp
  simp (disch := first | omega | (simp only [List.length_cons, List.length_nil]; first | done | omega)) only [go_sem, Nat.reduceAdd, Nat.reduceMul, Nat.reduceSub, Nat.reduceEqDiff, Nat.reduceLeDiff, Nat.reduceMod, Nat.reduceLT, Int.reduceToNat, Int.reduceAdd, Int.reduceSub, Int.reduceMul, Int.reduceNeg, Int.reduceLE, Int.reduceLT, Int.toNat_natCast, Int.cast_ofNat_Int, Int.reduceNe, Int.reduceEq, Int.reduceBEq, Int.reduceBNe, not_false_eq_true, ne_eq, Int.reduceTMod, Int.reduceTDiv, beq_self_eq_true, bne_self_eq_false, h0']
  refine callDG_of (fun _ => awake11) ?_
  simp (disch := first | omega | (simp only [List.length_cons, List.length_nil]; first | done | omega)) only [go_sem, Nat.reduceAdd, Nat.reduceMul, Nat.reduceSub, Nat.reduceEqDiff, Nat.reduceLeDiff, Nat.reduceMod, Nat.reduceLT, Int.reduceToNat, Int.reduceAdd, Int.reduceSub, Int.reduceMul, Int.reduceNeg, Int.reduceLE, Int.reduceLT, Int.toNat_natCast, Int.cast_ofNat_Int, Int.reduceNe, Int.reduceEq, Int.reduceBEq, Int.reduceBNe, not_false_eq_true, ne_eq, Int.reduceTMod, Int.reduceTDiv, beq_self_eq_true, bne_self_eq_false]
end Go.Proofs.YtpcacgmconokdaaDoor
