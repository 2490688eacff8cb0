/- Layer 8: what May, Format and Parse compute, in the program and in the reference. -/
import Derived.Test.YtpcacgmconokdaaDoorCode
import Derived.Test.YtpcacgmconokdaaDoorLxO
namespace Go.Proofs.YtpcacgmconokdaaDoor
open Go Go.Lx
set_option maxRecDepth 100000
set_option linter.unusedSimpArgs false

def letters : List LV := [.int .u8 114, .int .u8 119, .int .u8 120, .int .u8 114, .int .u8 119, .int .u8 120, .int .u8 114, .int .u8 119, .int .u8 120]
def gl : Glob := fun g => if g = 0 then some letters else none

/-- The class's bits that count. -/
def may (k m u g euid egid want : Int) : Bool :=
  if want < 0 ∨ 7 < want then false
  else if euid = 0 then bitop .and .i64 want 1 == 0 || k == 2 || bitop .and .i64 m 73 != 0
  else bitop .and .i64 (shr .i64 m (if euid = u then 6 else if egid = g then 3 else 0)) want == want

def node (ino k m u g p : Int) (tg en : LV) : LV := .agg [.int .i64 ino, .int .i64 k, .int .i64 m, .int .i64 u, .int .i64 g, .int .i64 p, tg, en]

theorem may9 (ino k m u g p : Int) (tg en : LV) (euid egid want : Int) : Pure Tryd.prog gl 9 [node ino k m u g p tg en, .int .i64 euid, .int .i64 egid, .int .i64 want] (.bool (may k m u g euid egid want)) := by
  refine fn_pureT Tryd.func9 t9 Tryd.ntmps9 (by simp) ?_
  unfold c9 r9 node
  simp (disch := first | omega | (simp only [List.length_cons, List.length_nil]; first | done | omega)) only [go_sem, Nat.reduceAdd, Nat.reduceMul, Nat.reduceSub, Nat.reduceEqDiff, Nat.reduceLeDiff, Nat.reduceMod, Nat.reduceLT, Int.reduceToNat, Int.reduceAdd, Int.reduceSub, Int.reduceMul, Int.reduceNeg, Int.reduceLE, Int.reduceLT, Int.toNat_natCast, Int.cast_ofNat_Int, Int.reduceNe, Int.reduceEq, Int.reduceBEq, Int.reduceBNe, not_false_eq_true, ne_eq, Int.reduceTMod, Int.reduceTDiv, beq_self_eq_true, bne_self_eq_false]
  repeat' first
    | intro _
    | refine brS trivial (fun _ => ?_) (fun _ => ?_)
    | simp (disch := first | omega | (simp only [List.length_cons, List.length_nil]; first | done | omega)) only [go_sem, Nat.reduceAdd, Nat.reduceMul, Nat.reduceSub, Nat.reduceEqDiff, Nat.reduceLeDiff, Nat.reduceMod, Nat.reduceLT, Int.reduceToNat, Int.reduceAdd, Int.reduceSub, Int.reduceMul, Int.reduceNeg, Int.reduceLE, Int.reduceLT, Int.toNat_natCast, Int.cast_ofNat_Int, Int.reduceNe, Int.reduceEq, Int.reduceBEq, Int.reduceBNe, not_false_eq_true, ne_eq, Int.reduceTMod, Int.reduceTDiv, beq_self_eq_true, bne_self_eq_false]
  all_goals
    unfold may
    by_cases h : want < 0 ∨ 7 < want <;> by_cases h1 : euid = 0 <;> by_cases h2 : euid = u <;> by_cases h3 : egid = g <;> simp_all
  all_goals omega

/-- The reference, too. -/
theorem may10 (ino k m u g p : Int) (tg en : LV) (euid egid want : Int) (h0 : 0 ≤ m) (h5 : m ≤ 511) : Pure Tryd.prog gl 10 [node ino k m u g p tg en, .int .i64 euid, .int .i64 egid, .int .i64 want] (.bool (may k m u g euid egid want)) := by
  refine fn_pureT Tryd.func10 t10 Tryd.ntmps10 (by simp) ?_
  unfold c10 r10 node
  simp (disch := first | omega | (simp only [List.length_cons, List.length_nil]; first | done | omega)) only [go_sem, Nat.reduceAdd, Nat.reduceMul, Nat.reduceSub, Nat.reduceEqDiff, Nat.reduceLeDiff, Nat.reduceMod, Nat.reduceLT, Int.reduceToNat, Int.reduceAdd, Int.reduceSub, Int.reduceMul, Int.reduceNeg, Int.reduceLE, Int.reduceLT, Int.toNat_natCast, Int.cast_ofNat_Int, Int.reduceNe, Int.reduceEq, Int.reduceBEq, Int.reduceBNe, not_false_eq_true, ne_eq, Int.reduceTMod, Int.reduceTDiv, beq_self_eq_true, bne_self_eq_false]
  have key : ∀ s : Int, 0 ≤ s → s ≤ 6 → 0 ≤ want → want ≤ 7 → bitop .and .i64 (bitop .and .i64 (shr .i64 m s) 7) want = bitop .and .i64 (shr .i64 m s) want := by
    intro s hs hs' hw hw'
    obtain ⟨mn, rfl⟩ := Int.eq_ofNat_of_zero_le h0
    obtain ⟨wn, rfl⟩ := Int.eq_ofNat_of_zero_le hw
    rw [shr_nat hs (by omega)]
    have hle : mn >>> s.toNat ≤ mn := by rw [Nat.shiftRight_eq_div_pow]; exact Nat.div_le_self _ _
    generalize mn >>> s.toNat = x at *
    have hand : x &&& 7 ≤ 7 := Nat.and_le_right
    rw [and_i64 (a := (x : Int)) (b := 7) (by omega) (by omega) (by omega) (by omega)]
    simp only [Int.toNat_natCast, show (7 : Int).toNat = 7 from rfl]
    rw [and_i64 (by omega) (by omega) (by omega) (by omega), and_i64 (by omega) (by omega) (by omega) (by omega)]
    simp only [Int.toNat_natCast]
    have hw7 : 7 &&& wn = wn := by
      have : wn < 8 := by omega
      have h8 : ∀ w : Nat, w < 8 → 7 &&& w = w := by decide
      exact h8 wn this
    rw [Nat.and_assoc, hw7]
  have k6 := key 6 (by omega) (by omega)
  have k3 := key 3 (by omega) (by omega)
  have k0 : 0 ≤ want → want ≤ 7 → bitop .and .i64 (bitop .and .i64 m 7) want = bitop .and .i64 (shr .i64 m 0) want := by
    intro a b
    have := key 0 (by omega) (by omega) a b
    have e : shr .i64 m 0 = m := by rw [shr_i64 (by omega) (by omega)]; simp
    rw [e] at this ⊢; exact this
  repeat' first
    | intro _
    | refine brS trivial (fun _ => ?_) (fun _ => ?_)
    | simp (disch := first | omega | (simp only [List.length_cons, List.length_nil]; first | done | omega)) only [go_sem, Nat.reduceAdd, Nat.reduceMul, Nat.reduceSub, Nat.reduceEqDiff, Nat.reduceLeDiff, Nat.reduceMod, Nat.reduceLT, Int.reduceToNat, Int.reduceAdd, Int.reduceSub, Int.reduceMul, Int.reduceNeg, Int.reduceLE, Int.reduceLT, Int.toNat_natCast, Int.cast_ofNat_Int, Int.reduceNe, Int.reduceEq, Int.reduceBEq, Int.reduceBNe, not_false_eq_true, ne_eq, Int.reduceTMod, Int.reduceTDiv, beq_self_eq_true, bne_self_eq_false]
  all_goals
    unfold may
    by_cases h : want < 0 ∨ 7 < want <;> by_cases h1 : euid = 0 <;> by_cases h2 : euid = u <;> by_cases h3 : egid = g <;> simp_all
  all_goals omega

end Go.Proofs.YtpcacgmconokdaaDoor
