/- Layer 8: what is written is read back; the reference's Parse. -/
import Derived.Test.YtpcacgmconokdaaDoorAccP
namespace Go.Proofs.YtpcacgmconokdaaDoor
open Go Go.Lx
set_option maxRecDepth 100000
set_option linter.unusedSimpArgs false

/-- Every mode is read back from its text. -/
theorem back_all : ((List.range 512).all fun m => decide (pres (fmt (m : Int)) = ((m : Int), 0))) = true := by decide +kernel

theorem back (m : Nat) (h : m < 512) : pres (fmt (m : Int)) = ((m : Int), 0) := by
  have := List.all_eq_true.1 back_all m (by simpa using h)
  simpa using this

/-- A text of nine letters, by its nine answers. -/
def ch (b : Bool) (i : Nat) : UInt8 := if b then UInt8.ofNat (letterN i) else 45
def txt (b0 b1 b2 b3 b4 b5 b6 b7 b8 : Bool) : List UInt8 := [ch b0 0, ch b1 1, ch b2 2, ch b3 3, ch b4 4, ch b5 5, ch b6 6, ch b7 7, ch b8 8]
theorem txt_all : ∀ b0 b1 b2 b3 b4 b5 b6 b7 b8 : Bool, fmt (pm (txt b0 b1 b2 b3 b4 b5 b6 b7 b8) 9) = txt b0 b1 b2 b3 b4 b5 b6 b7 b8 ∧ 0 ≤ pm (txt b0 b1 b2 b3 b4 b5 b6 b7 b8) 9 ∧ pm (txt b0 b1 b2 b3 b4 b5 b6 b7 b8) 9 ≤ 511 := by decide +kernel

theorem ch_of (s : List UInt8) (i : Nat) (h : (ltr s i || dash s i) = true) : s.getD i 0 = ch (ltr s i) i := by
  unfold ch
  cases hl : ltr s i with
  | true =>
    simp only [ltr, beq_iff_eq] at hl
    rw [if_pos rfl, ← hl]
    simp
  | false =>
    rw [hl, Bool.false_or] at h
    simp only [dash, beq_iff_eq] at h
    rw [if_neg (by simp)]
    exact UInt8.toNat_inj.1 h

/-- A text that Parse accepts is the text of the mode that it gives. -/
theorem forth (s : List UInt8) (hl : s.length = 9) (hok : okk s 9 = true) : fmt (pm s 9) = s ∧ 0 ≤ pm s 9 ∧ pm s 9 ≤ 511 := by
  have c (i : Nat) (hi : i < 9) := ch_of s i (okk_get s 9 i hok hi)
  have e : s = txt (ltr s 0) (ltr s 1) (ltr s 2) (ltr s 3) (ltr s 4) (ltr s 5) (ltr s 6) (ltr s 7) (ltr s 8) := by
    have c0 := c 0 (by omega)
    have c1 := c 1 (by omega)
    have c2 := c 2 (by omega)
    have c3 := c 3 (by omega)
    have c4 := c 4 (by omega)
    have c5 := c 5 (by omega)
    have c6 := c 6 (by omega)
    have c7 := c 7 (by omega)
    have c8 := c 8 (by omega)
    unfold txt
    rw [← c0, ← c1, ← c2, ← c3, ← c4, ← c5, ← c6, ← c7, ← c8]
    match s, hl with
    | [_, _, _, _, _, _, _, _, _], _ => rfl
  generalize ltr s 0 = b0 at e
  generalize ltr s 1 = b1 at e
  generalize ltr s 2 = b2 at e
  generalize ltr s 3 = b3 at e
  generalize ltr s 4 = b4 at e
  generalize ltr s 5 = b5 at e
  generalize ltr s 6 = b6 at e
  generalize ltr s 7 = b7 at e
  generalize ltr s 8 = b8 at e
  subst e
  exact txt_all b0 b1 b2 b3 b4 b5 b6 b7 b8

set_option maxHeartbeats 1000000 in
theorem parse13 (s : List UInt8) : Pure Tryd.prog gl 13 [.str s] (.tup [.int .i64 (pres s).1, .int .i64 (pres s).2]) := by
  refine fn_pureT Tryd.func13 t13 Tryd.ntmps13 (by simp) ?_
  unfold c13 r13
  simp (disch := first | omega | (simp only [List.length_cons, List.length_nil]; first | done | omega)) only [go_sem, Nat.reduceAdd, Nat.reduceMul, Nat.reduceSub, Nat.reduceEqDiff, Nat.reduceLeDiff, Nat.reduceMod, Nat.reduceLT, Int.reduceToNat, Int.reduceAdd, Int.reduceSub, Int.reduceMul, Int.reduceNeg, Int.reduceLE, Int.reduceLT, Int.toNat_natCast, Int.cast_ofNat_Int, Int.reduceNe, Int.reduceEq, Int.reduceBEq, Int.reduceBNe, not_false_eq_true, ne_eq, Int.reduceTMod, Int.reduceTDiv, beq_self_eq_true, bne_self_eq_false]
  refine loopI (fun k : Nat => k ≤ 512 ∧ ∀ j, j < k → fmt ((j : Nat) : Int) ≠ s) (fun k => [(4, .int .i64 k), (0, .str s)]) (fun _ => []) (fun k => 512 - k) 0 (by simp) (Ents.envH (by simp [go_sem]) rfl) ?_
  intro k hk
  simp (disch := first | omega | (simp only [List.length_cons, List.length_nil]; first | done | omega)) only [go_sem, Nat.reduceAdd, Nat.reduceMul, Nat.reduceSub, Nat.reduceEqDiff, Nat.reduceLeDiff, Nat.reduceMod, Nat.reduceLT, Int.reduceToNat, Int.reduceAdd, Int.reduceSub, Int.reduceMul, Int.reduceNeg, Int.reduceLE, Int.reduceLT, Int.toNat_natCast, Int.cast_ofNat_Int, Int.reduceNe, Int.reduceEq, Int.reduceBEq, Int.reduceBNe, not_false_eq_true, ne_eq, Int.reduceTMod, Int.reduceTDiv, beq_self_eq_true, bne_self_eq_false]
  refine brS trivial (fun h => ?_) (fun h => ?_)
  · have hlt : k < 512 := by simp at h; omega
    simp (disch := first | omega | (simp only [List.length_cons, List.length_nil]; first | done | omega)) only [go_sem, Nat.reduceAdd, Nat.reduceMul, Nat.reduceSub, Nat.reduceEqDiff, Nat.reduceLeDiff, Nat.reduceMod, Nat.reduceLT, Int.reduceToNat, Int.reduceAdd, Int.reduceSub, Int.reduceMul, Int.reduceNeg, Int.reduceLE, Int.reduceLT, Int.toNat_natCast, Int.cast_ofNat_Int, Int.reduceNe, Int.reduceEq, Int.reduceBEq, Int.reduceBNe, not_false_eq_true, ne_eq, Int.reduceTMod, Int.reduceTDiv, beq_self_eq_true, bne_self_eq_false]
    refine call_of (fmt15 k (by omega) (by omega)) ?_
    simp (disch := first | omega | (simp only [List.length_cons, List.length_nil]; first | done | omega)) only [go_sem, Nat.reduceAdd, Nat.reduceMul, Nat.reduceSub, Nat.reduceEqDiff, Nat.reduceLeDiff, Nat.reduceMod, Nat.reduceLT, Int.reduceToNat, Int.reduceAdd, Int.reduceSub, Int.reduceMul, Int.reduceNeg, Int.reduceLE, Int.reduceLT, Int.toNat_natCast, Int.cast_ofNat_Int, Int.reduceNe, Int.reduceEq, Int.reduceBEq, Int.reduceBNe, not_false_eq_true, ne_eq, Int.reduceTMod, Int.reduceTDiv, beq_self_eq_true, bne_self_eq_false]
    refine brS trivial (fun h' => ?_) (fun h' => ?_)
    · simp only [beq_iff_eq] at h'
      have hp := back k hlt
      rw [h'] at hp
      rw [hp]
      simp (disch := first | omega | (simp only [List.length_cons, List.length_nil]; first | done | omega)) only [go_sem, Nat.reduceAdd, Nat.reduceMul, Nat.reduceSub, Nat.reduceEqDiff, Nat.reduceLeDiff, Nat.reduceMod, Nat.reduceLT, Int.reduceToNat, Int.reduceAdd, Int.reduceSub, Int.reduceMul, Int.reduceNeg, Int.reduceLE, Int.reduceLT, Int.toNat_natCast, Int.cast_ofNat_Int, Int.reduceNe, Int.reduceEq, Int.reduceBEq, Int.reduceBNe, not_false_eq_true, ne_eq, Int.reduceTMod, Int.reduceTDiv, beq_self_eq_true, bne_self_eq_false]
    · simp only [beq_eq_false_iff_ne] at h'
      simp (disch := first | omega | (simp only [List.length_cons, List.length_nil]; first | done | omega)) only [go_sem, Nat.reduceAdd, Nat.reduceMul, Nat.reduceSub, Nat.reduceEqDiff, Nat.reduceLeDiff, Nat.reduceMod, Nat.reduceLT, Int.reduceToNat, Int.reduceAdd, Int.reduceSub, Int.reduceMul, Int.reduceNeg, Int.reduceLE, Int.reduceLT, Int.toNat_natCast, Int.cast_ofNat_Int, Int.reduceNe, Int.reduceEq, Int.reduceBEq, Int.reduceBNe, not_false_eq_true, ne_eq, Int.reduceTMod, Int.reduceTDiv, beq_self_eq_true, bne_self_eq_false]
      refine ⟨⟨k + 1, ?_⟩, ?_, Ents.envH ?_ rfl⟩
      · refine ⟨by omega, fun j hj => ?_⟩
        rcases Nat.lt_or_ge j k with h1 | h1
        · exact hk.2 j h1
        · obtain rfl : j = k := by omega
          exact h'
      · dsimp only; omega
      · simp [go_sem]
  · have hge : k = 512 := by simp at h; omega
    have hp : pres s = (0, 80) := by
      unfold pres
      rw [if_neg]
      rintro ⟨hl, hok⟩
      obtain ⟨h1, h2, h3⟩ := forth s hl hok
      obtain ⟨n, hn⟩ := Int.eq_ofNat_of_zero_le h2
      exact hk.2 n (by omega) (by rw [← hn]; exact h1)
    rw [hp]
    simp (disch := first | omega | (simp only [List.length_cons, List.length_nil]; first | done | omega)) only [go_sem, Nat.reduceAdd, Nat.reduceMul, Nat.reduceSub, Nat.reduceEqDiff, Nat.reduceLeDiff, Nat.reduceMod, Nat.reduceLT, Int.reduceToNat, Int.reduceAdd, Int.reduceSub, Int.reduceMul, Int.reduceNeg, Int.reduceLE, Int.reduceLT, Int.toNat_natCast, Int.cast_ofNat_Int, Int.reduceNe, Int.reduceEq, Int.reduceBEq, Int.reduceBNe, not_false_eq_true, ne_eq, Int.reduceTMod, Int.reduceTDiv, beq_self_eq_true, bne_self_eq_false]
end Go.Proofs.YtpcacgmconokdaaDoor
