/- Layer 8: Format and Parse, in the program and in the reference. -/
import Derived.Test.YtpcacgmconokdaaDoorAccC
namespace Go.Proofs.YtpcacgmconokdaaDoor
open Go Go.Lx
set_option maxRecDepth 100000
set_option linter.unusedSimpArgs false

def fmtA (mode : Int) : List UInt8 := if mode < 0 ∨ 511 < mode then [] else fmt mode

theorem fmt14A (mode : Int) : Pure Tryd.prog gl 14 [.int .i64 mode] (.str (fmtA mode)) := by
  by_cases hr : mode < 0 ∨ 511 < mode
  · refine fn_pureT Tryd.func14 t14 Tryd.ntmps14 (by simp) ?_
    unfold c14 r14
    simp (disch := first | omega | (simp only [List.length_cons, List.length_nil]; first | done | omega)) only [go_sem, Nat.reduceAdd, Nat.reduceMul, Nat.reduceSub, Nat.reduceEqDiff, Nat.reduceLeDiff, Nat.reduceMod, Nat.reduceLT, Int.reduceToNat, Int.reduceAdd, Int.reduceSub, Int.reduceMul, Int.reduceNeg, Int.reduceLE, Int.reduceLT, Int.toNat_natCast, Int.cast_ofNat_Int, Int.reduceNe, Int.reduceEq, Int.reduceBEq, Int.reduceBNe, not_false_eq_true, ne_eq, Int.reduceTMod, Int.reduceTDiv, beq_self_eq_true, bne_self_eq_false]
    refine brS trivial (fun h => ?_) (fun h => ?_)
    · simp (disch := first | omega | (simp only [List.length_cons, List.length_nil]; first | done | omega)) only [go_sem, Nat.reduceAdd, Nat.reduceMul, Nat.reduceSub, Nat.reduceEqDiff, Nat.reduceLeDiff, Nat.reduceMod, Nat.reduceLT, Int.reduceToNat, Int.reduceAdd, Int.reduceSub, Int.reduceMul, Int.reduceNeg, Int.reduceLE, Int.reduceLT, Int.toNat_natCast, Int.cast_ofNat_Int, Int.reduceNe, Int.reduceEq, Int.reduceBEq, Int.reduceBNe, not_false_eq_true, ne_eq, Int.reduceTMod, Int.reduceTDiv, beq_self_eq_true, bne_self_eq_false]
      simp [fmtA, hr]
    · simp at h; omega
  · unfold fmtA
    rw [if_neg hr]
    exact fmt14 mode (by omega) (by omega)

theorem bit01 (mode : Int) (i : Nat) : bit mode i = 0 ∨ bit mode i = 1 := by
  have := and_mask (a := shr .i64 mode (8 - i)) (b := 1) (by omega) (by omega)
  unfold bit
  omega

theorem fmt_length (mode : Int) : (fmt mode).length = 9 := rfl

set_option maxHeartbeats 1000000 in
theorem fmt15 (mode : Int) (h0 : 0 ≤ mode) (h1 : mode ≤ 511) : Pure Tryd.prog gl 15 [.int .i64 mode] (.str (fmt mode)) := by
  refine fn_pureT Tryd.func15 t15 Tryd.ntmps15 (by simp) ?_
  unfold c15 r15
  simp (disch := first | omega | (simp only [List.length_cons, List.length_nil]; first | done | omega)) only [go_sem, Nat.reduceAdd, Nat.reduceMul, Nat.reduceSub, Nat.reduceEqDiff, Nat.reduceLeDiff, Nat.reduceMod, Nat.reduceLT, Int.reduceToNat, Int.reduceAdd, Int.reduceSub, Int.reduceMul, Int.reduceNeg, Int.reduceLE, Int.reduceLT, Int.toNat_natCast, Int.cast_ofNat_Int, Int.reduceNe, Int.reduceEq, Int.reduceBEq, Int.reduceBNe, not_false_eq_true, ne_eq, Int.reduceTMod, Int.reduceTDiv, beq_self_eq_true, bne_self_eq_false]
  refine brS trivial (fun h => by simp at h; omega) (fun _ => ?_)
  simp (disch := first | omega | (simp only [List.length_cons, List.length_nil]; first | done | omega)) only [go_sem, Nat.reduceAdd, Nat.reduceMul, Nat.reduceSub, Nat.reduceEqDiff, Nat.reduceLeDiff, Nat.reduceMod, Nat.reduceLT, Int.reduceToNat, Int.reduceAdd, Int.reduceSub, Int.reduceMul, Int.reduceNeg, Int.reduceLE, Int.reduceLT, Int.toNat_natCast, Int.cast_ofNat_Int, Int.reduceNe, Int.reduceEq, Int.reduceBEq, Int.reduceBNe, not_false_eq_true, ne_eq, Int.reduceTMod, Int.reduceTDiv, beq_self_eq_true, bne_self_eq_false]
  refine loopI (fun k : Nat => k ≤ 9) (fun k => [(4, .int .i64 k), (3, .str ((fmt mode).take k)), (0, .int .i64 mode)]) (fun _ => []) (fun k => 9 - k) 0 (by omega) (Ents.envH (by simp [go_sem]) rfl) ?_
  intro k hk
  rcases Nat.lt_or_ge k 9 with hlt | hge
  · have hc : k = 0 ∨ k = 1 ∨ k = 2 ∨ k = 3 ∨ k = 4 ∨ k = 5 ∨ k = 6 ∨ k = 7 ∨ k = 8 := by omega
    have hb : bit mode k = bitop .and .i64 (shr .i64 mode (8 - k)) 1 := rfl
    have hb1 := bit01 mode k
    obtain ⟨k', hk'⟩ : ∃ k', k' = k + 1 := ⟨_, rfl⟩
    rcases hc with rfl | rfl | rfl | rfl | rfl | rfl | rfl | rfl | rfl
    all_goals
      simp only [Int.cast_ofNat_Int, Int.reduceSub] at hb
      simp (disch := first | omega | (simp only [List.length_cons, List.length_nil]; first | done | omega)) only [go_sem, Nat.reduceAdd, Nat.reduceMul, Nat.reduceSub, Nat.reduceEqDiff, Nat.reduceLeDiff, Nat.reduceMod, Nat.reduceLT, Int.reduceToNat, Int.reduceAdd, Int.reduceSub, Int.reduceMul, Int.reduceNeg, Int.reduceLE, Int.reduceLT, Int.toNat_natCast, Int.cast_ofNat_Int, Int.reduceNe, Int.reduceEq, Int.reduceBEq, Int.reduceBNe, not_false_eq_true, ne_eq, Int.reduceTMod, Int.reduceTDiv, beq_self_eq_true, bne_self_eq_false]
      rw [← hb]
      refine brS trivial (fun h => ?_) (fun h => ?_)
      · simp only [beq_iff_eq] at h
        simp (disch := first | omega | (simp only [List.length_cons, List.length_nil]; first | done | omega)) only [go_sem, Nat.reduceAdd, Nat.reduceMul, Nat.reduceSub, Nat.reduceEqDiff, Nat.reduceLeDiff, Nat.reduceMod, Nat.reduceLT, Int.reduceToNat, Int.reduceAdd, Int.reduceSub, Int.reduceMul, Int.reduceNeg, Int.reduceLE, Int.reduceLT, Int.toNat_natCast, Int.cast_ofNat_Int, Int.reduceNe, Int.reduceEq, Int.reduceBEq, Int.reduceBNe, not_false_eq_true, ne_eq, Int.reduceTMod, Int.reduceTDiv, beq_self_eq_true, bne_self_eq_false]
        first | (refine And.intro (by simp [fmt]) ?_) | skip
        refine ⟨⟨k', ?_⟩, ?_, Ents.envH ?_ rfl⟩
        · omega
        · dsimp only; omega
        · simp [go_sem, hk', fmt, fb, h, letterN]
      · simp only [beq_eq_false_iff_ne] at h
        have h' : bit mode _ = 0 := hb1.resolve_right h
        simp (disch := first | omega | (simp only [List.length_cons, List.length_nil]; first | done | omega)) only [go_sem, Nat.reduceAdd, Nat.reduceMul, Nat.reduceSub, Nat.reduceEqDiff, Nat.reduceLeDiff, Nat.reduceMod, Nat.reduceLT, Int.reduceToNat, Int.reduceAdd, Int.reduceSub, Int.reduceMul, Int.reduceNeg, Int.reduceLE, Int.reduceLT, Int.toNat_natCast, Int.cast_ofNat_Int, Int.reduceNe, Int.reduceEq, Int.reduceBEq, Int.reduceBNe, not_false_eq_true, ne_eq, Int.reduceTMod, Int.reduceTDiv, beq_self_eq_true, bne_self_eq_false]
        first | (refine And.intro (by simp [fmt]) ?_) | skip
        refine ⟨⟨k', ?_⟩, ?_, Ents.envH ?_ rfl⟩
        · omega
        · dsimp only; omega
        · simp [go_sem, hk', fmt, fb, h', letterN]
  · obtain rfl : k = 9 := by omega
    simp (disch := first | omega | (simp only [List.length_cons, List.length_nil]; first | done | omega)) only [go_sem, Nat.reduceAdd, Nat.reduceMul, Nat.reduceSub, Nat.reduceEqDiff, Nat.reduceLeDiff, Nat.reduceMod, Nat.reduceLT, Int.reduceToNat, Int.reduceAdd, Int.reduceSub, Int.reduceMul, Int.reduceNeg, Int.reduceLE, Int.reduceLT, Int.toNat_natCast, Int.cast_ofNat_Int, Int.reduceNe, Int.reduceEq, Int.reduceBEq, Int.reduceBNe, not_false_eq_true, ne_eq, Int.reduceTMod, Int.reduceTDiv, beq_self_eq_true, bne_self_eq_false]
    simp [fmt]

theorem fmt15A (mode : Int) : Pure Tryd.prog gl 15 [.int .i64 mode] (.str (fmtA mode)) := by
  by_cases hr : mode < 0 ∨ 511 < mode
  · refine fn_pureT Tryd.func15 t15 Tryd.ntmps15 (by simp) ?_
    unfold c15 r15
    simp (disch := first | omega | (simp only [List.length_cons, List.length_nil]; first | done | omega)) only [go_sem, Nat.reduceAdd, Nat.reduceMul, Nat.reduceSub, Nat.reduceEqDiff, Nat.reduceLeDiff, Nat.reduceMod, Nat.reduceLT, Int.reduceToNat, Int.reduceAdd, Int.reduceSub, Int.reduceMul, Int.reduceNeg, Int.reduceLE, Int.reduceLT, Int.toNat_natCast, Int.cast_ofNat_Int, Int.reduceNe, Int.reduceEq, Int.reduceBEq, Int.reduceBNe, not_false_eq_true, ne_eq, Int.reduceTMod, Int.reduceTDiv, beq_self_eq_true, bne_self_eq_false]
    refine brS trivial (fun h => ?_) (fun h => ?_)
    · simp (disch := first | omega | (simp only [List.length_cons, List.length_nil]; first | done | omega)) only [go_sem, Nat.reduceAdd, Nat.reduceMul, Nat.reduceSub, Nat.reduceEqDiff, Nat.reduceLeDiff, Nat.reduceMod, Nat.reduceLT, Int.reduceToNat, Int.reduceAdd, Int.reduceSub, Int.reduceMul, Int.reduceNeg, Int.reduceLE, Int.reduceLT, Int.toNat_natCast, Int.cast_ofNat_Int, Int.reduceNe, Int.reduceEq, Int.reduceBEq, Int.reduceBNe, not_false_eq_true, ne_eq, Int.reduceTMod, Int.reduceTDiv, beq_self_eq_true, bne_self_eq_false]
      simp [fmtA, hr]
    · simp at h; omega
  · unfold fmtA
    rw [if_neg hr]
    exact fmt15 mode (by omega) (by omega)

def ltr (s : List UInt8) (i : Nat) : Bool := (s.getD i 0).toNat == letterN i
def dash (s : List UInt8) (i : Nat) : Bool := (s.getD i 0).toNat == 45
def pm (s : List UInt8) : Nat → Int
  | 0 => 0
  | k + 1 => if ltr s k then bitop .or .i64 (pm s k) (shl .i64 1 (8 - k)) else pm s k
def okk (s : List UInt8) : Nat → Bool
  | 0 => true
  | k + 1 => okk s k && (ltr s k || dash s k)
/-- What Parse answers. -/
def pres (s : List UInt8) : Int × Int := if s.length = 9 ∧ okk s 9 = true then (pm s 9, 0) else (0, 80)

theorem okk_get (s : List UInt8) : ∀ (n k : Nat), okk s n = true → k < n → (ltr s k || dash s k) = true
  | 0, _, _, h => by omega
  | n + 1, k, h, hk => by
    simp only [okk, Bool.and_eq_true] at h
    rcases Nat.lt_or_ge k n with h' | h'
    · exact okk_get s n k h.1 h'
    · obtain rfl : k = n := by omega
      exact h.2

set_option maxHeartbeats 1000000 in
theorem parse12 (s : List UInt8) : Pure Tryd.prog gl 12 [.str s] (.tup [.int .i64 (pres s).1, .int .i64 (pres s).2]) := by
  refine fn_pureT Tryd.func12 t12 Tryd.ntmps12 (by simp) ?_
  unfold c12 r12
  simp (disch := first | omega | (simp only [List.length_cons, List.length_nil]; first | done | omega)) only [go_sem, Nat.reduceAdd, Nat.reduceMul, Nat.reduceSub, Nat.reduceEqDiff, Nat.reduceLeDiff, Nat.reduceMod, Nat.reduceLT, Int.reduceToNat, Int.reduceAdd, Int.reduceSub, Int.reduceMul, Int.reduceNeg, Int.reduceLE, Int.reduceLT, Int.toNat_natCast, Int.cast_ofNat_Int, Int.reduceNe, Int.reduceEq, Int.reduceBEq, Int.reduceBNe, not_false_eq_true, ne_eq, Int.reduceTMod, Int.reduceTDiv, beq_self_eq_true, bne_self_eq_false]
  refine brS trivial (fun h => ?_) (fun h => ?_)
  · have hl : ¬ s.length = 9 := by simp at h; omega
    have hp : pres s = (0, 80) := by simp [pres, hl]
    rw [hp]
    simp (disch := first | omega | (simp only [List.length_cons, List.length_nil]; first | done | omega)) only [go_sem, Nat.reduceAdd, Nat.reduceMul, Nat.reduceSub, Nat.reduceEqDiff, Nat.reduceLeDiff, Nat.reduceMod, Nat.reduceLT, Int.reduceToNat, Int.reduceAdd, Int.reduceSub, Int.reduceMul, Int.reduceNeg, Int.reduceLE, Int.reduceLT, Int.toNat_natCast, Int.cast_ofNat_Int, Int.reduceNe, Int.reduceEq, Int.reduceBEq, Int.reduceBNe, not_false_eq_true, ne_eq, Int.reduceTMod, Int.reduceTDiv, beq_self_eq_true, bne_self_eq_false]
  · have hl : s.length = 9 := by simp at h; omega
    simp (disch := first | omega | (simp only [List.length_cons, List.length_nil]; first | done | omega)) only [go_sem, Nat.reduceAdd, Nat.reduceMul, Nat.reduceSub, Nat.reduceEqDiff, Nat.reduceLeDiff, Nat.reduceMod, Nat.reduceLT, Int.reduceToNat, Int.reduceAdd, Int.reduceSub, Int.reduceMul, Int.reduceNeg, Int.reduceLE, Int.reduceLT, Int.toNat_natCast, Int.cast_ofNat_Int, Int.reduceNe, Int.reduceEq, Int.reduceBEq, Int.reduceBNe, not_false_eq_true, ne_eq, Int.reduceTMod, Int.reduceTDiv, beq_self_eq_true, bne_self_eq_false, gl, letters]
    refine loopI (fun k : Nat => k ≤ 9 ∧ okk s k = true) (fun k => [(11, .int .i64 k), (10, .agg letters), (4, .int .i64 (pm s k)), (0, .str s)]) (fun _ => []) (fun k => 9 - k) 0 (by simp [okk]) (Ents.envH (by simp [go_sem, letters, pm]) rfl) ?_
    intro k hk
    rcases Nat.lt_or_ge k 9 with hlt | hge
    · have hc : k = 0 ∨ k = 1 ∨ k = 2 ∨ k = 3 ∨ k = 4 ∨ k = 5 ∨ k = 6 ∨ k = 7 ∨ k = 8 := by omega
      have hbad : ltr s k = false → dash s k = false → pres s = (0, 80) := by
        intro a b
        unfold pres
        rw [if_neg]
        rintro ⟨_, hok⟩
        have := okk_get s 9 k hok hlt
        rw [a, b] at this
        cases this
      have e1 : (((s.getD k 0).toNat : Int) == ((letterN k : Nat) : Int)) = ltr s k := cast_beq _ _
      have e2 : (((s.getD k 0).toNat : Int) == ((45 : Nat) : Int)) = dash s k := cast_beq _ _
      have e3 : pm s (k + 1) = if ltr s k then bitop .or .i64 (pm s k) (shl .i64 1 (8 - k)) else pm s k := rfl
      have e4 : okk s (k + 1) = (okk s k && (ltr s k || dash s k)) := rfl
      obtain ⟨k', hk'⟩ : ∃ k', k' = k + 1 := ⟨_, rfl⟩
      rw [← hk'] at e3 e4
      have hkc : (k' : Int) = (k : Int) + 1 := by omega
      rcases hc with rfl | rfl | rfl | rfl | rfl | rfl | rfl | rfl | rfl
      all_goals
        simp only [letterN, Nat.reduceMod, Nat.zero_mod, Nat.reduceEqDiff, if_true, if_false, Int.cast_ofNat_Int, Int.reduceSub, Int.reduceAdd, Nat.one_ne_zero, ite_true, ite_false, ↓reduceIte] at e1 e2 e3 hkc
        simp (disch := first | omega | (simp only [List.length_cons, List.length_nil]; first | done | omega)) only [go_sem, Nat.reduceAdd, Nat.reduceMul, Nat.reduceSub, Nat.reduceEqDiff, Nat.reduceLeDiff, Nat.reduceMod, Nat.reduceLT, Int.reduceToNat, Int.reduceAdd, Int.reduceSub, Int.reduceMul, Int.reduceNeg, Int.reduceLE, Int.reduceLT, Int.toNat_natCast, Int.cast_ofNat_Int, Int.reduceNe, Int.reduceEq, Int.reduceBEq, Int.reduceBNe, not_false_eq_true, ne_eq, Int.reduceTMod, Int.reduceTDiv, beq_self_eq_true, bne_self_eq_false, letters, hl]
        rw [e1]
        refine brS trivial (fun h => ?_) (fun h => ?_)
        · simp only at h
          simp (disch := first | omega | (simp only [List.length_cons, List.length_nil]; first | done | omega)) only [go_sem, Nat.reduceAdd, Nat.reduceMul, Nat.reduceSub, Nat.reduceEqDiff, Nat.reduceLeDiff, Nat.reduceMod, Nat.reduceLT, Int.reduceToNat, Int.reduceAdd, Int.reduceSub, Int.reduceMul, Int.reduceNeg, Int.reduceLE, Int.reduceLT, Int.toNat_natCast, Int.cast_ofNat_Int, Int.reduceNe, Int.reduceEq, Int.reduceBEq, Int.reduceBNe, not_false_eq_true, ne_eq, Int.reduceTMod, Int.reduceTDiv, beq_self_eq_true, bne_self_eq_false]
          refine ⟨⟨k', ?_⟩, ?_, Ents.envH ?_ rfl⟩
          · refine ⟨by omega, ?_⟩
            rw [e4, h, hk.2]; rfl
          · dsimp only; omega
          · simp [go_sem, hkc, e3, h]
        · simp only at h
          simp (disch := first | omega | (simp only [List.length_cons, List.length_nil]; first | done | omega)) only [go_sem, Nat.reduceAdd, Nat.reduceMul, Nat.reduceSub, Nat.reduceEqDiff, Nat.reduceLeDiff, Nat.reduceMod, Nat.reduceLT, Int.reduceToNat, Int.reduceAdd, Int.reduceSub, Int.reduceMul, Int.reduceNeg, Int.reduceLE, Int.reduceLT, Int.toNat_natCast, Int.cast_ofNat_Int, Int.reduceNe, Int.reduceEq, Int.reduceBEq, Int.reduceBNe, not_false_eq_true, ne_eq, Int.reduceTMod, Int.reduceTDiv, beq_self_eq_true, bne_self_eq_false]
          rw [e2]
          refine brS trivial (fun h' => ?_) (fun h' => ?_)
          · simp only at h'
            simp (disch := first | omega | (simp only [List.length_cons, List.length_nil]; first | done | omega)) only [go_sem, Nat.reduceAdd, Nat.reduceMul, Nat.reduceSub, Nat.reduceEqDiff, Nat.reduceLeDiff, Nat.reduceMod, Nat.reduceLT, Int.reduceToNat, Int.reduceAdd, Int.reduceSub, Int.reduceMul, Int.reduceNeg, Int.reduceLE, Int.reduceLT, Int.toNat_natCast, Int.cast_ofNat_Int, Int.reduceNe, Int.reduceEq, Int.reduceBEq, Int.reduceBNe, not_false_eq_true, ne_eq, Int.reduceTMod, Int.reduceTDiv, beq_self_eq_true, bne_self_eq_false]
            refine ⟨⟨k', ?_⟩, ?_, Ents.envH ?_ rfl⟩
            · refine ⟨by omega, ?_⟩
              rw [e4, h, h', hk.2]; rfl
            · dsimp only; omega
            · simp [go_sem, hkc, e3, h]
          · simp only at h'
            rw [hbad h h']
            simp (disch := first | omega | (simp only [List.length_cons, List.length_nil]; first | done | omega)) only [go_sem, Nat.reduceAdd, Nat.reduceMul, Nat.reduceSub, Nat.reduceEqDiff, Nat.reduceLeDiff, Nat.reduceMod, Nat.reduceLT, Int.reduceToNat, Int.reduceAdd, Int.reduceSub, Int.reduceMul, Int.reduceNeg, Int.reduceLE, Int.reduceLT, Int.toNat_natCast, Int.cast_ofNat_Int, Int.reduceNe, Int.reduceEq, Int.reduceBEq, Int.reduceBNe, not_false_eq_true, ne_eq, Int.reduceTMod, Int.reduceTDiv, beq_self_eq_true, bne_self_eq_false]
    · obtain rfl : k = 9 := by omega
      have hp : pres s = (pm s 9, 0) := by simp [pres, hl, hk.2]
      rw [hp]
      simp (disch := first | omega | (simp only [List.length_cons, List.length_nil]; first | done | omega)) only [go_sem, Nat.reduceAdd, Nat.reduceMul, Nat.reduceSub, Nat.reduceEqDiff, Nat.reduceLeDiff, Nat.reduceMod, Nat.reduceLT, Int.reduceToNat, Int.reduceAdd, Int.reduceSub, Int.reduceMul, Int.reduceNeg, Int.reduceLE, Int.reduceLT, Int.toNat_natCast, Int.cast_ofNat_Int, Int.reduceNe, Int.reduceEq, Int.reduceBEq, Int.reduceBNe, not_false_eq_true, ne_eq, Int.reduceTMod, Int.reduceTDiv, beq_self_eq_true, bne_self_eq_false]
end Go.Proofs.YtpcacgmconokdaaDoor
