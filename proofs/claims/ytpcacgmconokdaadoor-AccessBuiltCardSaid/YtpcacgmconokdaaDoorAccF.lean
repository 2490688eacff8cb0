/- Layer 8: Format of the program. -/
import Derived.Test.YtpcacgmconokdaaDoorAcc
namespace Go.Proofs.YtpcacgmconokdaaDoor
open Go Go.Lx
set_option maxRecDepth 100000
set_option linter.unusedSimpArgs false

/-! ### Format -/
def bit (mode : Int) (i : Nat) : Int := bitop .and .i64 (shr .i64 mode (8 - i)) 1
def letterN (i : Nat) : Nat := if i % 3 = 0 then 114 else if i % 3 = 1 then 119 else 120
def fb (mode : Int) (i : Nat) : Nat := if bit mode i = 0 then 45 else letterN i
def fmt (mode : Int) : List UInt8 := [UInt8.ofNat (fb mode 0), UInt8.ofNat (fb mode 1), UInt8.ofNat (fb mode 2), UInt8.ofNat (fb mode 3), UInt8.ofNat (fb mode 4), UInt8.ofNat (fb mode 5), UInt8.ofNat (fb mode 6), UInt8.ofNat (fb mode 7), UInt8.ofNat (fb mode 8)]
def fcell (mode : Int) (k i : Nat) : LV := .int .u8 ((if i < k then fb mode i else letterN i : Nat) : Int)
def fcells (mode : Int) (k : Nat) : List LV := [fcell mode k 0, fcell mode k 1, fcell mode k 2, fcell mode k 3, fcell mode k 4, fcell mode k 5, fcell mode k 6, fcell mode k 7, fcell mode k 8]

set_option maxHeartbeats 1000000 in
theorem fmt14 (mode : Int) (h0 : 0 ≤ mode) (h1 : mode ≤ 511) : Pure Tryd.prog gl 14 [.int .i64 mode] (.str (fmt mode)) := by
  refine fn_pureT Tryd.func14 t14 Tryd.ntmps14 (by simp) ?_
  unfold c14 r14
  simp (disch := first | omega | (simp only [List.length_cons, List.length_nil]; first | done | omega)) only [go_sem, Nat.reduceAdd, Nat.reduceMul, Nat.reduceSub, Nat.reduceEqDiff, Nat.reduceLeDiff, Nat.reduceMod, Nat.reduceLT, Int.reduceToNat, Int.reduceAdd, Int.reduceSub, Int.reduceMul, Int.reduceNeg, Int.reduceLE, Int.reduceLT, Int.toNat_natCast, Int.cast_ofNat_Int, Int.reduceNe, Int.reduceEq, Int.reduceBEq, Int.reduceBNe, not_false_eq_true, ne_eq, Int.reduceTMod, Int.reduceTDiv, beq_self_eq_true, bne_self_eq_false]
  refine brS trivial (fun h => by simp at h; omega) (fun _ => ?_)
  simp (disch := first | omega | (simp only [List.length_cons, List.length_nil]; first | done | omega)) only [go_sem, Nat.reduceAdd, Nat.reduceMul, Nat.reduceSub, Nat.reduceEqDiff, Nat.reduceLeDiff, Nat.reduceMod, Nat.reduceLT, Int.reduceToNat, Int.reduceAdd, Int.reduceSub, Int.reduceMul, Int.reduceNeg, Int.reduceLE, Int.reduceLT, Int.toNat_natCast, Int.cast_ofNat_Int, Int.reduceNe, Int.reduceEq, Int.reduceBEq, Int.reduceBNe, not_false_eq_true, ne_eq, Int.reduceTMod, Int.reduceTDiv, beq_self_eq_true, bne_self_eq_false, gl, letters]
  intro b
  refine loopI (fun k : Nat => k ≤ 9) (fun k => [(12, .int .i64 k), (3, .ptr 3 b 0), (0, .int .i64 mode)]) (fun k => [(3, .blk b (fcells mode k))]) (fun k => 9 - k) 0 (by omega) (Ents.envH (by simp [go_sem]) ?_) ?_
  · simp [fcells, fcell, letterN, letters, splice]
  · intro k hk
    rcases Nat.lt_or_ge k 9 with hlt | hge
    · have hc : k = 0 ∨ k = 1 ∨ k = 2 ∨ k = 3 ∨ k = 4 ∨ k = 5 ∨ k = 6 ∨ k = 7 ∨ k = 8 := by omega
      have hb : bit mode k = bitop .and .i64 (shr .i64 mode (8 - k)) 1 := rfl
      obtain ⟨k', hk'⟩ : ∃ k', k' = k + 1 := ⟨_, rfl⟩
      rcases hc with rfl | rfl | rfl | rfl | rfl | rfl | rfl | rfl | rfl
      all_goals
        simp only [Int.cast_ofNat_Int, Int.reduceSub] at hb
        simp (disch := first | omega | (simp only [List.length_cons, List.length_nil]; first | done | omega)) only [go_sem, Nat.reduceAdd, Nat.reduceMul, Nat.reduceSub, Nat.reduceEqDiff, Nat.reduceLeDiff, Nat.reduceMod, Nat.reduceLT, Int.reduceToNat, Int.reduceAdd, Int.reduceSub, Int.reduceMul, Int.reduceNeg, Int.reduceLE, Int.reduceLT, Int.toNat_natCast, Int.cast_ofNat_Int, Int.reduceNe, Int.reduceEq, Int.reduceBEq, Int.reduceBNe, not_false_eq_true, ne_eq, Int.reduceTMod, Int.reduceTDiv, beq_self_eq_true, bne_self_eq_false, fcells, List.length]
        rw [← hb]
        refine brS trivial (fun h => ?_) (fun h => ?_)
        · simp only [beq_iff_eq] at h
          simp (disch := first | omega | (simp only [List.length_cons, List.length_nil]; first | done | omega)) only [go_sem, Nat.reduceAdd, Nat.reduceMul, Nat.reduceSub, Nat.reduceEqDiff, Nat.reduceLeDiff, Nat.reduceMod, Nat.reduceLT, Int.reduceToNat, Int.reduceAdd, Int.reduceSub, Int.reduceMul, Int.reduceNeg, Int.reduceLE, Int.reduceLT, Int.toNat_natCast, Int.cast_ofNat_Int, Int.reduceNe, Int.reduceEq, Int.reduceBEq, Int.reduceBNe, not_false_eq_true, ne_eq, Int.reduceTMod, Int.reduceTDiv, beq_self_eq_true, bne_self_eq_false, fcells, List.length]
          refine ⟨⟨k', ?_⟩, ?_, Ents.envH ?_ ?_⟩
          · omega
          · dsimp only; omega
          · simp [go_sem, hk']
          · simp [fcells, fcell, fb, h, hk', splice]
        · simp only [beq_eq_false_iff_ne] at h
          simp (disch := first | omega | (simp only [List.length_cons, List.length_nil]; first | done | omega)) only [go_sem, Nat.reduceAdd, Nat.reduceMul, Nat.reduceSub, Nat.reduceEqDiff, Nat.reduceLeDiff, Nat.reduceMod, Nat.reduceLT, Int.reduceToNat, Int.reduceAdd, Int.reduceSub, Int.reduceMul, Int.reduceNeg, Int.reduceLE, Int.reduceLT, Int.toNat_natCast, Int.cast_ofNat_Int, Int.reduceNe, Int.reduceEq, Int.reduceBEq, Int.reduceBNe, not_false_eq_true, ne_eq, Int.reduceTMod, Int.reduceTDiv, beq_self_eq_true, bne_self_eq_false, fcells, List.length]
          refine ⟨⟨k', ?_⟩, ?_, Ents.envH ?_ ?_⟩
          · omega
          · dsimp only; omega
          · simp [go_sem, hk']
          · simp [fcells, fcell, fb, h, hk']
    · obtain rfl : k = 9 := by omega
      simp (disch := first | omega | (simp only [List.length_cons, List.length_nil]; first | done | omega)) only [go_sem, Nat.reduceAdd, Nat.reduceMul, Nat.reduceSub, Nat.reduceEqDiff, Nat.reduceLeDiff, Nat.reduceMod, Nat.reduceLT, Int.reduceToNat, Int.reduceAdd, Int.reduceSub, Int.reduceMul, Int.reduceNeg, Int.reduceLE, Int.reduceLT, Int.toNat_natCast, Int.cast_ofNat_Int, Int.reduceNe, Int.reduceEq, Int.reduceBEq, Int.reduceBNe, not_false_eq_true, ne_eq, Int.reduceTMod, Int.reduceTDiv, beq_self_eq_true, bne_self_eq_false, fcells, fcell, List.length]
      simp [fmt]
end Go.Proofs.YtpcacgmconokdaaDoor
