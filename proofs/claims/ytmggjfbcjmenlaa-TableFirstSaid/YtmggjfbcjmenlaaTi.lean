/- Layer 15: table: what is in the set (no program in sight). -/
import Derived.Test.YtmggjfbcjmenlaaTh
import Derived.Test.YtmggjfbcjmenlaaMt
namespace Go.Proofs.Ytmggjfbcjmenlaa
open Go Go.Lx
set_option linter.unusedSimpArgs false
set_option linter.unusedVariables false
set_option maxRecDepth 100000
set_option maxHeartbeats 4000000

theorem hasC_bit {m : Int} {n : Nat} (h0 : 0 ≤ m) (h1 : m < 4294967296) (hn : n < 32) : hasC m n = m.toNat.testBit n := by
  have e1 : shr .u64 m n = ((m.toNat >>> n : Nat) : Int) := by
    have hmin : min (n : Int).toNat 64 = n := by rw [Int.toNat_natCast]; omega
    show m.fdiv (2 ^ min (n : Int).toNat 64) = _
    rw [hmin, Int.fdiv_eq_ediv_of_nonneg _ (Int.pow_nonneg (by omega)), Nat.shiftRight_eq_div_pow]
    have h2 : m = (m.toNat : Int) := by omega
    rw [h2, Int.toNat_natCast]
    simp
  have e2 : ∀ k : Nat, k < 4294967296 → (bitop .and .u64 (k : Int) 1 == 1) = k.testBit 0 := fun k hk => by
    have h3 : (BitVec.ofInt 64 (k : Int) &&& BitVec.ofInt 64 1).toNat = k % 2 := by
      rw [BitVec.toNat_and]
      have : (BitVec.ofInt 64 (k : Int)).toNat = k := by
        simp only [BitVec.toNat_ofInt]; omega
      rw [this]
      exact Nat.and_one_is_mod k
    show (IntKind.u64.wrap ((BitVec.ofInt 64 (k : Int) &&& BitVec.ofInt 64 1).toNat : Int) == 1) = _
    rw [h3, wrap_u64 (by omega) (by omega), Nat.testBit_zero]
    rcases Nat.mod_two_eq_zero_or_one k with h | h <;> rw [h] <;> rfl
  unfold hasC
  rw [e1, e2 _ (Nat.lt_of_le_of_lt (Nat.shiftRight_le _ _) (by omega)), Nat.testBit_shiftRight, Nat.add_zero]
  have h4 : decide ((0 : Int) ≤ (n : Int)) = true := by simp
  have h5 : decide ((n : Int) < 32) = true := decide_eq_true (by omega)
  rw [h4, h5]; simp
theorem Bits.or_c {q : Int} {s : Nat → Bool} (h : Bits q s) {c : Int} (h0 : 0 ≤ c) (h1 : c < 4294967296) : Bits (bitop .or .u64 q c) (fun j => s j || hasC c j) := by
  obtain ⟨q0, q1, q2⟩ := h
  rw [or_u64 q0 (by omega) h0 (by omega)]
  have hlt : q.toNat ||| c.toNat < 2 ^ 32 := Nat.or_lt_two_pow (by omega) (by omega)
  have hlt2 : q.toNat ||| c.toNat < 4294967296 := hlt
  refine ⟨by omega, by omega, fun j => ?_⟩
  rw [Int.toNat_natCast, Nat.testBit_or, q2]
  dsimp only
  by_cases hj : j < 32
  · rw [hasC_bit h0 h1 hj]; simp [hj]
  · have : c.toNat.testBit j = false := Nat.testBit_lt_two_pow (Nat.lt_of_lt_of_le (by omega : c.toNat < 2 ^ 32) (Nat.pow_le_pow_right (by omega) (by omega)))
    rw [this]; simp [hj]
/-- the union of the sets -/
def allQ (rs : List Rl) (k : Int) : Nat → Int
  | 0 => 0
  | i + 1 => if (rs.getD i rl0).l = k then bitop .or .u64 (allQ rs k i) (rs.getD i rl0).c else allQ rs k i
theorem getD_toRu {rs : List Rl} {i : Nat} (h : i < rs.length) : (rs.map toRu).getD i ru0 = toRu (rs.getD i rl0) := by
  simp [List.getD, h]
theorem allQ_bits {rs : List Rl} (hrs : okRls rs) (k : Int) : ∀ i, i ≤ rs.length → Bits (allQ rs k i) (full (rs.map toRu) k i)
  | 0, _ => Bits.zero.congr fun j _ => by simp [full, rowN]
  | i + 1, h => by
    have ih := allQ_bits hrs k i (by omega)
    have hlt : i < rs.length := by omega
    have hok := (hrs _ (getD_memA rl0 hlt)).2
    unfold allQ
    split
    · rename_i hl
      refine (ih.or_c hok.2.2.2.2.1 hok.2.2.2.2.2).congr fun j hj => ?_
      rw [full_succ]
      congr 1
      unfold sel
      rw [getD_toRu hlt]
      show _ = ((rs.getD i rl0).l == k && hasC (rs.getD i rl0).c j)
      simp only [hl, beq_self_eq_true, Bool.true_and]
    · rename_i hl
      refine ih.congr fun j hj => ?_
      rw [full_succ]
      have : sel (rs.map toRu) k i j = false := sel_ne (by rw [getD_toRu hlt]; exact hl) j
      rw [this, Bool.or_false]
theorem quick_eq {rs : List Rl} (hrs : okRls rs) {k : Int} (hk : k = 2 ∨ k = 3) : ixQ (rs.map toRu) k = allQ rs k rs.length := by
  rw [ixQ, if_pos hk]
  have h := qN_bits (rs.map toRu) k (rs.map toRu).length
  rw [List.length_map] at h
  rw [List.length_map]
  exact h.eq (allQ_bits hrs k rs.length (Nat.le_refl _))
theorem quick_none {rs : List Rl} (hrs : okRls rs) {k : Int} (hk : k = 2 ∨ k = 3) {n : Nat} (hn : n < 32) (h : hasC (allQ rs k rs.length) n = false) (bs : List Bool) (x : Cx) (hx : x.num = n) : firB rs k bs x = -1 := by
  obtain ⟨b0, b1, b2⟩ := allQ_bits hrs k rs.length (Nat.le_refl _)
  rw [hasC_bit b0 b1 hn, b2] at h
  have hf : full (rs.map toRu) k rs.length n = false := by simpa [hn] using h
  have hno : ∀ i, i ≤ rs.length → full (rs.map toRu) k i n = false → ∀ j, j < i → sel (rs.map toRu) k j n = false := by
    intro i
    induction i with
    | zero => intro _ _ j hj; omega
    | succ i ih =>
      intro h1 h2 j hj
      rw [full_succ, Bool.or_eq_false_iff] at h2
      rcases (by omega : j < i ∨ j = i) with h3 | rfl
      · exact ih (by omega) h2.1 j h3
      · exact h2.2
  refine firstI_none fun j hj => ?_
  have hs := hno rs.length (Nat.le_refl _) hf j hj
  unfold sel at hs
  rw [getD_toRu hj] at hs
  have hs : ((rs.getD j rl0).l == k && hasC (rs.getD j rl0).c n) = false := hs
  have hok := (hrs _ (getD_memA rl0 hj)).2
  unfold firP matB
  rw [hx]
  generalize rs.getD j rl0 = r at *
  by_cases hl : r.l = k
  · have hc : r.c ≠ 0 := hok.2.1 (by omega)
    have hh : hasC r.c n = false := by simpa [hl] using hs
    rw [hh]
    simp [hc]
  · have : (r.l == k) = false := by simpa using hl
    rw [this, Bool.false_and]
end Go.Proofs.Ytmggjfbcjmenlaa
