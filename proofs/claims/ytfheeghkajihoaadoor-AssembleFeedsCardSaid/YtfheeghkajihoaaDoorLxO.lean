/- Bits, shifts and wraps of numbers that are not negative. -/
import Derived.Test.YtfheeghkajihoaaDoorLxN
namespace Go.Lx
set_option linter.unusedSimpArgs false
set_option linter.unusedVariables false

theorem ofInt_toNat {a : Int} (h : 0 ≤ a) (h' : a < 9223372036854775808) : (BitVec.ofInt (IntKind.bits .i64) a).toNat = a.toNat := by
  show (BitVec.ofInt 64 a).toNat = a.toNat
  simp only [BitVec.toNat_ofInt]
  omega

theorem and_i64 {a b : Int} (ha : 0 ≤ a) (ha' : a < 9223372036854775808) (hb : 0 ≤ b) (hb' : b < 9223372036854775808) : bitop .and .i64 a b = ((a.toNat &&& b.toNat : Nat) : Int) := by
  simp only [bitop, BitVec.toNat_and]
  rw [ofInt_toNat ha ha', ofInt_toNat hb hb']
  have h1 : a.toNat &&& b.toNat ≤ a.toNat := Nat.and_le_left
  exact wrap_i64 (by omega) (by omega)

theorem or_i64 {a b : Int} (ha : 0 ≤ a) (ha' : a < 9223372036854775808) (hb : 0 ≤ b) (hb' : b < 9223372036854775808) : bitop .or .i64 a b = ((a.toNat ||| b.toNat : Nat) : Int) := by
  simp only [bitop, BitVec.toNat_or]
  rw [ofInt_toNat ha ha', ofInt_toNat hb hb']
  have h1 : a.toNat ||| b.toNat < 2 ^ 63 := Nat.or_lt_two_pow (by omega) (by omega)
  exact wrap_i64 (by omega) (by omega)

/-- a mask keeps what it has -/
theorem and_mask {a b : Int} (hb : 0 ≤ b) (hb' : b < 9223372036854775808) : 0 ≤ bitop .and .i64 a b ∧ bitop .and .i64 a b ≤ b := by
  simp only [bitop, BitVec.toNat_and]
  rw [ofInt_toNat hb hb']
  have h1 : (BitVec.ofInt (IntKind.bits .i64) a).toNat &&& b.toNat ≤ b.toNat := Nat.and_le_right
  rw [wrap_i64 (by omega) (by omega)]
  omega

theorem and_nat {a b : Int} (hb : 0 ≤ b) (hb' : b < 9223372036854775808) : ∃ x : Nat, bitop .and .i64 a b = ((x &&& b.toNat : Nat) : Int) := by
  refine ⟨(BitVec.ofInt (IntKind.bits .i64) a).toNat, ?_⟩
  simp only [bitop, BitVec.toNat_and]
  rw [ofInt_toNat hb hb']
  have h1 : (BitVec.ofInt (IntKind.bits .i64) a).toNat &&& b.toNat ≤ b.toNat := Nat.and_le_right
  exact wrap_i64 (by omega) (by omega)

theorem shr_i64 {a b : Int} (hb : 0 ≤ b) (hb' : b ≤ 64) : shr .i64 a b = a / (2 ^ b.toNat : Int) := by
  simp only [shr, IntKind.bits]
  rw [Nat.min_eq_left (by omega), Int.fdiv_eq_ediv_of_nonneg _ (by exact Int.le_of_lt (Int.pow_pos (by omega)))]

theorem shr_nat {a : Nat} {b : Int} (hb : 0 ≤ b) (hb' : b ≤ 64) : shr .i64 (a : Int) b = ((a >>> b.toNat : Nat) : Int) := by
  rw [shr_i64 hb hb', Nat.shiftRight_eq_div_pow]
  simp

theorem shl_i64 {a b : Int} (hb : 0 ≤ b) (hb' : b ≤ 64) : shl .i64 a b = IntKind.wrap .i64 (a * 2 ^ b.toNat) := by
  simp only [shl, IntKind.bits]
  rw [Nat.min_eq_left (by omega)]

theorem getD_int {k : IntKind} {l : List Int} {i : Nat} (h : i < l.length) : List.getD (l.map (LV.int k)) i LV.any = .int k (l.getD i 0) := by
  simp [List.getD, h]
theorem getD_mem {l : List Int} {i : Nat} (h : i < l.length) : l.getD i 0 ∈ l := by
  simp [List.getD, h]
end Go.Lx
