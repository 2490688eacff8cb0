/- Layer 23: digest: texts of digests. -/
import Derived.Test.YtaffhdelflhlfaaSm
namespace Go.Proofs.Ytaffhdelflhlfaa
open Go Go.Lx
set_option linter.unusedSimpArgs false
set_option linter.unusedVariables false
set_option maxRecDepth 100000
set_option maxHeartbeats 1000000

def HEX : List UInt8 := [48, 49, 50, 51, 52, 53, 54, 55, 56, 57, 97, 98, 99, 100, 101, 102]
def hx (n : Int) : UInt8 := HEX.getD n.toNat 0
def dgt (c : Int) : Int := if 48 ≤ c ∧ c ≤ 57 then c - 48 else if 97 ≤ c ∧ c ≤ 102 then c - 87 else -1
def st4 (d c : Int) : Int := bitop .or .u64 (shl .u64 d 4) c
/-- reading digits -/
def pr (d : Int) : List UInt8 → Int × Int
  | [] => (d, 0)
  | c :: l => if dgt c.toNat < 0 then (0, 230) else pr (st4 d (dgt c.toNat)) l
def val (d : Int) : List UInt8 → Int
  | [] => d
  | c :: l => val (d * 16 + dgt c.toNat) l
theorem dgt_lt (c : Int) : dgt c < 16 := by unfold dgt; split <;> (try split) <;> omega
theorem dgt_hx (n : Int) (h : 0 ≤ n) (h' : n < 16) : dgt (hx n).toNat = n := by
  have h1 : ∀ k : Fin 16, dgt ((hx (k.val : Int)).toNat : Int) = k.val := by decide
  have := h1 ⟨n.toNat, by omega⟩
  simp only at this
  rwa [Int.toNat_of_nonneg h] at this
theorem hx_dgt (c : UInt8) (h : 0 ≤ dgt c.toNat) : hx (dgt c.toNat) = c := by
  have h1 : ∀ k : Fin 256, 0 ≤ dgt ((UInt8.ofNat k.val).toNat : Int) → hx (dgt ((UInt8.ofNat k.val).toNat : Int)) = UInt8.ofNat k.val := by decide
  have h2 := h1 ⟨c.toNat, c.toNat_lt⟩
  simp only [UInt8.ofNat_toNat] at h2
  exact h2 h
theorem st4_eq (d c : Int) (h : 0 ≤ d) (h' : d < 1152921504606846976) (hc : 0 ≤ c) (hc' : c < 16) : st4 d c = d * 16 + c :=
  or_shl (k := 4) h (by omega) (by omega) hc (by omega)
/-- reading digits is the value, where all are digits and there is room -/
theorem pr_val : ∀ (l : List UInt8) (d : Int), 0 ≤ d → (d + 1) * 16 ^ l.length ≤ 18446744073709551616 → (∀ c ∈ l, 0 ≤ dgt c.toNat) → pr d l = (val d l, 0)
  | [], _, _, _, _ => rfl
  | c :: l, d, h, hr, hd => by
    have h0 := hd c (by simp)
    have h1 := dgt_lt c.toNat
    have e : (d + 1) * 16 ^ (c :: l).length = (d * 16 + 16) * 16 ^ l.length := by
      rw [List.length_cons, Int.pow_succ, Int.mul_comm (16 ^ l.length) 16, ← Int.mul_assoc]
      congr 1
      omega
    rw [e] at hr
    have hp : (1 : Int) ≤ 16 ^ l.length := Int.pow_pos (by omega)
    have hd60 : d * 16 + 16 ≤ 18446744073709551616 := by
      have : (d * 16 + 16) * 1 ≤ (d * 16 + 16) * 16 ^ l.length := Int.mul_le_mul_of_nonneg_left hp (by omega)
      omega
    simp only [pr, val]
    rw [if_neg (by omega), st4_eq d _ h (by omega) h0 h1]
    refine pr_val l _ (by omega) ?_ (fun c hc => hd c (by simp [hc]))
    exact Int.le_trans (Int.mul_le_mul_of_nonneg_right (by omega) (by omega)) hr
theorem pr_digits : ∀ (l : List UInt8) (d : Int), (pr d l).2 = 0 → ∀ c ∈ l, 0 ≤ dgt c.toNat
  | [], _, _, _, hc => by simp at hc
  | x :: l, d, h, c, hc => by
    simp only [pr] at h
    split at h
    · simp at h
    · rcases List.mem_cons.1 hc with rfl | hc
      · omega
      · exact pr_digits l _ h c hc
def fm (d : Int) : List UInt8 := [hx (d / 1152921504606846976 % 16), hx (d / 72057594037927936 % 16), hx (d / 4503599627370496 % 16), hx (d / 281474976710656 % 16), hx (d / 17592186044416 % 16), hx (d / 1099511627776 % 16), hx (d / 68719476736 % 16), hx (d / 4294967296 % 16), hx (d / 268435456 % 16), hx (d / 16777216 % 16), hx (d / 1048576 % 16), hx (d / 65536 % 16), hx (d / 4096 % 16), hx (d / 256 % 16), hx (d / 16 % 16), hx (d / 1 % 16)]
def fmN : Nat → Int → List UInt8
  | 0, _ => []
  | n + 1, d => fmN n (d / 16) ++ [hx (d % 16)]
theorem fmN_length : ∀ (n : Nat) (d : Int), (fmN n d).length = n
  | 0, _ => rfl
  | n + 1, d => by simp [fmN, fmN_length n]
theorem fmN_digits : ∀ (n : Nat) (d : Int), ∀ c ∈ fmN n d, 0 ≤ dgt c.toNat
  | 0, _, c, h => by simp [fmN] at h
  | n + 1, d, c, h => by
    simp only [fmN, List.mem_append, List.mem_singleton] at h
    rcases h with h | rfl
    · exact fmN_digits n _ c h
    · rw [dgt_hx _ (by omega) (by omega)]; omega
theorem val_append : ∀ (l : List UInt8) (d : Int) (c : UInt8), val d (l ++ [c]) = val d l * 16 + dgt c.toNat
  | [], _, _ => rfl
  | x :: l, d, c => by simp only [List.cons_append, val]; exact val_append l _ c
theorem val_fmN : ∀ (n : Nat) (d : Int), 0 ≤ d → d < 16 ^ n → val 0 (fmN n d) = d
  | 0, d, h, h' => by simp only [fmN, val]; simp at h'; omega
  | n + 1, d, h, h' => by
    have h2 : d / 16 < 16 ^ n := by
      rw [Int.pow_succ] at h'
      exact Int.ediv_lt_of_lt_mul (by omega) h'
    rw [fmN, val_append, val_fmN n (d / 16) (by omega) h2, dgt_hx _ (by omega) (by omega)]
    omega
theorem fmN_val : ∀ (n : Nat) (l : List UInt8), l.length = n → (∀ c ∈ l, 0 ≤ dgt c.toNat) → fmN n (val 0 l) = l
  | 0, l, hl, _ => by rw [List.length_eq_zero_iff.1 hl]; rfl
  | n + 1, l, hl, hd => by
    have hne : l ≠ [] := by intro e; simp [e] at hl
    have e := (List.dropLast_concat_getLast hne).symm
    generalize l.getLast hne = c at e
    generalize l.dropLast = k at e
    subst e
    have h1 := hd c (by simp)
    have h2 := dgt_lt c.toNat
    rw [val_append, fmN, show (val 0 k * 16 + dgt c.toNat) / 16 = val 0 k by omega, show (val 0 k * 16 + dgt c.toNat) % 16 = dgt c.toNat by omega, hx_dgt c h1, fmN_val n k (by simpa using hl) (fun c hc => hd c (by simp [hc]))]
theorem fm_fmN (d : Int) : fm d = fmN 16 d := by
  simp only [fmN, List.nil_append, List.cons_append]
  rw [show d / 16 / 16 = d / 256 by omega]
  rw [show d / 256 / 16 = d / 4096 by omega]
  rw [show d / 4096 / 16 = d / 65536 by omega]
  rw [show d / 65536 / 16 = d / 1048576 by omega]
  rw [show d / 1048576 / 16 = d / 16777216 by omega]
  rw [show d / 16777216 / 16 = d / 268435456 by omega]
  rw [show d / 268435456 / 16 = d / 4294967296 by omega]
  rw [show d / 4294967296 / 16 = d / 68719476736 by omega]
  rw [show d / 68719476736 / 16 = d / 1099511627776 by omega]
  rw [show d / 1099511627776 / 16 = d / 17592186044416 by omega]
  rw [show d / 17592186044416 / 16 = d / 281474976710656 by omega]
  rw [show d / 281474976710656 / 16 = d / 4503599627370496 by omega]
  rw [show d / 4503599627370496 / 16 = d / 72057594037927936 by omega]
  rw [show d / 72057594037927936 / 16 = d / 1152921504606846976 by omega]
  simp only [fm, Int.ediv_one]
theorem pr_fm (d : Int) (h : 0 ≤ d) (h' : d ≤ 18446744073709551615) : pr 0 (fm d) = (d, 0) := by
  rw [fm_fmN, pr_val _ 0 (by omega) (by rw [fmN_length]; decide) (fmN_digits 16 d), val_fmN 16 d h (by omega)]
theorem fm_pr (s : List UInt8) (hl : s.length = 16) (h : (pr 0 s).2 = 0) : fm (pr 0 s).1 = s := by
  have hd := pr_digits s 0 h
  rw [pr_val s 0 (by omega) (by rw [hl]; decide) hd, fm_fmN, fmN_val 16 s hl hd]

def PR (s : List UInt8) : Int × Int := if s.length = 16 then pr 0 s else (0, 230)
end Go.Proofs.Ytaffhdelflhlfaa
