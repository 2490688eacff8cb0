/- Layer 16: the diagram with the answers of a context decides as the ordered list (plain). -/
import Derived.Test.YtcngkeeknlloaaaGa
import Derived.Test.YtcngkeeknlloaaaFg
import Derived.Test.YtcngkeeknlloaaaDs
import Derived.Test.YtcngkeeknlloaaaMkE
namespace Go.Proofs.Ytcngkeeknlloaaa
open Go Go.Lx
set_option linter.unusedSimpArgs false
set_option linter.unusedVariables false
set_option maxRecDepth 100000
set_option maxHeartbeats 4000000

/-- the number whose bits are some answers -/
def numK : List Bool → Nat
  | [] => 0
  | b :: r => 2 * numK r + if b = true then 1 else 0
theorem numK_bit : ∀ (l : List Bool) (t : Nat), (numK l).testBit t = l.getD t false
  | [], t => by simp [numK]
  | b :: r, 0 => by cases b <;> simp [numK, Nat.testBit_zero] <;> omega
  | b :: r, t + 1 => by
    have := numK_bit r t
    rw [Nat.testBit_succ]
    have h : numK (b :: r) / 2 = numK r := by cases b <;> simp [numK] <;> omega
    rw [h, this]
    simp [List.getD]
theorem numK_lt : ∀ l : List Bool, numK l < 2 ^ l.length
  | [] => by simp [numK]
  | b :: r => by
    have := numK_lt r
    rw [List.length_cons, Nat.pow_succ, numK]
    split <;> omega
theorem idxA_at {tb : List At} {a : At} (h : 0 ≤ idxA tb a) : tb.getD (idxA tb a).toNat at0 = a ∧ (idxA tb a).toNat < tb.length := by
  revert h
  unfold idxA
  split
  · rename_i i h
    intro _
    obtain ⟨h1, h2, _⟩ := List.findIdx?_eq_some_iff_getElem.1 h
    simp only [beq_iff_eq] at h2
    rw [Int.toNat_natCast]
    exact ⟨by simpa [List.getD, h1] using h2, h1⟩
  · intro h; omega
/-- rules that watch the same were hit alike -/
def EqH (rs : List Rl) (hits : List Bool) (n : Nat) : Prop := ∀ i j, i < n → j < n → (rs.getD i rl0).w = (rs.getD j rl0).w → (rs.getD i rl0).p = (rs.getD j rl0).p → (rs.getD i rl0).m = (rs.getD j rl0).m → hits.getD i false = hits.getD j false
theorem hitA_iff {rs : List Rl} {hits : List Bool} (hh : hits.length = rs.length) (he : EqH rs hits rs.length) {i : Nat} (hi : i < rs.length) : hitA ⟨te0, (rs.getD i rl0).w, (rs.getD i rl0).p, (rs.getD i rl0).m⟩ hits rs rs.length = hits.getD i false := by
  rw [Bool.eq_iff_iff, hitA, List.any_eq_true]
  constructor
  · rintro ⟨k, hk, h⟩
    have hk := List.mem_range.1 hk
    simp only [hitB, Bool.and_eq_true, decide_eq_true_eq, beq_iff_eq] at h
    obtain ⟨h1, h2, h3, h4, h5⟩ := h
    rw [he i k hi hk h3.symm h4.symm h5.symm]
    exact h2
  · intro h
    exact ⟨i, List.mem_range.2 hi, by rw [hitB, h]; simp [hh, hi]⟩
theorem all_own {rs : List Rl} {wh : List Int} {tb : List At} {hits : List Bool} {x : Cx} (hw : WhOk rs wh tb) (hh : hits.length = rs.length) (he : EqH rs hits rs.length) {i : Nat} (hi : i < rs.length) (hm : (i : Int) ∈ wh) :
    ((ownA (rs.getD i rl0)).all fun a => (numK (tb.map (ansA rs hits x))).testBit (idxA tb a).toNat) = ((rs.getD i rl0).ts.all (fun t => evT t x) && ((rs.getD i rl0).w == 0 || hits.getD i false)) := by
  have h1 : ∀ a ∈ ownA (rs.getD i rl0), (numK (tb.map (ansA rs hits x))).testBit (idxA tb a).toNat = ansA rs hits x a := fun a ha => by
    have h2 := hw.own _ hm a (by rw [Int.toNat_natCast]; exact ha)
    obtain ⟨h3, h4⟩ := idxA_at h2
    rw [numK_bit]
    conv => rhs; rw [← h3]
    simp [List.getD, h4]
  rw [Bool.eq_iff_iff, List.all_eq_true]
  have h9 := hitA_iff hh he hi
  generalize hr : rs.getD i rl0 = r at *
  constructor
  · intro h
    rw [Bool.and_eq_true, List.all_eq_true]
    refine ⟨fun t ht => ?_, ?_⟩
    · have hm : tAt t ∈ ownA r := List.mem_append_left _ (List.mem_map.2 ⟨t, ht, rfl⟩)
      have h5 := h _ hm
      rw [h1 _ hm, ansA, if_pos (by rfl)] at h5
      exact h5
    · by_cases hw0 : r.w = 0
      · simp [hw0]
      · have hm : (⟨te0, r.w, r.p, r.m⟩ : At) ∈ ownA r := by
          rw [ownA, if_neg hw0]
          exact List.mem_append_right _ (by simp)
        have h5 := h _ hm
        rw [h1 _ hm, ansA, if_neg hw0, h9] at h5
        rw [h5, Bool.or_true]
  · rw [Bool.and_eq_true, List.all_eq_true]
    rintro ⟨h5, h6⟩ a ha
    rw [h1 a ha]
    rcases List.mem_append.1 ha with ha | ha
    · obtain ⟨t, ht, rfl⟩ := List.mem_map.1 ha
      rw [ansA, if_pos (by rfl)]
      exact h5 t ht
    · by_cases hw0 : r.w = 0
      · rw [if_pos hw0] at ha
        simp at ha
      · rw [if_neg hw0, List.mem_singleton] at ha
        subst ha
        rw [ansA, if_neg hw0, h9]
        simpa [hw0] using h6
theorem find_congr {α : Type} {p q : α → Bool} : ∀ (l : List α), (∀ a ∈ l, p a = q a) → l.find? p = l.find? q
  | [], _ => rfl
  | a :: r, h => by
    rw [List.find?_cons, List.find?_cons, h a (by simp), find_congr r fun b hb => h b (List.mem_cons_of_mem _ hb)]
theorem find_rowX (rs : List Rl) (n : Nat) (p : Int → Bool) (q : Nat → Bool) (hq : ∀ i, i < rs.length → q i = (selX rs n i && p i)) : (match (rowX rs n rs.length).find? p with | some i => i | none => -1) = firstI rs.length q := by
  have h1 : (rowX rs n rs.length).find? p = ((List.range rs.length).find? q).map Int.ofNat := by
    rw [rowX, List.find?_map, List.find?_filter]
    congr 1
    refine find_congr _ fun i hi => ?_
    rw [hq i (List.mem_range.1 hi)]
    simp
  rw [h1, firstI]
  cases (List.range rs.length).find? q <;> rfl
/-- the law -/
theorem rules_law {rs : List Rl} (hrs : okRls rs) {n : Nat} (hn : n < 32) {x : Cx} (hx : x.num = n) {hits : List Bool} (hh : hits.length = rs.length) (he : EqH rs hits rs.length) {tb : List At} (hw : WhOk rs (rowX rs n rs.length) tb) (ns : List Br) (r : Int) (hR : bld (chS rs (rowX rs n rs.length) tb) tb.length 0 0 [] = (r, ns)) :
    decS ⟨tb, ns, r⟩ (tb.map (ansA rs hits x)) = firB rs 3 hits x := by
  obtain ⟨f1, f2, f3, f4, f5, f6, f7, f8, f9, f10⟩ := built hw ns r hR
  have hK := numK_lt (tb.map (ansA rs hits x))
  rw [List.length_map] at hK
  have hwk := walk_rep (lf := chS rs (rowX rs n rs.length) tb) (fun m => (chS_bd hw m).2) f2 (numK (tb.map (ansA rs hits x))) (tb.map (ansA rs hits x)) (fun t ht => by rw [numK_bit]) tb.length 0 ns.length r (by simpa [Nat.mod_one] using f9) (by simp) f3
  rw [decS, if_pos (valid_built hw ns r hR)]
  dsimp only
  rw [hwk, Nat.zero_add, Nat.mod_eq_of_lt hK, firB]
  have hf := find_rowX rs n (fun i => (ownA (rs.getD i.toNat rl0)).all fun a => (numK (tb.map (ansA rs hits x))).testBit (idxA tb a).toNat) (firP rs 3 hits x) fun i hi => by
    have hsel : selX rs n i = ((rs.getD i rl0).l == 3 && hasC (rs.getD i rl0).c n) := rfl
    have hok := (hrs _ (getD_memA rl0 hi)).2
    have hhm : hitM hits i = hits.getD i false := by simp [hitM, hh, hi]
    rw [Int.toNat_natCast]
    by_cases hs : selX rs n i = true
    · have hm : (i : Int) ∈ rowX rs n rs.length := List.mem_map.2 ⟨i, List.mem_filter.2 ⟨List.mem_range.2 hi, hs⟩, rfl⟩
      rw [all_own hw hh he hi hm, hs, Bool.true_and, firP, hhm, matB, hx]
      rw [hsel, Bool.and_eq_true] at hs
      rw [hs.1, hs.2, Bool.true_and]
      generalize rs.getD i rl0 = q at *
      generalize hits.getD i false = b at *
      cases b <;> cases hw0 : (q.w == 0) <;> simp [bne, hw0, Bool.and_comm]
    · have hs2 : selX rs n i = false := by simpa using hs
      rw [hs2, Bool.false_and, firP, matB, hx]
      rw [hsel] at hs2
      rw [sndR] at hok
      generalize rs.getD i rl0 = q at *
      cases hl : (q.l == 3) with
      | false => rfl
      | true =>
        rw [hl, Bool.true_and] at hs2
        have hc : q.c ≠ 0 := hok.2.1 (.inr (by simpa using hl))
        simp [hs2, hc]
  rw [← hf, chS, ruleOf]
  cases hfi : (rowX rs n rs.length).find? fun i => (ownA (rs.getD i.toNat rl0)).all fun a => (numK (tb.map (ansA rs hits x))).testBit (idxA tb a).toNat with
  | none => simp
  | some i =>
    have := hw.ix i (List.mem_of_find?_eq_some hfi)
    dsimp only
    rw [if_neg (by omega)]
    omega
end Go.Proofs.Ytcngkeeknlloaaa
