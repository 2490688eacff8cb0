/- Layer 15: table: Build and its reference. -/
import Derived.Test.YtmggjfbcjmenlaaTc
namespace Go.Proofs.Ytmggjfbcjmenlaa
open Go Go.Lx
set_option linter.unusedSimpArgs false
set_option linter.unusedVariables false
set_option maxRecDepth 100000
set_option maxHeartbeats 1000000

/-! ### the set as bits -/
def Bits (q : Int) (s : Nat → Bool) : Prop := 0 ≤ q ∧ q < 4294967296 ∧ ∀ j, q.toNat.testBit j = (decide (j < 32) && s j)
theorem Bits.eq {q q' : Int} {s : Nat → Bool} (h : Bits q s) (h' : Bits q' s) : q = q' := by
  have : q.toNat = q'.toNat := Nat.eq_of_testBit_eq fun j => by rw [h.2.2, h'.2.2]
  have := h.1; have := h'.1
  omega
theorem Bits.zero : Bits 0 fun _ => false := ⟨by omega, by omega, fun j => by simp⟩
theorem Bits.congr {q : Int} {s s' : Nat → Bool} (h : Bits q s) (hs : ∀ j, j < 32 → s j = s' j) : Bits q s' := ⟨h.1, h.2.1, fun j => by
  rw [h.2.2]
  by_cases hj : j < 32
  · rw [hs j hj]
  · simp [hj]⟩
theorem Bits.or {q : Int} {s : Nat → Bool} (h : Bits q s) {n : Nat} (hn : n < 32) : Bits (bitop .or .u64 q (shl .u64 1 n)) (fun j => s j || j == n) := by
  obtain ⟨h1, h2, h3⟩ := h
  have hp : (2 : Int) ^ n < 4294967296 := by
    have h4 : (2 : Nat) ^ n < 4294967296 := Nat.lt_of_lt_of_le (Nat.pow_lt_pow_right (by omega) hn) (by decide)
    have h5 : ((2 : Int) ^ n) = ((2 ^ n : Nat) : Int) := by simp
    omega
  have h0 : (0 : Int) < 2 ^ n := Int.pow_pos (by omega)
  rw [shl_u64 (a := 1) (k := n) (by omega) (by omega) (by omega), Int.one_mul, or_u64 h1 (by omega) (by omega) (by omega)]
  have e : ((2 : Int) ^ n).toNat = 2 ^ n := by
    have : ((2 : Int) ^ n) = ((2 ^ n : Nat) : Int) := by simp
    rw [this, Int.toNat_natCast]
  rw [e]
  have hlt : q.toNat ||| 2 ^ n < 2 ^ 32 := Nat.or_lt_two_pow (by omega) (Nat.pow_lt_pow_right (by omega) hn)
  have hlt2 : q.toNat ||| 2 ^ n < 4294967296 := hlt
  clear hlt
  refine ⟨by omega, by omega, fun j => ?_⟩
  rw [Int.toNat_natCast, Nat.testBit_or, h3, Nat.testBit_two_pow]
  by_cases hj : j < 32
  · by_cases hjn : n = j
    · subst hjn; simp [hj]
    · simp [hj, hjn]; intro e; exact absurd e.symm hjn
  · have : ¬ n = j := by omega
    simp [hj, this]
def full (rs : List Ru) (k : Int) (i j : Nat) : Bool := !(rowN rs k i j).isEmpty
theorem full_succ (rs : List Ru) (k : Int) (i j : Nat) : full rs k (i + 1) j = (full rs k i j || sel rs k i j) := by
  simp only [full, rowN]
  cases h : sel rs k i j <;> simp [h]
theorem qI_bits (rs : List Ru) (k : Int) (i : Nat) {q : Int} (hq : Bits q (full rs k i)) : ∀ n, n ≤ 32 → Bits (qI rs k i q n) (fun j => full rs k i j || (decide (j < n) && sel rs k i j))
  | 0, _ => hq.congr fun j _ => by simp
  | n + 1, h => by
    have ih := qI_bits rs k i hq n (by omega)
    simp only [qI]
    cases hs : sel rs k i n with
    | true =>
      refine (ih.or (by omega)).congr fun j _ => ?_
      by_cases hj : j = n
      · subst hj; simp [hs]
      · have e1 : (j < n + 1) = (j < n) := by simp; omega
        simp only [e1]
        simp [hj]
    | false =>
      refine ih.congr fun j _ => ?_
      by_cases hj : j = n
      · subst hj; simp [hs]
      · have e1 : (j < n + 1) = (j < n) := by simp; omega
        simp only [e1]
theorem qN_bits (rs : List Ru) (k : Int) : ∀ i, Bits (qN rs k i) (full rs k i)
  | 0 => Bits.zero.congr fun j _ => by simp [full, rowN]
  | i + 1 => (qI_bits rs k i (qN_bits rs k i) 32 (Nat.le_refl _)).congr fun j hj => by simp [full_succ, hj]
/-- the set, call by call -/
def qR (rs : List Ru) (k : Int) : Nat → Int
  | 0 => 0
  | n + 1 => if full rs k rs.length n then bitop .or .u64 (qR rs k n) (shl .u64 1 n) else qR rs k n
theorem qR_bits (rs : List Ru) (k : Int) : ∀ n, n ≤ 32 → Bits (qR rs k n) (fun j => decide (j < n) && full rs k rs.length j)
  | 0, _ => Bits.zero.congr fun j _ => by simp
  | n + 1, h => by
    have ih := qR_bits rs k n (by omega)
    simp only [qR]
    cases hs : full rs k rs.length n with
    | true =>
      refine (ih.or (by omega)).congr fun j _ => ?_
      by_cases hj : j = n
      · subst hj; simp [hs]
      · have e1 : (j < n + 1) = (j < n) := by simp; omega
        simp only [e1]
        simp [hj]
    | false =>
      refine ih.congr fun j _ => ?_
      by_cases hj : j = n
      · subst hj; simp [hs]
      · have e1 : (j < n + 1) = (j < n) := by simp; omega
        simp only [e1]
theorem qR_eq (rs : List Ru) (k : Int) : qR rs k 32 = qN rs k rs.length :=
  (qR_bits rs k 32 (Nat.le_refl _)).eq ((qN_bits rs k rs.length).congr fun j hj => by simp [hj])

/-- the row of a list without calls, of the first i rules -/
def rowL (rs : List Ru) (k : Int) : Nat → List Int
  | 0 => []
  | i + 1 => rowL rs k i ++ (if (rs.getD i ru0).l == k then [(i : Int)] else [])
theorem rowL_len (rs : List Ru) (k : Int) : ∀ i, (rowL rs k i).length ≤ i
  | 0 => by simp [rowL]
  | i + 1 => by
    have := rowL_len rs k i
    simp only [rowL, List.length_append]
    split <;> simp <;> omega
def ixQ (rs : List Ru) (k : Int) : Int := if k = 2 ∨ k = 3 then qN rs k rs.length else 0
def ixR (rs : List Ru) (k : Int) : List (List Int) := if k = 2 ∨ k = 3 then rowsN rs k else if k = 1 ∨ k = 4 ∨ k = 5 then [rowL rs k rs.length] else []
theorem build (rs : List Ru) (k : Int) (hl : rs.length ≤ 1000000) : Pure Try.prog gl 11 [Rus rs, .int .i64 k] (Ix (ixQ rs k) (ixR rs k)) := by
  refine fn_viewT Try.func11 t11 Try.ntmps11 (by simp) ?_
  have h8 : ∀ r, (RuC r).length = 8 := fun r => rfl
  have hlen : (rs.flatMap RuC).length = rs.length * 8 := length_rows h8 rs
  have hk : k = 2 ∨ k = 3 ∨ k = 1 ∨ k = 4 ∨ k = 5 ∨ (¬ k = 2 ∧ ¬ k = 3 ∧ ¬ k = 1 ∧ ¬ k = 4 ∧ ¬ k = 5) := by omega
  rcases hk with rfl | rfl | rfl | rfl | rfl | hk
  · have e1 : ixQ rs 2 = qN rs 2 rs.length := by simp [ixQ]
    have e2 : ixR rs 2 = rowsN rs 2 := by simp [ixR]
    have hc := bycall rs 2 hl
    rw [e1, e2]
    unfold c11 r11 Rus at *
    repeat' (first | (simp (disch := first | omega | (simp only [List.length_cons, List.length_nil]; first | done | omega)) only [go_sem, Nat.reduceAdd, Nat.reduceMul, Nat.reduceSub, Nat.reduceEqDiff, Nat.reduceLeDiff, Nat.reduceMod, Nat.reduceLT, Int.reduceToNat, Int.reduceAdd, Int.reduceSub, Int.reduceMul, Int.reduceNeg, Int.reduceLE, Int.reduceLT, Int.toNat_natCast, Int.cast_ofNat_Int, Int.reduceNe, Int.reduceEq, Int.reduceBEq, Int.reduceBNe, not_false_eq_true, ne_eq, Int.reduceTMod, Int.reduceTDiv, beq_self_eq_true, bne_self_eq_false, List.contains_cons, List.contains_nil, Nat.reduceBEq]) | (refine allI (fun b => ?_)) | (refine allT (fun τ => ?_)) | (refine brP (fun h => ?_) (fun h => ?_) <;> (try simp only [Bool.and_eq_true, Bool.and_eq_false_iff, Bool.or_eq_true, Bool.or_eq_false_iff, Bool.not_eq_true', Bool.not_eq_false', decide_eq_true_eq, decide_eq_false_iff_not, beq_iff_eq, beq_eq_false_iff_ne, ne_eq, bne_iff_ne, Int.not_lt, Int.not_le] at h)))
    first | refine call_U (hc) ?_ | refine call_T (hc) ?_ | refine call_N (hc) ?_ | refine call_of (hc) ?_
    unfold Ix
    simp (disch := first | omega | (simp only [List.length_cons, List.length_nil]; first | done | omega)) only [go_sem, Nat.reduceAdd, Nat.reduceMul, Nat.reduceSub, Nat.reduceEqDiff, Nat.reduceLeDiff, Nat.reduceMod, Nat.reduceLT, Int.reduceToNat, Int.reduceAdd, Int.reduceSub, Int.reduceMul, Int.reduceNeg, Int.reduceLE, Int.reduceLT, Int.toNat_natCast, Int.cast_ofNat_Int, Int.reduceNe, Int.reduceEq, Int.reduceBEq, Int.reduceBNe, not_false_eq_true, ne_eq, Int.reduceTMod, Int.reduceTDiv, beq_self_eq_true, bne_self_eq_false, List.contains_cons, List.contains_nil, Nat.reduceBEq]
    exact view_sub (leV.refl _) (List.nil_sublist _)
  · have e1 : ixQ rs 3 = qN rs 3 rs.length := by simp [ixQ]
    have e2 : ixR rs 3 = rowsN rs 3 := by simp [ixR]
    have hc := bycall rs 3 hl
    rw [e1, e2]
    unfold c11 r11 Rus at *
    repeat' (first | (simp (disch := first | omega | (simp only [List.length_cons, List.length_nil]; first | done | omega)) only [go_sem, Nat.reduceAdd, Nat.reduceMul, Nat.reduceSub, Nat.reduceEqDiff, Nat.reduceLeDiff, Nat.reduceMod, Nat.reduceLT, Int.reduceToNat, Int.reduceAdd, Int.reduceSub, Int.reduceMul, Int.reduceNeg, Int.reduceLE, Int.reduceLT, Int.toNat_natCast, Int.cast_ofNat_Int, Int.reduceNe, Int.reduceEq, Int.reduceBEq, Int.reduceBNe, not_false_eq_true, ne_eq, Int.reduceTMod, Int.reduceTDiv, beq_self_eq_true, bne_self_eq_false, List.contains_cons, List.contains_nil, Nat.reduceBEq]) | (refine allI (fun b => ?_)) | (refine allT (fun τ => ?_)) | (refine brP (fun h => ?_) (fun h => ?_) <;> (try simp only [Bool.and_eq_true, Bool.and_eq_false_iff, Bool.or_eq_true, Bool.or_eq_false_iff, Bool.not_eq_true', Bool.not_eq_false', decide_eq_true_eq, decide_eq_false_iff_not, beq_iff_eq, beq_eq_false_iff_ne, ne_eq, bne_iff_ne, Int.not_lt, Int.not_le] at h)))
    first | refine call_U (hc) ?_ | refine call_T (hc) ?_ | refine call_N (hc) ?_ | refine call_of (hc) ?_
    unfold Ix
    simp (disch := first | omega | (simp only [List.length_cons, List.length_nil]; first | done | omega)) only [go_sem, Nat.reduceAdd, Nat.reduceMul, Nat.reduceSub, Nat.reduceEqDiff, Nat.reduceLeDiff, Nat.reduceMod, Nat.reduceLT, Int.reduceToNat, Int.reduceAdd, Int.reduceSub, Int.reduceMul, Int.reduceNeg, Int.reduceLE, Int.reduceLT, Int.toNat_natCast, Int.cast_ofNat_Int, Int.reduceNe, Int.reduceEq, Int.reduceBEq, Int.reduceBNe, not_false_eq_true, ne_eq, Int.reduceTMod, Int.reduceTDiv, beq_self_eq_true, bne_self_eq_false, List.contains_cons, List.contains_nil, Nat.reduceBEq]
    exact view_sub (leV.refl _) (List.nil_sublist _)
  · have e1 : ixQ rs 1 = 0 := by simp [ixQ]
    have e2 : ixR rs 1 = [rowL rs 1 rs.length] := by simp [ixR]
    rw [e1, e2]
    unfold c11 r11 Rus
    simp (disch := first | omega | (simp only [List.length_cons, List.length_nil]; first | done | omega)) only [go_sem, Nat.reduceAdd, Nat.reduceMul, Nat.reduceSub, Nat.reduceEqDiff, Nat.reduceLeDiff, Nat.reduceMod, Nat.reduceLT, Int.reduceToNat, Int.reduceAdd, Int.reduceSub, Int.reduceMul, Int.reduceNeg, Int.reduceLE, Int.reduceLT, Int.toNat_natCast, Int.cast_ofNat_Int, Int.reduceNe, Int.reduceEq, Int.reduceBEq, Int.reduceBNe, not_false_eq_true, ne_eq, Int.reduceTMod, Int.reduceTDiv, beq_self_eq_true, bne_self_eq_false, List.contains_cons, List.contains_nil, Nat.reduceBEq]
    intro b4
    repeat' (first | (simp (disch := first | omega | (simp only [List.length_cons, List.length_nil]; first | done | omega)) only [go_sem, Nat.reduceAdd, Nat.reduceMul, Nat.reduceSub, Nat.reduceEqDiff, Nat.reduceLeDiff, Nat.reduceMod, Nat.reduceLT, Int.reduceToNat, Int.reduceAdd, Int.reduceSub, Int.reduceMul, Int.reduceNeg, Int.reduceLE, Int.reduceLT, Int.toNat_natCast, Int.cast_ofNat_Int, Int.reduceNe, Int.reduceEq, Int.reduceBEq, Int.reduceBNe, not_false_eq_true, ne_eq, Int.reduceTMod, Int.reduceTDiv, beq_self_eq_true, bne_self_eq_false, List.contains_cons, List.contains_nil, Nat.reduceBEq]) | (refine allI (fun b => ?_)) | (refine allT (fun τ => ?_)) | (refine brP (fun h => ?_) (fun h => ?_) <;> (try simp only [Bool.and_eq_true, Bool.and_eq_false_iff, Bool.or_eq_true, Bool.or_eq_false_iff, Bool.not_eq_true', Bool.not_eq_false', decide_eq_true_eq, decide_eq_false_iff_not, beq_iff_eq, beq_eq_false_iff_ne, ne_eq, bne_iff_ne, Int.not_lt, Int.not_le] at h)))
    refine loopI (ι := Nat × Tok) (fun x => x.1 ≤ rs.length) (fun x => [(20, .int .i64 x.1), (19, .int .i64 rs.length), (5, .osl 33 x.2 1 (rowL rs 1 x.1).length ((rowL rs 1 x.1).map (LV.int .i64))), (4, .ptr 4 b4 0), (0, .sl 8 rs.length (rs.flatMap RuC)), (1, .int .i64 1)]) (fun x => [(33, .tok x.2), (4, .blk b4 [.int .u64 0, .fsl 1 0 []])]) (fun x => rs.length - x.1) (0, ⟨0, 0, 0⟩) (by dsimp only; omega) (Ents.dum 33 (Ents.envH (by simp [go_sem, envLe, rowL, leV.fsl_osl]) rfl)) ?_
    rintro ⟨i, τ⟩ hi
    dsimp only at hi ⊢
    have hrl := rowL_len rs 1 i
    repeat' (first | (simp (disch := first | omega | (simp only [List.length_cons, List.length_nil]; first | done | omega)) only [go_sem, Nat.reduceAdd, Nat.reduceMul, Nat.reduceSub, Nat.reduceEqDiff, Nat.reduceLeDiff, Nat.reduceMod, Nat.reduceLT, Int.reduceToNat, Int.reduceAdd, Int.reduceSub, Int.reduceMul, Int.reduceNeg, Int.reduceLE, Int.reduceLT, Int.toNat_natCast, Int.cast_ofNat_Int, Int.reduceNe, Int.reduceEq, Int.reduceBEq, Int.reduceBNe, not_false_eq_true, ne_eq, Int.reduceTMod, Int.reduceTDiv, beq_self_eq_true, bne_self_eq_false, List.contains_cons, List.contains_nil, Nat.reduceBEq]) | (refine allI (fun b => ?_)) | (refine allT (fun τ => ?_)) | (refine brP (fun h => ?_) (fun h => ?_) <;> (try simp only [Bool.and_eq_true, Bool.and_eq_false_iff, Bool.or_eq_true, Bool.or_eq_false_iff, Bool.not_eq_true', Bool.not_eq_false', decide_eq_true_eq, decide_eq_false_iff_not, beq_iff_eq, beq_eq_false_iff_ne, ne_eq, bne_iff_ne, Int.not_lt, Int.not_le] at h)))
    · have hlt : i < rs.length := by omega
      rw [ru_l rs hlt]
      refine ⟨by omega, by omega, ?_⟩
      repeat' (first | (simp (disch := first | omega | (simp only [List.length_cons, List.length_nil]; first | done | omega)) only [go_sem, Nat.reduceAdd, Nat.reduceMul, Nat.reduceSub, Nat.reduceEqDiff, Nat.reduceLeDiff, Nat.reduceMod, Nat.reduceLT, Int.reduceToNat, Int.reduceAdd, Int.reduceSub, Int.reduceMul, Int.reduceNeg, Int.reduceLE, Int.reduceLT, Int.toNat_natCast, Int.cast_ofNat_Int, Int.reduceNe, Int.reduceEq, Int.reduceBEq, Int.reduceBNe, not_false_eq_true, ne_eq, Int.reduceTMod, Int.reduceTDiv, beq_self_eq_true, bne_self_eq_false, List.contains_cons, List.contains_nil, Nat.reduceBEq]) | (refine allI (fun b => ?_)) | (refine allT (fun τ => ?_)) | (refine brP (fun h => ?_) (fun h => ?_) <;> (try simp only [Bool.and_eq_true, Bool.and_eq_false_iff, Bool.or_eq_true, Bool.or_eq_false_iff, Bool.not_eq_true', Bool.not_eq_false', decide_eq_true_eq, decide_eq_false_iff_not, beq_iff_eq, beq_eq_false_iff_ne, ne_eq, bne_iff_ne, Int.not_lt, Int.not_le] at h)))
      · have e : rowL rs 1 (i + 1) = rowL rs 1 i ++ [(i : Int)] := by simp only [rowL, h, beq_self_eq_true, if_true]
        refine ⟨by simp only [roomy]; omega, fun t => ⟨⟨(i + 1, t), by dsimp only; omega⟩, by dsimp only; omega, Ents.envH (by simp [go_sem, e]) rfl⟩⟩
      · have e : rowL rs 1 (i + 1) = rowL rs 1 i := by simp only [rowL, beq_eq_false_iff_ne.2 h, Bool.false_eq_true, if_false, List.append_nil]
        refine ⟨⟨(i + 1, τ), by dsimp only; omega⟩, by dsimp only; omega, Ents.envH (by simp [go_sem, e]) rfl⟩
    · obtain rfl : i = rs.length := by omega
      exact view_sub (leV.agg ⟨leV.refl _, (leV.fsl_sl _ _ _).trans (leV.sl ⟨leV.osl_sl _ _ _ _ _, trivial⟩), trivial⟩) (List.nil_sublist _)
  · have e1 : ixQ rs 4 = 0 := by simp [ixQ]
    have e2 : ixR rs 4 = [rowL rs 4 rs.length] := by simp [ixR]
    rw [e1, e2]
    unfold c11 r11 Rus
    simp (disch := first | omega | (simp only [List.length_cons, List.length_nil]; first | done | omega)) only [go_sem, Nat.reduceAdd, Nat.reduceMul, Nat.reduceSub, Nat.reduceEqDiff, Nat.reduceLeDiff, Nat.reduceMod, Nat.reduceLT, Int.reduceToNat, Int.reduceAdd, Int.reduceSub, Int.reduceMul, Int.reduceNeg, Int.reduceLE, Int.reduceLT, Int.toNat_natCast, Int.cast_ofNat_Int, Int.reduceNe, Int.reduceEq, Int.reduceBEq, Int.reduceBNe, not_false_eq_true, ne_eq, Int.reduceTMod, Int.reduceTDiv, beq_self_eq_true, bne_self_eq_false, List.contains_cons, List.contains_nil, Nat.reduceBEq]
    intro b4
    repeat' (first | (simp (disch := first | omega | (simp only [List.length_cons, List.length_nil]; first | done | omega)) only [go_sem, Nat.reduceAdd, Nat.reduceMul, Nat.reduceSub, Nat.reduceEqDiff, Nat.reduceLeDiff, Nat.reduceMod, Nat.reduceLT, Int.reduceToNat, Int.reduceAdd, Int.reduceSub, Int.reduceMul, Int.reduceNeg, Int.reduceLE, Int.reduceLT, Int.toNat_natCast, Int.cast_ofNat_Int, Int.reduceNe, Int.reduceEq, Int.reduceBEq, Int.reduceBNe, not_false_eq_true, ne_eq, Int.reduceTMod, Int.reduceTDiv, beq_self_eq_true, bne_self_eq_false, List.contains_cons, List.contains_nil, Nat.reduceBEq]) | (refine allI (fun b => ?_)) | (refine allT (fun τ => ?_)) | (refine brP (fun h => ?_) (fun h => ?_) <;> (try simp only [Bool.and_eq_true, Bool.and_eq_false_iff, Bool.or_eq_true, Bool.or_eq_false_iff, Bool.not_eq_true', Bool.not_eq_false', decide_eq_true_eq, decide_eq_false_iff_not, beq_iff_eq, beq_eq_false_iff_ne, ne_eq, bne_iff_ne, Int.not_lt, Int.not_le] at h)))
    refine loopI (ι := Nat × Tok) (fun x => x.1 ≤ rs.length) (fun x => [(20, .int .i64 x.1), (19, .int .i64 rs.length), (5, .osl 33 x.2 1 (rowL rs 4 x.1).length ((rowL rs 4 x.1).map (LV.int .i64))), (4, .ptr 4 b4 0), (0, .sl 8 rs.length (rs.flatMap RuC)), (1, .int .i64 4)]) (fun x => [(33, .tok x.2), (4, .blk b4 [.int .u64 0, .fsl 1 0 []])]) (fun x => rs.length - x.1) (0, ⟨0, 0, 0⟩) (by dsimp only; omega) (Ents.dum 33 (Ents.envH (by simp [go_sem, envLe, rowL, leV.fsl_osl]) rfl)) ?_
    rintro ⟨i, τ⟩ hi
    dsimp only at hi ⊢
    have hrl := rowL_len rs 4 i
    repeat' (first | (simp (disch := first | omega | (simp only [List.length_cons, List.length_nil]; first | done | omega)) only [go_sem, Nat.reduceAdd, Nat.reduceMul, Nat.reduceSub, Nat.reduceEqDiff, Nat.reduceLeDiff, Nat.reduceMod, Nat.reduceLT, Int.reduceToNat, Int.reduceAdd, Int.reduceSub, Int.reduceMul, Int.reduceNeg, Int.reduceLE, Int.reduceLT, Int.toNat_natCast, Int.cast_ofNat_Int, Int.reduceNe, Int.reduceEq, Int.reduceBEq, Int.reduceBNe, not_false_eq_true, ne_eq, Int.reduceTMod, Int.reduceTDiv, beq_self_eq_true, bne_self_eq_false, List.contains_cons, List.contains_nil, Nat.reduceBEq]) | (refine allI (fun b => ?_)) | (refine allT (fun τ => ?_)) | (refine brP (fun h => ?_) (fun h => ?_) <;> (try simp only [Bool.and_eq_true, Bool.and_eq_false_iff, Bool.or_eq_true, Bool.or_eq_false_iff, Bool.not_eq_true', Bool.not_eq_false', decide_eq_true_eq, decide_eq_false_iff_not, beq_iff_eq, beq_eq_false_iff_ne, ne_eq, bne_iff_ne, Int.not_lt, Int.not_le] at h)))
    · have hlt : i < rs.length := by omega
      rw [ru_l rs hlt]
      refine ⟨by omega, by omega, ?_⟩
      repeat' (first | (simp (disch := first | omega | (simp only [List.length_cons, List.length_nil]; first | done | omega)) only [go_sem, Nat.reduceAdd, Nat.reduceMul, Nat.reduceSub, Nat.reduceEqDiff, Nat.reduceLeDiff, Nat.reduceMod, Nat.reduceLT, Int.reduceToNat, Int.reduceAdd, Int.reduceSub, Int.reduceMul, Int.reduceNeg, Int.reduceLE, Int.reduceLT, Int.toNat_natCast, Int.cast_ofNat_Int, Int.reduceNe, Int.reduceEq, Int.reduceBEq, Int.reduceBNe, not_false_eq_true, ne_eq, Int.reduceTMod, Int.reduceTDiv, beq_self_eq_true, bne_self_eq_false, List.contains_cons, List.contains_nil, Nat.reduceBEq]) | (refine allI (fun b => ?_)) | (refine allT (fun τ => ?_)) | (refine brP (fun h => ?_) (fun h => ?_) <;> (try simp only [Bool.and_eq_true, Bool.and_eq_false_iff, Bool.or_eq_true, Bool.or_eq_false_iff, Bool.not_eq_true', Bool.not_eq_false', decide_eq_true_eq, decide_eq_false_iff_not, beq_iff_eq, beq_eq_false_iff_ne, ne_eq, bne_iff_ne, Int.not_lt, Int.not_le] at h)))
      · have e : rowL rs 4 (i + 1) = rowL rs 4 i ++ [(i : Int)] := by simp only [rowL, h, beq_self_eq_true, if_true]
        refine ⟨by simp only [roomy]; omega, fun t => ⟨⟨(i + 1, t), by dsimp only; omega⟩, by dsimp only; omega, Ents.envH (by simp [go_sem, e]) rfl⟩⟩
      · have e : rowL rs 4 (i + 1) = rowL rs 4 i := by simp only [rowL, beq_eq_false_iff_ne.2 h, Bool.false_eq_true, if_false, List.append_nil]
        refine ⟨⟨(i + 1, τ), by dsimp only; omega⟩, by dsimp only; omega, Ents.envH (by simp [go_sem, e]) rfl⟩
    · obtain rfl : i = rs.length := by omega
      exact view_sub (leV.agg ⟨leV.refl _, (leV.fsl_sl _ _ _).trans (leV.sl ⟨leV.osl_sl _ _ _ _ _, trivial⟩), trivial⟩) (List.nil_sublist _)
  · have e1 : ixQ rs 5 = 0 := by simp [ixQ]
    have e2 : ixR rs 5 = [rowL rs 5 rs.length] := by simp [ixR]
    rw [e1, e2]
    unfold c11 r11 Rus
    simp (disch := first | omega | (simp only [List.length_cons, List.length_nil]; first | done | omega)) only [go_sem, Nat.reduceAdd, Nat.reduceMul, Nat.reduceSub, Nat.reduceEqDiff, Nat.reduceLeDiff, Nat.reduceMod, Nat.reduceLT, Int.reduceToNat, Int.reduceAdd, Int.reduceSub, Int.reduceMul, Int.reduceNeg, Int.reduceLE, Int.reduceLT, Int.toNat_natCast, Int.cast_ofNat_Int, Int.reduceNe, Int.reduceEq, Int.reduceBEq, Int.reduceBNe, not_false_eq_true, ne_eq, Int.reduceTMod, Int.reduceTDiv, beq_self_eq_true, bne_self_eq_false, List.contains_cons, List.contains_nil, Nat.reduceBEq]
    intro b4
    repeat' (first | (simp (disch := first | omega | (simp only [List.length_cons, List.length_nil]; first | done | omega)) only [go_sem, Nat.reduceAdd, Nat.reduceMul, Nat.reduceSub, Nat.reduceEqDiff, Nat.reduceLeDiff, Nat.reduceMod, Nat.reduceLT, Int.reduceToNat, Int.reduceAdd, Int.reduceSub, Int.reduceMul, Int.reduceNeg, Int.reduceLE, Int.reduceLT, Int.toNat_natCast, Int.cast_ofNat_Int, Int.reduceNe, Int.reduceEq, Int.reduceBEq, Int.reduceBNe, not_false_eq_true, ne_eq, Int.reduceTMod, Int.reduceTDiv, beq_self_eq_true, bne_self_eq_false, List.contains_cons, List.contains_nil, Nat.reduceBEq]) | (refine allI (fun b => ?_)) | (refine allT (fun τ => ?_)) | (refine brP (fun h => ?_) (fun h => ?_) <;> (try simp only [Bool.and_eq_true, Bool.and_eq_false_iff, Bool.or_eq_true, Bool.or_eq_false_iff, Bool.not_eq_true', Bool.not_eq_false', decide_eq_true_eq, decide_eq_false_iff_not, beq_iff_eq, beq_eq_false_iff_ne, ne_eq, bne_iff_ne, Int.not_lt, Int.not_le] at h)))
    refine loopI (ι := Nat × Tok) (fun x => x.1 ≤ rs.length) (fun x => [(20, .int .i64 x.1), (19, .int .i64 rs.length), (5, .osl 33 x.2 1 (rowL rs 5 x.1).length ((rowL rs 5 x.1).map (LV.int .i64))), (4, .ptr 4 b4 0), (0, .sl 8 rs.length (rs.flatMap RuC)), (1, .int .i64 5)]) (fun x => [(33, .tok x.2), (4, .blk b4 [.int .u64 0, .fsl 1 0 []])]) (fun x => rs.length - x.1) (0, ⟨0, 0, 0⟩) (by dsimp only; omega) (Ents.dum 33 (Ents.envH (by simp [go_sem, envLe, rowL, leV.fsl_osl]) rfl)) ?_
    rintro ⟨i, τ⟩ hi
    dsimp only at hi ⊢
    have hrl := rowL_len rs 5 i
    repeat' (first | (simp (disch := first | omega | (simp only [List.length_cons, List.length_nil]; first | done | omega)) only [go_sem, Nat.reduceAdd, Nat.reduceMul, Nat.reduceSub, Nat.reduceEqDiff, Nat.reduceLeDiff, Nat.reduceMod, Nat.reduceLT, Int.reduceToNat, Int.reduceAdd, Int.reduceSub, Int.reduceMul, Int.reduceNeg, Int.reduceLE, Int.reduceLT, Int.toNat_natCast, Int.cast_ofNat_Int, Int.reduceNe, Int.reduceEq, Int.reduceBEq, Int.reduceBNe, not_false_eq_true, ne_eq, Int.reduceTMod, Int.reduceTDiv, beq_self_eq_true, bne_self_eq_false, List.contains_cons, List.contains_nil, Nat.reduceBEq]) | (refine allI (fun b => ?_)) | (refine allT (fun τ => ?_)) | (refine brP (fun h => ?_) (fun h => ?_) <;> (try simp only [Bool.and_eq_true, Bool.and_eq_false_iff, Bool.or_eq_true, Bool.or_eq_false_iff, Bool.not_eq_true', Bool.not_eq_false', decide_eq_true_eq, decide_eq_false_iff_not, beq_iff_eq, beq_eq_false_iff_ne, ne_eq, bne_iff_ne, Int.not_lt, Int.not_le] at h)))
    · have hlt : i < rs.length := by omega
      rw [ru_l rs hlt]
      refine ⟨by omega, by omega, ?_⟩
      repeat' (first | (simp (disch := first | omega | (simp only [List.length_cons, List.length_nil]; first | done | omega)) only [go_sem, Nat.reduceAdd, Nat.reduceMul, Nat.reduceSub, Nat.reduceEqDiff, Nat.reduceLeDiff, Nat.reduceMod, Nat.reduceLT, Int.reduceToNat, Int.reduceAdd, Int.reduceSub, Int.reduceMul, Int.reduceNeg, Int.reduceLE, Int.reduceLT, Int.toNat_natCast, Int.cast_ofNat_Int, Int.reduceNe, Int.reduceEq, Int.reduceBEq, Int.reduceBNe, not_false_eq_true, ne_eq, Int.reduceTMod, Int.reduceTDiv, beq_self_eq_true, bne_self_eq_false, List.contains_cons, List.contains_nil, Nat.reduceBEq]) | (refine allI (fun b => ?_)) | (refine allT (fun τ => ?_)) | (refine brP (fun h => ?_) (fun h => ?_) <;> (try simp only [Bool.and_eq_true, Bool.and_eq_false_iff, Bool.or_eq_true, Bool.or_eq_false_iff, Bool.not_eq_true', Bool.not_eq_false', decide_eq_true_eq, decide_eq_false_iff_not, beq_iff_eq, beq_eq_false_iff_ne, ne_eq, bne_iff_ne, Int.not_lt, Int.not_le] at h)))
      · have e : rowL rs 5 (i + 1) = rowL rs 5 i ++ [(i : Int)] := by simp only [rowL, h, beq_self_eq_true, if_true]
        refine ⟨by simp only [roomy]; omega, fun t => ⟨⟨(i + 1, t), by dsimp only; omega⟩, by dsimp only; omega, Ents.envH (by simp [go_sem, e]) rfl⟩⟩
      · have e : rowL rs 5 (i + 1) = rowL rs 5 i := by simp only [rowL, beq_eq_false_iff_ne.2 h, Bool.false_eq_true, if_false, List.append_nil]
        refine ⟨⟨(i + 1, τ), by dsimp only; omega⟩, by dsimp only; omega, Ents.envH (by simp [go_sem, e]) rfl⟩
    · obtain rfl : i = rs.length := by omega
      exact view_sub (leV.agg ⟨leV.refl _, (leV.fsl_sl _ _ _).trans (leV.sl ⟨leV.osl_sl _ _ _ _ _, trivial⟩), trivial⟩) (List.nil_sublist _)
  · have e1 : ixQ rs k = 0 := by simp [ixQ, hk]
    have e2 : ixR rs k = [] := by simp [ixR, hk]
    rw [e1, e2]
    obtain ⟨k2, k3, k1, k4, k5⟩ := hk
    unfold c11 r11 Rus
    repeat' (first | (simp (disch := first | omega | (simp only [List.length_cons, List.length_nil]; first | done | omega)) only [go_sem, Nat.reduceAdd, Nat.reduceMul, Nat.reduceSub, Nat.reduceEqDiff, Nat.reduceLeDiff, Nat.reduceMod, Nat.reduceLT, Int.reduceToNat, Int.reduceAdd, Int.reduceSub, Int.reduceMul, Int.reduceNeg, Int.reduceLE, Int.reduceLT, Int.toNat_natCast, Int.cast_ofNat_Int, Int.reduceNe, Int.reduceEq, Int.reduceBEq, Int.reduceBNe, not_false_eq_true, ne_eq, Int.reduceTMod, Int.reduceTDiv, beq_self_eq_true, bne_self_eq_false, List.contains_cons, List.contains_nil, Nat.reduceBEq]) | (refine allI (fun b => ?_)) | (refine allT (fun τ => ?_)) | (refine brP (fun h => ?_) (fun h => ?_) <;> (try simp only [Bool.and_eq_true, Bool.and_eq_false_iff, Bool.or_eq_true, Bool.or_eq_false_iff, Bool.not_eq_true', Bool.not_eq_false', decide_eq_true_eq, decide_eq_false_iff_not, beq_iff_eq, beq_eq_false_iff_ne, ne_eq, bne_iff_ne, Int.not_lt, Int.not_le] at h)))
    all_goals first | exact absurd ‹_› ‹_› | exact view_sub (leV.agg ⟨leV.refl _, leV.fsl_sl _ _ _, trivial⟩) (List.nil_sublist _)
end Go.Proofs.Ytmggjfbcjmenlaa
