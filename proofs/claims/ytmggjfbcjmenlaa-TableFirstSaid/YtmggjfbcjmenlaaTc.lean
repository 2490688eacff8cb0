/- Layer 15: table: indices by call. -/
import Derived.Test.YtmggjfbcjmenlaaTb
import Derived.Test.YtmggjfbcjmenlaaLxR
namespace Go.Proofs.Ytmggjfbcjmenlaa
open Go Go.Lx
set_option linter.unusedSimpArgs false
set_option linter.unusedVariables false
set_option maxRecDepth 100000
set_option maxHeartbeats 1000000

/-- a rule: its list, action and calls, and the other five cells -/
structure Ru where
  l : Int
  a : Int
  c : Int
  x3 : LV
  x4 : LV
  x5 : LV
  x6 : LV
  x7 : LV
def RuC (r : Ru) : List LV := [.int .i64 r.l, .int .i64 r.a, .int .u64 r.c, r.x3, r.x4, r.x5, r.x6, r.x7]
def Rus (l : List Ru) : LV := .sl 8 l.length (l.flatMap RuC)
def ru0 : Ru := ⟨0, 0, 0, .any, .any, .any, .any, .any⟩
def sel (rs : List Ru) (k : Int) (i n : Nat) : Bool := (rs.getD i ru0).l == k && hasB (rs.getD i ru0).c n
/-- the row of the call n, of the first i rules -/
def rowN (rs : List Ru) (k : Int) : Nat → Nat → List Int
  | 0, _ => []
  | i + 1, n => rowN rs k i n ++ (if sel rs k i n then [(i : Int)] else [])
/-- the set, with n calls of a rule taken in -/
def qI (rs : List Ru) (k : Int) (i : Nat) (q : Int) : Nat → Int
  | 0 => q
  | n + 1 => if sel rs k i n then bitop .or .u64 (qI rs k i q n) (shl .u64 1 n) else qI rs k i q n
def qN (rs : List Ru) (k : Int) : Nat → Int
  | 0 => 0
  | i + 1 => qI rs k i (qN rs k i) 32
/-- the rows, the first n of them with the rule i -/
def rowsC (rs : List Ru) (k : Int) (i n : Nat) (τ : Nat → Tok) : List LV :=
  (List.range 32).map fun j => .osl (5000 + j) (τ j) 1 (rowN rs k (if j < n then i + 1 else i) j).length ((rowN rs k (if j < n then i + 1 else i) j).map (LV.int .i64))
theorem rowsC_0 (rs : List Ru) (k : Int) : ∀ (j : Nat) (c' : LV), (rowsC rs k 0 0 (fun _ => ⟨0, 0, 0⟩))[j]? = some c' → ∃ c, (List.replicate 32 (LV.fsl 1 0 []))[j]? = some c ∧ leV c c' := by
  intro j c' h
  have hj : j < 32 := by
    have := (List.getElem?_eq_some_iff.1 h).1
    simpa [rowsC] using this
  refine ⟨.fsl 1 0 [], by rw [List.getElem?_replicate, if_pos hj], ?_⟩
  simp only [rowsC, List.getElem?_map, List.getElem?_range hj, Option.map_some, Option.some.injEq, Nat.not_lt_zero, if_false, rowN, List.length_nil, List.map_nil] at h
  subst h
  exact leV.fsl_osl _ _ _ _ _
theorem ru_l (rs : List Ru) {i : Nat} (h : i < rs.length) : (rs.flatMap RuC).getD (i * 8) .any = .int .i64 (rs.getD i ru0).l := by
  have := getD_rows (f := RuC) (w := 8) (fun _ => rfl) (j := 0) (by omega) ru0 rs i h
  exact this
theorem ru_c (rs : List Ru) {i : Nat} (h : i < rs.length) : (rs.flatMap RuC).getD (i * 8 + 2) .any = .int .u64 (rs.getD i ru0).c :=
  getD_rows (f := RuC) (w := 8) (fun _ => rfl) (j := 2) (by omega) ru0 rs i h
theorem sel_ne {rs : List Ru} {k : Int} {i : Nat} (h : ¬ (rs.getD i ru0).l = k) (n : Nat) : sel rs k i n = false := by simp only [sel, Bool.and_eq_false_iff, beq_eq_false_iff_ne]; exact .inl h
theorem qI_ne {rs : List Ru} {k : Int} {i : Nat} (h : ¬ (rs.getD i ru0).l = k) (q : Int) : ∀ n, qI rs k i q n = q
  | 0 => rfl
  | n + 1 => by simp [qI, sel_ne h, qI_ne h q n]
theorem rowsC_ne {rs : List Ru} {k : Int} {i : Nat} (h : ¬ (rs.getD i ru0).l = k) (τ : Nat → Tok) : rowsC rs k (i + 1) 0 τ = rowsC rs k i 0 τ := by
  simp [rowsC, rowN, sel_ne h]
theorem rowsC_len (rs : List Ru) (k : Int) (i n : Nat) (τ : Nat → Tok) : (rowsC rs k i n τ).length = 32 := by simp [rowsC]
theorem rowsC_at (rs : List Ru) (k : Int) (i n : Nat) (τ : Nat → Tok) (h : n < 32) : (rowsC rs k i n τ).getD n .any = .osl (5000 + n) (τ n) 1 (rowN rs k i n).length ((rowN rs k i n).map (LV.int .i64)) := by
  simp [rowsC, List.getD, h]
theorem getH_rows (τ : Nat → Tok) (e : Ent) (R : Heap) {n : Nat} (h : n < 32) : getH ((5, e) :: (toks τ 0 32 ++ R)) (5000 + n) = some (.tok (τ n)) := by
  have h1 := getH_toks τ n 32 0 (by omega) (by omega)
  obtain ⟨H1, H2, h2, _, _⟩ := getH_parts h1
  simp only [getH]
  rw [if_neg (by omega), getH_left h1]
theorem rowsC_set {rs : List Ru} {k : Int} {i n : Nat} (τ : Nat → Tok) (t : Tok) (h : n < 32) (hs : sel rs k i n = true) :
    splice (rowsC rs k i n τ) [.osl (5000 + n) t 1 ((rowN rs k i n).length + 1) ((rowN rs k i n).map (LV.int .i64) ++ [.int .i64 i])] n = rowsC rs k i (n + 1) (updT τ n t) := by
  apply List.ext_getElem?
  intro j
  rw [splice_get (by simp [rowsC]; omega)]
  by_cases hj : j = n
  · subst hj
    simp [rowsC, h, updT, rowN, hs]
  · rw [if_neg (by simp; omega)]
    by_cases hj2 : j < 32
    · have e1 : (j < n + 1) = (j < n) := by simp; omega
      simp only [rowsC, List.getElem?_map, List.getElem?_range hj2, Option.map_some, e1, updT, hj, if_false]
    · rw [List.getElem?_eq_none (by simp [rowsC]; omega), List.getElem?_eq_none (by simp [rowsC]; omega)]
theorem rowsC_not {rs : List Ru} {k : Int} {i n : Nat} (τ : Nat → Tok) (hs : sel rs k i n = false) : rowsC rs k i (n + 1) τ = rowsC rs k i n τ := by
  simp only [rowsC]
  apply List.map_congr_left
  intro j _
  by_cases hj : j = n
  · subst hj; simp [rowN, hs]
  · have e1 : (j < n + 1) = (j < n) := by simp; omega
    simp only [e1]
theorem rowsC_all (rs : List Ru) (k : Int) (i : Nat) (τ : Nat → Tok) : rowsC rs k i 32 τ = rowsC rs k (i + 1) 0 τ := by
  simp only [rowsC]
  apply List.map_congr_left
  intro j hj
  have := List.mem_range.1 hj
  simp [this]
theorem rowN_len (rs : List Ru) (k : Int) (n : Nat) : ∀ i, (rowN rs k i n).length ≤ i
  | 0 => by simp [rowN]
  | i + 1 => by
    have := rowN_len rs k n i
    simp only [rowN, List.length_append]
    split <;> simp <;> omega
theorem leVs_map {α : Type} {f g : α → LV} : ∀ (l : List α), (∀ a ∈ l, leV (f a) (g a)) → leVs (l.map f) (l.map g)
  | [], _ => trivial
  | a :: l, h => ⟨h a (List.mem_cons_self ..), leVs_map l fun b hb => h b (List.mem_cons_of_mem _ hb)⟩
theorem clone37 (n : Nat) (cs : List LV) (hn : n ≤ 1000000) (hc : cs.length = n) : Pure Try.prog gl 37 [.sl 1 n cs] (.sl 1 n cs) := by
  refine fn_viewT Try.func37 t37 Try.ntmps37 (by simp) ?_
  unfold c37 r37
  simp (disch := first | omega | (simp only [List.length_cons, List.length_nil]; first | done | omega)) only [go_sem, Nat.reduceAdd, Nat.reduceMul, Nat.reduceSub, Nat.reduceEqDiff, Nat.reduceLeDiff, Nat.reduceMod, Nat.reduceLT, Int.reduceToNat, Int.reduceAdd, Int.reduceSub, Int.reduceMul, Int.reduceNeg, Int.reduceLE, Int.reduceLT, Int.toNat_natCast, Int.cast_ofNat_Int, Int.reduceNe, Int.reduceEq, Int.reduceBEq, Int.reduceBNe, not_false_eq_true, ne_eq, Int.reduceTMod, Int.reduceTDiv, beq_self_eq_true, bne_self_eq_false, List.contains_cons, List.contains_nil, Nat.reduceBEq]
  intro r hr
  repeat' (first | (simp (disch := first | omega | (simp only [List.length_cons, List.length_nil]; first | done | omega)) only [go_sem, Nat.reduceAdd, Nat.reduceMul, Nat.reduceSub, Nat.reduceEqDiff, Nat.reduceLeDiff, Nat.reduceMod, Nat.reduceLT, Int.reduceToNat, Int.reduceAdd, Int.reduceSub, Int.reduceMul, Int.reduceNeg, Int.reduceLE, Int.reduceLT, Int.toNat_natCast, Int.cast_ofNat_Int, Int.reduceNe, Int.reduceEq, Int.reduceBEq, Int.reduceBNe, not_false_eq_true, ne_eq, Int.reduceTMod, Int.reduceTDiv, beq_self_eq_true, bne_self_eq_false, List.contains_cons, List.contains_nil, Nat.reduceBEq]) | (refine allI (fun b => ?_)) | (refine allT (fun τ => ?_)) | (refine brP (fun h => ?_) (fun h => ?_) <;> (try simp only [Bool.and_eq_true, Bool.and_eq_false_iff, Bool.or_eq_true, Bool.or_eq_false_iff, Bool.not_eq_true', Bool.not_eq_false', decide_eq_true_eq, decide_eq_false_iff_not, beq_iff_eq, beq_eq_false_iff_ne, ne_eq, bne_iff_ne, Int.not_lt, Int.not_le] at h)))
  · have h0 : r = true := by simpa using h
    obtain rfl : n = 0 := hr h0
    obtain rfl : cs = [] := List.length_eq_zero_iff.1 hc
    exact view_sub (leV.fsl_sl _ _ _) (List.Sublist.refl _)
  · refine ⟨by simp only [roomy]; omega, fun τ_ => view_sub (leV.osl_sl _ _ _ _ _) (List.nil_sublist _)⟩
/-- the rows of all calls -/
def rowsN (rs : List Ru) (k : Int) : List (List Int) := (List.range 32).map (rowN rs k rs.length)
theorem bycall (rs : List Ru) (k : Int) (hl : rs.length ≤ 1000000) : Pure Try.prog gl 25 [Rus rs, .int .i64 k] (Ix (qN rs k rs.length) (rowsN rs k)) := by
  refine fn_viewT Try.func25 t25 Try.ntmps25 (by simp) ?_
  unfold c25 r25 Rus
  simp (disch := first | omega | (simp only [List.length_cons, List.length_nil]; first | done | omega)) only [go_sem, Nat.reduceAdd, Nat.reduceMul, Nat.reduceSub, Nat.reduceEqDiff, Nat.reduceLeDiff, Nat.reduceMod, Nat.reduceLT, Int.reduceToNat, Int.reduceAdd, Int.reduceSub, Int.reduceMul, Int.reduceNeg, Int.reduceLE, Int.reduceLT, Int.toNat_natCast, Int.cast_ofNat_Int, Int.reduceNe, Int.reduceEq, Int.reduceBEq, Int.reduceBNe, not_false_eq_true, ne_eq, Int.reduceTMod, Int.reduceTDiv, beq_self_eq_true, bne_self_eq_false, List.contains_cons, List.contains_nil, Nat.reduceBEq]
  intro b4 b5
  refine loopI (ι := Nat × (Nat → Tok)) (fun x => x.1 ≤ rs.length) (fun x => [(11, .int .i64 x.1), (10, .int .i64 rs.length), (6, .int .u64 (qN rs k x.1)), (5, .ptr 5 b5 0), (4, .ptr 4 b4 0), (0, .sl 8 rs.length (rs.flatMap RuC)), (1, .int .i64 k)]) (fun x => (5, .blk b5 (rowsC rs k x.1 0 x.2)) :: (toks x.2 0 32 ++ [(4, .blk b4 [.int .u64 0, .fsl 1 0 []])])) (fun x => rs.length - x.1) (0, fun _ => ⟨0, 0, 0⟩) (by dsimp only; omega) (Ents.rows 32 0 (by simp [go_sem, envLe, qN]) (rowsC_0 rs k)) ?_
  rintro ⟨i, τ⟩ hi
  dsimp only at hi ⊢
  have h8 : ∀ r, (RuC r).length = 8 := fun r => rfl
  repeat' (first | (simp (disch := first | omega | (simp only [List.length_cons, List.length_nil]; first | done | omega)) only [go_sem, Nat.reduceAdd, Nat.reduceMul, Nat.reduceSub, Nat.reduceEqDiff, Nat.reduceLeDiff, Nat.reduceMod, Nat.reduceLT, Int.reduceToNat, Int.reduceAdd, Int.reduceSub, Int.reduceMul, Int.reduceNeg, Int.reduceLE, Int.reduceLT, Int.toNat_natCast, Int.cast_ofNat_Int, Int.reduceNe, Int.reduceEq, Int.reduceBEq, Int.reduceBNe, not_false_eq_true, ne_eq, Int.reduceTMod, Int.reduceTDiv, beq_self_eq_true, bne_self_eq_false, List.contains_cons, List.contains_nil, Nat.reduceBEq]) | (refine allI (fun b => ?_)) | (refine allT (fun τ => ?_)) | (refine brP (fun h => ?_) (fun h => ?_) <;> (try simp only [Bool.and_eq_true, Bool.and_eq_false_iff, Bool.or_eq_true, Bool.or_eq_false_iff, Bool.not_eq_true', Bool.not_eq_false', decide_eq_true_eq, decide_eq_false_iff_not, beq_iff_eq, beq_eq_false_iff_ne, ne_eq, bne_iff_ne, Int.not_lt, Int.not_le] at h)))
  · have hlt : i < rs.length := by omega
    have hlen : (rs.flatMap RuC).length = rs.length * 8 := length_rows h8 rs
    rw [ru_l rs hlt]
    refine ⟨by omega, by omega, ?_⟩
    repeat' (first | (simp (disch := first | omega | (simp only [List.length_cons, List.length_nil]; first | done | omega)) only [go_sem, Nat.reduceAdd, Nat.reduceMul, Nat.reduceSub, Nat.reduceEqDiff, Nat.reduceLeDiff, Nat.reduceMod, Nat.reduceLT, Int.reduceToNat, Int.reduceAdd, Int.reduceSub, Int.reduceMul, Int.reduceNeg, Int.reduceLE, Int.reduceLT, Int.toNat_natCast, Int.cast_ofNat_Int, Int.reduceNe, Int.reduceEq, Int.reduceBEq, Int.reduceBNe, not_false_eq_true, ne_eq, Int.reduceTMod, Int.reduceTDiv, beq_self_eq_true, bne_self_eq_false, List.contains_cons, List.contains_nil, Nat.reduceBEq]) | (refine allI (fun b => ?_)) | (refine allT (fun τ => ?_)) | (refine brP (fun h => ?_) (fun h => ?_) <;> (try simp only [Bool.and_eq_true, Bool.and_eq_false_iff, Bool.or_eq_true, Bool.or_eq_false_iff, Bool.not_eq_true', Bool.not_eq_false', decide_eq_true_eq, decide_eq_false_iff_not, beq_iff_eq, beq_eq_false_iff_ne, ne_eq, bne_iff_ne, Int.not_lt, Int.not_le] at h)))
    · refine ⟨⟨(i + 1, τ), by dsimp only; omega⟩, by dsimp only; omega, Ents.envH (by simp [go_sem, qN, qI_ne h]) ?_⟩
      dsimp only
      rw [rowsC_ne h]
    · have hL : (rs.getD i ru0).l = k := by simpa using h
      refine loopI (ι := Nat × (Nat → Tok)) (fun x => x.1 ≤ 32) (fun x => [(21, .int .i64 x.1), (7, .int .i64 i), (11, .int .i64 i), (10, .int .i64 rs.length), (6, .int .u64 (qI rs k i (qN rs k i) x.1)), (5, .ptr 5 b5 0), (4, .ptr 4 b4 0), (0, .sl 8 rs.length (rs.flatMap RuC)), (1, .int .i64 k)]) (fun x => (5, .blk b5 (rowsC rs k i x.1 x.2)) :: (toks x.2 0 32 ++ [(4, .blk b4 [.int .u64 0, .fsl 1 0 []])])) (fun x => 32 - x.1) (0, τ) (by dsimp only; omega) (Ents.envH (by simp [go_sem, envLe, qI]) rfl) ?_
      rintro ⟨n, τ⟩ hn
      dsimp only at hn ⊢
      repeat' (first | (simp (disch := first | omega | (simp only [List.length_cons, List.length_nil]; first | done | omega)) only [go_sem, Nat.reduceAdd, Nat.reduceMul, Nat.reduceSub, Nat.reduceEqDiff, Nat.reduceLeDiff, Nat.reduceMod, Nat.reduceLT, Int.reduceToNat, Int.reduceAdd, Int.reduceSub, Int.reduceMul, Int.reduceNeg, Int.reduceLE, Int.reduceLT, Int.toNat_natCast, Int.cast_ofNat_Int, Int.reduceNe, Int.reduceEq, Int.reduceBEq, Int.reduceBNe, not_false_eq_true, ne_eq, Int.reduceTMod, Int.reduceTDiv, beq_self_eq_true, bne_self_eq_false, List.contains_cons, List.contains_nil, Nat.reduceBEq]) | (refine allI (fun b => ?_)) | (refine allT (fun τ => ?_)) | (refine brP (fun h => ?_) (fun h => ?_) <;> (try simp only [Bool.and_eq_true, Bool.and_eq_false_iff, Bool.or_eq_true, Bool.or_eq_false_iff, Bool.not_eq_true', Bool.not_eq_false', decide_eq_true_eq, decide_eq_false_iff_not, beq_iff_eq, beq_eq_false_iff_ne, ne_eq, bne_iff_ne, Int.not_lt, Int.not_le] at h)))
      · rw [ru_c rs hlt]
        refine ⟨by omega, by omega, ?_⟩
        simp (disch := first | omega | (simp only [List.length_cons, List.length_nil]; first | done | omega)) only [go_sem, Nat.reduceAdd, Nat.reduceMul, Nat.reduceSub, Nat.reduceEqDiff, Nat.reduceLeDiff, Nat.reduceMod, Nat.reduceLT, Int.reduceToNat, Int.reduceAdd, Int.reduceSub, Int.reduceMul, Int.reduceNeg, Int.reduceLE, Int.reduceLT, Int.toNat_natCast, Int.cast_ofNat_Int, Int.reduceNe, Int.reduceEq, Int.reduceBEq, Int.reduceBNe, not_false_eq_true, ne_eq, Int.reduceTMod, Int.reduceTDiv, beq_self_eq_true, bne_self_eq_false, List.contains_cons, List.contains_nil, Nat.reduceBEq]
        first | refine call_U (has (rs.getD i ru0).c n) ?_ | refine call_T (has (rs.getD i ru0).c n) ?_ | refine call_N (has (rs.getD i ru0).c n) ?_ | refine call_of (has (rs.getD i ru0).c n) ?_
        repeat' (first | (simp (disch := first | omega | (simp only [List.length_cons, List.length_nil]; first | done | omega)) only [go_sem, Nat.reduceAdd, Nat.reduceMul, Nat.reduceSub, Nat.reduceEqDiff, Nat.reduceLeDiff, Nat.reduceMod, Nat.reduceLT, Int.reduceToNat, Int.reduceAdd, Int.reduceSub, Int.reduceMul, Int.reduceNeg, Int.reduceLE, Int.reduceLT, Int.toNat_natCast, Int.cast_ofNat_Int, Int.reduceNe, Int.reduceEq, Int.reduceBEq, Int.reduceBNe, not_false_eq_true, ne_eq, Int.reduceTMod, Int.reduceTDiv, beq_self_eq_true, bne_self_eq_false, List.contains_cons, List.contains_nil, Nat.reduceBEq]) | (refine allI (fun b => ?_)) | (refine allT (fun τ => ?_)) | (refine brP (fun h => ?_) (fun h => ?_) <;> (try simp only [Bool.and_eq_true, Bool.and_eq_false_iff, Bool.or_eq_true, Bool.or_eq_false_iff, Bool.not_eq_true', Bool.not_eq_false', decide_eq_true_eq, decide_eq_false_iff_not, beq_iff_eq, beq_eq_false_iff_ne, ne_eq, bne_iff_ne, Int.not_lt, Int.not_le] at h)))
        · have hn2 : n < 32 := by omega
          have hs : sel rs k i n = true := by simp only [sel, hL, h, beq_self_eq_true, Bool.and_self]
          have hrl := rowN_len rs k n i
          rw [Nat.mul_one, rowsC_at rs k i n τ hn2]
          refine ⟨by omega, by rw [rowsC_len]; omega, trivial, appOsl (getH_rows τ _ _ hn2) (by simp only [roomy]; omega) fun t => ?_⟩
          have hd : delH ((5, Ent.blk b5 (rowsC rs k i n τ)) :: (toks τ 0 32 ++ [(4, Ent.blk b4 [.int .u64 0, .fsl 1 0 []])])) (5000 + n) = (5, Ent.blk b5 (rowsC rs k i n τ)) :: (delH (toks τ 0 32) (5000 + n) ++ [(4, Ent.blk b4 [.int .u64 0, .fsl 1 0 []])]) := by
            rw [delH, if_neg (by omega), delH_left (getH_toks τ n 32 0 (by omega) (by omega))]
          rw [hd]
          simp (disch := first | omega | (simp only [List.length_cons, List.length_nil]; first | done | omega)) only [go_sem, Nat.reduceAdd, Nat.reduceMul, Nat.reduceSub, Nat.reduceEqDiff, Nat.reduceLeDiff, Nat.reduceMod, Nat.reduceLT, Int.reduceToNat, Int.reduceAdd, Int.reduceSub, Int.reduceMul, Int.reduceNeg, Int.reduceLE, Int.reduceLT, Int.toNat_natCast, Int.cast_ofNat_Int, Int.reduceNe, Int.reduceEq, Int.reduceBEq, Int.reduceBNe, not_false_eq_true, ne_eq, Int.reduceTMod, Int.reduceTDiv, beq_self_eq_true, bne_self_eq_false, List.contains_cons, List.contains_nil, Nat.reduceBEq]
          refine ⟨by omega, by rw [rowsC_len]; omega, by omega, ?_⟩
          refine ⟨⟨(n + 1, updT τ n t), by dsimp only; omega⟩, by dsimp only; omega, Ents.sub (by simp [go_sem, envLe, qI, hs]) ⟨_, List.Sublist.refl _, ?_⟩⟩
          dsimp only
          have e1 := rowsC_set (i := i) τ t hn2 hs
          simp only [splice, List.length_cons, List.length_nil] at e1
          rw [Nat.mul_one, e1]
          refine (List.Perm.swap _ _ _).trans (List.Perm.cons _ ?_)
          rw [← List.cons_append]
          exact (delH_toks τ n t 32 0 (by omega) (by omega)).append_right _
        · have hs : sel rs k i n = false := by simp only [sel, h, Bool.and_false]
          refine ⟨⟨(n + 1, τ), by dsimp only; omega⟩, by dsimp only; omega, Ents.envH (by simp [go_sem, envLe, qI, hs]) ?_⟩
          dsimp only
          rw [rowsC_not τ hs]
      · have hn2 : n = 32 := by omega
        subst hn2
        refine ⟨⟨(i + 1, τ), by dsimp only; omega⟩, by dsimp only; omega, Ents.envH (by simp [go_sem, envLe, qN]) ?_⟩
        dsimp only
        rw [rowsC_all]
  · obtain rfl : i = rs.length := by omega
    refine LCalls.pub 5 rfl ?_ ?_
    · simp [pubAs, pubA, pubC, rowsC_len]
    · simp only [pubAs, pubA, pubC, if_true, List.drop_zero, Nat.mul_one, delH]
      rw [List.take_of_length_le (by rw [rowsC_len]; exact Nat.le_refl _)]
      refine LCalls.pure (clone37 32 _ (by omega) (rowsC_len _ _ _ _ _)) ⟨_, _, [(4, .blk b4 [.int .u64 0, .fsl 1 0 []])], EntsT.drop (List.sublist_append_right _ _), ?_⟩
      simp (disch := first | omega | (simp only [List.length_cons, List.length_nil]; first | done | omega)) only [go_sem, Nat.reduceAdd, Nat.reduceMul, Nat.reduceSub, Nat.reduceEqDiff, Nat.reduceLeDiff, Nat.reduceMod, Nat.reduceLT, Int.reduceToNat, Int.reduceAdd, Int.reduceSub, Int.reduceMul, Int.reduceNeg, Int.reduceLE, Int.reduceLT, Int.toNat_natCast, Int.cast_ofNat_Int, Int.reduceNe, Int.reduceEq, Int.reduceBEq, Int.reduceBNe, not_false_eq_true, ne_eq, Int.reduceTMod, Int.reduceTDiv, beq_self_eq_true, bne_self_eq_false, List.contains_cons, List.contains_nil, Nat.reduceBEq]
      refine view_sub (leV.agg ⟨leV.refl _, ?_, trivial⟩) (List.nil_sublist _)
      rw [show (rowsN rs k).length = 32 by simp [rowsN]]
      refine leV.sl ?_
      simp only [rowsN, rowsC, List.map_map]
      refine leVs_map _ fun j _ => ?_
      simp only [Nat.not_lt_zero, if_false, Function.comp, Is]
      exact leV.osl_sl _ _ _ _ _
end Go.Proofs.Ytmggjfbcjmenlaa
