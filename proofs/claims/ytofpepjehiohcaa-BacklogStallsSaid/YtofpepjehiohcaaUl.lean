/- Layer 20: backlog: an event that stalls. -/
import Derived.Test.YtofpepjehiohcaaUk
namespace Go.Proofs.Ytofpepjehiohcaa
open Go Go.Lx
set_option linter.unusedSimpArgs false
set_option linter.unusedVariables false
set_option maxRecDepth 100000
set_option maxHeartbeats 1000000

/-- the backlog after some rounds -/
def stP (i : Int) : Lo := if i ≤ 63 then lo0 else ⟨65, 1 + i, 0, 0, i - 63⟩
def stA (i : Int) : Bl := ⟨64, 0, 1, 1 + i, 1, [1], [], stP i, 0, if i ≤ 63 then 1 + i else 64, if i ≤ 63 then 0 else i - 63, false, []⟩
theorem stP_pend (i : Int) : pend (stP i) = decide (64 ≤ i) := by
  unfold stP
  split
  · rw [show pend lo0 = false from rfl]; symm; exact decide_eq_false (by omega)
  · rw [decide_eq_true (by omega)]; simp [pend]
theorem st_lose {i : Int} (h : 63 ≤ i) (h2 : i ≤ 100) : offB (stA i) 0 1 = (stA (i + 1), i + 2, false) := by
  have hs : (stA i).ser = 1 + i := rfl
  have hr : ∀ s, 65 ≤ s → refuse (stA i) s 0 1 = 3 := fun s hs => by
    unfold refuse
    rw [if_neg (by simp [stA]), if_neg (by rw [show (stA i).pd = stP i from rfl]; simp only [stA, List.length_nil]; cases pend (stP i) <;> simp), if_pos (by simp [stA]; omega)]
  unfold offB
  rw [if_neg (by rw [hs]; omega)]
  dsimp only
  rw [hr _ (by rw [hs]; split <;> omega), if_pos (by omega)]
  have e : loseB (stA i) 3 0 = stA (i + 1) := by
    have e1 : losePd (stA i) 3 = stP (i + 1) := by
      unfold losePd
      rw [show (stA i).pd = stP i from rfl, stP_pend, hs]
      rw [show stP (i + 1) = ⟨65, 1 + (i + 1), 0, 0, i + 1 - 63⟩ by rw [stP, if_neg (by omega)]]
      by_cases h3 : i = 63
      · subst h3; rfl
      · rw [show stP i = ⟨65, 1 + i, 0, 0, i - 63⟩ by rw [stP, if_neg (by omega)], decide_eq_true (by omega)]
        simp only [if_true, bump, Int.reduceEq, if_false, Lo.mk.injEq, true_and]
        omega
    unfold loseB
    rw [e1]
    simp only [stA, Bl.mk.injEq, true_and, and_true, Int.reduceEq, if_false]
    refine ⟨by omega, ?_, ?_⟩
    · rw [if_neg (by omega : ¬ i + 1 ≤ 63)]; split <;> omega
    · rw [if_neg (by omega : ¬ i + 1 ≤ 63)]; split <;> omega
  rw [e, hs]
  simp only [Prod.mk.injEq, true_and, and_true]
  omega
def stR (s : Int) : Rc := ⟨1005, 0, s, []⟩
theorem st_acc {i : Int} (h : 0 ≤ i) (h2 : i ≤ 62) : offB (stA i) 0 1 = (accB (stA i) (i + 2) 0 1, i + 2, true) := by
  have hs : (stA i).ser = 1 + i := rfl
  have hp : pend (stA i).pd = false := by rw [show (stA i).pd = stP i from rfl, stP_pend]; exact decide_eq_false (by omega)
  have hr : refuse (stA i) (i + 2) 0 1 = 0 := by
    unfold refuse
    rw [if_neg (by simp [stA]), if_neg (by rw [hp]; simp [stA]), if_neg (by simp [stA]; omega)]
  unfold offB
  rw [if_neg (by rw [hs]; omega)]
  simp only [hp, Bool.false_eq_true, if_false, Int.add_zero]
  rw [hs, show 1 + i + 1 = i + 2 by omega, hr, if_neg (by simp)]
theorem st_round {i : Int} (h : 0 ≤ i) (h2 : i ≤ 62) : takeB (putB (accB (stA i) (i + 2) 0 1) (stR (i + 2)) true) 0 64 = stA (i + 1) := by
  have e0 : stP i = lo0 := by rw [stP, if_pos (by omega)]
  have e1 : stP (i + 1) = lo0 := by rw [stP, if_pos (by omega)]
  have e2 : putB (accB (stA i) (i + 2) 0 1) (stR (i + 2)) true = ⟨64, 0, 1, i + 2, 1, [1], [stR (i + 2)], lo0, 0, 2 + i, 0, false, []⟩ := by
    simp only [putB, accB, stA, e0, Bl.mk.injEq, true_and, and_true, if_true, stR, del1]
    refine ⟨by omega, ?_, rfl, ?_, ?_, ?_⟩
    · have : idxF (i + 2) [1, i + 2] 0 = 1 := by simp only [idxF]; rw [if_neg (by omega)]; simp
      simp [this]
    · simp
    · rw [if_pos (by simp), if_pos (by omega)]; omega
    · rw [if_pos (by omega)]
  rw [e2]
  unfold takeB
  rw [if_neg (by simp [pend, lo0])]
  simp only [restB, takeN, stA, e1, Bl.mk.injEq, true_and, and_true]
  refine ⟨by omega, by simp; decide, ?_, ?_⟩
  · rw [if_pos (by omega)]; omega
  · rw [if_pos (by omega)]
theorem take4_rc (r : Rc) : List.take 4 (RcC r) = RcC r := rfl
theorem okK.eqv {k : Nat} {b b' : Bl} (h : okK k b) (e : b = b') : okK k b' := e ▸ h
theorem stallsL (n : Int) (hn : 0 ≤ n ∧ n ≤ 255) : Pure Try.prog gl 7 [.int .u8 n] (.bool true) := by
  refine fn_pureT Try.func7 t7 Try.ntmps7 (by simp) ?_
  have hmod : n.tmod 16 = n % 16 := Int.tmod_eq_emod_of_nonneg hn.1
  have hnw := new 64 0 1
  have e0 : confB bl0 64 0 1 = { bl0 with lim := 64, rate := 0, fail := 1 } := by rfl
  have eE : confE 64 0 1 = 0 := by rfl
  have hk0 := (okK.zero 0 (by omega)).conf 64 0 1
  have ho := offer (confB bl0 64 0 1) 0 hk0 0 1
  have ho1 := hk0.offer (by omega) 0 1
  have e1 : offB (confB bl0 64 0 1) 0 1 = (stA 0, 1, true) := by rfl
  rw [e1] at ho ho1
  rw [eE] at hnw
  dsimp only at ho ho1
  unfold BlL BlC InS RcS NoS at hnw ho
  unfold c7 r7
  simp (disch := first | omega | (simp only [List.length_cons, List.length_nil]; first | done | omega)) only [go_sem, Nat.reduceAdd, Nat.reduceMul, Nat.reduceSub, Nat.reduceEqDiff, Nat.reduceLeDiff, Nat.reduceMod, Nat.reduceLT, Int.reduceToNat, Int.reduceAdd, Int.reduceSub, Int.reduceMul, Int.reduceNeg, Int.reduceLE, Int.reduceLT, Int.toNat_natCast, Int.cast_ofNat_Int, Int.reduceNe, Int.reduceEq, Int.reduceBEq, Int.reduceBNe, not_false_eq_true, ne_eq, Int.reduceTMod, Int.reduceTDiv, beq_self_eq_true, bne_self_eq_false, List.contains_cons, List.contains_nil, Nat.reduceBEq, hmod]
  first | refine call_U (hnw) ?_ | refine call_T (hnw) ?_ | refine call_N (hnw) ?_ | refine call_of (hnw) ?_
  simp (disch := first | omega | (simp only [List.length_cons, List.length_nil]; first | done | omega)) only [go_sem, Nat.reduceAdd, Nat.reduceMul, Nat.reduceSub, Nat.reduceEqDiff, Nat.reduceLeDiff, Nat.reduceMod, Nat.reduceLT, Int.reduceToNat, Int.reduceAdd, Int.reduceSub, Int.reduceMul, Int.reduceNeg, Int.reduceLE, Int.reduceLT, Int.toNat_natCast, Int.cast_ofNat_Int, Int.reduceNe, Int.reduceEq, Int.reduceBEq, Int.reduceBNe, not_false_eq_true, ne_eq, Int.reduceTMod, Int.reduceTDiv, beq_self_eq_true, bne_self_eq_false, List.contains_cons, List.contains_nil, Nat.reduceBEq]
  intro p3
  first | refine call_U (ho) ?_ | refine call_T (ho) ?_ | refine call_N (ho) ?_ | refine call_of (ho) ?_
  simp (disch := first | omega | (simp only [List.length_cons, List.length_nil]; first | done | omega)) only [go_sem, Nat.reduceAdd, Nat.reduceMul, Nat.reduceSub, Nat.reduceEqDiff, Nat.reduceLeDiff, Nat.reduceMod, Nat.reduceLT, Int.reduceToNat, Int.reduceAdd, Int.reduceSub, Int.reduceMul, Int.reduceNeg, Int.reduceLE, Int.reduceLT, Int.toNat_natCast, Int.cast_ofNat_Int, Int.reduceNe, Int.reduceEq, Int.reduceBEq, Int.reduceBNe, not_false_eq_true, ne_eq, Int.reduceTMod, Int.reduceTDiv, beq_self_eq_true, bne_self_eq_false, List.contains_cons, List.contains_nil, Nat.reduceBEq, hmod]
  generalize hkn : 60 + n % 16 = k
  have hk : 60 ≤ k ∧ k ≤ 75 := by omega
  refine loopI (ι := Nat) (fun x => x ≤ k ∧ okK (3 * x + 1) (stA x)) (fun x => [(9, .int .i64 x), (8, .int .i64 (if (x : Int) ≤ 63 then 0 else x - 63)), (7, .int .i64 k), (6, .bool true), (5, .int .i64 1), (4, .int .i64 0), (3, .ptr 3 p3 0), (2, .bool false)])
    (fun x => [(3, .blk p3 (BlC (stA x) (InS (stA x).op) (RcS (stA x).qu) (NoS (stA x).no)))]) (fun x => 80 - x) 0 ⟨by omega, ho1⟩ (Ents.envH (by simp [go_sem]) rfl) ?_
  rintro i ⟨hik, hkk⟩
  simp only [BlC, InS, RcS, NoS]
  repeat' (first | (simp (disch := first | omega | (simp only [List.length_cons, List.length_nil]; first | done | omega)) only [go_sem, Nat.reduceAdd, Nat.reduceMul, Nat.reduceSub, Nat.reduceEqDiff, Nat.reduceLeDiff, Nat.reduceMod, Nat.reduceLT, Int.reduceToNat, Int.reduceAdd, Int.reduceSub, Int.reduceMul, Int.reduceNeg, Int.reduceLE, Int.reduceLT, Int.toNat_natCast, Int.cast_ofNat_Int, Int.reduceNe, Int.reduceEq, Int.reduceBEq, Int.reduceBNe, not_false_eq_true, ne_eq, Int.reduceTMod, Int.reduceTDiv, beq_self_eq_true, bne_self_eq_false, List.contains_cons, List.contains_nil, Nat.reduceBEq]) | (refine allI (fun b => ?_)) | (refine allT (fun τ => ?_)) | (refine brP (fun h => ?_) (fun h => ?_) <;> (try simp only [Bool.and_eq_true, Bool.and_eq_false_iff, Bool.or_eq_true, Bool.or_eq_false_iff, Bool.not_eq_true', Bool.not_eq_false', decide_eq_true_eq, decide_eq_false_iff_not, beq_iff_eq, beq_eq_false_iff_ne, ne_eq, bne_iff_ne, Int.not_lt, Int.not_le] at h)))
  · have hoo := offer (stA i) _ hkk 0 1
    have hoo1 := hkk.offer (by omega) 0 1
    by_cases h63 : (i : Int) ≤ 62
    · rw [st_acc (by omega) h63] at hoo hoo1
      dsimp only at hoo hoo1
      have hpt := put _ _ hoo1 (stR (i + 2)) (by simp [stR]) true
      have hp1 := hoo1.put (by omega) (stR (i + 2)) (by simp [stR]) true
      have htk := takeR _ _ hp1 0 64
      have ht1 := hp1.take (by omega) 0 64
      rw [st_round (by omega) h63] at htk ht1
      generalize putB (accB (stA i) (i + 2) 0 1) (stR (i + 2)) true = B2 at hpt htk
      generalize accB (stA i) (i + 2) 0 1 = B1 at hoo hpt
      unfold BlL BlC InS RcS NoS at hoo hpt htk
      have hpt' := LCalls.args hpt (args' := [_, .agg [.int .i64 1005, .int .i64 0, .int .i64 (i + 2), .fsl 1 0 []], .bool true]) ⟨leV.refl _, leV.agg ⟨leV.refl _, leV.refl _, leV.refl _, leV.nil_sl _ _, trivial⟩, leV.refl _, trivial⟩
      first | refine call_U (hoo) ?_ | refine call_T (hoo) ?_ | refine call_N (hoo) ?_ | refine call_of (hoo) ?_
      simp (disch := first | omega | (simp only [List.length_cons, List.length_nil]; first | done | omega)) only [go_sem, Nat.reduceAdd, Nat.reduceMul, Nat.reduceSub, Nat.reduceEqDiff, Nat.reduceLeDiff, Nat.reduceMod, Nat.reduceLT, Int.reduceToNat, Int.reduceAdd, Int.reduceSub, Int.reduceMul, Int.reduceNeg, Int.reduceLE, Int.reduceLT, Int.toNat_natCast, Int.cast_ofNat_Int, Int.reduceNe, Int.reduceEq, Int.reduceBEq, Int.reduceBNe, not_false_eq_true, ne_eq, Int.reduceTMod, Int.reduceTDiv, beq_self_eq_true, bne_self_eq_false, List.contains_cons, List.contains_nil, Nat.reduceBEq]
      intro p10
      repeat' (first | (simp (disch := first | omega | (simp only [List.length_cons, List.length_nil]; first | done | omega)) only [go_sem, Nat.reduceAdd, Nat.reduceMul, Nat.reduceSub, Nat.reduceEqDiff, Nat.reduceLeDiff, Nat.reduceMod, Nat.reduceLT, Int.reduceToNat, Int.reduceAdd, Int.reduceSub, Int.reduceMul, Int.reduceNeg, Int.reduceLE, Int.reduceLT, Int.toNat_natCast, Int.cast_ofNat_Int, Int.reduceNe, Int.reduceEq, Int.reduceBEq, Int.reduceBNe, not_false_eq_true, ne_eq, Int.reduceTMod, Int.reduceTDiv, beq_self_eq_true, bne_self_eq_false, List.contains_cons, List.contains_nil, Nat.reduceBEq]) | (refine allI (fun b => ?_)) | (refine allT (fun τ => ?_)) | (refine brP (fun h => ?_) (fun h => ?_) <;> (try simp only [Bool.and_eq_true, Bool.and_eq_false_iff, Bool.or_eq_true, Bool.or_eq_false_iff, Bool.not_eq_true', Bool.not_eq_false', decide_eq_true_eq, decide_eq_false_iff_not, beq_iff_eq, beq_eq_false_iff_ne, ne_eq, bne_iff_ne, Int.not_lt, Int.not_le] at h)))
      first | refine call_U (hpt') ?_ | refine call_T (hpt') ?_ | refine call_N (hpt') ?_ | refine call_of (hpt') ?_
      simp (disch := first | omega | (simp only [List.length_cons, List.length_nil]; first | done | omega)) only [go_sem, Nat.reduceAdd, Nat.reduceMul, Nat.reduceSub, Nat.reduceEqDiff, Nat.reduceLeDiff, Nat.reduceMod, Nat.reduceLT, Int.reduceToNat, Int.reduceAdd, Int.reduceSub, Int.reduceMul, Int.reduceNeg, Int.reduceLE, Int.reduceLT, Int.toNat_natCast, Int.cast_ofNat_Int, Int.reduceNe, Int.reduceEq, Int.reduceBEq, Int.reduceBNe, not_false_eq_true, ne_eq, Int.reduceTMod, Int.reduceTDiv, beq_self_eq_true, bne_self_eq_false, List.contains_cons, List.contains_nil, Nat.reduceBEq]
      first | refine call_U (htk) ?_ | refine call_T (htk) ?_ | refine call_N (htk) ?_ | refine call_of (htk) ?_
      simp (disch := first | omega | (simp only [List.length_cons, List.length_nil]; first | done | omega)) only [go_sem, Nat.reduceAdd, Nat.reduceMul, Nat.reduceSub, Nat.reduceEqDiff, Nat.reduceLeDiff, Nat.reduceMod, Nat.reduceLT, Int.reduceToNat, Int.reduceAdd, Int.reduceSub, Int.reduceMul, Int.reduceNeg, Int.reduceLE, Int.reduceLT, Int.toNat_natCast, Int.cast_ofNat_Int, Int.reduceNe, Int.reduceEq, Int.reduceBEq, Int.reduceBNe, not_false_eq_true, ne_eq, Int.reduceTMod, Int.reduceTDiv, beq_self_eq_true, bne_self_eq_false, List.contains_cons, List.contains_nil, Nat.reduceBEq]
      have e2 : (if (i : Int) ≤ 63 then (0 : Int) else i - 63) = if ((i + 1 : Nat) : Int) ≤ 63 then 0 else ((i + 1 : Nat) : Int) - 63 := by rw [if_pos (by omega), if_pos (by omega)]
      refine ⟨⟨i + 1, by omega, ht1.mono (by omega) (by omega)⟩, by dsimp only; omega, Ents.sub ?_ ⟨_, List.Sublist.cons _ (List.Sublist.refl _), List.Perm.refl _⟩⟩
      rw [e2]
      simp [go_sem]
    · rw [st_lose (by omega) (by omega)] at hoo hoo1
      dsimp only at hoo hoo1
      unfold BlL BlC InS RcS NoS at hoo
      first | refine call_U (hoo) ?_ | refine call_T (hoo) ?_ | refine call_N (hoo) ?_ | refine call_of (hoo) ?_
      simp (disch := first | omega | (simp only [List.length_cons, List.length_nil]; first | done | omega)) only [go_sem, Nat.reduceAdd, Nat.reduceMul, Nat.reduceSub, Nat.reduceEqDiff, Nat.reduceLeDiff, Nat.reduceMod, Nat.reduceLT, Int.reduceToNat, Int.reduceAdd, Int.reduceSub, Int.reduceMul, Int.reduceNeg, Int.reduceLE, Int.reduceLT, Int.toNat_natCast, Int.cast_ofNat_Int, Int.reduceNe, Int.reduceEq, Int.reduceBEq, Int.reduceBNe, not_false_eq_true, ne_eq, Int.reduceTMod, Int.reduceTDiv, beq_self_eq_true, bne_self_eq_false, List.contains_cons, List.contains_nil, Nat.reduceBEq]
      intro p10
      repeat' (first | (simp (disch := first | omega | (simp only [List.length_cons, List.length_nil]; first | done | omega)) only [go_sem, Nat.reduceAdd, Nat.reduceMul, Nat.reduceSub, Nat.reduceEqDiff, Nat.reduceLeDiff, Nat.reduceMod, Nat.reduceLT, Int.reduceToNat, Int.reduceAdd, Int.reduceSub, Int.reduceMul, Int.reduceNeg, Int.reduceLE, Int.reduceLT, Int.toNat_natCast, Int.cast_ofNat_Int, Int.reduceNe, Int.reduceEq, Int.reduceBEq, Int.reduceBNe, not_false_eq_true, ne_eq, Int.reduceTMod, Int.reduceTDiv, beq_self_eq_true, bne_self_eq_false, List.contains_cons, List.contains_nil, Nat.reduceBEq]) | (refine allI (fun b => ?_)) | (refine allT (fun τ => ?_)) | (refine brP (fun h => ?_) (fun h => ?_) <;> (try simp only [Bool.and_eq_true, Bool.and_eq_false_iff, Bool.or_eq_true, Bool.or_eq_false_iff, Bool.not_eq_true', Bool.not_eq_false', decide_eq_true_eq, decide_eq_false_iff_not, beq_iff_eq, beq_eq_false_iff_ne, ne_eq, bne_iff_ne, Int.not_lt, Int.not_le] at h)))
      have e2 : (if (i : Int) ≤ 63 then (0 : Int) else i - 63) + 1 = if ((i + 1 : Nat) : Int) ≤ 63 then 0 else ((i + 1 : Nat) : Int) - 63 := by rw [if_neg (by omega : ¬ ((i + 1 : Nat) : Int) ≤ 63)]; split <;> omega
      have e3 : IntKind.i64.wrap ((if (i : Int) ≤ 63 then (0 : Int) else i - 63) + 1) = (if (i : Int) ≤ 63 then (0 : Int) else i - 63) + 1 := by split <;> exact wrap_i64 (by omega) (by omega)
      refine ⟨⟨i + 1, by omega, hoo1.mono (by omega) (by omega)⟩, by dsimp only; omega, Ents.sub ?_ ⟨_, List.Sublist.cons _ (List.Sublist.refl _), List.Perm.refl _⟩⟩
      rw [e2]
      simp [go_sem]
  · have hW1 : (if (0 : Int) < k - 63 then k - 63 else 0) = if (i : Int) ≤ 63 then (0 : Int) else i - 63 := by split <;> split <;> omega
    have hW2 : (stA i).pd.s = if (i : Int) ≤ 63 then (0 : Int) else i - 63 := by rw [show (stA i).pd = stP i from rfl, stP]; split <;> rfl
    rw [hW1, hW2] at h
    simp at h
  · obtain rfl : (i : Int) = k := by omega
    clear h
    have hpt := put _ _ hkk (stR 1) (by simp [stR]) true
    have hp1 := hkk.put (by omega) (stR 1) (by simp [stR]) true
    have htk := takeR _ _ hp1 0 64
    have ht1 := hp1.take (by omega) 0 64
    have htk2 := takeR _ _ ht1 0 64
    have eP : putB (stA i) (stR 1) true = ⟨64, 0, 1, 1 + i, 0, [], [stR 1], stP i, 0, if (i : Int) ≤ 63 then 1 + i else 64, if (i : Int) ≤ 63 then 0 else i - 63, false, []⟩ := by rfl
    by_cases h63 : (i : Int) ≤ 63
    · have eP2 : stP i = lo0 := by rw [stP, if_pos h63]
      rw [if_pos h63, if_pos h63, eP2] at eP
      rw [eP] at htk htk2 hpt
      have eT : takeB (⟨64, 0, 1, 1 + i, 0, [], [stR 1], lo0, 0, 1 + i, 0, false, []⟩ : Bl) 0 64 = ⟨64, 0, 1, 1 + i, 0, [], [], lo0, 0, 1 + i, 0, false, []⟩ := by rfl
      rw [eT] at htk htk2
      have eU : takeB (⟨64, 0, 1, 1 + i, 0, [], [], lo0, 0, 1 + i, 0, false, []⟩ : Bl) 0 64 = ⟨64, 0, 1, 1 + i, 0, [], [], lo0, 0, 1 + i, 0, false, []⟩ := by rfl
      rw [eU] at htk2
      have eV : takeN (⟨64, 0, 1, 1 + i, 0, [], [stR 1], lo0, 0, 1 + i, 0, false, []⟩ : Bl) 64 = 1 := by rfl
      rw [eV] at htk
      simp only [List.take_nil] at htk2
      simp only [List.take_succ_cons, List.take_zero] at htk
      unfold BlL BlC InS RcS NoS at hpt htk htk2
      have hpt' := LCalls.args hpt (args' := [_, .agg [.int .i64 1005, .int .i64 0, .int .i64 1, .fsl 1 0 []], .bool true]) ⟨leV.refl _, leV.agg ⟨leV.refl _, leV.refl _, leV.refl _, leV.nil_sl _ _, trivial⟩, leV.refl _, trivial⟩
      have hz : (if (0 : Int) < i - 63 then (i : Int) - 63 else 0) = 0 := by rw [if_neg (by omega)]
      first | refine call_U (hpt') ?_ | refine call_T (hpt') ?_ | refine call_N (hpt') ?_ | refine call_of (hpt') ?_
      simp (disch := first | omega | (simp only [List.length_cons, List.length_nil]; first | done | omega)) only [go_sem, Nat.reduceAdd, Nat.reduceMul, Nat.reduceSub, Nat.reduceEqDiff, Nat.reduceLeDiff, Nat.reduceMod, Nat.reduceLT, Int.reduceToNat, Int.reduceAdd, Int.reduceSub, Int.reduceMul, Int.reduceNeg, Int.reduceLE, Int.reduceLT, Int.toNat_natCast, Int.cast_ofNat_Int, Int.reduceNe, Int.reduceEq, Int.reduceBEq, Int.reduceBNe, not_false_eq_true, ne_eq, Int.reduceTMod, Int.reduceTDiv, beq_self_eq_true, bne_self_eq_false, List.contains_cons, List.contains_nil, Nat.reduceBEq]
      first | refine call_U (htk) ?_ | refine call_T (htk) ?_ | refine call_N (htk) ?_ | refine call_of (htk) ?_
      simp (disch := first | omega | (simp only [List.length_cons, List.length_nil]; first | done | omega)) only [go_sem, Nat.reduceAdd, Nat.reduceMul, Nat.reduceSub, Nat.reduceEqDiff, Nat.reduceLeDiff, Nat.reduceMod, Nat.reduceLT, Int.reduceToNat, Int.reduceAdd, Int.reduceSub, Int.reduceMul, Int.reduceNeg, Int.reduceLE, Int.reduceLT, Int.toNat_natCast, Int.cast_ofNat_Int, Int.reduceNe, Int.reduceEq, Int.reduceBEq, Int.reduceBNe, not_false_eq_true, ne_eq, Int.reduceTMod, Int.reduceTDiv, beq_self_eq_true, bne_self_eq_false, List.contains_cons, List.contains_nil, Nat.reduceBEq]
      first | refine call_U (htk2) ?_ | refine call_T (htk2) ?_ | refine call_N (htk2) ?_ | refine call_of (htk2) ?_
      repeat' (first | (simp (disch := first | omega | (simp only [List.length_cons, List.length_nil]; first | done | omega)) only [go_sem, Nat.reduceAdd, Nat.reduceMul, Nat.reduceSub, Nat.reduceEqDiff, Nat.reduceLeDiff, Nat.reduceMod, Nat.reduceLT, Int.reduceToNat, Int.reduceAdd, Int.reduceSub, Int.reduceMul, Int.reduceNeg, Int.reduceLE, Int.reduceLT, Int.toNat_natCast, Int.cast_ofNat_Int, Int.reduceNe, Int.reduceEq, Int.reduceBEq, Int.reduceBNe, not_false_eq_true, ne_eq, Int.reduceTMod, Int.reduceTDiv, beq_self_eq_true, bne_self_eq_false, List.contains_cons, List.contains_nil, Nat.reduceBEq, hz]) | (refine allI (fun b => ?_)) | (refine allT (fun τ => ?_)) | (refine brP (fun h => ?_) (fun h => ?_) <;> (try simp only [Bool.and_eq_true, Bool.and_eq_false_iff, Bool.or_eq_true, Bool.or_eq_false_iff, Bool.not_eq_true', Bool.not_eq_false', decide_eq_true_eq, decide_eq_false_iff_not, beq_iff_eq, beq_eq_false_iff_ne, ne_eq, bne_iff_ne, Int.not_lt, Int.not_le] at h)))
      first | refine callG_U (fun hg => awake) ?_ | refine callG_T (fun hg => awake) ?_ | refine callG_of (fun hg => awake) ?_
      simp (disch := first | omega | (simp only [List.length_cons, List.length_nil]; first | done | omega)) only [go_sem, Nat.reduceAdd, Nat.reduceMul, Nat.reduceSub, Nat.reduceEqDiff, Nat.reduceLeDiff, Nat.reduceMod, Nat.reduceLT, Int.reduceToNat, Int.reduceAdd, Int.reduceSub, Int.reduceMul, Int.reduceNeg, Int.reduceLE, Int.reduceLT, Int.toNat_natCast, Int.cast_ofNat_Int, Int.reduceNe, Int.reduceEq, Int.reduceBEq, Int.reduceBNe, not_false_eq_true, ne_eq, Int.reduceTMod, Int.reduceTDiv, beq_self_eq_true, bne_self_eq_false, List.contains_cons, List.contains_nil, Nat.reduceBEq]
    · have eP2 : stP i = ⟨65, 1 + i, 0, 0, i - 63⟩ := by rw [stP, if_neg h63]
      rw [if_neg h63, if_neg h63, eP2] at eP
      rw [eP] at htk htk2 hpt
      have eT : takeB (⟨64, 0, 1, 1 + i, 0, [], [stR 1], ⟨65, 1 + i, 0, 0, i - 63⟩, 0, 64, i - 63, false, []⟩ : Bl) 0 64 = ⟨64, 0, 1, 1 + i + 1, 0, [], [lossR ⟨65, 1 + i, 0, 0, i - 63⟩ 0 (1 + i + 1)], lo0, 0, 64, i - 63, false, []⟩ := by
        unfold takeB
        rw [if_pos]
        · rfl
        · refine ⟨by simp [pend], ?_⟩
          unfold canTell
          refine ⟨?_, by simp only [restB]; omega, by omega, by omega, .inl rfl⟩
          show (0 : Int) + 0 < 64
          omega
      rw [eT] at htk htk2
      have eU : takeB (⟨64, 0, 1, 1 + i + 1, 0, [], [lossR ⟨65, 1 + i, 0, 0, i - 63⟩ 0 (1 + i + 1)], lo0, 0, 64, i - 63, false, []⟩ : Bl) 0 64 = ⟨64, 0, 1, 1 + i + 1, 0, [], [], lo0, 0, 64, i - 63, false, []⟩ := by rfl
      rw [eU] at htk2
      have eV : takeN (⟨64, 0, 1, 1 + i, 0, [], [stR 1], ⟨65, 1 + i, 0, 0, i - 63⟩, 0, 64, i - 63, false, []⟩ : Bl) 64 = 1 := by rfl
      have eV2 : takeN (⟨64, 0, 1, 1 + i + 1, 0, [], [lossR ⟨65, 1 + i, 0, 0, i - 63⟩ 0 (1 + i + 1)], lo0, 0, 64, i - 63, false, []⟩ : Bl) 64 = 1 := by rfl
      rw [eV] at htk
      rw [eV2] at htk2
      simp only [List.take_succ_cons, List.take_zero] at htk htk2
      have hls := rloss ⟨65, 1 + i, 0, 0, i - 63⟩ 0
      have hst := stamp [lossR ⟨65, 1 + i, 0, 0, i - 63⟩ 0 0] ⟨by simp, by simp [lossR, lossP]⟩ (1 + i + 1)
      have hsm := sameR (lossR ⟨65, 1 + i, 0, 0, i - 63⟩ 0 (1 + i + 1)) (by simp [lossR, lossP])
      have hst' := LCalls.args hst (args' := [.fsl 4 1 (RcC (lossR ⟨65, 1 + i, 0, 0, i - 63⟩ 0 0)), .int .i64 (1 + i + 1)]) ⟨by simpa [RcS] using leV.fsl_sl _ _ _, leV.refl _, trivial⟩
      unfold BlL BlC InS RcS NoS at hpt htk htk2
      have hpt' := LCalls.args hpt (args' := [_, .agg [.int .i64 1005, .int .i64 0, .int .i64 1, .fsl 1 0 []], .bool true]) ⟨leV.refl _, leV.agg ⟨leV.refl _, leV.refl _, leV.refl _, leV.nil_sl _ _, trivial⟩, leV.refl _, trivial⟩
      have hz : (if (0 : Int) < i - 63 then (i : Int) - 63 else 0) = i - 63 := by rw [if_pos (by omega)]
      have hzz : ((i : Int) - 63 == 0) = false := by simp; omega
      first | refine call_U (hpt') ?_ | refine call_T (hpt') ?_ | refine call_N (hpt') ?_ | refine call_of (hpt') ?_
      simp (disch := first | omega | (simp only [List.length_cons, List.length_nil]; first | done | omega)) only [go_sem, Nat.reduceAdd, Nat.reduceMul, Nat.reduceSub, Nat.reduceEqDiff, Nat.reduceLeDiff, Nat.reduceMod, Nat.reduceLT, Int.reduceToNat, Int.reduceAdd, Int.reduceSub, Int.reduceMul, Int.reduceNeg, Int.reduceLE, Int.reduceLT, Int.toNat_natCast, Int.cast_ofNat_Int, Int.reduceNe, Int.reduceEq, Int.reduceBEq, Int.reduceBNe, not_false_eq_true, ne_eq, Int.reduceTMod, Int.reduceTDiv, beq_self_eq_true, bne_self_eq_false, List.contains_cons, List.contains_nil, Nat.reduceBEq]
      first | refine call_U (htk) ?_ | refine call_T (htk) ?_ | refine call_N (htk) ?_ | refine call_of (htk) ?_
      simp (disch := first | omega | (simp only [List.length_cons, List.length_nil]; first | done | omega)) only [go_sem, Nat.reduceAdd, Nat.reduceMul, Nat.reduceSub, Nat.reduceEqDiff, Nat.reduceLeDiff, Nat.reduceMod, Nat.reduceLT, Int.reduceToNat, Int.reduceAdd, Int.reduceSub, Int.reduceMul, Int.reduceNeg, Int.reduceLE, Int.reduceLT, Int.toNat_natCast, Int.cast_ofNat_Int, Int.reduceNe, Int.reduceEq, Int.reduceBEq, Int.reduceBNe, not_false_eq_true, ne_eq, Int.reduceTMod, Int.reduceTDiv, beq_self_eq_true, bne_self_eq_false, List.contains_cons, List.contains_nil, Nat.reduceBEq]
      first | refine call_U (htk2) ?_ | refine call_T (htk2) ?_ | refine call_N (htk2) ?_ | refine call_of (htk2) ?_
      repeat' (first | (simp (disch := first | omega | (simp only [List.length_cons, List.length_nil]; first | done | omega)) only [go_sem, Nat.reduceAdd, Nat.reduceMul, Nat.reduceSub, Nat.reduceEqDiff, Nat.reduceLeDiff, Nat.reduceMod, Nat.reduceLT, Int.reduceToNat, Int.reduceAdd, Int.reduceSub, Int.reduceMul, Int.reduceNeg, Int.reduceLE, Int.reduceLT, Int.toNat_natCast, Int.cast_ofNat_Int, Int.reduceNe, Int.reduceEq, Int.reduceBEq, Int.reduceBNe, not_false_eq_true, ne_eq, Int.reduceTMod, Int.reduceTDiv, beq_self_eq_true, bne_self_eq_false, List.contains_cons, List.contains_nil, Nat.reduceBEq, hz, hzz]) | (refine allI (fun b => ?_)) | (refine allT (fun τ => ?_)) | (refine brP (fun h => ?_) (fun h => ?_) <;> (try simp only [Bool.and_eq_true, Bool.and_eq_false_iff, Bool.or_eq_true, Bool.or_eq_false_iff, Bool.not_eq_true', Bool.not_eq_false', decide_eq_true_eq, decide_eq_false_iff_not, beq_iff_eq, beq_eq_false_iff_ne, ne_eq, bne_iff_ne, Int.not_lt, Int.not_le] at h)))
      refine ⟨by simp [RcC], ?_⟩
      rw [show (64 : Int) + (i - 63) = 1 + i by omega]
      unfold LoC at hls
      rw [RcC_eq] at hls hst'
      first | refine callG_U (fun hg => hls) ?_ | refine callG_T (fun hg => hls) ?_ | refine callG_of (fun hg => hls) ?_
      simp (disch := first | omega | (simp only [List.length_cons, List.length_nil]; first | done | omega)) only [go_sem, Nat.reduceAdd, Nat.reduceMul, Nat.reduceSub, Nat.reduceEqDiff, Nat.reduceLeDiff, Nat.reduceMod, Nat.reduceLT, Int.reduceToNat, Int.reduceAdd, Int.reduceSub, Int.reduceMul, Int.reduceNeg, Int.reduceLE, Int.reduceLT, Int.toNat_natCast, Int.cast_ofNat_Int, Int.reduceNe, Int.reduceEq, Int.reduceBEq, Int.reduceBNe, not_false_eq_true, ne_eq, Int.reduceTMod, Int.reduceTDiv, beq_self_eq_true, bne_self_eq_false, List.contains_cons, List.contains_nil, Nat.reduceBEq]
      refine ⟨by simp [RcC], ?_⟩
      simp (disch := first | omega | (simp only [List.length_cons, List.length_nil]; first | done | omega)) only [go_sem, Nat.reduceAdd, Nat.reduceMul, Nat.reduceSub, Nat.reduceEqDiff, Nat.reduceLeDiff, Nat.reduceMod, Nat.reduceLT, Int.reduceToNat, Int.reduceAdd, Int.reduceSub, Int.reduceMul, Int.reduceNeg, Int.reduceLE, Int.reduceLT, Int.toNat_natCast, Int.cast_ofNat_Int, Int.reduceNe, Int.reduceEq, Int.reduceBEq, Int.reduceBNe, not_false_eq_true, ne_eq, Int.reduceTMod, Int.reduceTDiv, beq_self_eq_true, bne_self_eq_false, List.contains_cons, List.contains_nil, Nat.reduceBEq, zR]
      first | refine callG_U (fun hg => hst') ?_ | refine callG_T (fun hg => hst') ?_ | refine callG_of (fun hg => hst') ?_
      simp (disch := first | omega | (simp only [List.length_cons, List.length_nil]; first | done | omega)) only [go_sem, Nat.reduceAdd, Nat.reduceMul, Nat.reduceSub, Nat.reduceEqDiff, Nat.reduceLeDiff, Nat.reduceMod, Nat.reduceLT, Int.reduceToNat, Int.reduceAdd, Int.reduceSub, Int.reduceMul, Int.reduceNeg, Int.reduceLE, Int.reduceLT, Int.toNat_natCast, Int.cast_ofNat_Int, Int.reduceNe, Int.reduceEq, Int.reduceBEq, Int.reduceBNe, not_false_eq_true, ne_eq, Int.reduceTMod, Int.reduceTDiv, beq_self_eq_true, bne_self_eq_false, List.contains_cons, List.contains_nil, Nat.reduceBEq, RcS, List.map_cons, List.map_nil, List.flatMap_cons, List.flatMap_nil, List.append_nil]
      refine ⟨by simp [RcC], by simp [RcC], ?_⟩
      rw [show stampR (1 + i + 1) (lossR ⟨65, 1 + i, 0, 0, i - 63⟩ 0 0) = lossR ⟨65, 1 + i, 0, 0, i - 63⟩ 0 (1 + i + 1) from rfl]
      simp only [take4_rc]
      first | refine callG_U (fun hg => hsm) ?_ | refine callG_T (fun hg => hsm) ?_ | refine callG_of (fun hg => hsm) ?_
      simp (disch := first | omega | (simp only [List.length_cons, List.length_nil]; first | done | omega)) only [go_sem, Nat.reduceAdd, Nat.reduceMul, Nat.reduceSub, Nat.reduceEqDiff, Nat.reduceLeDiff, Nat.reduceMod, Nat.reduceLT, Int.reduceToNat, Int.reduceAdd, Int.reduceSub, Int.reduceMul, Int.reduceNeg, Int.reduceLE, Int.reduceLT, Int.toNat_natCast, Int.cast_ofNat_Int, Int.reduceNe, Int.reduceEq, Int.reduceBEq, Int.reduceBNe, not_false_eq_true, ne_eq, Int.reduceTMod, Int.reduceTDiv, beq_self_eq_true, bne_self_eq_false, List.contains_cons, List.contains_nil, Nat.reduceBEq, lo0, beq_self_eq_true, Bool.and_self]
      first | refine callG_U (fun hg => awake) ?_ | refine callG_T (fun hg => awake) ?_ | refine callG_of (fun hg => awake) ?_
      simp (disch := first | omega | (simp only [List.length_cons, List.length_nil]; first | done | omega)) only [go_sem, Nat.reduceAdd, Nat.reduceMul, Nat.reduceSub, Nat.reduceEqDiff, Nat.reduceLeDiff, Nat.reduceMod, Nat.reduceLT, Int.reduceToNat, Int.reduceAdd, Int.reduceSub, Int.reduceMul, Int.reduceNeg, Int.reduceLE, Int.reduceLT, Int.toNat_natCast, Int.cast_ofNat_Int, Int.reduceNe, Int.reduceEq, Int.reduceBEq, Int.reduceBNe, not_false_eq_true, ne_eq, Int.reduceTMod, Int.reduceTDiv, beq_self_eq_true, bne_self_eq_false, List.contains_cons, List.contains_nil, Nat.reduceBEq]
end Go.Proofs.Ytofpepjehiohcaa
