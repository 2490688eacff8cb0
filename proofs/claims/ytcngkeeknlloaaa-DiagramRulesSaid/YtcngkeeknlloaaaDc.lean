/- Layer 16: Atoms. -/
import Derived.Test.YtcngkeeknlloaaaDb
namespace Go.Proofs.Ytcngkeeknlloaaa
open Go Go.Lx
set_option linter.unusedSimpArgs false
set_option linter.unusedVariables false
set_option maxRecDepth 100000
set_option maxHeartbeats 4000000

def goodW (n : Nat) (wh : List Int) : Bool := decide ((∀ i ∈ wh, 0 ≤ i ∧ i < n) ∧ wh.Nodup)
/-- atoms are gathered -/
def gather : List At → List At → Option (List At)
  | acc, [] => some acc
  | acc, a :: r => if a ∈ acc then gather acc r else if acc.length = 12 then none else gather (acc ++ [a]) r
def allA (l : List Rl) (wh : List Int) : List At := wh.flatMap fun i => ownA (l.getD i.toNat rl0)
def atomsR (l : List Rl) (wh : List Int) : List At × Int := if goodW l.length wh then (match gather [] (allA l wh) with
  | some x => (x, 0)
  | none => ([], 161)) else ([], 160)
theorem idxA_mem {l : List At} {a : At} : 0 ≤ idxA l a ↔ a ∈ l := by
  unfold idxA
  split
  · rename_i i h
    obtain ⟨h1, h2, _⟩ := List.findIdx?_eq_some_iff_getElem.1 h
    simp only [beq_iff_eq] at h2
    subst h2
    simp
  · rename_i h
    rw [List.findIdx?_eq_none_iff] at h
    constructor
    · intro h2; omega
    · intro h2
      have := h a h2
      simp at this
/-- the entries of the map of the indices that were seen -/
def seenE (wh : List Int) : List (LV × LV) := wh.map fun i => (.int .i64 i, .bool true)
theorem seen_look (wh : List Int) (i : Int) : lookL (seenE wh) (.int .i64 i) = if i ∈ wh then some (.bool true) else none := by
  induction wh with
  | nil => rfl
  | cons j r ih =>
    simp only [seenE, List.map_cons, lookL, List.find?_cons, eqK, eqK1] at ih ⊢
    by_cases h : i = j
    · subst h; simp
    · simp only [h, decide_false, Bool.and_false, List.mem_cons, false_or]
      exact ih
theorem seen_upd (wh : List Int) (i : Int) (h : i ∉ wh) : updL (seenE wh) (.int .i64 i) (.bool true) = seenE (wh ++ [i]) := by
  induction wh with
  | nil => rfl
  | cons j r ih =>
    have h1 : i ≠ j := fun e => h (by simp [e])
    have h2 : i ∉ r := fun e => h (by simp [e])
    simp only [seenE, List.map_cons, updL, eqK, eqK1, List.cons_append] at ih ⊢
    rw [if_neg (by simp [h1]), ih h2]
theorem keyI {i : Int} (h : 0 ≤ i ∧ i ≤ 1000000) : KeyOK Try.prog 3 (.int .i64 i) := ⟨_, _, rfl, Maps.keyOf_int_mk Try.underlying3 (by simp [Lit.wf, IntKind.min, IntKind.max, IntKind.signed, IntKind.bits]; omega)⟩
theorem keysI {i : Int} {wh : List Int} {n : Nat} (hn : n ≤ 1000000) (h : 0 ≤ i ∧ i < n) (hw : ∀ j ∈ wh, 0 ≤ j ∧ j < n) : KeysOK Try.prog 3 (.int .i64 i) (seenE wh) := by
  refine ⟨Maps.int_keyed Try.underlying3, keyI (by omega), fun p hp => ?_⟩
  obtain ⟨j, hj, rfl⟩ := List.mem_map.1 hp
  have := hw j hj
  exact keyI (by omega)
theorem pick_00a (c a g : Bool) : pickQ (.bool c) (.bool a) (.opt g .any) = (c = true, .bool a) := by simp [pickQ, LV.v, LV.g]
theorem goodW_not {n : Nat} {wh : List Int} {i : Nat} (hi : i < wh.length) (h : ¬ (0 ≤ wh.getD i 0 ∧ wh.getD i 0 < n) ∨ wh.getD i 0 ∈ wh.take i) : goodW n wh = false := by
  have hg : wh.getD i 0 = wh[i] := by simp [List.getD, hi]
  rw [hg] at h
  simp only [goodW, decide_eq_false_iff_not]
  rintro ⟨h1, h2⟩
  rcases h with h | h
  · exact h (h1 _ (List.getElem_mem hi))
  · obtain ⟨j, hj, he⟩ := List.getElem_of_mem h
    rw [List.length_take] at hj
    rw [List.getElem_take] at he
    have hij := (List.nodup_iff_pairwise_ne.1 h2)
    have := List.pairwise_iff_getElem.1 hij j i (by omega) hi (by omega)
    exact this (by simpa using he)
theorem goodW_all {n : Nat} {wh : List Int} (h : ∀ i, i < wh.length → (0 ≤ wh.getD i 0 ∧ wh.getD i 0 < n) ∧ wh.getD i 0 ∉ wh.take i) : goodW n wh = true := by
  have hg : ∀ i (hi : i < wh.length), wh.getD i 0 = wh[i] := fun i hi => by simp [List.getD, hi]
  simp only [goodW, decide_eq_true_eq]
  refine ⟨fun x hx => ?_, ?_⟩
  · obtain ⟨i, hi, rfl⟩ := List.getElem_of_mem hx
    rw [← hg i hi]
    exact (h i hi).1
  · rw [List.nodup_iff_pairwise_ne, List.pairwise_iff_getElem]
    intro i j hi hj hij he
    have := (h j hj).2
    rw [hg j hj] at this
    apply this
    rw [← he]
    exact List.mem_take_iff_getElem.2 ⟨i, by omega, rfl⟩
theorem allA_step {l : List Rl} {wh : List Int} {i : Nat} (h : i < wh.length) : allA l (wh.drop i) = ownA (l.getD (wh.getD i 0).toNat rl0) ++ allA l (wh.drop (i + 1)) := by
  rw [List.drop_eq_getElem_cons h, allA, List.flatMap_cons]
  simp [List.getD, h, allA]
theorem atoms (l : List Rl) (wh : List Int) (h1 : l.length ≤ 1000000) (h2 : wh.length ≤ 1000000) (h4 : ∀ r ∈ l, r.ts.length ≤ 1000000) : Pure Try.prog gl 15 [RlS l, WhS wh] (.tup [AtS (atomsR l wh).1, .int .i64 (atomsR l wh).2]) := by
  refine fn_pureT Try.func15 t15 Try.ntmps15 (by simp) ?_
  have hlr := len_rl l
  have hlm : (wh.map (LV.int .i64)).length = wh.length := List.length_map _
  have hR : atomsR l wh = if goodW l.length wh then (match gather [] (allA l wh) with
    | some x => (x, (0 : Int))
    | none => ([], (161 : Int))) else ([], (160 : Int)) := rfl
  unfold c15 r15
  rw [RlS_eq, WhS_eq]
  repeat' (first | (simp (disch := first | omega | (simp only [List.length_cons, List.length_nil]; first | done | omega)) only [go_sem, Nat.reduceAdd, Nat.reduceMul, Nat.reduceSub, Nat.reduceEqDiff, Nat.reduceLeDiff, Nat.reduceMod, Nat.reduceLT, Int.reduceToNat, Int.reduceAdd, Int.reduceSub, Int.reduceMul, Int.reduceNeg, Int.reduceLE, Int.reduceLT, Int.reduceNe, Int.reduceEq, Int.reduceBEq, Int.reduceBNe, Int.reduceTMod, Int.reduceTDiv, Nat.reduceBEq]) | (refine allI (fun b => ?_)) | (refine allT (fun τ => ?_)) | (refine brP (fun h => ?_) (fun h => ?_) <;> (try simp only [zgx, zbx] at h)) | (apply And.intro; focus (first | omega | (simp; done) | (simp +contextual; done) | (intros; and_intros <;> first | assumption | omega) | (intros; simp_all; done) | (intro hgd; refine ⟨hgd, ?_⟩; simp [hgd]; done) | (intro hgd; simp only [zgx] at hgd ⊢; omega))) | fail)
  refine loopI (ι := Nat) (fun i => i ≤ wh.length ∧ ∀ k, k < i → (0 ≤ wh.getD k 0 ∧ wh.getD k 0 < l.length) ∧ wh.getD k 0 ∉ wh.take k) (fun i => [(17, .int .i64 i), (16, .int .i64 wh.length), (15, .sl 1 wh.length (wh.map (LV.int .i64))), (6, .raw (.map (some b))), (5, .int .i64 0), (4, .fsl 1 0 []), (0, .sl 8 l.length (l.flatMap RlC)), (1, .sl 1 wh.length (wh.map (LV.int .i64)))]) (fun i => [(14, .map b (seenE (wh.take i)))]) (fun i => wh.length - i) 0 ⟨by omega, fun k hk => absurd hk (by omega)⟩ (Ents.envH (by simp [go_sem]) rfl) ?_
  rintro i ⟨hi, hg⟩
  simp (disch := first | omega | (simp only [List.length_cons, List.length_nil]; first | done | omega)) only [go_sem, Nat.reduceAdd, Nat.reduceMul, Nat.reduceSub, Nat.reduceEqDiff, Nat.reduceLeDiff, Nat.reduceMod, Nat.reduceLT, Int.reduceToNat, Int.reduceAdd, Int.reduceSub, Int.reduceMul, Int.reduceNeg, Int.reduceLE, Int.reduceLT, Int.reduceNe, Int.reduceEq, Int.reduceBEq, Int.reduceBNe, Int.reduceTMod, Int.reduceTDiv, Nat.reduceBEq]
  refine brP (fun hb => ?_) (fun hb => ?_)
  · have hlt : i < wh.length := by simpa using hb
    have hts := take_succ_getD (0 : Int) wh hlt
    have g1 : (wh.map (LV.int .i64)).getD i .any = .int .i64 (wh.getD i 0) := by simp [List.getD, hlt]
    have hnot := goodW_not (n := l.length) hlt
    have hgi : ∀ j ∈ wh.take i, 0 ≤ j ∧ j < l.length := fun j hj => by
      obtain ⟨k, hk, rfl⟩ := List.getElem_of_mem hj
      rw [List.length_take] at hk
      rw [List.getElem_take]
      have := (hg k (by omega)).1
      have hgk : wh.getD k 0 = wh[k] := by simp [List.getD, show k < wh.length by omega]
      rw [hgk] at this
      exact this
    have hlk := seen_look (wh.take i) (wh.getD i 0)
    have hup := seen_upd (wh.take i) (wh.getD i 0)
    have hks := fun h => keysI (i := wh.getD i 0) (n := l.length) h1 h hgi
    generalize hw : wh.getD i 0 = w at *
    repeat' (first | (simp (disch := first | omega | (simp only [List.length_cons, List.length_nil]; first | done | omega)) only [go_sem, Nat.reduceAdd, Nat.reduceMul, Nat.reduceSub, Nat.reduceEqDiff, Nat.reduceLeDiff, Nat.reduceMod, Nat.reduceLT, Int.reduceToNat, Int.reduceAdd, Int.reduceSub, Int.reduceMul, Int.reduceNeg, Int.reduceLE, Int.reduceLT, Int.reduceNe, Int.reduceEq, Int.reduceBEq, Int.reduceBNe, Int.reduceTMod, Int.reduceTDiv, Nat.reduceBEq, g1, Nat.mul_one]) | (refine allI (fun b => ?_)) | (refine allT (fun τ => ?_)) | (refine brP (fun h => ?_) (fun h => ?_) <;> (try simp only [zgx, zbx] at h)) | (apply And.intro; focus (first | omega | (simp; done) | (simp +contextual; done) | (intros; and_intros <;> first | assumption | omega) | (intros; simp_all; done) | (intro hgd; refine ⟨hgd, ?_⟩; simp [hgd]; done) | (intro hgd; simp only [zgx] at hgd ⊢; omega))) | fail)
    · have d1 : decide (w < 0) = false := by simp; omega
      have d2 : decide ((l.length : Int) ≤ w) = false := by simp; omega
      by_cases hm : w ∈ wh.take i
      · rw [hlk, if_pos hm]
        repeat' (first | (simp (disch := first | omega | (simp only [List.length_cons, List.length_nil]; first | done | omega)) only [go_sem, Nat.reduceAdd, Nat.reduceMul, Nat.reduceSub, Nat.reduceEqDiff, Nat.reduceLeDiff, Nat.reduceMod, Nat.reduceLT, Int.reduceToNat, Int.reduceAdd, Int.reduceSub, Int.reduceMul, Int.reduceNeg, Int.reduceLE, Int.reduceLT, Int.reduceNe, Int.reduceEq, Int.reduceBEq, Int.reduceBNe, Int.reduceTMod, Int.reduceTDiv, Nat.reduceBEq, d1, d2, Option.getD_some]) | (refine allI (fun b => ?_)) | (refine allT (fun τ => ?_)) | (refine brP (fun h => ?_) (fun h => ?_) <;> (try simp only [zgx, zbx] at h)) | (apply And.intro; focus (first | omega | (simp; done) | (simp +contextual; done) | (intros; and_intros <;> first | assumption | omega) | (intros; simp_all; done) | (intro hgd; refine ⟨hgd, ?_⟩; simp [hgd]; done) | (intro hgd; simp only [zgx] at hgd ⊢; omega))) | fail)
        rw [hR, hnot (.inr hm)]
        exact leV.tup ⟨leV.nil_sl _ _, leV.refl _, trivial⟩
      · rw [hlk, if_neg hm]
        repeat' (first | (simp (disch := first | omega | (simp only [List.length_cons, List.length_nil]; first | done | omega)) only [go_sem, Nat.reduceAdd, Nat.reduceMul, Nat.reduceSub, Nat.reduceEqDiff, Nat.reduceLeDiff, Nat.reduceMod, Nat.reduceLT, Int.reduceToNat, Int.reduceAdd, Int.reduceSub, Int.reduceMul, Int.reduceNeg, Int.reduceLE, Int.reduceLT, Int.reduceNe, Int.reduceEq, Int.reduceBEq, Int.reduceBNe, Int.reduceTMod, Int.reduceTDiv, Nat.reduceBEq, d1, d2, Option.getD_none]) | (refine allI (fun b => ?_)) | (refine allT (fun τ => ?_)) | (refine brP (fun h => ?_) (fun h => ?_) <;> (try simp only [zgx, zbx] at h)) | (apply And.intro; focus (first | omega | (simp; done) | (simp +contextual; done) | (intros; and_intros <;> first | assumption | omega) | (intros; simp_all; done) | (intro hgd; refine ⟨hgd, ?_⟩; simp [hgd]; done) | (intro hgd; simp only [zgx] at hgd ⊢; omega))) | fail)
        refine ⟨⟨hks (by omega), rfl⟩, ⟨i + 1, by omega, fun k hk => ?_⟩, by dsimp only; omega, Ents.envH (by simp [go_sem]) (by rw [hup hm, ← hts])⟩
        rcases (by omega : k < i ∨ k = i) with h | h
        · exact hg k h
        · rw [h, hw]; exact ⟨by omega, hm⟩
    · repeat' (first | (simp (disch := first | omega | (simp only [List.length_cons, List.length_nil]; first | done | omega)) only [go_sem, Nat.reduceAdd, Nat.reduceMul, Nat.reduceSub, Nat.reduceEqDiff, Nat.reduceLeDiff, Nat.reduceMod, Nat.reduceLT, Int.reduceToNat, Int.reduceAdd, Int.reduceSub, Int.reduceMul, Int.reduceNeg, Int.reduceLE, Int.reduceLT, Int.reduceNe, Int.reduceEq, Int.reduceBEq, Int.reduceBNe, Int.reduceTMod, Int.reduceTDiv, Nat.reduceBEq, pick_00a]) | (refine allI (fun b => ?_)) | (refine allT (fun τ => ?_)) | (refine brP (fun h => ?_) (fun h => ?_) <;> (try simp only [zgx, zbx] at h)) | (apply And.intro; focus (first | omega | (simp; done) | (simp +contextual; done) | (intros; and_intros <;> first | assumption | omega) | (intros; simp_all; done) | (intro hgd; refine ⟨hgd, ?_⟩; simp [hgd]; done) | (intro hgd; simp only [zgx] at hgd ⊢; omega))) | fail)
      rw [hR, hnot (.inl (by omega))]
      exact leV.tup ⟨leV.nil_sl _ _, leV.refl _, trivial⟩
  · have hlen : i = wh.length := by simp only [decide_eq_false_iff_not] at hb; omega
    subst hlen
    have hgood := goodW_all hg
    rw [if_pos hgood] at hR
    have hgr : ∀ k, k < wh.length → 0 ≤ wh.getD k 0 ∧ wh.getD k 0 < l.length := fun k hk => (hg k hk).1
    repeat' (first | (simp (disch := first | omega | (simp only [List.length_cons, List.length_nil]; first | done | omega)) only [go_sem, Nat.reduceAdd, Nat.reduceMul, Nat.reduceSub, Nat.reduceEqDiff, Nat.reduceLeDiff, Nat.reduceMod, Nat.reduceLT, Int.reduceToNat, Int.reduceAdd, Int.reduceSub, Int.reduceMul, Int.reduceNeg, Int.reduceLE, Int.reduceLT, Int.reduceNe, Int.reduceEq, Int.reduceBEq, Int.reduceBNe, Int.reduceTMod, Int.reduceTDiv, Nat.reduceBEq]) | (refine allI (fun b => ?_)) | (refine allT (fun τ => ?_)) | (refine brP (fun h => ?_) (fun h => ?_) <;> (try simp only [zgx, zbx] at h)) | (apply And.intro; focus (first | omega | (simp; done) | (simp +contextual; done) | (intros; and_intros <;> first | assumption | omega) | (intros; simp_all; done) | (intro hgd; refine ⟨hgd, ?_⟩; simp [hgd]; done) | (intro hgd; simp only [zgx] at hgd ⊢; omega))) | fail)
    refine loopI (ι := Nat × List At × Tok) (fun y => y.1 ≤ wh.length ∧ y.2.1.length ≤ 12 ∧ gather [] (allA l wh) = gather y.2.1 (allA l (wh.drop y.1))) (fun y => [(39, .int .i64 y.1), (38, .int .i64 wh.length), (37, .sl 1 wh.length (wh.map (LV.int .i64))), (9, .osl 62 y.2.2 8 y.2.1.length (y.2.1.flatMap AtC)), (0, .sl 8 l.length (l.flatMap RlC))]) (fun y => [(62, .tok y.2.2)]) (fun y => wh.length - y.1) (0, [], ⟨0, 0, 0⟩) ⟨by dsimp only; omega, by simp, by simp⟩ (Ents.dum 62 (Ents.sub (by simp [go_sem, leV.nil_osl]) ⟨_, sub1, List.Perm.refl _⟩)) ?_
    rintro ⟨i, acc, τ⟩ ⟨hi, hac, hga⟩
    dsimp only at hi hac hga ⊢
    simp (disch := first | omega | (simp only [List.length_cons, List.length_nil]; first | done | omega)) only [go_sem, Nat.reduceAdd, Nat.reduceMul, Nat.reduceSub, Nat.reduceEqDiff, Nat.reduceLeDiff, Nat.reduceMod, Nat.reduceLT, Int.reduceToNat, Int.reduceAdd, Int.reduceSub, Int.reduceMul, Int.reduceNeg, Int.reduceLE, Int.reduceLT, Int.reduceNe, Int.reduceEq, Int.reduceBEq, Int.reduceBNe, Int.reduceTMod, Int.reduceTDiv, Nat.reduceBEq]
    refine brP (fun hb => ?_) (fun hb => ?_)
    · have hlt : i < wh.length := by simpa using hb
      have g1 : (wh.map (LV.int .i64)).getD i .any = .int .i64 (wh.getD i 0) := by simp [List.getD, hlt]
      have hx := hgr i hlt
      have hst := allA_step (l := l) hlt
      generalize wh.getD i 0 = w at *
      obtain ⟨n, rfl⟩ : ∃ n : Nat, w = (n : Int) := ⟨w.toNat, by omega⟩
      have hn : n < l.length := by omega
      have e1 : ((n : Int)).toNat = n := Int.toNat_natCast n
      have e2 : ((l.flatMap RlC).drop (n * 8)).take 8 = RlC (l.getD n rl0) := take_rows (f := RlC) (fun _ => rfl) rl0 _ hn
      have ha := atomsOf_ (l.getD n rl0) (h4 _ (getD_memA rl0 hn))
      have hlo := ownA_len (l.getD n rl0)
      have hlt2 := h4 _ (getD_memA rl0 hn)
      rw [e1] at hst
      generalize l.getD n rl0 = r at *
      rw [RlC_eq] at ha e2
      rw [AtS_eq] at ha
      repeat' (first | (simp (disch := first | omega | (simp only [List.length_cons, List.length_nil]; first | done | omega)) only [go_sem, Nat.reduceAdd, Nat.reduceMul, Nat.reduceSub, Nat.reduceEqDiff, Nat.reduceLeDiff, Nat.reduceMod, Nat.reduceLT, Int.reduceToNat, Int.reduceAdd, Int.reduceSub, Int.reduceMul, Int.reduceNeg, Int.reduceLE, Int.reduceLT, Int.reduceNe, Int.reduceEq, Int.reduceBEq, Int.reduceBNe, Int.reduceTMod, Int.reduceTDiv, Nat.reduceBEq, e1, e2, g1, Nat.mul_one]) | (refine allI (fun b => ?_)) | (refine allT (fun τ => ?_)) | (refine brP (fun h => ?_) (fun h => ?_) <;> (try simp only [zgx, zbx] at h)) | refine call_U (ha) ?_ | refine callG_U (fun _ => ha) ?_ | refine call_T (ha) ?_ | refine callG_T (fun _ => ha) ?_ | refine call_N (ha) ?_ | refine call_of (ha) ?_ | refine callG_of (fun _ => ha) ?_ | (apply And.intro; focus (first | omega | (simp; done) | (simp +contextual; done) | (intros; and_intros <;> first | assumption | omega) | (intros; simp_all; done) | (intro hgd; refine ⟨hgd, ?_⟩; simp [hgd]; done) | (intro hgd; simp only [zgx] at hgd ⊢; omega))) | fail)
      have hlo2 := len_at (ownA r)
      generalize hown : ownA r = own at *
      rw [hst] at hga
      refine loopI (ι := Nat × List At × Tok) (fun y => y.1 ≤ own.length ∧ y.2.1.length ≤ 12 ∧ gather [] (allA l wh) = gather y.2.1 (own.drop y.1 ++ allA l (wh.drop (i + 1)))) (fun y => [(49, .int .i64 y.1), (48, .int .i64 own.length), (47, .sl 8 own.length (own.flatMap AtC)), (9, .osl 62 y.2.2 8 y.2.1.length (y.2.1.flatMap AtC)), (39, .int .i64 i), (38, .int .i64 wh.length), (37, .sl 1 wh.length (wh.map (LV.int .i64))), (0, .sl 8 l.length (l.flatMap RlC))]) (fun y => [(62, .tok y.2.2)]) (fun y => own.length - y.1) (0, acc, τ) ⟨by dsimp only; omega, hac, by simpa using hga⟩ (Ents.envH (by simp [go_sem]) rfl) ?_
      rintro ⟨j, acc2, τ2⟩ ⟨hj, hac2, hga2⟩
      dsimp only at hj hac2 hga2 ⊢
      simp (disch := first | omega | (simp only [List.length_cons, List.length_nil]; first | done | omega)) only [go_sem, Nat.reduceAdd, Nat.reduceMul, Nat.reduceSub, Nat.reduceEqDiff, Nat.reduceLeDiff, Nat.reduceMod, Nat.reduceLT, Int.reduceToNat, Int.reduceAdd, Int.reduceSub, Int.reduceMul, Int.reduceNeg, Int.reduceLE, Int.reduceLT, Int.reduceNe, Int.reduceEq, Int.reduceBEq, Int.reduceBNe, Int.reduceTMod, Int.reduceTDiv, Nat.reduceBEq]
      refine brP (fun hb2 => ?_) (fun hb2 => ?_)
      · have hjl : j < own.length := by simp only [decide_eq_true_eq] at hb2; omega
        have e3 : ((own.flatMap AtC).drop (j * 8)).take 8 = AtC (own.getD j at0) := take_rows (f := AtC) (fun _ => rfl) at0 _ hjl
        have hdr : own.drop j = own.getD j at0 :: own.drop (j + 1) := by rw [List.drop_eq_getElem_cons hjl]; simp [List.getD, hjl]
        have hct : Pure Try.prog gl _ [.osl 62 τ2 8 acc2.length (acc2.flatMap AtC), .agg (AtC (own.getD j at0))] _ := LCalls.args (cont acc2 (own.getD j at0) (by omega)) ⟨leV.osl_sl _ _ _ _ _, leV.refl _, trivial⟩
        rw [hdr, List.cons_append, gather] at hga2
        generalize own.getD j at0 = a at *
        rw [AtC_eq] at e3 hct
        repeat' (first | (simp (disch := first | omega | (simp only [List.length_cons, List.length_nil]; first | done | omega)) only [go_sem, Nat.reduceAdd, Nat.reduceMul, Nat.reduceSub, Nat.reduceEqDiff, Nat.reduceLeDiff, Nat.reduceMod, Nat.reduceLT, Int.reduceToNat, Int.reduceAdd, Int.reduceSub, Int.reduceMul, Int.reduceNeg, Int.reduceLE, Int.reduceLT, Int.reduceNe, Int.reduceEq, Int.reduceBEq, Int.reduceBNe, Int.reduceTMod, Int.reduceTDiv, Nat.reduceBEq, e3, zAt]) | (refine allI (fun b => ?_)) | (refine allT (fun τ => ?_)) | (refine brP (fun h => ?_) (fun h => ?_) <;> (try simp only [zgx, zbx] at h)) | refine call_U (hct) ?_ | refine callG_U (fun _ => hct) ?_ | refine call_T (hct) ?_ | refine callG_T (fun _ => hct) ?_ | refine call_N (hct) ?_ | refine call_of (hct) ?_ | refine callG_of (fun _ => hct) ?_ | (apply And.intro; focus (first | omega | (simp; done) | (simp +contextual; done) | (intros; and_intros <;> first | assumption | omega) | (intros; simp_all; done) | (intro hgd; refine ⟨hgd, ?_⟩; simp [hgd]; done) | (intro hgd; simp only [zgx] at hgd ⊢; omega))) | fail)
        · rw [if_pos (idxA_mem.1 ‹_›)] at hga2
          exact ⟨⟨(j + 1, acc2, τ2), by dsimp only; omega, hac2, hga2⟩, by dsimp only; omega, Ents.sub (by simp [go_sem]) ⟨_, List.Sublist.cons _ (List.Sublist.refl _), List.Perm.refl _⟩⟩
        · rename_i n1 n2
          rw [if_neg (fun hm => by have := idxA_mem.2 hm; omega), if_pos (by omega)] at hga2
          rw [hR, hga2]
          exact leV.tup ⟨leV.nil_sl _ _, leV.refl _, trivial⟩
        · rename_i n1 n2
          rw [if_neg (fun hm => by have := idxA_mem.2 hm; omega), if_neg (by omega)] at hga2
          refine ⟨by simp only [roomy]; omega, fun τ' => ⟨⟨(j + 1, acc2 ++ [a], τ'), by dsimp only; omega, by simp; omega, hga2⟩, by dsimp only; omega, Ents.sub ⟨leV.refl _, leV.refl _, leV.refl _, leV.of_eq ?_, leV.refl _, leV.refl _, leV.refl _, leV.refl _, trivial⟩ ⟨_, List.Sublist.cons_cons _ (List.Sublist.cons _ (List.Sublist.refl _)), List.Perm.refl _⟩⟩⟩
          simp [go_sem, AtC_eq]
      · have hje : j = own.length := by simp only [decide_eq_false_iff_not] at hb2; omega
        rw [hje, List.drop_length, List.nil_append] at hga2
        repeat' (first | (simp (disch := first | omega | (simp only [List.length_cons, List.length_nil]; first | done | omega)) only [go_sem, Nat.reduceAdd, Nat.reduceMul, Nat.reduceSub, Nat.reduceEqDiff, Nat.reduceLeDiff, Nat.reduceMod, Nat.reduceLT, Int.reduceToNat, Int.reduceAdd, Int.reduceSub, Int.reduceMul, Int.reduceNeg, Int.reduceLE, Int.reduceLT, Int.reduceNe, Int.reduceEq, Int.reduceBEq, Int.reduceBNe, Int.reduceTMod, Int.reduceTDiv, Nat.reduceBEq]) | (refine allI (fun b => ?_)) | (refine allT (fun τ => ?_)) | (refine brP (fun h => ?_) (fun h => ?_) <;> (try simp only [zgx, zbx] at h)) | (apply And.intro; focus (first | omega | (simp; done) | (simp +contextual; done) | (intros; and_intros <;> first | assumption | omega) | (intros; simp_all; done) | (intro hgd; refine ⟨hgd, ?_⟩; simp [hgd]; done) | (intro hgd; simp only [zgx] at hgd ⊢; omega))) | fail)
        exact ⟨⟨(i + 1, acc2, τ2), by dsimp only; omega, hac2, hga2⟩, by dsimp only; omega, Ents.envH (by simp [go_sem]) rfl⟩
    · have hie : i = wh.length := by simp only [decide_eq_false_iff_not] at hb; omega
      rw [hie, List.drop_length] at hga
      repeat' (first | (simp (disch := first | omega | (simp only [List.length_cons, List.length_nil]; first | done | omega)) only [go_sem, Nat.reduceAdd, Nat.reduceMul, Nat.reduceSub, Nat.reduceEqDiff, Nat.reduceLeDiff, Nat.reduceMod, Nat.reduceLT, Int.reduceToNat, Int.reduceAdd, Int.reduceSub, Int.reduceMul, Int.reduceNeg, Int.reduceLE, Int.reduceLT, Int.reduceNe, Int.reduceEq, Int.reduceBEq, Int.reduceBNe, Int.reduceTMod, Int.reduceTDiv, Nat.reduceBEq]) | (refine allI (fun b => ?_)) | (refine allT (fun τ => ?_)) | (refine brP (fun h => ?_) (fun h => ?_) <;> (try simp only [zgx, zbx] at h)) | (apply And.intro; focus (first | omega | (simp; done) | (simp +contextual; done) | (intros; and_intros <;> first | assumption | omega) | (intros; simp_all; done) | (intro hgd; refine ⟨hgd, ?_⟩; simp [hgd]; done) | (intro hgd; simp only [zgx] at hgd ⊢; omega))) | fail)
      rw [hR, hga]
      exact leV.tup ⟨leV.osl_sl _ _ _ _ _, leV.refl _, trivial⟩
end Go.Proofs.Ytcngkeeknlloaaa
