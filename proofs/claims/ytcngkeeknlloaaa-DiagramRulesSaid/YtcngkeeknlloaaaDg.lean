/- Layer 16: Valid and Decide. -/
import Derived.Test.YtcngkeeknlloaaaDf
namespace Go.Proofs.Ytcngkeeknlloaaa
open Go Go.Lx
set_option linter.unusedSimpArgs false
set_option linter.unusedVariables false
set_option maxRecDepth 100000
set_option maxHeartbeats 4000000

theorem goodN_not {d : Dg} {i : Nat} (hi : i < d.ns.length) (h : ¬ nodeOk d.tb.length (d.ns.take i) (d.ns.getD i br0)) : goodN d = false := by
  simp only [goodN, decide_eq_false_iff_not]
  exact fun hh => h (hh i hi)
theorem take_brs (ns : List Br) (i : Nat) : (ns.flatMap BrC).take (i * 3) = (ns.take i).flatMap BrC := by
  induction ns generalizing i with
  | nil => simp
  | cons b r ih =>
    cases i with
    | zero => simp
    | succ i =>
      have e : (i + 1) * 3 = i * 3 + 3 := by omega
      rw [List.take_succ_cons, List.flatMap_cons, List.flatMap_cons, ← ih i, e]
      show (BrC b ++ _).take (i * 3 + (BrC b).length) = _
      rw [Nat.add_comm, List.take_length_add_append]
theorem valid (d : Dg) (h1 : d.ns.length ≤ 1000000) (h2 : d.tb.length ≤ 1000000) (hw : ∀ b ∈ d.ns, brW b) : Pure Try.prog gl 18 [.agg (DgC d)] (.bool (validP d)) := by
  refine fn_pureT Try.func18 t18 Try.ntmps18 (by simp) ?_
  have hle := len_br d.ns
  have hlt := len_at d.tb
  unfold c18 r18
  rw [DgC_eq]
  have hV : validP d = if 12 < d.tb.length then false else if d.ns.length = 0 then decide (d.r < 0) else if d.r ≠ d.ns.length - 1 then false else if goodN d = true then (fin d.ns d.ns.length d.r 0).1 else false := rfl
  generalize validP d = V at *
  repeat' (first | (simp (disch := first | omega | (simp only [List.length_cons, List.length_nil]; first | done | omega)) only [go_sem, Nat.reduceAdd, Nat.reduceMul, Nat.reduceSub, Nat.reduceEqDiff, Nat.reduceLeDiff, Nat.reduceMod, Nat.reduceLT, Int.reduceToNat, Int.reduceAdd, Int.reduceSub, Int.reduceMul, Int.reduceNeg, Int.reduceLE, Int.reduceLT, Int.reduceNe, Int.reduceEq, Int.reduceBEq, Int.reduceBNe, Int.reduceTMod, Int.reduceTDiv, Nat.reduceBEq]) | (refine allI (fun b => ?_)) | (refine allT (fun τ => ?_)) | (refine brP (fun h => ?_) (fun h => ?_) <;> (try simp only [zgx, zbx] at h)) | (apply And.intro; focus (first | omega | (simp; done) | (simp +contextual; done) | (intros; and_intros <;> first | assumption | omega) | (intros; simp_all; done) | (intro hgd; refine ⟨hgd, ?_⟩; simp [hgd]; done) | (intro hgd; simp only [zgx] at hgd ⊢; omega))) | fail)
  · rw [hV, if_pos (by omega)]
  · rw [hV, if_neg (by omega), if_pos (by omega)]
  · rw [hV, if_neg (by omega), if_neg (by omega), if_pos (by simpa using h)]
  · rename_i b1 n1 n2
    have hrl : d.r = d.ns.length - 1 := by simpa using h
    rw [if_neg (by omega), if_neg (by omega), if_neg (by omega)] at hV
    refine loopI (ι := Nat) (fun i => i ≤ d.ns.length ∧ ∀ j, j < i → nodeOk d.tb.length (d.ns.take j) (d.ns.getD j br0)) (fun i => [(28, .int .i64 i), (27, .int .i64 d.ns.length), (26, .sl 3 d.ns.length (d.ns.flatMap BrC)), (3, .raw (.map (some b))), (1, .ptr 1 b1 0)]) (fun i => [(24, .map b (seenB (d.ns.take i))), (1, .blk b1 [.sl 8 d.tb.length (d.tb.flatMap AtC), .sl 3 d.ns.length (d.ns.flatMap BrC), .int .i64 d.r])]) (fun i => d.ns.length - i) 0 ⟨by omega, fun j hj => absurd hj (by omega)⟩ (Ents.envH (by simp [go_sem]) rfl) ?_
    rintro i ⟨hi, hg⟩
    simp (disch := first | omega | (simp only [List.length_cons, List.length_nil]; first | done | omega)) only [go_sem, Nat.reduceAdd, Nat.reduceMul, Nat.reduceSub, Nat.reduceEqDiff, Nat.reduceLeDiff, Nat.reduceMod, Nat.reduceLT, Int.reduceToNat, Int.reduceAdd, Int.reduceSub, Int.reduceMul, Int.reduceNeg, Int.reduceLE, Int.reduceLT, Int.reduceNe, Int.reduceEq, Int.reduceBEq, Int.reduceBNe, Int.reduceTMod, Int.reduceTDiv, Nat.reduceBEq]
    refine brP (fun hb => ?_) (fun hb => ?_)
    · have hlt2 : i < d.ns.length := by simpa using hb
      have e2 : ((d.ns.flatMap BrC).drop (i * 3)).take 3 = BrC (d.ns.getD i br0) := take_rows (f := BrC) (fun _ => rfl) br0 _ hlt2
      have hts := take_succ_getD br0 d.ns hlt2
      have hnot := goodN_not hlt2
      have hwi := hw _ (getD_memA br0 hlt2)
      have hwt : ∀ c ∈ d.ns.take i, brW c := fun c hc => hw c (List.mem_of_mem_take hc)
      have htl : (d.ns.take i).length = i := by rw [List.length_take]; omega
      have hbl := fun a ref => below (d.ns.take i) a ref (by omega)
      rw [htl] at hbl
      have htk := take_brs d.ns i
      generalize hq : d.ns.getD i br0 = q at *
      have hlk := seenB_look (d.ns.take i) q
      have hup := seenB_upd (d.ns.take i) q
      have hks := keysS hwi hwt
      have hok : nodeOk d.tb.length (d.ns.take i) q ↔ (0 ≤ q.a ∧ q.a < d.tb.length) ∧ q.n ≠ q.y ∧ q ∉ d.ns.take i ∧ bel (d.ns.take i) q.a q.n = true ∧ bel (d.ns.take i) q.a q.y = true := Iff.rfl
      generalize hpre : d.ns.take i = pre at *
      rw [BrC_eq] at e2 hlk hup hks
      by_cases hA : (0 ≤ q.a ∧ q.a < d.tb.length) ∧ q.n ≠ q.y
      · have d1 : decide (q.a < 0) = false := by simp; omega
        have d2 : decide ((d.tb.length : Int) ≤ q.a) = false := by simp; omega
        have d3 : (q.n == q.y) = false := by simp [hA.2]
        by_cases hm : q ∈ pre
        · rw [if_pos hm] at hlk
          have hno : ¬ nodeOk d.tb.length pre q := fun hh => (hok.1 hh).2.2.1 hm
          rw [if_neg (by rw [hnot hno]; simp)] at hV
          repeat' (first | (simp (disch := first | omega | (simp only [List.length_cons, List.length_nil]; first | done | omega)) only [go_sem, Nat.reduceAdd, Nat.reduceMul, Nat.reduceSub, Nat.reduceEqDiff, Nat.reduceLeDiff, Nat.reduceMod, Nat.reduceLT, Int.reduceToNat, Int.reduceAdd, Int.reduceSub, Int.reduceMul, Int.reduceNeg, Int.reduceLE, Int.reduceLT, Int.reduceNe, Int.reduceEq, Int.reduceBEq, Int.reduceBNe, Int.reduceTMod, Int.reduceTDiv, Nat.reduceBEq, e2, htk, zBr, d1, d2, d3, hlk, Option.getD_some]) | (refine allI (fun b => ?_)) | (refine allT (fun τ => ?_)) | (refine brP (fun h => ?_) (fun h => ?_) <;> (try simp only [zgx, zbx] at h)) | (apply And.intro; focus (first | omega | (simp; done) | (simp +contextual; done) | (intros; and_intros <;> first | assumption | omega) | (intros; simp_all; done) | (intro hgd; refine ⟨hgd, ?_⟩; simp [hgd]; done) | (intro hgd; simp only [zgx] at hgd ⊢; omega))) | fail)
          rw [hV]
        · rw [if_neg hm] at hlk
          have hu := hup hm
          repeat' (first | (simp (disch := first | omega | (simp only [List.length_cons, List.length_nil]; first | done | omega)) only [go_sem, Nat.reduceAdd, Nat.reduceMul, Nat.reduceSub, Nat.reduceEqDiff, Nat.reduceLeDiff, Nat.reduceMod, Nat.reduceLT, Int.reduceToNat, Int.reduceAdd, Int.reduceSub, Int.reduceMul, Int.reduceNeg, Int.reduceLE, Int.reduceLT, Int.reduceNe, Int.reduceEq, Int.reduceBEq, Int.reduceBNe, Int.reduceTMod, Int.reduceTDiv, Nat.reduceBEq, e2, htk, zBr, d1, d2, d3, hlk, Option.getD_none, Nat.sub_zero]) | (refine allI (fun b => ?_)) | (refine allT (fun τ => ?_)) | (refine brP (fun h => ?_) (fun h => ?_) <;> (try simp only [zgx, zbx] at h)) | refine call_U (hbl _ _) ?_ | refine callG_U (fun _ => hbl _ _) ?_ | refine call_T (hbl _ _) ?_ | refine callG_T (fun _ => hbl _ _) ?_ | refine call_N (hbl _ _) ?_ | refine call_of (hbl _ _) ?_ | refine callG_of (fun _ => hbl _ _) ?_ | (apply And.intro; focus (first | omega | (simp; done) | (simp +contextual; done) | (intros; and_intros <;> first | assumption | omega) | (intros; simp_all; done) | (intro hgd; refine ⟨hgd, ?_⟩; simp [hgd]; done) | (intro hgd; simp only [zgx] at hgd ⊢; omega))) | fail)
          · rw [if_neg (by rw [hnot fun hh => by have := hok.1 hh; rcases h with h | h <;> simp_all]; simp)] at hV
            rw [hV]
          · refine ⟨⟨hks, rfl⟩, ⟨i + 1, by omega, fun j hj => ?_⟩, by dsimp only; omega, Ents.sub (by simp [go_sem]) ⟨_, List.Sublist.cons _ (List.Sublist.refl _), ?_⟩⟩
            · rcases (by omega : j < i ∨ j = i) with h9 | h9
              · exact hg j h9
              · rw [h9, hpre, hq]
                exact hok.2 ⟨hA.1, hA.2, hm, h.1, h.2⟩
            · dsimp only
              rw [hts, hu]
      · have hT : (decide (q.a < 0) || decide ((d.tb.length : Int) ≤ q.a) || q.n == q.y) = true := by
          by_cases h5 : q.n = q.y
          · simp [h5]
          · have : q.a < 0 ∨ (d.tb.length : Int) ≤ q.a := by
              by_cases h6 : q.a < 0
              · exact .inl h6
              · exact .inr (by by_cases h7 : (d.tb.length : Int) ≤ q.a; exact h7; exact absurd ⟨⟨by omega, by omega⟩, h5⟩ hA)
            simpa [h5] using this
        have hno : ¬ nodeOk d.tb.length pre q := fun hh => hA ⟨(hok.1 hh).1, (hok.1 hh).2.1⟩
        rw [if_neg (by rw [hnot hno]; simp)] at hV
        repeat' (first | (simp (disch := first | omega | (simp only [List.length_cons, List.length_nil]; first | done | omega)) only [go_sem, Nat.reduceAdd, Nat.reduceMul, Nat.reduceSub, Nat.reduceEqDiff, Nat.reduceLeDiff, Nat.reduceMod, Nat.reduceLT, Int.reduceToNat, Int.reduceAdd, Int.reduceSub, Int.reduceMul, Int.reduceNeg, Int.reduceLE, Int.reduceLT, Int.reduceNe, Int.reduceEq, Int.reduceBEq, Int.reduceBNe, Int.reduceTMod, Int.reduceTDiv, Nat.reduceBEq, e2, htk, zBr, hT, pick_00a]) | (refine allI (fun b => ?_)) | (refine allT (fun τ => ?_)) | (refine brP (fun h => ?_) (fun h => ?_) <;> (try simp only [zgx, zbx] at h)) | (apply And.intro; focus (first | omega | (simp; done) | (simp +contextual; done) | (intros; and_intros <;> first | assumption | omega) | (intros; simp_all; done) | (intro hgd; refine ⟨hgd, ?_⟩; simp [hgd]; done) | (intro hgd; simp only [zgx] at hgd ⊢; omega))) | fail)
        rw [hV]
    · have hlen : i = d.ns.length := by simp only [decide_eq_false_iff_not] at hb; omega
      subst hlen
      have hgd : goodN d = true := by simpa [goodN] using hg
      have hnm := numbered d h1 (goodN_down hg) (by omega)
      rw [if_pos hgd] at hV
      rw [DgC_eq] at hnm
      repeat' (first | (simp (disch := first | omega | (simp only [List.length_cons, List.length_nil]; first | done | omega)) only [go_sem, Nat.reduceAdd, Nat.reduceMul, Nat.reduceSub, Nat.reduceEqDiff, Nat.reduceLeDiff, Nat.reduceMod, Nat.reduceLT, Int.reduceToNat, Int.reduceAdd, Int.reduceSub, Int.reduceMul, Int.reduceNeg, Int.reduceLE, Int.reduceLT, Int.reduceNe, Int.reduceEq, Int.reduceBEq, Int.reduceBNe, Int.reduceTMod, Int.reduceTDiv, Nat.reduceBEq]) | (refine allI (fun b => ?_)) | (refine allT (fun τ => ?_)) | (refine brP (fun h => ?_) (fun h => ?_) <;> (try simp only [zgx, zbx] at h)) | refine call_U (hnm) ?_ | refine callG_U (fun _ => hnm) ?_ | refine call_T (hnm) ?_ | refine callG_T (fun _ => hnm) ?_ | refine call_N (hnm) ?_ | refine call_of (hnm) ?_ | refine callG_of (fun _ => hnm) ?_ | (apply And.intro; focus (first | omega | (simp; done) | (simp +contextual; done) | (intros; and_intros <;> first | assumption | omega) | (intros; simp_all; done) | (intro hgd; refine ⟨hgd, ?_⟩; simp [hgd]; done) | (intro hgd; simp only [zgx] at hgd ⊢; omega))) | fail)
      rw [hV]
/-- where answers lead -/
def walkD (ns : List Br) (ans : List Bool) : Nat → Int → Int
  | 0, r => r
  | k + 1, r => if r < 0 then r else walkD ns ans k (if (decide ((ns.getD r.toNat br0).a < ans.length) && ans.getD (ns.getD r.toNat br0).a.toNat false) = true then (ns.getD r.toNat br0).y else (ns.getD r.toNat br0).n)
def ruleOf (r : Int) : Int := if r = -1 then -1 else -2 - r
def decS (d : Dg) (ans : List Bool) : Int := if validP d = true then ruleOf (walkD d.ns ans d.ns.length d.r) else -1
theorem walkD_neg (ns : List Br) (ans : List Bool) (k : Nat) {r : Int} (h : r < 0) : walkD ns ans k r = r := by
  cases k with
  | zero => rfl
  | succ k => rw [walkD, if_pos h]
theorem walkD_fuel {ns : List Br} (hd : Down ns) (ans : List Bool) : ∀ (k m : Nat) (r : Int), r < ns.length → r < k → r < m → walkD ns ans k r = walkD ns ans m r
  | 0, m, r, h1, h2, h3 => by rw [walkD_neg _ _ m (by omega)]; rfl
  | k + 1, 0, r, h1, h2, h3 => by rw [walkD_neg _ _ (k + 1) (by omega)]; rfl
  | k + 1, m + 1, r, h1, h2, h3 => by
    rw [walkD, walkD]
    split
    · rfl
    · have := hd r.toNat (by omega)
      refine walkD_fuel hd ans k m _ ?_ ?_ ?_ <;> (split <;> omega)
theorem validP_facts {d : Dg} (h : validP d = true) : d.r < d.ns.length ∧ Down d.ns ∧ ∀ i, i < d.ns.length → 0 ≤ (d.ns.getD i br0).a := by
  unfold validP at h
  split at h
  · cases h
  · split at h
    · rename_i h0
      rw [decide_eq_true_eq] at h
      exact ⟨by omega, fun i hi => by omega, fun i hi => by omega⟩
    · split at h
      · cases h
      · split at h
        · rename_i h1 h2
          have hg : ∀ i, i < d.ns.length → nodeOk d.tb.length (d.ns.take i) (d.ns.getD i br0) := by simpa [goodN] using h2
          exact ⟨by omega, goodN_down hg, fun i hi => (hg i hi).1.1⟩
        · cases h
theorem wf_bd {n : Int} (h : (Lit.int .i64 n).wf = true) : -9223372036854775808 ≤ n ∧ n ≤ 9223372036854775807 := by
  simp [Lit.wf, IntKind.min, IntKind.max, IntKind.signed, IntKind.bits] at h
  omega
def BlS (l : List Bool) : LV := .sl 1 l.length (l.map LV.bool)
theorem BlS_eq (l : List Bool) : BlS l = .sl 1 l.length (l.map LV.bool) := Eq.trans rfl rfl
theorem decide_ (d : Dg) (ans : List Bool) (h1 : d.ns.length ≤ 1000000) (h2 : d.tb.length ≤ 1000000) (hw : ∀ b ∈ d.ns, brW b) (hr : (Lit.int .i64 d.r).wf = true) (ha : ans.length ≤ 1000000) : Pure Try.prog gl 19 [.agg (DgC d), BlS ans] (.int .i64 (decS d ans)) := by
  refine fn_pureT Try.func19 t19 Try.ntmps19 (by simp) ?_
  have hle := len_br d.ns
  have hlt := len_at d.tb
  have hlm : (ans.map LV.bool).length = ans.length := List.length_map _
  have hv := valid d h1 h2 hw
  have hD : decS d ans = if validP d = true then ruleOf (walkD d.ns ans d.ns.length d.r) else -1 := rfl
  have hrb := wf_bd hr
  unfold c19 r19
  rw [DgC_eq, BlS_eq] at *
  cases hV : validP d with
  | false =>
    rw [hV] at hv hD
    rw [if_neg (by simp)] at hD
    repeat' (first | (simp (disch := first | omega | (simp only [List.length_cons, List.length_nil]; first | done | omega)) only [go_sem, Nat.reduceAdd, Nat.reduceMul, Nat.reduceSub, Nat.reduceEqDiff, Nat.reduceLeDiff, Nat.reduceMod, Nat.reduceLT, Int.reduceToNat, Int.reduceAdd, Int.reduceSub, Int.reduceMul, Int.reduceNeg, Int.reduceLE, Int.reduceLT, Int.reduceNe, Int.reduceEq, Int.reduceBEq, Int.reduceBNe, Int.reduceTMod, Int.reduceTDiv, Nat.reduceBEq, Bool.not_false]) | (refine allI (fun b => ?_)) | (refine allT (fun τ => ?_)) | (refine brP (fun h => ?_) (fun h => ?_) <;> (try simp only [zgx, zbx] at h)) | refine call_U (hv) ?_ | refine callG_U (fun _ => hv) ?_ | refine call_T (hv) ?_ | refine callG_T (fun _ => hv) ?_ | refine call_N (hv) ?_ | refine call_of (hv) ?_ | refine callG_of (fun _ => hv) ?_ | (apply And.intro; focus (first | omega | (simp; done) | (simp +contextual; done) | (intros; and_intros <;> first | assumption | omega) | (intros; simp_all; done) | (intro hgd; refine ⟨hgd, ?_⟩; simp [hgd]; done) | (intro hgd; simp only [zgx] at hgd ⊢; omega))) | fail)
    rw [hD]
  | true =>
    rw [hV] at hv hD
    rw [if_pos rfl] at hD
    obtain ⟨f1, f2, f3⟩ := validP_facts hV
    repeat' (first | (simp (disch := first | omega | (simp only [List.length_cons, List.length_nil]; first | done | omega)) only [go_sem, Nat.reduceAdd, Nat.reduceMul, Nat.reduceSub, Nat.reduceEqDiff, Nat.reduceLeDiff, Nat.reduceMod, Nat.reduceLT, Int.reduceToNat, Int.reduceAdd, Int.reduceSub, Int.reduceMul, Int.reduceNeg, Int.reduceLE, Int.reduceLT, Int.reduceNe, Int.reduceEq, Int.reduceBEq, Int.reduceBNe, Int.reduceTMod, Int.reduceTDiv, Nat.reduceBEq, Bool.not_true]) | (refine allI (fun b => ?_)) | (refine allT (fun τ => ?_)) | (refine brP (fun h => ?_) (fun h => ?_) <;> (try simp only [zgx, zbx] at h)) | refine call_U (hv) ?_ | refine callG_U (fun _ => hv) ?_ | refine call_T (hv) ?_ | refine callG_T (fun _ => hv) ?_ | refine call_N (hv) ?_ | refine call_of (hv) ?_ | refine callG_of (fun _ => hv) ?_ | (apply And.intro; focus (first | omega | (simp; done) | (simp +contextual; done) | (intros; and_intros <;> first | assumption | omega) | (intros; simp_all; done) | (intro hgd; refine ⟨hgd, ?_⟩; simp [hgd]; done) | (intro hgd; simp only [zgx] at hgd ⊢; omega))) | fail)
    refine loopI (ι := Int) (fun r => r < d.ns.length ∧ -9223372036854775808 ≤ r ∧ walkD d.ns ans d.ns.length d.r = walkD d.ns ans d.ns.length r) (fun r => [(5, .int .i64 r), (2, .ptr 2 b 0), (1, .sl 1 ans.length (ans.map LV.bool))]) (fun r => [(2, .blk b [.sl 8 d.tb.length (d.tb.flatMap AtC), .sl 3 d.ns.length (d.ns.flatMap BrC), .int .i64 d.r])]) (fun r => (r + 1).toNat) d.r ⟨f1, hrb.1, rfl⟩ (Ents.envH (by simp [go_sem]) rfl) ?_
    rintro r ⟨hr1, hr2, hr3⟩
    simp (disch := first | omega | (simp only [List.length_cons, List.length_nil]; first | done | omega)) only [go_sem, Nat.reduceAdd, Nat.reduceMul, Nat.reduceSub, Nat.reduceEqDiff, Nat.reduceLeDiff, Nat.reduceMod, Nat.reduceLT, Int.reduceToNat, Int.reduceAdd, Int.reduceSub, Int.reduceMul, Int.reduceNeg, Int.reduceLE, Int.reduceLT, Int.reduceNe, Int.reduceEq, Int.reduceBEq, Int.reduceBNe, Int.reduceTMod, Int.reduceTDiv, Nat.reduceBEq]
    refine brP (fun hb => ?_) (fun hb => ?_)
    · have hr0 : 0 ≤ r := by simpa using hb
      obtain ⟨m, rfl⟩ : ∃ m : Nat, r = (m : Int) := ⟨r.toNat, by omega⟩
      have hm : m < d.ns.length := by omega
      have e2 : ((d.ns.flatMap BrC).drop (m * 3)).take 3 = BrC (d.ns.getD m br0) := take_rows (f := BrC) (fun _ => rfl) br0 _ hm
      have hq1 := f2 m hm
      have hq2 := f3 m hm
      have hq3 := hw _ (getD_memA br0 hm)
      have hst : walkD d.ns ans d.ns.length m = walkD d.ns ans d.ns.length (if (decide ((d.ns.getD m br0).a < ans.length) && ans.getD (d.ns.getD m br0).a.toNat false) = true then (d.ns.getD m br0).y else (d.ns.getD m br0).n) := by
        obtain ⟨k, hk⟩ : ∃ k, d.ns.length = k + 1 := ⟨d.ns.length - 1, by omega⟩
        conv => lhs; rw [hk, walkD, if_neg (by omega), Int.toNat_natCast]
        refine walkD_fuel f2 ans k d.ns.length _ ?_ ?_ ?_ <;> (split <;> omega)
      generalize d.ns.getD m br0 = q at *
      have hy := wf_bd hq3.2.1
      have hz := wf_bd hq3.2.2
      obtain ⟨j, hj⟩ : ∃ j : Nat, q.a = (j : Int) := ⟨q.a.toNat, by omega⟩
      rw [hj, Int.toNat_natCast] at hst
      rw [BrC_eq, hj] at e2
      have g1 : j < ans.length → (ans.map LV.bool).getD j .any = .bool (ans.getD j false) := fun h => by simp [List.getD, h]
      by_cases hjl : j < ans.length
      · have d1 : decide ((j : Int) < (ans.length : Int)) = true := by simp; omega
        rw [d1, Bool.true_and] at hst
        repeat' (first | (simp (disch := first | omega | (simp only [List.length_cons, List.length_nil]; first | done | omega)) only [go_sem, Nat.reduceAdd, Nat.reduceMul, Nat.reduceSub, Nat.reduceEqDiff, Nat.reduceLeDiff, Nat.reduceMod, Nat.reduceLT, Int.reduceToNat, Int.reduceAdd, Int.reduceSub, Int.reduceMul, Int.reduceNeg, Int.reduceLE, Int.reduceLT, Int.reduceNe, Int.reduceEq, Int.reduceBEq, Int.reduceBNe, Int.reduceTMod, Int.reduceTDiv, Nat.reduceBEq, e2, zBr, d1, g1 hjl, Nat.mul_one]) | (refine allI (fun b => ?_)) | (refine allT (fun τ => ?_)) | (refine brP (fun h => ?_) (fun h => ?_) <;> (try simp only [zgx, zbx] at h)) | (apply And.intro; focus (first | omega | (simp; done) | (simp +contextual; done) | (intros; and_intros <;> first | assumption | omega) | (intros; simp_all; done) | (intro hgd; refine ⟨hgd, ?_⟩; simp [hgd]; done) | (intro hgd; simp only [zgx] at hgd ⊢; omega))) | fail)
        · exact ⟨⟨q.y, by omega, by omega, by rw [hr3, hst, if_pos h]⟩, by dsimp only; omega, Ents.sub (by simp [go_sem]) ⟨_, List.Sublist.cons _ (List.Sublist.refl _), List.Perm.refl _⟩⟩
        · exact ⟨⟨q.n, by omega, by omega, by rw [hr3, hst, if_neg (by rw [h]; simp)]⟩, by dsimp only; omega, Ents.sub (by simp [go_sem]) ⟨_, List.Sublist.cons _ (List.Sublist.refl _), List.Perm.refl _⟩⟩
      · have d1 : decide ((j : Int) < (ans.length : Int)) = false := by simp; omega
        rw [d1, Bool.false_and, if_neg (by simp)] at hst
        have g2 : (ans.map LV.bool).getD j .any = .any := by simp [List.getD]; rw [List.getElem?_eq_none (by omega)]; rfl
        repeat' (first | (simp (disch := first | omega | (simp only [List.length_cons, List.length_nil]; first | done | omega)) only [go_sem, Nat.reduceAdd, Nat.reduceMul, Nat.reduceSub, Nat.reduceEqDiff, Nat.reduceLeDiff, Nat.reduceMod, Nat.reduceLT, Int.reduceToNat, Int.reduceAdd, Int.reduceSub, Int.reduceMul, Int.reduceNeg, Int.reduceLE, Int.reduceLT, Int.reduceNe, Int.reduceEq, Int.reduceBEq, Int.reduceBNe, Int.reduceTMod, Int.reduceTDiv, Nat.reduceBEq, e2, zBr, d1, g2, Nat.mul_one, pick_0a0]) | (refine allI (fun b => ?_)) | (refine allT (fun τ => ?_)) | (refine brP (fun h => ?_) (fun h => ?_) <;> (try simp only [zgx, zbx] at h)) | (apply And.intro; focus (first | omega | (simp; done) | (simp +contextual; done) | (intros; and_intros <;> first | assumption | omega) | (intros; simp_all; done) | (intro hgd; refine ⟨hgd, ?_⟩; simp [hgd]; done) | (intro hgd; simp only [zgx] at hgd ⊢; omega))) | fail)
        exact ⟨⟨q.n, by omega, by omega, by rw [hr3, hst]⟩, by dsimp only; omega, Ents.sub (by simp [go_sem]) ⟨_, List.Sublist.cons _ (List.Sublist.refl _), List.Perm.refl _⟩⟩
    · have hneg : r < 0 := by simpa using hb
      have hfin : decS d ans = ruleOf r := by rw [hD, hr3, walkD_neg _ _ _ hneg]
      repeat' (first | (simp (disch := first | omega | (simp only [List.length_cons, List.length_nil]; first | done | omega)) only [go_sem, Nat.reduceAdd, Nat.reduceMul, Nat.reduceSub, Nat.reduceEqDiff, Nat.reduceLeDiff, Nat.reduceMod, Nat.reduceLT, Int.reduceToNat, Int.reduceAdd, Int.reduceSub, Int.reduceMul, Int.reduceNeg, Int.reduceLE, Int.reduceLT, Int.reduceNe, Int.reduceEq, Int.reduceBEq, Int.reduceBNe, Int.reduceTMod, Int.reduceTDiv, Nat.reduceBEq]) | (refine allI (fun b => ?_)) | (refine allT (fun τ => ?_)) | (refine brP (fun h => ?_) (fun h => ?_) <;> (try simp only [zgx, zbx] at h)) | (apply And.intro; focus (first | omega | (simp; done) | (simp +contextual; done) | (intros; and_intros <;> first | assumption | omega) | (intros; simp_all; done) | (intro hgd; refine ⟨hgd, ?_⟩; simp [hgd]; done) | (intro hgd; simp only [zgx] at hgd ⊢; omega))) | fail)
      · rw [hfin, ruleOf, if_pos (by simpa using h)]
      · rw [hfin, ruleOf, if_neg (by simpa using h)]
end Go.Proofs.Ytcngkeeknlloaaa
