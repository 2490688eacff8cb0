/- Rules that match a context; the first of an ordered list. -/
import Derived.Test.YtcngkeeknlloaaaEw
import Derived.Test.YtcngkeeknlloaaaCodh
namespace Go.Proofs.Ytcngkeeknlloaaa
open Go Go.Lx
set_option linter.unusedSimpArgs false
set_option linter.unusedVariables false
set_option maxRecDepth 100000
set_option maxHeartbeats 4000000

def hasC (m n : Int) : Bool := decide (0 ≤ n) && decide (n < 32) && bitop .and .u64 (shr .u64 m n) 1 == 1
theorem rhas01 (m n : Int) : Pure Try.prog gl 58 [.int .u64 m, .int .i64 n] (.bool (hasC m n)) := by
  refine fn_pureT Try.func58 t58 Try.ntmps58 (by simp) ?_
  unfold c58 r58
  simp (disch := first | omega | (simp only [List.length_cons, List.length_nil]; first | done | omega)) only [go_sem, Nat.reduceAdd, Nat.reduceMul, Nat.reduceSub, Nat.reduceEqDiff, Nat.reduceLeDiff, Nat.reduceMod, Nat.reduceLT, Int.reduceToNat, Int.reduceAdd, Int.reduceSub, Int.reduceMul, Int.reduceNeg, Int.reduceLE, Int.reduceLT, Int.reduceNe, Int.reduceEq, Int.reduceBEq, Int.reduceBNe, Int.reduceTMod, Int.reduceTDiv, Nat.reduceBEq]
  by_cases h : 0 ≤ n ∧ n < 32
  · rw [wrap_u64 (by omega) (by omega)]
    exact ⟨fun h' => ⟨h', h', h.1⟩, rfl⟩
  · have h2 : (decide (0 ≤ n) && decide (n < 32)) = false := by
      simp only [Bool.and_eq_false_iff, decide_eq_false_iff_not]
      omega
    rw [hasC, h2]
    exact ⟨fun h' => by simp at h', rfl⟩
theorem and_one (a : Int) : bitop .and .u64 a 1 = 0 ∨ bitop .and .u64 a 1 = 1 := by
  have h : (BitVec.ofInt 64 a &&& BitVec.ofInt 64 1).toNat ≤ 1 := by
    rw [BitVec.toNat_and]
    exact Nat.le_trans Nat.and_le_right (by decide)
  show IntKind.u64.wrap ((BitVec.ofInt 64 a &&& BitVec.ofInt 64 1).toNat : Int) = 0 ∨ IntKind.u64.wrap ((BitVec.ofInt 64 a &&& BitVec.ofInt 64 1).toNat : Int) = 1
  generalize (BitVec.ofInt 64 a &&& BitVec.ofInt 64 1).toNat = k at h
  rcases (by omega : k = 0 ∨ k = 1) with rfl | rfl
  · exact .inl rfl
  · exact .inr rfl
def matB (r : Rl) (hit : Bool) (x : Cx) : Bool := !((r.c != 0 && !hasC r.c x.num) || (r.w != 0 && !hit)) && r.ts.all fun t => evT t x
theorem all_take {α : Type} (p : α → Bool) (d : α) (l : List α) {i : Nat} (h : i < l.length) : (l.take (i + 1)).all p = ((l.take i).all p && p (l.getD i d)) := by
  rw [take_succ_getD d l h]; simp
def okX (x : Cx) : Prop := x.its.length ≤ 1000000
theorem all_false {α : Type} {p : α → Bool} {d : α} {l : List α} {i : Nat} (h : i < l.length) (hp : p (l.getD i d) = false) : l.all p = false := by
  rw [List.all_eq_false]
  exact ⟨_, getD_memA d h, by rw [hp]; exact Bool.false_ne_true⟩
theorem rmat (r : Rl) (hit : Bool) (x : Cx) (hx : okX x) (hr : r.ts.length ≤ 1000000) : Pure Try.prog gl 60 [.agg (RlC r), .bool hit, .agg (CxC x)] (.bool (matB r hit x)) := by
  refine fn_pureT Try.func60 t60 Try.ntmps60 (by simp) ?_
  have hC := CxC_eq x
  have hl := len_te r.ts
  unfold c60 r60 RlC TsS
  rw [hC]
  repeat' (first | (simp (disch := first | omega | (simp only [List.length_cons, List.length_nil]; first | done | omega)) only [go_sem, Nat.reduceAdd, Nat.reduceMul, Nat.reduceSub, Nat.reduceEqDiff, Nat.reduceLeDiff, Nat.reduceMod, Nat.reduceLT, Int.reduceToNat, Int.reduceAdd, Int.reduceSub, Int.reduceMul, Int.reduceNeg, Int.reduceLE, Int.reduceLT, Int.reduceNe, Int.reduceEq, Int.reduceBEq, Int.reduceBNe, Int.reduceTMod, Int.reduceTDiv, Nat.reduceBEq]) | (refine allI (fun b => ?_)) | (refine allT (fun τ => ?_)) | (refine brP (fun h => ?_) (fun h => ?_) <;> (try simp only [zgx, zbx] at h)) | refine call_U (rhas01 _ _) ?_ | refine callG_U (fun _ => rhas01 _ _) ?_ | refine call_T (rhas01 _ _) ?_ | refine callG_T (fun _ => rhas01 _ _) ?_ | refine call_N (rhas01 _ _) ?_ | refine call_of (rhas01 _ _) ?_ | refine callG_of (fun _ => rhas01 _ _) ?_ | (apply And.intro; focus (first | omega | (simp; done) | (simp +contextual; done) | (intros; and_intros <;> first | assumption | omega) | (intros; simp_all; done) | (intro hgd; refine ⟨hgd, ?_⟩; simp [hgd]; done) | (intro hgd; simp only [zgx] at hgd ⊢; omega))) | fail)
  · simp only [matB]; grind
  · refine loopI (ι := Nat) (fun i => i ≤ r.ts.length ∧ (r.ts.take i).all (fun t => evT t x) = true) (fun i => (7, .int .i64 i) :: _) (fun _ => _) (fun i => r.ts.length - i) 0 ⟨by omega, by simp⟩ Ents.same ?_
    intro i hi
    have hiB := hi.1
    have hev := reval (r.ts.getD i te0) x hx
    have ha := all_take (fun t => evT t x) te0 r.ts (i := i)
    have hf := all_false (p := fun t => evT t x) (d := te0) (l := r.ts) (i := i)
    simp (disch := first | omega | (simp only [List.length_cons, List.length_nil]; first | done | omega)) only [go_sem, Nat.reduceAdd, Nat.reduceMul, Nat.reduceSub, Nat.reduceEqDiff, Nat.reduceLeDiff, Nat.reduceMod, Nat.reduceLT, Int.reduceToNat, Int.reduceAdd, Int.reduceSub, Int.reduceMul, Int.reduceNeg, Int.reduceLE, Int.reduceLT, Int.reduceNe, Int.reduceEq, Int.reduceBEq, Int.reduceBNe, Int.reduceTMod, Int.reduceTDiv, Nat.reduceBEq]
    refine brP (fun hb => ?_) (fun hb => ?_)
    · have hlt : i < r.ts.length := by simpa using hb
      have e2 : ((r.ts.flatMap TeC).drop (i * 5)).take 5 = TeC (r.ts.getD i te0) := take_rows (f := TeC) (fun _ => rfl) te0 _ hlt
      have ha := ha hlt
      have hf := hf hlt
      generalize r.ts.getD i te0 = y at *
      repeat' (first | (simp (disch := first | omega | (simp only [List.length_cons, List.length_nil]; first | done | omega)) only [go_sem, Nat.reduceAdd, Nat.reduceMul, Nat.reduceSub, Nat.reduceEqDiff, Nat.reduceLeDiff, Nat.reduceMod, Nat.reduceLT, Int.reduceToNat, Int.reduceAdd, Int.reduceSub, Int.reduceMul, Int.reduceNeg, Int.reduceLE, Int.reduceLT, Int.reduceNe, Int.reduceEq, Int.reduceBEq, Int.reduceBNe, Int.reduceTMod, Int.reduceTDiv, Nat.reduceBEq, e2]) | (refine allI (fun b => ?_)) | (refine allT (fun τ => ?_)) | (refine brP (fun h => ?_) (fun h => ?_) <;> (try simp only [zgx, zbx] at h)) | refine call_U (hev) ?_ | refine callG_U (fun _ => hev) ?_ | refine call_T (hev) ?_ | refine callG_T (fun _ => hev) ?_ | refine call_N (hev) ?_ | refine call_of (hev) ?_ | refine callG_of (fun _ => hev) ?_ | (apply And.intro; focus (first | omega | (simp; done) | (simp +contextual; done) | (intros; and_intros <;> first | assumption | omega) | (intros; simp_all; done) | (intro hgd; refine ⟨hgd, ?_⟩; simp [hgd]; done) | (intro hgd; simp only [zgx] at hgd ⊢; omega))) | fail)
      · simp only [matB]; grind
      · refine ⟨⟨i + 1, by omega, ?_⟩, by dsimp only; omega, Ents.envH (by simp [go_sem]) rfl⟩
        rw [ha, h, hi.2]; rfl
    · have hlen : i = r.ts.length := by simp only [decide_eq_false_iff_not] at hb; omega
      have h5 := hi.2
      rw [hlen, List.take_length] at h5
      repeat' (first | (simp (disch := first | omega | (simp only [List.length_cons, List.length_nil]; first | done | omega)) only [go_sem, Nat.reduceAdd, Nat.reduceMul, Nat.reduceSub, Nat.reduceEqDiff, Nat.reduceLeDiff, Nat.reduceMod, Nat.reduceLT, Int.reduceToNat, Int.reduceAdd, Int.reduceSub, Int.reduceMul, Int.reduceNeg, Int.reduceLE, Int.reduceLT, Int.reduceNe, Int.reduceEq, Int.reduceBEq, Int.reduceBNe, Int.reduceTMod, Int.reduceTDiv, Nat.reduceBEq]) | (refine allI (fun b => ?_)) | (refine allT (fun τ => ?_)) | (refine brP (fun h => ?_) (fun h => ?_) <;> (try simp only [zgx, zbx] at h)) | (apply And.intro; focus (first | omega | (simp; done) | (simp +contextual; done) | (intros; and_intros <;> first | assumption | omega) | (intros; simp_all; done) | (intro hgd; refine ⟨hgd, ?_⟩; simp [hgd]; done) | (intro hgd; simp only [zgx] at hgd ⊢; omega))) | fail)
      simp only [matB]; grind
def firstI (n : Nat) (p : Nat → Bool) : Int := match (List.range n).find? p with
  | some i => i
  | none => -1
theorem firstI_is {n : Nat} {p : Nat → Bool} {i : Nat} (h : i < n) (hp : p i = true) (hn : ∀ j, j < i → p j = false) : firstI n p = i := by
  have : (List.range n).find? p = some i := by
    rw [List.find?_range_eq_some]
    exact ⟨hp, by simpa using h, fun j hj => by simp [hn j hj]⟩
  simp [firstI, this]
theorem firstI_none {n : Nat} {p : Nat → Bool} (hn : ∀ j, j < n → p j = false) : firstI n p = -1 := by
  have : (List.range n).find? p = none := by
    rw [List.find?_range_eq_none]
    exact fun j hj => by simp [hn j hj]
  simp [firstI, this]
def BsS (bs : List Bool) : LV := .sl 1 bs.length (bs.map LV.bool)
def hitM (bs : List Bool) (i : Nat) : Bool := decide (i < bs.length) && bs.getD i false
def firP (l : List Rl) (k : Int) (bs : List Bool) (x : Cx) (i : Nat) : Bool := (l.getD i rl0).l == k && matB (l.getD i rl0) (hitM bs i) x
def firB (l : List Rl) (k : Int) (bs : List Bool) (x : Cx) : Int := firstI l.length (firP l k bs x)
def okRs (l : List Rl) : Prop := l.length ≤ 1000000 ∧ ∀ r ∈ l, r.ts.length ≤ 1000000
theorem getD_bool {bs : List Bool} {i : Nat} (h : i < bs.length) : (bs.map LV.bool).getD i .any = .bool (bs.getD i false) := by
  simp [List.getD, h]
theorem getD_boolN {bs : List Bool} {i : Nat} (h : ¬ i < bs.length) : (bs.map LV.bool).getD i .any = .any := by
  simp [List.getD, h]
theorem rfir (l : List Rl) (k : Int) (bs : List Bool) (x : Cx) (hl : okRs l) (hx : okX x) : Pure Try.prog gl 34 [RlS l, .int .i64 k, BsS bs, .agg (CxC x)] (.int .i64 (firB l k bs x)) := by
  refine fn_pureT Try.func34 t34 Try.ntmps34 (by simp) ?_
  have hC := CxC_eq x
  have hle := len_rl l
  obtain ⟨hl1, hl2⟩ := hl
  unfold c34 r34 RlS BsS
  rw [hC]
  simp (disch := first | omega | (simp only [List.length_cons, List.length_nil]; first | done | omega)) only [go_sem, Nat.reduceAdd, Nat.reduceMul, Nat.reduceSub, Nat.reduceEqDiff, Nat.reduceLeDiff, Nat.reduceMod, Nat.reduceLT, Int.reduceToNat, Int.reduceAdd, Int.reduceSub, Int.reduceMul, Int.reduceNeg, Int.reduceLE, Int.reduceLT, Int.reduceNe, Int.reduceEq, Int.reduceBEq, Int.reduceBNe, Int.reduceTMod, Int.reduceTDiv, Nat.reduceBEq]
  intro b
  refine loopI (ι := Nat) (fun i => i ≤ l.length ∧ ∀ j, j < i → firP l k bs x j = false) (fun i => (9, .int .i64 i) :: _) (fun _ => _) (fun i => l.length - i) 0 ⟨by omega, fun j hj => absurd hj (by omega)⟩ Ents.same ?_
  intro i hi
  have hiB := hi.1
  simp (disch := first | omega | (simp only [List.length_cons, List.length_nil]; first | done | omega)) only [go_sem, Nat.reduceAdd, Nat.reduceMul, Nat.reduceSub, Nat.reduceEqDiff, Nat.reduceLeDiff, Nat.reduceMod, Nat.reduceLT, Int.reduceToNat, Int.reduceAdd, Int.reduceSub, Int.reduceMul, Int.reduceNeg, Int.reduceLE, Int.reduceLT, Int.reduceNe, Int.reduceEq, Int.reduceBEq, Int.reduceBNe, Int.reduceTMod, Int.reduceTDiv, Nat.reduceBEq]
  refine brP (fun hb => ?_) (fun hb => ?_)
  · have hlt : i < l.length := by simpa using hb
    have e1 : (l.flatMap RlC).getD (i * 8) .any = .int .i64 (l.getD i rl0).l := getD_rows (f := RlC) (w := 8) (fun _ => rfl) (j := 0) (by omega) rl0 l i hlt
    have e2 : ((l.flatMap RlC).drop (i * 8)).take 8 = RlC (l.getD i rl0) := take_rows (f := RlC) (fun _ => rfl) rl0 _ hlt
    have hm := rmat (l.getD i rl0) (hitM bs i) x hx (hl2 _ (getD_memA rl0 hlt))
    have hfp : firP l k bs x i = ((l.getD i rl0).l == k && matB (l.getD i rl0) (hitM bs i) x) := rfl
    rw [RlC_eq] at e2 hm
    generalize l.getD i rl0 = r at *
    by_cases hh : i < bs.length
    · have hml : (bs.map LV.bool).length = bs.length := by simp
      have e3 := getD_bool hh
      have e4 : hitM bs i = bs.getD i false := by simp [hitM, hh]
      rw [e4] at hm hfp
      have e5 : decide ((i : Int) < bs.length) = true := by simpa using hh
      repeat' (first | (simp (disch := first | omega | (simp only [List.length_cons, List.length_nil]; first | done | omega)) only [go_sem, Nat.reduceAdd, Nat.reduceMul, Nat.reduceSub, Nat.reduceEqDiff, Nat.reduceLeDiff, Nat.reduceMod, Nat.reduceLT, Int.reduceToNat, Int.reduceAdd, Int.reduceSub, Int.reduceMul, Int.reduceNeg, Int.reduceLE, Int.reduceLT, Int.reduceNe, Int.reduceEq, Int.reduceBEq, Int.reduceBNe, Int.reduceTMod, Int.reduceTDiv, Nat.reduceBEq, e1, e2, e3, e5, Nat.mul_one, Bool.true_and]) | (refine allI (fun b => ?_)) | (refine allT (fun τ => ?_)) | (refine brP (fun h => ?_) (fun h => ?_) <;> (try simp only [zgx, zbx] at h)) | refine call_U (hm) ?_ | refine callG_U (fun _ => hm) ?_ | refine call_T (hm) ?_ | refine callG_T (fun _ => hm) ?_ | refine call_N (hm) ?_ | refine call_of (hm) ?_ | refine callG_of (fun _ => hm) ?_ | (apply And.intro; focus (first | omega | (simp; done) | (simp +contextual; done) | (intros; and_intros <;> first | assumption | omega) | (intros; simp_all; done) | (intro hgd; refine ⟨hgd, ?_⟩; simp [hgd]; done) | (intro hgd; simp only [zgx] at hgd ⊢; omega))) | fail)
      · have h5 : firP l k bs x i = true := by rw [hfp, h.2]; simp [h.1]
        exact (firstI_is hlt h5 hi.2).symm
      · have h5 : firP l k bs x i = false := by
          rw [hfp]
          rcases h with h | h
          · simp [h]
          · rw [h]; simp
        exact ⟨⟨i + 1, by omega, fun j hj => (by omega : j < i ∨ j = i).elim (fun h3 => hi.2 j h3) (fun h3 => h3 ▸ h5)⟩, by dsimp only; omega, Ents.envH (by simp [go_sem]) rfl⟩
    · have e3 := getD_boolN hh
      have e4 : hitM bs i = false := by simp [hitM, hh]
      rw [e4] at hm hfp
      have e5 : decide ((i : Int) < bs.length) = false := by simpa using hh
      repeat' (first | (simp (disch := first | omega | (simp only [List.length_cons, List.length_nil]; first | done | omega)) only [go_sem, Nat.reduceAdd, Nat.reduceMul, Nat.reduceSub, Nat.reduceEqDiff, Nat.reduceLeDiff, Nat.reduceMod, Nat.reduceLT, Int.reduceToNat, Int.reduceAdd, Int.reduceSub, Int.reduceMul, Int.reduceNeg, Int.reduceLE, Int.reduceLT, Int.reduceNe, Int.reduceEq, Int.reduceBEq, Int.reduceBNe, Int.reduceTMod, Int.reduceTDiv, Nat.reduceBEq, e1, e2, e3, e5, Nat.mul_one, Bool.false_and, pick_oa0]) | (refine allI (fun b => ?_)) | (refine allT (fun τ => ?_)) | (refine brP (fun h => ?_) (fun h => ?_) <;> (try simp only [zgx, zbx] at h)) | refine call_U (hm) ?_ | refine callG_U (fun _ => hm) ?_ | refine call_T (hm) ?_ | refine callG_T (fun _ => hm) ?_ | refine call_N (hm) ?_ | refine call_of (hm) ?_ | refine callG_of (fun _ => hm) ?_ | (apply And.intro; focus (first | omega | (simp; done) | (simp +contextual; done) | (intros; and_intros <;> first | assumption | omega) | (intros; simp_all; done) | (intro hgd; refine ⟨hgd, ?_⟩; simp [hgd]; done) | (intro hgd; simp only [zgx] at hgd ⊢; omega))) | fail)
      · have h5 : firP l k bs x i = true := by rw [hfp, h.2]; simp [h.1]
        exact (firstI_is hlt h5 hi.2).symm
      · have h5 : firP l k bs x i = false := by
          rw [hfp]
          rcases h with h | h
          · simp [h]
          · rw [h]; simp
        exact ⟨⟨i + 1, by omega, fun j hj => (by omega : j < i ∨ j = i).elim (fun h3 => hi.2 j h3) (fun h3 => h3 ▸ h5)⟩, by dsimp only; omega, Ents.envH (by simp [go_sem]) rfl⟩
  · repeat' (first | (simp (disch := first | omega | (simp only [List.length_cons, List.length_nil]; first | done | omega)) only [go_sem, Nat.reduceAdd, Nat.reduceMul, Nat.reduceSub, Nat.reduceEqDiff, Nat.reduceLeDiff, Nat.reduceMod, Nat.reduceLT, Int.reduceToNat, Int.reduceAdd, Int.reduceSub, Int.reduceMul, Int.reduceNeg, Int.reduceLE, Int.reduceLT, Int.reduceNe, Int.reduceEq, Int.reduceBEq, Int.reduceBNe, Int.reduceTMod, Int.reduceTDiv, Nat.reduceBEq]) | (refine allI (fun b => ?_)) | (refine allT (fun τ => ?_)) | (refine brP (fun h => ?_) (fun h => ?_) <;> (try simp only [zgx, zbx] at h)) | (apply And.intro; focus (first | omega | (simp; done) | (simp +contextual; done) | (intros; and_intros <;> first | assumption | omega) | (intros; simp_all; done) | (intro hgd; refine ⟨hgd, ?_⟩; simp [hgd]; done) | (intro hgd; simp only [zgx] at hgd ⊢; omega))) | fail)
    exact (firstI_none fun j hj => hi.2 j (by simp only [decide_eq_false_iff_not] at hb; omega)).symm
end Go.Proofs.Ytcngkeeknlloaaa
