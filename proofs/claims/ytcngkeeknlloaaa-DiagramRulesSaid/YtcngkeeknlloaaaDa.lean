/- Layer 16: atoms of rules. -/
import Derived.Test.YtcngkeeknlloaaaRtm
import Derived.Test.YtcngkeeknlloaaaLxW
namespace Go.Proofs.Ytcngkeeknlloaaa
open Go Go.Lx
set_option linter.unusedSimpArgs false
set_option linter.unusedVariables false
set_option maxRecDepth 100000
set_option maxHeartbeats 4000000

/-- an atom -/
structure At where
  te : Te
  w : Int
  p : List UInt8
  m : Int
  deriving DecidableEq
def AtC (a : At) : List LV := [.int .i64 a.te.f, .int .i64 a.te.o, .int .i64 a.te.n, .str a.te.t, .int .i64 a.te.x, .int .i64 a.w, .str a.p, .int .i64 a.m]
theorem AtC_eq (a : At) : AtC a = [.int .i64 a.te.f, .int .i64 a.te.o, .int .i64 a.te.n, .str a.te.t, .int .i64 a.te.x, .int .i64 a.w, .str a.p, .int .i64 a.m] := Eq.trans rfl rfl
def at0 : At := ⟨te0, 0, [], 0⟩
def AtS (l : List At) : LV := .sl 8 l.length (l.flatMap AtC)
theorem AtS_eq (l : List At) : AtS l = .sl 8 l.length (l.flatMap AtC) := Eq.trans rfl rfl
theorem len_at (l : List At) : (l.flatMap AtC).length = l.length * 8 := length_rows (f := AtC) (w := 8) (fun _ => rfl) l
theorem zAt : zeros ([.int .i64 0, .int .i64 0, .int .i64 0, .str [], .int .i64 0, .int .i64 0, .str [], .int .i64 0] : List LV) 8 = [.int .i64 0, .int .i64 0, .int .i64 0, .str [], .int .i64 0, .int .i64 0, .str [], .int .i64 0] := Eq.trans rfl rfl
theorem zTe : zeros ([.int .i64 0, .int .i64 0, .int .i64 0, .str [], .int .i64 0] : List LV) 5 = [.int .i64 0, .int .i64 0, .int .i64 0, .str [], .int .i64 0] := Eq.trans rfl rfl
def tAt (t : Te) : At := ⟨t, 0, [], 0⟩
/-- the atoms of a rule -/
def ownA (r : Rl) : List At := r.ts.map tAt ++ if r.w = 0 then [] else [⟨te0, r.w, r.p, r.m⟩]
theorem ownA_len (r : Rl) : (ownA r).length ≤ r.ts.length + 1 := by
  unfold ownA
  split <;> simp
theorem atomsOf_ (r : Rl) (hr : r.ts.length ≤ 1000000) : Pure Try.prog gl 40 [.agg (RlC r)] (AtS (ownA r)) := by
  refine fn_pureT Try.func40 t40 Try.ntmps40 (by simp) ?_
  have hle := len_te r.ts
  unfold c40 r40
  rw [RlC_eq, TsS_eq]
  repeat' (first | (simp (disch := first | omega | (simp only [List.length_cons, List.length_nil]; first | done | omega)) only [go_sem, Nat.reduceAdd, Nat.reduceMul, Nat.reduceSub, Nat.reduceEqDiff, Nat.reduceLeDiff, Nat.reduceMod, Nat.reduceLT, Int.reduceToNat, Int.reduceAdd, Int.reduceSub, Int.reduceMul, Int.reduceNeg, Int.reduceLE, Int.reduceLT, Int.reduceNe, Int.reduceEq, Int.reduceBEq, Int.reduceBNe, Int.reduceTMod, Int.reduceTDiv, Nat.reduceBEq]) | (refine allI (fun b => ?_)) | (refine allT (fun τ => ?_)) | (refine brP (fun h => ?_) (fun h => ?_) <;> (try simp only [zgx, zbx] at h)) | (apply And.intro; focus (first | omega | (simp; done) | (simp +contextual; done) | (intros; and_intros <;> first | assumption | omega) | (intros; simp_all; done) | (intro hgd; refine ⟨hgd, ?_⟩; simp [hgd]; done) | (intro hgd; simp only [zgx] at hgd ⊢; omega))) | fail)
  refine loopI (ι := Nat × Tok) (fun y => y.1 ≤ r.ts.length) (fun y => [(9, .int .i64 y.1), (3, .osl 17 y.2 8 y.1 (((r.ts.take y.1).map tAt).flatMap AtC)), (7, .sl 5 r.ts.length (r.ts.flatMap TeC)), (8, .int .i64 r.ts.length), (1, .ptr 1 b 0)]) (fun y => [(17, .tok y.2), (1, .blk b [.int .i64 r.l, .int .i64 r.a, .int .u64 r.c, .sl 5 r.ts.length (r.ts.flatMap TeC), .int .i64 r.w, .str r.p, .int .i64 r.m, .str r.k])]) (fun y => r.ts.length - y.1) (0, ⟨0, 0, 0⟩) (by simp) (Ents.dummyE 17 (by simp [go_sem, leV.nil_osl])) ?_
  rintro ⟨i, τ⟩ hi
  dsimp only at hi ⊢
  simp (disch := first | omega | (simp only [List.length_cons, List.length_nil]; first | done | omega)) only [go_sem, Nat.reduceAdd, Nat.reduceMul, Nat.reduceSub, Nat.reduceEqDiff, Nat.reduceLeDiff, Nat.reduceMod, Nat.reduceLT, Int.reduceToNat, Int.reduceAdd, Int.reduceSub, Int.reduceMul, Int.reduceNeg, Int.reduceLE, Int.reduceLT, Int.reduceNe, Int.reduceEq, Int.reduceBEq, Int.reduceBNe, Int.reduceTMod, Int.reduceTDiv, Nat.reduceBEq]
  refine brP (fun hb => ?_) (fun hb => ?_)
  · have hlt : i < r.ts.length := by simpa using hb
    have e2 : ((r.ts.flatMap TeC).drop (i * 5)).take 5 = TeC (r.ts.getD i te0) := take_rows (f := TeC) (fun _ => rfl) te0 _ hlt
    have hts := take_succ_getD te0 r.ts hlt
    generalize r.ts.getD i te0 = t at *
    rw [TeC_eq] at e2
    repeat' (first | (simp (disch := first | omega | (simp only [List.length_cons, List.length_nil]; first | done | omega)) only [go_sem, Nat.reduceAdd, Nat.reduceMul, Nat.reduceSub, Nat.reduceEqDiff, Nat.reduceLeDiff, Nat.reduceMod, Nat.reduceLT, Int.reduceToNat, Int.reduceAdd, Int.reduceSub, Int.reduceMul, Int.reduceNeg, Int.reduceLE, Int.reduceLT, Int.reduceNe, Int.reduceEq, Int.reduceBEq, Int.reduceBNe, Int.reduceTMod, Int.reduceTDiv, Nat.reduceBEq, e2, zTe, zAt]) | (refine allI (fun b => ?_)) | (refine allT (fun τ => ?_)) | (refine brP (fun h => ?_) (fun h => ?_) <;> (try simp only [zgx, zbx] at h)) | (apply And.intro; focus (first | omega | (simp; done) | (simp +contextual; done) | (intros; and_intros <;> first | assumption | omega) | (intros; simp_all; done) | (intro hgd; refine ⟨hgd, ?_⟩; simp [hgd]; done) | (intro hgd; simp only [zgx] at hgd ⊢; omega))) | fail)
    refine ⟨by simp only [roomy]; omega, fun τ' => ⟨⟨(i + 1, τ'), by dsimp only; omega⟩, by dsimp only; omega, Ents.sub ⟨leV.refl _, leV.of_eq ?_, leV.refl _, leV.refl _, leV.refl _, trivial⟩ ⟨_, List.Sublist.cons_cons _ (List.Sublist.cons _ (List.Sublist.refl _)), List.Perm.refl _⟩⟩⟩
    simp [go_sem, hts, AtC_eq, tAt]
  · have hlen : i = r.ts.length := by simp only [decide_eq_false_iff_not] at hb; omega
    subst hlen
    repeat' (first | (simp (disch := first | omega | (simp only [List.length_cons, List.length_nil]; first | done | omega)) only [go_sem, Nat.reduceAdd, Nat.reduceMul, Nat.reduceSub, Nat.reduceEqDiff, Nat.reduceLeDiff, Nat.reduceMod, Nat.reduceLT, Int.reduceToNat, Int.reduceAdd, Int.reduceSub, Int.reduceMul, Int.reduceNeg, Int.reduceLE, Int.reduceLT, Int.reduceNe, Int.reduceEq, Int.reduceBEq, Int.reduceBNe, Int.reduceTMod, Int.reduceTDiv, Nat.reduceBEq, zAt]) | (refine allI (fun b => ?_)) | (refine allT (fun τ => ?_)) | (refine brP (fun h => ?_) (fun h => ?_) <;> (try simp only [zgx, zbx] at h)) | (apply And.intro; focus (first | omega | (simp; done) | (simp +contextual; done) | (intros; and_intros <;> first | assumption | omega) | (intros; simp_all; done) | (intro hgd; refine ⟨hgd, ?_⟩; simp [hgd]; done) | (intro hgd; simp only [zgx] at hgd ⊢; omega))) | fail)
    · refine ⟨by simp only [roomy]; omega, fun τ' => (leV.osl_sl _ _ _ _ _).trans (leV.of_eq ?_)⟩
      rw [AtS_eq, ownA, if_neg (by simpa using h), List.take_length]
      simp [AtC_eq, te0]
    · refine (leV.osl_sl _ _ _ _ _).trans (leV.of_eq ?_)
      rw [AtS_eq, ownA, if_pos (by simpa using h), List.take_length]
      simp
theorem own_ (r : Rl) (hr : r.ts.length ≤ 1000000) : Pure Try.prog gl 50 [.agg (RlC r)] (AtS (ownA r)) := by
  refine fn_pureT Try.func50 t50 Try.ntmps50 (by simp) ?_
  have hle := len_te r.ts
  unfold c50 r50
  rw [RlC_eq, TsS_eq]
  repeat' (first | (simp (disch := first | omega | (simp only [List.length_cons, List.length_nil]; first | done | omega)) only [go_sem, Nat.reduceAdd, Nat.reduceMul, Nat.reduceSub, Nat.reduceEqDiff, Nat.reduceLeDiff, Nat.reduceMod, Nat.reduceLT, Int.reduceToNat, Int.reduceAdd, Int.reduceSub, Int.reduceMul, Int.reduceNeg, Int.reduceLE, Int.reduceLT, Int.reduceNe, Int.reduceEq, Int.reduceBEq, Int.reduceBNe, Int.reduceTMod, Int.reduceTDiv, Nat.reduceBEq]) | (refine allI (fun b => ?_)) | (refine allT (fun τ => ?_)) | (refine brP (fun h => ?_) (fun h => ?_) <;> (try simp only [zgx, zbx] at h)) | (apply And.intro; focus (first | omega | (simp; done) | (simp +contextual; done) | (intros; and_intros <;> first | assumption | omega) | (intros; simp_all; done) | (intro hgd; refine ⟨hgd, ?_⟩; simp [hgd]; done) | (intro hgd; simp only [zgx] at hgd ⊢; omega))) | fail)
  refine loopI (ι := Nat × Tok) (fun y => y.1 ≤ r.ts.length) (fun y => [(4, .int .i64 y.1), (3, .osl 20 y.2 8 y.1 (((r.ts.take y.1).map tAt).flatMap AtC)), (1, .ptr 1 b 0)]) (fun y => [(20, .tok y.2), (1, .blk b [.int .i64 r.l, .int .i64 r.a, .int .u64 r.c, .sl 5 r.ts.length (r.ts.flatMap TeC), .int .i64 r.w, .str r.p, .int .i64 r.m, .str r.k])]) (fun y => r.ts.length - y.1) (0, ⟨0, 0, 0⟩) (by simp) (Ents.dummyE 20 (by simp [go_sem, leV.nil_osl])) ?_
  rintro ⟨i, τ⟩ hi
  dsimp only at hi ⊢
  simp (disch := first | omega | (simp only [List.length_cons, List.length_nil]; first | done | omega)) only [go_sem, Nat.reduceAdd, Nat.reduceMul, Nat.reduceSub, Nat.reduceEqDiff, Nat.reduceLeDiff, Nat.reduceMod, Nat.reduceLT, Int.reduceToNat, Int.reduceAdd, Int.reduceSub, Int.reduceMul, Int.reduceNeg, Int.reduceLE, Int.reduceLT, Int.reduceNe, Int.reduceEq, Int.reduceBEq, Int.reduceBNe, Int.reduceTMod, Int.reduceTDiv, Nat.reduceBEq]
  refine brP (fun hb => ?_) (fun hb => ?_)
  · have hlt : i < r.ts.length := by simpa using hb
    have e2 : ((r.ts.flatMap TeC).drop (i * 5)).take 5 = TeC (r.ts.getD i te0) := take_rows (f := TeC) (fun _ => rfl) te0 _ hlt
    have hts := take_succ_getD te0 r.ts hlt
    generalize r.ts.getD i te0 = t at *
    rw [TeC_eq] at e2
    repeat' (first | (simp (disch := first | omega | (simp only [List.length_cons, List.length_nil]; first | done | omega)) only [go_sem, Nat.reduceAdd, Nat.reduceMul, Nat.reduceSub, Nat.reduceEqDiff, Nat.reduceLeDiff, Nat.reduceMod, Nat.reduceLT, Int.reduceToNat, Int.reduceAdd, Int.reduceSub, Int.reduceMul, Int.reduceNeg, Int.reduceLE, Int.reduceLT, Int.reduceNe, Int.reduceEq, Int.reduceBEq, Int.reduceBNe, Int.reduceTMod, Int.reduceTDiv, Nat.reduceBEq, e2, zTe, zAt]) | (refine allI (fun b => ?_)) | (refine allT (fun τ => ?_)) | (refine brP (fun h => ?_) (fun h => ?_) <;> (try simp only [zgx, zbx] at h)) | (apply And.intro; focus (first | omega | (simp; done) | (simp +contextual; done) | (intros; and_intros <;> first | assumption | omega) | (intros; simp_all; done) | (intro hgd; refine ⟨hgd, ?_⟩; simp [hgd]; done) | (intro hgd; simp only [zgx] at hgd ⊢; omega))) | fail)
    refine ⟨by simp only [roomy]; omega, fun τ' => ⟨⟨(i + 1, τ'), by dsimp only; omega⟩, by dsimp only; omega, Ents.sub ⟨leV.refl _, leV.of_eq ?_, leV.refl _, trivial⟩ ⟨_, List.Sublist.refl _, List.Perm.refl _⟩⟩⟩
    simp [go_sem, hts, AtC_eq, tAt]
  · have hlen : i = r.ts.length := by simp only [decide_eq_false_iff_not] at hb; omega
    subst hlen
    repeat' (first | (simp (disch := first | omega | (simp only [List.length_cons, List.length_nil]; first | done | omega)) only [go_sem, Nat.reduceAdd, Nat.reduceMul, Nat.reduceSub, Nat.reduceEqDiff, Nat.reduceLeDiff, Nat.reduceMod, Nat.reduceLT, Int.reduceToNat, Int.reduceAdd, Int.reduceSub, Int.reduceMul, Int.reduceNeg, Int.reduceLE, Int.reduceLT, Int.reduceNe, Int.reduceEq, Int.reduceBEq, Int.reduceBNe, Int.reduceTMod, Int.reduceTDiv, Nat.reduceBEq, zAt]) | (refine allI (fun b => ?_)) | (refine allT (fun τ => ?_)) | (refine brP (fun h => ?_) (fun h => ?_) <;> (try simp only [zgx, zbx] at h)) | (apply And.intro; focus (first | omega | (simp; done) | (simp +contextual; done) | (intros; and_intros <;> first | assumption | omega) | (intros; simp_all; done) | (intro hgd; refine ⟨hgd, ?_⟩; simp [hgd]; done) | (intro hgd; simp only [zgx] at hgd ⊢; omega))) | fail)
    · refine ⟨by simp only [roomy]; omega, fun τ' => (leV.osl_sl _ _ _ _ _).trans (leV.of_eq ?_)⟩
      rw [AtS_eq, ownA, if_neg (by simpa using h), List.take_length]
      simp [AtC_eq, te0]
    · refine (leV.osl_sl _ _ _ _ _).trans (leV.of_eq ?_)
      rw [AtS_eq, ownA, if_pos (by simpa using h), List.take_length]
      simp
/-- the place of an atom -/
def idxA (l : List At) (a : At) : Int := match l.findIdx? (· == a) with
  | some i => i
  | none => -1
theorem idxA_is {l : List At} {a : At} {i : Nat} (h : i < l.length) (hp : l.getD i at0 = a) (hn : ∀ j, j < i → l.getD j at0 ≠ a) : idxA l a = i := by
  have : l.findIdx? (· == a) = some i := by
    rw [List.findIdx?_eq_some_iff_getElem]
    refine ⟨h, by simpa [List.getD, h] using hp, fun j hj => ?_⟩
    have := hn j hj
    have hjl : j < l.length := by omega
    simpa [List.getD, hjl] using this
  simp [idxA, this]
theorem idxA_none {l : List At} {a : At} (hn : ∀ j, j < l.length → l.getD j at0 ≠ a) : idxA l a = -1 := by
  have : l.findIdx? (· == a) = none := by
    rw [List.findIdx?_eq_none_iff]
    intro x hx
    obtain ⟨j, hj, rfl⟩ := List.getElem_of_mem hx
    have := hn j hj
    simpa [List.getD, hj] using this
  simp [idxA, this]
theorem atExt (a q : At) : a = q ↔ (a.te.f = q.te.f ∧ a.te.o = q.te.o ∧ a.te.n = q.te.n ∧ a.te.t = q.te.t ∧ a.te.x = q.te.x ∧ a.w = q.w ∧ a.p = q.p ∧ a.m = q.m) := by
  obtain ⟨⟨f, o, n, t, x⟩, w, p, m⟩ := a
  obtain ⟨⟨f', o', n', t', x'⟩, w', p', m'⟩ := q
  simp [and_assoc]
theorem index (l : List At) (a : At) (hl : l.length ≤ 1000000) : Pure Try.prog gl 65 [AtS l, .agg (AtC a)] (.int .i64 (idxA l a)) := by
  refine fn_pureT Try.func65 t65 Try.ntmps65 (by simp) ?_
  have hle := len_at l
  unfold c65 r65
  rw [AtS_eq, AtC_eq]
  repeat' (first | (simp (disch := first | omega | (simp only [List.length_cons, List.length_nil]; first | done | omega)) only [go_sem, Nat.reduceAdd, Nat.reduceMul, Nat.reduceSub, Nat.reduceEqDiff, Nat.reduceLeDiff, Nat.reduceMod, Nat.reduceLT, Int.reduceToNat, Int.reduceAdd, Int.reduceSub, Int.reduceMul, Int.reduceNeg, Int.reduceLE, Int.reduceLT, Int.reduceNe, Int.reduceEq, Int.reduceBEq, Int.reduceBNe, Int.reduceTMod, Int.reduceTDiv, Nat.reduceBEq]) | (refine allI (fun b => ?_)) | (refine allT (fun τ => ?_)) | (refine brP (fun h => ?_) (fun h => ?_) <;> (try simp only [zgx, zbx] at h)) | (apply And.intro; focus (first | omega | (simp; done) | (simp +contextual; done) | (intros; and_intros <;> first | assumption | omega) | (intros; simp_all; done) | (intro hgd; refine ⟨hgd, ?_⟩; simp [hgd]; done) | (intro hgd; simp only [zgx] at hgd ⊢; omega))) | fail)
  refine loopI (ι := Nat) (fun i => i ≤ l.length ∧ ∀ j, j < i → l.getD j at0 ≠ a) (fun i => (8, .int .i64 i) :: _) (fun _ => _) (fun i => l.length - i) 0 ⟨by omega, fun j hj => absurd hj (by omega)⟩ Ents.same ?_
  rintro i ⟨hi, hn⟩
  simp (disch := first | omega | (simp only [List.length_cons, List.length_nil]; first | done | omega)) only [go_sem, Nat.reduceAdd, Nat.reduceMul, Nat.reduceSub, Nat.reduceEqDiff, Nat.reduceLeDiff, Nat.reduceMod, Nat.reduceLT, Int.reduceToNat, Int.reduceAdd, Int.reduceSub, Int.reduceMul, Int.reduceNeg, Int.reduceLE, Int.reduceLT, Int.reduceNe, Int.reduceEq, Int.reduceBEq, Int.reduceBNe, Int.reduceTMod, Int.reduceTDiv, Nat.reduceBEq]
  refine brP (fun hb => ?_) (fun hb => ?_)
  · have hlt : i < l.length := by simpa using hb
    have e2 : ((l.flatMap AtC).drop (i * 8)).take 8 = AtC (l.getD i at0) := take_rows (f := AtC) (fun _ => rfl) at0 _ hlt
    have hf : l.getD i at0 = a → idxA l a = i := fun h => idxA_is hlt h hn
    generalize hq : l.getD i at0 = q at *
    rw [AtC_eq] at e2
    repeat' (first | (simp (disch := first | omega | (simp only [List.length_cons, List.length_nil]; first | done | omega)) only [go_sem, Nat.reduceAdd, Nat.reduceMul, Nat.reduceSub, Nat.reduceEqDiff, Nat.reduceLeDiff, Nat.reduceMod, Nat.reduceLT, Int.reduceToNat, Int.reduceAdd, Int.reduceSub, Int.reduceMul, Int.reduceNeg, Int.reduceLE, Int.reduceLT, Int.reduceNe, Int.reduceEq, Int.reduceBEq, Int.reduceBNe, Int.reduceTMod, Int.reduceTDiv, Nat.reduceBEq, e2]) | (refine allI (fun b => ?_)) | (refine allT (fun τ => ?_)) | (refine brP (fun h => ?_) (fun h => ?_) <;> (try simp only [zgx, zbx] at h)) | (apply And.intro; focus (first | omega | (simp; done) | (simp +contextual; done) | (intros; and_intros <;> first | assumption | omega) | (intros; simp_all; done) | (intro hgd; refine ⟨hgd, ?_⟩; simp [hgd]; done) | (intro hgd; simp only [zgx] at hgd ⊢; omega))) | fail)
    · rw [hf ((atExt a q).2 h).symm]
    · have hne : q ≠ a := fun e => by
        have := (atExt a q).1 e.symm
        obtain ⟨h1, h2, h3, h4, h5, h6, h7, h8⟩ := this
        simp [h1, h2, h3, h4, h5, h6, h7, h8] at h
      exact ⟨⟨i + 1, by omega, fun j hj => (by omega : j < i ∨ j = i).elim (hn j) fun e => by rw [e, hq]; exact hne⟩, by dsimp only; omega, Ents.envH (by simp [go_sem]) rfl⟩
  · rw [idxA_none fun j hj => hn j (by simp only [decide_eq_false_iff_not] at hb; omega)]
    repeat' (first | (simp (disch := first | omega | (simp only [List.length_cons, List.length_nil]; first | done | omega)) only [go_sem, Nat.reduceAdd, Nat.reduceMul, Nat.reduceSub, Nat.reduceEqDiff, Nat.reduceLeDiff, Nat.reduceMod, Nat.reduceLT, Int.reduceToNat, Int.reduceAdd, Int.reduceSub, Int.reduceMul, Int.reduceNeg, Int.reduceLE, Int.reduceLT, Int.reduceNe, Int.reduceEq, Int.reduceBEq, Int.reduceBNe, Int.reduceTMod, Int.reduceTDiv, Nat.reduceBEq]) | (refine allI (fun b => ?_)) | (refine allT (fun τ => ?_)) | (refine brP (fun h => ?_) (fun h => ?_) <;> (try simp only [zgx, zbx] at h)) | (apply And.intro; focus (first | omega | (simp; done) | (simp +contextual; done) | (intros; and_intros <;> first | assumption | omega) | (intros; simp_all; done) | (intro hgd; refine ⟨hgd, ?_⟩; simp [hgd]; done) | (intro hgd; simp only [zgx] at hgd ⊢; omega))) | fail)
theorem cont (l : List At) (a : At) (hl : l.length ≤ 1000000) : Pure Try.prog gl 41 [AtS l, .agg (AtC a)] (.bool (decide (0 ≤ idxA l a))) := by
  refine fn_pureT Try.func41 t41 Try.ntmps41 (by simp) ?_
  have hi := index l a hl
  have hle := len_at l
  unfold c41 r41
  rw [AtS_eq, AtC_eq] at *
  repeat' (first | (simp (disch := first | omega | (simp only [List.length_cons, List.length_nil]; first | done | omega)) only [go_sem, Nat.reduceAdd, Nat.reduceMul, Nat.reduceSub, Nat.reduceEqDiff, Nat.reduceLeDiff, Nat.reduceMod, Nat.reduceLT, Int.reduceToNat, Int.reduceAdd, Int.reduceSub, Int.reduceMul, Int.reduceNeg, Int.reduceLE, Int.reduceLT, Int.reduceNe, Int.reduceEq, Int.reduceBEq, Int.reduceBNe, Int.reduceTMod, Int.reduceTDiv, Nat.reduceBEq]) | (refine allI (fun b => ?_)) | (refine allT (fun τ => ?_)) | (refine brP (fun h => ?_) (fun h => ?_) <;> (try simp only [zgx, zbx] at h)) | refine call_U (hi) ?_ | refine callG_U (fun _ => hi) ?_ | refine call_T (hi) ?_ | refine callG_T (fun _ => hi) ?_ | refine call_N (hi) ?_ | refine call_of (hi) ?_ | refine callG_of (fun _ => hi) ?_ | (apply And.intro; focus (first | omega | (simp; done) | (simp +contextual; done) | (intros; and_intros <;> first | assumption | omega) | (intros; simp_all; done) | (intro hgd; refine ⟨hgd, ?_⟩; simp [hgd]; done) | (intro hgd; simp only [zgx] at hgd ⊢; omega))) | fail)
theorem one (a q : At) : Pure Try.prog gl 52 [.agg (AtC a), .agg (AtC q)] (.bool (decide (a = q))) := by
  refine fn_pureT Try.func52 t52 Try.ntmps52 (by simp) ?_
  unfold c52 r52
  rw [AtC_eq, AtC_eq]
  repeat' (first | (simp (disch := first | omega | (simp only [List.length_cons, List.length_nil]; first | done | omega)) only [go_sem, Nat.reduceAdd, Nat.reduceMul, Nat.reduceSub, Nat.reduceEqDiff, Nat.reduceLeDiff, Nat.reduceMod, Nat.reduceLT, Int.reduceToNat, Int.reduceAdd, Int.reduceSub, Int.reduceMul, Int.reduceNeg, Int.reduceLE, Int.reduceLT, Int.reduceNe, Int.reduceEq, Int.reduceBEq, Int.reduceBNe, Int.reduceTMod, Int.reduceTDiv, Nat.reduceBEq]) | (refine allI (fun b => ?_)) | (refine allT (fun τ => ?_)) | (refine brP (fun h => ?_) (fun h => ?_) <;> (try simp only [zgx, zbx] at h)) | (apply And.intro; focus (first | omega | (simp; done) | (simp +contextual; done) | (intros; and_intros <;> first | assumption | omega) | (intros; simp_all; done) | (intro hgd; refine ⟨hgd, ?_⟩; simp [hgd]; done) | (intro hgd; simp only [zgx] at hgd ⊢; omega))) | fail)
  rw [Bool.eq_iff_iff]
  simp [atExt, and_assoc]
theorem place (l : List At) (a : At) (hl : l.length ≤ 1000000) : Pure Try.prog gl 51 [AtS l, .agg (AtC a)] (.int .i64 (idxA l a)) := by
  refine fn_pureT Try.func51 t51 Try.ntmps51 (by simp) ?_
  have hle := len_at l
  unfold c51 r51
  rw [AtS_eq, AtC_eq]
  repeat' (first | (simp (disch := first | omega | (simp only [List.length_cons, List.length_nil]; first | done | omega)) only [go_sem, Nat.reduceAdd, Nat.reduceMul, Nat.reduceSub, Nat.reduceEqDiff, Nat.reduceLeDiff, Nat.reduceMod, Nat.reduceLT, Int.reduceToNat, Int.reduceAdd, Int.reduceSub, Int.reduceMul, Int.reduceNeg, Int.reduceLE, Int.reduceLT, Int.reduceNe, Int.reduceEq, Int.reduceBEq, Int.reduceBNe, Int.reduceTMod, Int.reduceTDiv, Nat.reduceBEq]) | (refine allI (fun b => ?_)) | (refine allT (fun τ => ?_)) | (refine brP (fun h => ?_) (fun h => ?_) <;> (try simp only [zgx, zbx] at h)) | (apply And.intro; focus (first | omega | (simp; done) | (simp +contextual; done) | (intros; and_intros <;> first | assumption | omega) | (intros; simp_all; done) | (intro hgd; refine ⟨hgd, ?_⟩; simp [hgd]; done) | (intro hgd; simp only [zgx] at hgd ⊢; omega))) | fail)
  refine loopI (ι := Nat) (fun i => i ≤ l.length ∧ ∀ j, j < i → l.getD j at0 ≠ a) (fun i => (5, .int .i64 i) :: _) (fun _ => _) (fun i => l.length - i) 0 ⟨by omega, fun j hj => absurd hj (by omega)⟩ Ents.same ?_
  rintro i ⟨hi, hn⟩
  simp (disch := first | omega | (simp only [List.length_cons, List.length_nil]; first | done | omega)) only [go_sem, Nat.reduceAdd, Nat.reduceMul, Nat.reduceSub, Nat.reduceEqDiff, Nat.reduceLeDiff, Nat.reduceMod, Nat.reduceLT, Int.reduceToNat, Int.reduceAdd, Int.reduceSub, Int.reduceMul, Int.reduceNeg, Int.reduceLE, Int.reduceLT, Int.reduceNe, Int.reduceEq, Int.reduceBEq, Int.reduceBNe, Int.reduceTMod, Int.reduceTDiv, Nat.reduceBEq]
  refine brP (fun hb => ?_) (fun hb => ?_)
  · have hlt : i < l.length := by simpa using hb
    have e2 : ((l.flatMap AtC).drop (i * 8)).take 8 = AtC (l.getD i at0) := take_rows (f := AtC) (fun _ => rfl) at0 _ hlt
    have hf : l.getD i at0 = a → idxA l a = i := fun h => idxA_is hlt h hn
    generalize hq : l.getD i at0 = q at *
    have h1 := one q a
    rw [AtC_eq, AtC_eq] at h1
    rw [AtC_eq] at e2
    repeat' (first | (simp (disch := first | omega | (simp only [List.length_cons, List.length_nil]; first | done | omega)) only [go_sem, Nat.reduceAdd, Nat.reduceMul, Nat.reduceSub, Nat.reduceEqDiff, Nat.reduceLeDiff, Nat.reduceMod, Nat.reduceLT, Int.reduceToNat, Int.reduceAdd, Int.reduceSub, Int.reduceMul, Int.reduceNeg, Int.reduceLE, Int.reduceLT, Int.reduceNe, Int.reduceEq, Int.reduceBEq, Int.reduceBNe, Int.reduceTMod, Int.reduceTDiv, Nat.reduceBEq, e2]) | (refine allI (fun b => ?_)) | (refine allT (fun τ => ?_)) | (refine brP (fun h => ?_) (fun h => ?_) <;> (try simp only [zgx, zbx] at h)) | refine call_U (h1) ?_ | refine callG_U (fun _ => h1) ?_ | refine call_T (h1) ?_ | refine callG_T (fun _ => h1) ?_ | refine call_N (h1) ?_ | refine call_of (h1) ?_ | refine callG_of (fun _ => h1) ?_ | (apply And.intro; focus (first | omega | (simp; done) | (simp +contextual; done) | (intros; and_intros <;> first | assumption | omega) | (intros; simp_all; done) | (intro hgd; refine ⟨hgd, ?_⟩; simp [hgd]; done) | (intro hgd; simp only [zgx] at hgd ⊢; omega))) | fail)
    · rw [hf h]
    · exact ⟨⟨i + 1, by omega, fun j hj => (by omega : j < i ∨ j = i).elim (hn j) fun e => by rw [e, hq]; exact h⟩, by dsimp only; omega, Ents.envH (by simp [go_sem]) rfl⟩
  · rw [idxA_none fun j hj => hn j (by simp only [decide_eq_false_iff_not] at hb; omega)]
    repeat' (first | (simp (disch := first | omega | (simp only [List.length_cons, List.length_nil]; first | done | omega)) only [go_sem, Nat.reduceAdd, Nat.reduceMul, Nat.reduceSub, Nat.reduceEqDiff, Nat.reduceLeDiff, Nat.reduceMod, Nat.reduceLT, Int.reduceToNat, Int.reduceAdd, Int.reduceSub, Int.reduceMul, Int.reduceNeg, Int.reduceLE, Int.reduceLT, Int.reduceNe, Int.reduceEq, Int.reduceBEq, Int.reduceBNe, Int.reduceTMod, Int.reduceTDiv, Nat.reduceBEq]) | (refine allI (fun b => ?_)) | (refine allT (fun τ => ?_)) | (refine brP (fun h => ?_) (fun h => ?_) <;> (try simp only [zgx, zbx] at h)) | (apply And.intro; focus (first | omega | (simp; done) | (simp +contextual; done) | (intros; and_intros <;> first | assumption | omega) | (intros; simp_all; done) | (intro hgd; refine ⟨hgd, ?_⟩; simp [hgd]; done) | (intro hgd; simp only [zgx] at hgd ⊢; omega))) | fail)
end Go.Proofs.Ytcngkeeknlloaaa
