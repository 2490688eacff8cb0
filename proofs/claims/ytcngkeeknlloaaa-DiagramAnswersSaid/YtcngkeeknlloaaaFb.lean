/- Layer 16: the reference's build, with the atoms owned. -/
import Derived.Test.YtcngkeeknlloaaaDk
namespace Go.Proofs.Ytcngkeeknlloaaa
open Go Go.Lx
set_option linter.unusedSimpArgs false
set_option linter.unusedVariables false
set_option maxRecDepth 100000
set_option maxHeartbeats 4000000

def nodS (ns : List Br) (x : Br) : Int × List Br := if x.n = x.y then (x.n, ns) else match idxB ns x with
  | some j => (j, ns)
  | none => (ns.length, ns ++ [x])
theorem idxB_is {ns : List Br} {x : Br} {i : Nat} (h : i < ns.length) (hp : ns.getD i br0 = x) (hn : ∀ m, m < i → ns.getD m br0 ≠ x) : idxB ns x = some i := by
  rw [idxB, List.findIdx?_eq_some_iff_getElem]
  refine ⟨h, by simpa [List.getD, h] using hp, fun j hj => ?_⟩
  have := hn j hj
  have hjl : j < ns.length := by omega
  simpa [List.getD, hjl] using this
theorem idxB_no {ns : List Br} {x : Br} (hn : ∀ m, m < ns.length → ns.getD m br0 ≠ x) : idxB ns x = none := by
  rw [idxB, List.findIdx?_eq_none_iff]
  intro y hy
  obtain ⟨j, hj, rfl⟩ := List.getElem_of_mem hy
  have := hn j hj
  simpa [List.getD, hj] using this
theorem brExt (a q : Br) : a = q ↔ (a.a = q.a ∧ a.n = q.n ∧ a.y = q.y) := by
  obtain ⟨a, n, y⟩ := a
  obtain ⟨a', n', y'⟩ := q
  simp
def Hr (b : Nat) (τa : Tok) (tb : List At) (ns : List Br) (τ : Tok) : Heap := [(8, .blk b [.osl 82 τa 8 tb.length (tb.flatMap AtC), .osl 39 τ 3 ns.length (ns.flatMap BrC), .int .i64 0]), (39, .tok τ)]
theorem node (b : Nat) (τa : Tok) (tb : List At) (ns : List Br) (τ : Tok) (x : Br) (hl : ns.length ≤ 1000000) : LCalls Try.prog gl 66 [.ptr 8 b 0, .agg (BrC x)] (Hr b τa tb ns τ) fun r H => ∃ τ', r = .int .i64 (nodS ns x).1 ∧ H = Hr b τa tb (nodS ns x).2 τ' := by
  refine fn_viewT Try.func66 t66 Try.ntmps66 (by simp) ?_
  have hle := len_br ns
  have hR : nodS ns x = if x.n = x.y then (x.n, ns) else match idxB ns x with
    | some j => ((j : Int), ns)
    | none => ((ns.length : Int), ns ++ [x]) := rfl
  generalize nodS ns x = R at *
  unfold c66 r66
  rw [BrC_eq]
  simp only [Hr]
  repeat' (first | (simp (disch := first | omega | (simp only [List.length_cons, List.length_nil]; first | done | omega)) only [go_sem, Nat.reduceAdd, Nat.reduceMul, Nat.reduceSub, Nat.reduceEqDiff, Nat.reduceLeDiff, Nat.reduceMod, Nat.reduceLT, Int.reduceToNat, Int.reduceAdd, Int.reduceSub, Int.reduceMul, Int.reduceNeg, Int.reduceLE, Int.reduceLT, Int.reduceNe, Int.reduceEq, Int.reduceBEq, Int.reduceBNe, Int.reduceTMod, Int.reduceTDiv, Nat.reduceBEq]) | (refine allI (fun b => ?_)) | (refine allT (fun τ => ?_)) | (refine brP (fun h => ?_) (fun h => ?_) <;> (try simp only [zgx, zbx] at h)) | (apply And.intro; focus (first | omega | (simp; done) | (simp +contextual; done) | (intros; and_intros <;> first | assumption | omega) | (intros; simp_all; done) | (intro hgd; refine ⟨hgd, ?_⟩; simp [hgd]; done) | (intro hgd; simp only [zgx] at hgd ⊢; omega))) | fail)
  · rw [if_pos ‹_›] at hR
    subst hR
    exact ⟨_, _, leVH.of (leV.refl _) ⟨_, List.Sublist.cons _ (List.Sublist.refl _), List.Perm.refl _⟩, τ, rfl, rfl⟩
  · rename_i b3
    rw [if_neg ‹_›] at hR
    refine loopI (ι := Nat) (fun i => i ≤ ns.length ∧ ∀ m, m < i → ns.getD m br0 ≠ x) (fun i => (5, .int .i64 i) :: _) (fun _ => _) (fun i => ns.length - i) 0 ⟨by omega, fun j hj => absurd hj (by omega)⟩ Ents.same ?_
    rintro i ⟨hi, hn⟩
    simp (disch := first | omega | (simp only [List.length_cons, List.length_nil]; first | done | omega)) only [go_sem, Nat.reduceAdd, Nat.reduceMul, Nat.reduceSub, Nat.reduceEqDiff, Nat.reduceLeDiff, Nat.reduceMod, Nat.reduceLT, Int.reduceToNat, Int.reduceAdd, Int.reduceSub, Int.reduceMul, Int.reduceNeg, Int.reduceLE, Int.reduceLT, Int.reduceNe, Int.reduceEq, Int.reduceBEq, Int.reduceBNe, Int.reduceTMod, Int.reduceTDiv, Nat.reduceBEq]
    refine brP (fun hb => ?_) (fun hb => ?_)
    · have hlt : i < ns.length := by simpa using hb
      have e2 : ((ns.flatMap BrC).drop (i * 3)).take 3 = BrC (ns.getD i br0) := take_rows (f := BrC) (fun _ => rfl) br0 _ hlt
      have hf : ns.getD i br0 = x → idxB ns x = some i := fun h => idxB_is hlt h hn
      generalize hq : ns.getD i br0 = q at *
      rw [BrC_eq] at e2
      repeat' (first | (simp (disch := first | omega | (simp only [List.length_cons, List.length_nil]; first | done | omega)) only [go_sem, Nat.reduceAdd, Nat.reduceMul, Nat.reduceSub, Nat.reduceEqDiff, Nat.reduceLeDiff, Nat.reduceMod, Nat.reduceLT, Int.reduceToNat, Int.reduceAdd, Int.reduceSub, Int.reduceMul, Int.reduceNeg, Int.reduceLE, Int.reduceLT, Int.reduceNe, Int.reduceEq, Int.reduceBEq, Int.reduceBNe, Int.reduceTMod, Int.reduceTDiv, Nat.reduceBEq, e2]) | (refine allI (fun b => ?_)) | (refine allT (fun τ => ?_)) | (refine brP (fun h => ?_) (fun h => ?_) <;> (try simp only [zgx, zbx] at h)) | (apply And.intro; focus (first | omega | (simp; done) | (simp +contextual; done) | (intros; and_intros <;> first | assumption | omega) | (intros; simp_all; done) | (intro hgd; refine ⟨hgd, ?_⟩; simp [hgd]; done) | (intro hgd; simp only [zgx] at hgd ⊢; omega))) | fail)
      · rw [hf ((brExt q x).2 h)] at hR
        subst hR
        exact ⟨_, _, leVH.of (leV.refl _) ⟨_, List.Sublist.cons _ (List.Sublist.refl _), List.Perm.refl _⟩, τ, rfl, rfl⟩
      · have hne : q ≠ x := fun e => by
          obtain ⟨g1, g2, g3⟩ := (brExt q x).1 e
          simp [g1, g2, g3] at h
        exact ⟨⟨i + 1, by omega, fun j hj => (by omega : j < i ∨ j = i).elim (hn j) fun e => by rw [e, hq]; exact hne⟩, by dsimp only; omega, Ents.envH (by simp [go_sem]) rfl⟩
    · have hie : i = ns.length := by simp only [decide_eq_false_iff_not] at hb; omega
      rw [idxB_no fun j hj => hn j (by omega)] at hR
      dsimp only at hR
      subst hR
      repeat' (first | (simp (disch := first | omega | (simp only [List.length_cons, List.length_nil]; first | done | omega)) only [go_sem, Nat.reduceAdd, Nat.reduceMul, Nat.reduceSub, Nat.reduceEqDiff, Nat.reduceLeDiff, Nat.reduceMod, Nat.reduceLT, Int.reduceToNat, Int.reduceAdd, Int.reduceSub, Int.reduceMul, Int.reduceNeg, Int.reduceLE, Int.reduceLT, Int.reduceNe, Int.reduceEq, Int.reduceBEq, Int.reduceBNe, Int.reduceTMod, Int.reduceTDiv, Nat.reduceBEq, zBr]) | (refine allI (fun b => ?_)) | (refine allT (fun τ => ?_)) | (refine brP (fun h => ?_) (fun h => ?_) <;> (try simp only [zgx, zbx] at h)) | (apply And.intro; focus (first | omega | (simp; done) | (simp +contextual; done) | (intros; and_intros <;> first | assumption | omega) | (intros; simp_all; done) | (intro hgd; refine ⟨hgd, ?_⟩; simp [hgd]; done) | (intro hgd; simp only [zgx] at hgd ⊢; omega))) | fail)
      refine ⟨by simp only [roomy]; omega, fun τ' => ?_⟩
      repeat' (first | (simp (disch := first | omega | (simp only [List.length_cons, List.length_nil]; first | done | omega)) only [go_sem, Nat.reduceAdd, Nat.reduceMul, Nat.reduceSub, Nat.reduceEqDiff, Nat.reduceLeDiff, Nat.reduceMod, Nat.reduceLT, Int.reduceToNat, Int.reduceAdd, Int.reduceSub, Int.reduceMul, Int.reduceNeg, Int.reduceLE, Int.reduceLT, Int.reduceNe, Int.reduceEq, Int.reduceBEq, Int.reduceBNe, Int.reduceTMod, Int.reduceTDiv, Nat.reduceBEq]) | (refine allI (fun b => ?_)) | (refine allT (fun τ => ?_)) | (refine brP (fun h => ?_) (fun h => ?_) <;> (try simp only [zgx, zbx] at h)) | (apply And.intro; focus (first | omega | (simp; done) | (simp +contextual; done) | (intros; and_intros <;> first | assumption | omega) | (intros; simp_all; done) | (intro hgd; refine ⟨hgd, ?_⟩; simp [hgd]; done) | (intro hgd; simp only [zgx] at hgd ⊢; omega))) | fail)
      exact ⟨_, _, leVH.of (leV.of_eq (by simp)) ⟨_, List.Sublist.cons_cons _ (List.Sublist.cons _ (List.Sublist.refl _)), (List.perm_append_singleton _ _).symm⟩, τ', rfl, by simp [BrC_eq]⟩
theorem bld_node (lf : Nat → Int) (k i ans : Nat) (ns : List Br) : bld lf (k + 1) i ans ns = nodS (bld lf k (i + 1) (ans ||| 2 ^ i) (bld lf k (i + 1) ans ns).2).2 ⟨i, (bld lf k (i + 1) ans ns).1, (bld lf k (i + 1) (ans ||| 2 ^ i) (bld lf k (i + 1) ans ns).2).1⟩ := rfl
theorem chS_bd {l : List Rl} {wh : List Int} {tb : List At} (h : WhOk l wh tb) (m : Nat) : -2000000 ≤ chS l wh tb m ∧ chS l wh tb m < 0 := by
  unfold chS
  have := h.ll
  split
  · rename_i n hn
    have := h.ix n (List.mem_of_find?_eq_some hn)
    omega
  · omega
theorem rbuild (b : Nat) (τa : Tok) (l : List Rl) (wh : List Int) (tb : List At) (h : WhOk l wh tb) : ∀ (k i ans : Nat) (ns : List Br) (τ : Tok), i + k = tb.length → ans < 4096 → ns.length + 2 ^ k ≤ 5000 → (∀ b ∈ ns, brOk b) →
    LCalls Try.prog gl 45 [.ptr 8 b 0, .sl 8 l.length (l.flatMap RlC), .sl 1 wh.length (wh.map (LV.int .i64)), .int .i64 i, .int .i64 ans] (Hr b τa tb ns τ) fun r H => ∃ τ', r = .int .i64 (bld (chS l wh tb) k i ans ns).1 ∧ H = Hr b τa tb (bld (chS l wh tb) k i ans ns).2 τ'
  | 0, i, ans, ns, τ, h1, h2, h3, h4 => by
    refine fn_viewT Try.func45 t45 Try.ntmps45 (by simp) ?_
    have hle := len_at tb
    have hlt := h.lt
    have hch := choose l wh tb ans h (by omega)
    have hc : ((i : Int) == (tb.length : Int)) = true := by simp; omega
    unfold c45 r45
    simp only [Hr, bld]
    rw [RlS_eq, WhS_eq, AtS_eq] at hch
    have hch : Pure Try.prog gl _ [_, _, .osl 82 τa 8 tb.length (tb.flatMap AtC), _] _ := LCalls.args hch ⟨leV.refl _, leV.refl _, leV.osl_sl _ _ _ _ _, leV.refl _, trivial⟩
    repeat' (first | (simp (disch := first | omega | (simp only [List.length_cons, List.length_nil]; first | done | omega)) only [go_sem, Nat.reduceAdd, Nat.reduceMul, Nat.reduceSub, Nat.reduceEqDiff, Nat.reduceLeDiff, Nat.reduceMod, Nat.reduceLT, Int.reduceToNat, Int.reduceAdd, Int.reduceSub, Int.reduceMul, Int.reduceNeg, Int.reduceLE, Int.reduceLT, Int.reduceNe, Int.reduceEq, Int.reduceBEq, Int.reduceBNe, Int.reduceTMod, Int.reduceTDiv, Nat.reduceBEq, hc]) | (refine allI (fun b => ?_)) | (refine allT (fun τ => ?_)) | (refine brP (fun h => ?_) (fun h => ?_) <;> (try simp only [zgx, zbx] at h)) | refine call_U (hch) ?_ | refine callG_U (fun _ => hch) ?_ | refine call_T (hch) ?_ | refine callG_T (fun _ => hch) ?_ | refine call_N (hch) ?_ | refine call_of (hch) ?_ | refine callG_of (fun _ => hch) ?_ | (apply And.intro; focus (first | omega | (simp; done) | (simp +contextual; done) | (intros; and_intros <;> first | assumption | omega) | (intros; simp_all; done) | (intro hgd; refine ⟨hgd, ?_⟩; simp [hgd]; done) | (intro hgd; simp only [zgx] at hgd ⊢; omega))) | fail)
    exact ⟨_, _, leVH.of (leV.refl _) ⟨_, List.Sublist.refl _, List.Perm.refl _⟩, τ, rfl, rfl⟩
  | k + 1, i, ans, ns, τ, h1, h2, h3, h4 => by
    refine fn_viewT Try.func45 t45 Try.ntmps45 (by simp) ?_
    have hle := len_at tb
    have hlt := h.lt
    have hc : ((i : Int) == (tb.length : Int)) = false := by simp; omega
    have e2 : 2 ^ (k + 1) = 2 ^ k + 2 ^ k := by rw [Nat.pow_succ]; omega
    have hp : 0 < 2 ^ k := Nat.pos_of_ne_zero (by simp)
    have hbd : ∀ m, -2000000 ≤ chS l wh tb m ∧ chS l wh tb m ≤ 0 := fun m => by have := chS_bd h m; omega
    obtain ⟨a1, a2, a3, a4⟩ := bld_ok hbd k (i + 1) ans ns (by omega) (by omega) h4
    have c1 := rbuild b τa l wh tb h k (i + 1) ans ns τ (by omega) h2 (by omega) h4
    have s1 := shl_one (k := i) (by omega)
    have s2 := or_i64 (a := ans) (b := 2 ^ i) (by omega) (pow_lt62 (by omega))
    have hor : ans ||| 2 ^ i < 4096 := Nat.or_lt_two_pow (n := 12) h2 (Nat.pow_lt_pow_right (by omega) (by omega))
    rw [bld_node]
    generalize hr1 : bld (chS l wh tb) k (i + 1) ans ns = r1 at *
    obtain ⟨d1, d2, d3, d4⟩ := bld_ok hbd k (i + 1) (ans ||| 2 ^ i) r1.2 (by omega) (by omega) a1
    have c2 := fun τ => rbuild b τa l wh tb h k (i + 1) (ans ||| 2 ^ i) r1.2 τ (by omega) hor (by omega) a1
    generalize hr2 : bld (chS l wh tb) k (i + 1) (ans ||| 2 ^ i) r1.2 = r2 at *
    have c3 := fun τ => node b τa tb r2.2 τ ⟨i, r1.1, r2.1⟩ (by omega)
    generalize nodS r2.2 ⟨i, r1.1, r2.1⟩ = R at *
    unfold c45 r45
    rw [BrC_eq] at c3
    simp only [Hr] at *
    rw [Int.natCast_add, Int.natCast_one] at c1 c2
    repeat' (first | (simp (disch := first | omega | (simp only [List.length_cons, List.length_nil]; first | done | omega)) only [go_sem, Nat.reduceAdd, Nat.reduceMul, Nat.reduceSub, Nat.reduceEqDiff, Nat.reduceLeDiff, Nat.reduceMod, Nat.reduceLT, Int.reduceToNat, Int.reduceAdd, Int.reduceSub, Int.reduceMul, Int.reduceNeg, Int.reduceLE, Int.reduceLT, Int.reduceNe, Int.reduceEq, Int.reduceBEq, Int.reduceBNe, Int.reduceTMod, Int.reduceTDiv, Nat.reduceBEq, hc]) | (refine allI (fun b => ?_)) | (refine allT (fun τ => ?_)) | (refine brP (fun h => ?_) (fun h => ?_) <;> (try simp only [zgx, zbx] at h)) | (apply And.intro; focus (first | omega | (simp; done) | (simp +contextual; done) | (intros; and_intros <;> first | assumption | omega) | (intros; simp_all; done) | (intro hgd; refine ⟨hgd, ?_⟩; simp [hgd]; done) | (intro hgd; simp only [zgx] at hgd ⊢; omega))) | fail)
    first | refine actsQ_U (c1) (pick_perm rfl (pick_perm rfl (List.Perm.refl _))) ?_ | refine actsQ_T (c1) (pick_perm rfl (pick_perm rfl (List.Perm.refl _))) ?_ | refine actsQ_N (c1) (pick_perm rfl (pick_perm rfl (List.Perm.refl _))) ?_ | refine actsQ_of (c1) (pick_perm rfl (pick_perm rfl (List.Perm.refl _))) ?_
    rintro _ _ ⟨τ1, rfl, rfl⟩
    repeat' (first | (simp (disch := first | omega | (simp only [List.length_cons, List.length_nil]; first | done | omega)) only [go_sem, Nat.reduceAdd, Nat.reduceMul, Nat.reduceSub, Nat.reduceEqDiff, Nat.reduceLeDiff, Nat.reduceMod, Nat.reduceLT, Int.reduceToNat, Int.reduceAdd, Int.reduceSub, Int.reduceMul, Int.reduceNeg, Int.reduceLE, Int.reduceLT, Int.reduceNe, Int.reduceEq, Int.reduceBEq, Int.reduceBNe, Int.reduceTMod, Int.reduceTDiv, Nat.reduceBEq, s1, s2]) | (refine allI (fun b => ?_)) | (refine allT (fun τ => ?_)) | (refine brP (fun h => ?_) (fun h => ?_) <;> (try simp only [zgx, zbx] at h)) | (apply And.intro; focus (first | omega | (simp; done) | (simp +contextual; done) | (intros; and_intros <;> first | assumption | omega) | (intros; simp_all; done) | (intro hgd; refine ⟨hgd, ?_⟩; simp [hgd]; done) | (intro hgd; simp only [zgx] at hgd ⊢; omega))) | fail)
    first | refine actsQ_U (c2 τ1) (pick_perm rfl (pick_perm rfl (List.Perm.refl _))) ?_ | refine actsQ_T (c2 τ1) (pick_perm rfl (pick_perm rfl (List.Perm.refl _))) ?_ | refine actsQ_N (c2 τ1) (pick_perm rfl (pick_perm rfl (List.Perm.refl _))) ?_ | refine actsQ_of (c2 τ1) (pick_perm rfl (pick_perm rfl (List.Perm.refl _))) ?_
    rintro _ _ ⟨τ2, rfl, rfl⟩
    repeat' (first | (simp (disch := first | omega | (simp only [List.length_cons, List.length_nil]; first | done | omega)) only [go_sem, Nat.reduceAdd, Nat.reduceMul, Nat.reduceSub, Nat.reduceEqDiff, Nat.reduceLeDiff, Nat.reduceMod, Nat.reduceLT, Int.reduceToNat, Int.reduceAdd, Int.reduceSub, Int.reduceMul, Int.reduceNeg, Int.reduceLE, Int.reduceLT, Int.reduceNe, Int.reduceEq, Int.reduceBEq, Int.reduceBNe, Int.reduceTMod, Int.reduceTDiv, Nat.reduceBEq]) | (refine allI (fun b => ?_)) | (refine allT (fun τ => ?_)) | (refine brP (fun h => ?_) (fun h => ?_) <;> (try simp only [zgx, zbx] at h)) | (apply And.intro; focus (first | omega | (simp; done) | (simp +contextual; done) | (intros; and_intros <;> first | assumption | omega) | (intros; simp_all; done) | (intro hgd; refine ⟨hgd, ?_⟩; simp [hgd]; done) | (intro hgd; simp only [zgx] at hgd ⊢; omega))) | fail)
    first | refine actsQ_U (c3 τ2) (pick_perm rfl (pick_perm rfl (List.Perm.refl _))) ?_ | refine actsQ_T (c3 τ2) (pick_perm rfl (pick_perm rfl (List.Perm.refl _))) ?_ | refine actsQ_N (c3 τ2) (pick_perm rfl (pick_perm rfl (List.Perm.refl _))) ?_ | refine actsQ_of (c3 τ2) (pick_perm rfl (pick_perm rfl (List.Perm.refl _))) ?_
    rintro _ _ ⟨τ3, rfl, rfl⟩
    repeat' (first | (simp (disch := first | omega | (simp only [List.length_cons, List.length_nil]; first | done | omega)) only [go_sem, Nat.reduceAdd, Nat.reduceMul, Nat.reduceSub, Nat.reduceEqDiff, Nat.reduceLeDiff, Nat.reduceMod, Nat.reduceLT, Int.reduceToNat, Int.reduceAdd, Int.reduceSub, Int.reduceMul, Int.reduceNeg, Int.reduceLE, Int.reduceLT, Int.reduceNe, Int.reduceEq, Int.reduceBEq, Int.reduceBNe, Int.reduceTMod, Int.reduceTDiv, Nat.reduceBEq]) | (refine allI (fun b => ?_)) | (refine allT (fun τ => ?_)) | (refine brP (fun h => ?_) (fun h => ?_) <;> (try simp only [zgx, zbx] at h)) | (apply And.intro; focus (first | omega | (simp; done) | (simp +contextual; done) | (intros; and_intros <;> first | assumption | omega) | (intros; simp_all; done) | (intro hgd; refine ⟨hgd, ?_⟩; simp [hgd]; done) | (intro hgd; simp only [zgx] at hgd ⊢; omega))) | fail)
    exact ⟨_, _, leVH.of (leV.refl _) ⟨_, List.Sublist.refl _, List.Perm.refl _⟩, τ3, rfl, rfl⟩
end Go.Proofs.Ytcngkeeknlloaaa
