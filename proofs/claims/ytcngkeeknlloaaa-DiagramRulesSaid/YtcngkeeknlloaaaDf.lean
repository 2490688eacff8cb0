/- Layer 16: Valid and Decide. -/
import Derived.Test.YtcngkeeknlloaaaDe
namespace Go.Proofs.Ytcngkeeknlloaaa
open Go Go.Lx
set_option linter.unusedSimpArgs false
set_option linter.unusedVariables false
set_option maxRecDepth 100000
set_option maxHeartbeats 4000000

theorem br_cell {ns : List Br} {m : Nat} (h : m < ns.length) (j : Nat) (hj : j < 3) : (ns.flatMap BrC).getD (m * 3 + j) .any = (BrC (ns.getD m br0)).getD j .any := by
  have g0 : ((ns.flatMap BrC).drop (m * 3)).take 3 = BrC (ns.getD m br0) := take_rows (f := BrC) (fun _ => rfl) br0 _ h
  rw [← g0]
  simp [List.getD, List.getElem?_take, hj]
theorem un_anyL : (unQ .not .any).2 = .any := Eq.trans rfl rfl
def bel (ns : List Br) (a ref : Int) : Bool := decide (ref < 0) || (decide (ref < ns.length) && decide (a < (ns.getD ref.toNat br0).a))
theorem below (ns : List Br) (a ref : Int) (hl : ns.length ≤ 1000000) : Pure Try.prog gl 47 [.sl 3 ns.length (ns.flatMap BrC), .int .i64 a, .int .i64 ref] (.bool (bel ns a ref)) := by
  refine fn_pureT Try.func47 t47 Try.ntmps47 (by simp) ?_
  have hle := len_br ns
  unfold c47 r47
  have hv : (∃ x, (ns.flatMap BrC).getD (ref.toNat * 3) .any = .int .i64 x) ∨ (ns.flatMap BrC).getD (ref.toNat * 3) .any = .any := by
    by_cases hm : ref.toNat < ns.length
    · exact .inl ⟨_, br_cell hm 0 (by omega)⟩
    · exact .inr (by simp [List.getD]; rw [List.getElem?_eq_none (by omega)]; rfl)
  by_cases h1 : ref < 0
  · have d1 : decide (ref < 0) = true := by simp [h1]
    have hb : bel ns a ref = true := by simp [bel, h1]
    rw [hb]
    rcases hv with ⟨x, hv⟩ | hv
    · repeat' (first | (simp (disch := first | omega | (simp only [List.length_cons, List.length_nil]; first | done | omega)) only [go_sem, Nat.reduceAdd, Nat.reduceMul, Nat.reduceSub, Nat.reduceEqDiff, Nat.reduceLeDiff, Nat.reduceMod, Nat.reduceLT, Int.reduceToNat, Int.reduceAdd, Int.reduceSub, Int.reduceMul, Int.reduceNeg, Int.reduceLE, Int.reduceLT, Int.reduceNe, Int.reduceEq, Int.reduceBEq, Int.reduceBNe, Int.reduceTMod, Int.reduceTDiv, Nat.reduceBEq, d1, hv]) | (refine allI (fun b => ?_)) | (refine allT (fun τ => ?_)) | (refine brP (fun h => ?_) (fun h => ?_) <;> (try simp only [zgx, zbx] at h)) | (apply And.intro; focus (first | omega | (simp; done) | (simp +contextual; done) | (intros; and_intros <;> first | assumption | omega) | (intros; simp_all; done) | (intro hgd; refine ⟨hgd, ?_⟩; simp [hgd]; done) | (intro hgd; simp only [zgx] at hgd ⊢; omega))) | fail)
    · repeat' (first | (simp (disch := first | omega | (simp only [List.length_cons, List.length_nil]; first | done | omega)) only [go_sem, Nat.reduceAdd, Nat.reduceMul, Nat.reduceSub, Nat.reduceEqDiff, Nat.reduceLeDiff, Nat.reduceMod, Nat.reduceLT, Int.reduceToNat, Int.reduceAdd, Int.reduceSub, Int.reduceMul, Int.reduceNeg, Int.reduceLE, Int.reduceLT, Int.reduceNe, Int.reduceEq, Int.reduceBEq, Int.reduceBNe, Int.reduceTMod, Int.reduceTDiv, Nat.reduceBEq, d1, hv, bin_anyL, pick_oa0, LV.v, LV.g]) | (refine allI (fun b => ?_)) | (refine allT (fun τ => ?_)) | (refine brP (fun h => ?_) (fun h => ?_) <;> (try simp only [zgx, zbx] at h)) | (apply And.intro; focus (first | omega | (simp; done) | (simp +contextual; done) | (intros; and_intros <;> first | assumption | omega) | (intros; simp_all; done) | (intro hgd; refine ⟨hgd, ?_⟩; simp [hgd]; done) | (intro hgd; simp only [zgx] at hgd ⊢; omega))) | fail)
  · have d1 : decide (ref < 0) = false := by simp; omega
    obtain ⟨m, rfl⟩ : ∃ m : Nat, ref = (m : Int) := ⟨ref.toNat, by omega⟩
    rw [Int.toNat_natCast] at hv
    by_cases h2 : m < ns.length
    · have d2 : decide ((m : Int) < (ns.length : Int)) = true := by simp [h2]
      have hb : bel ns a m = decide (a < (ns.getD m br0).a) := by simp [bel, h2, h1]
      have g0 : (ns.flatMap BrC).getD (m * 3) .any = .int .i64 (ns.getD m br0).a := br_cell h2 0 (by omega)
      rw [hb]
      repeat' (first | (simp (disch := first | omega | (simp only [List.length_cons, List.length_nil]; first | done | omega)) only [go_sem, Nat.reduceAdd, Nat.reduceMul, Nat.reduceSub, Nat.reduceEqDiff, Nat.reduceLeDiff, Nat.reduceMod, Nat.reduceLT, Int.reduceToNat, Int.reduceAdd, Int.reduceSub, Int.reduceMul, Int.reduceNeg, Int.reduceLE, Int.reduceLT, Int.reduceNe, Int.reduceEq, Int.reduceBEq, Int.reduceBNe, Int.reduceTMod, Int.reduceTDiv, Nat.reduceBEq, d1, d2, g0]) | (refine allI (fun b => ?_)) | (refine allT (fun τ => ?_)) | (refine brP (fun h => ?_) (fun h => ?_) <;> (try simp only [zgx, zbx] at h)) | (apply And.intro; focus (first | omega | (simp; done) | (simp +contextual; done) | (intros; and_intros <;> first | assumption | omega) | (intros; simp_all; done) | (intro hgd; refine ⟨hgd, ?_⟩; simp [hgd]; done) | (intro hgd; simp only [zgx] at hgd ⊢; omega))) | fail)
      omega
    · have d2 : decide ((m : Int) < (ns.length : Int)) = false := by simp; omega
      have hb : bel ns a m = false := by simp [bel, h1]; omega
      rw [hb]
      rcases hv with ⟨x, hv⟩ | hv
      · repeat' (first | (simp (disch := first | omega | (simp only [List.length_cons, List.length_nil]; first | done | omega)) only [go_sem, Nat.reduceAdd, Nat.reduceMul, Nat.reduceSub, Nat.reduceEqDiff, Nat.reduceLeDiff, Nat.reduceMod, Nat.reduceLT, Int.reduceToNat, Int.reduceAdd, Int.reduceSub, Int.reduceMul, Int.reduceNeg, Int.reduceLE, Int.reduceLT, Int.reduceNe, Int.reduceEq, Int.reduceBEq, Int.reduceBNe, Int.reduceTMod, Int.reduceTDiv, Nat.reduceBEq, d1, d2, hv]) | (refine allI (fun b => ?_)) | (refine allT (fun τ => ?_)) | (refine brP (fun h => ?_) (fun h => ?_) <;> (try simp only [zgx, zbx] at h)) | (apply And.intro; focus (first | omega | (simp; done) | (simp +contextual; done) | (intros; and_intros <;> first | assumption | omega) | (intros; simp_all; done) | (intro hgd; refine ⟨hgd, ?_⟩; simp [hgd]; done) | (intro hgd; simp only [zgx] at hgd ⊢; omega))) | fail)
      · repeat' (first | (simp (disch := first | omega | (simp only [List.length_cons, List.length_nil]; first | done | omega)) only [go_sem, Nat.reduceAdd, Nat.reduceMul, Nat.reduceSub, Nat.reduceEqDiff, Nat.reduceLeDiff, Nat.reduceMod, Nat.reduceLT, Int.reduceToNat, Int.reduceAdd, Int.reduceSub, Int.reduceMul, Int.reduceNeg, Int.reduceLE, Int.reduceLT, Int.reduceNe, Int.reduceEq, Int.reduceBEq, Int.reduceBNe, Int.reduceTMod, Int.reduceTDiv, Nat.reduceBEq, d1, d2, hv, bin_anyL, pick_oa0, LV.v, LV.g]) | (refine allI (fun b => ?_)) | (refine allT (fun τ => ?_)) | (refine brP (fun h => ?_) (fun h => ?_) <;> (try simp only [zgx, zbx] at h)) | (apply And.intro; focus (first | omega | (simp; done) | (simp +contextual; done) | (intros; and_intros <;> first | assumption | omega) | (intros; simp_all; done) | (intro hgd; refine ⟨hgd, ?_⟩; simp [hgd]; done) | (intro hgd; simp only [zgx] at hgd ⊢; omega))) | fail)
/-- whether the nodes are numbered as they are finished -/
def fin (ns : List Br) : Nat → Int → Nat → Bool × Nat
  | 0, _, nx => (true, nx)
  | k + 1, ref, nx => if ref < nx then (true, nx) else
    if (fin ns k (ns.getD ref.toNat br0).n nx).1 = false then (false, (fin ns k (ns.getD ref.toNat br0).n nx).2) else
    if (fin ns k (ns.getD ref.toNat br0).y (fin ns k (ns.getD ref.toNat br0).n nx).2).1 = false then (false, (fin ns k (ns.getD ref.toNat br0).y (fin ns k (ns.getD ref.toNat br0).n nx).2).2) else
    if ref = (fin ns k (ns.getD ref.toNat br0).y (fin ns k (ns.getD ref.toNat br0).n nx).2).2 then (true, (fin ns k (ns.getD ref.toNat br0).y (fin ns k (ns.getD ref.toNat br0).n nx).2).2 + 1) else (false, (fin ns k (ns.getD ref.toNat br0).y (fin ns k (ns.getD ref.toNat br0).n nx).2).2)
def Down (ns : List Br) : Prop := ∀ i, i < ns.length → (ns.getD i br0).n < i ∧ (ns.getD i br0).y < i
theorem fin_le {ns : List Br} (hd : Down ns) : ∀ (k : Nat) (ref : Int) (nx : Nat), ref < ns.length → nx ≤ ns.length → (fin ns k ref nx).2 ≤ ns.length
  | 0, _, nx, _, h => h
  | k + 1, ref, nx, h1, h2 => by
    rw [fin]
    split
    · exact h2
    · have := hd ref.toNat (by omega)
      have e1 := fin_le hd k (ns.getD ref.toNat br0).n nx (by omega) h2
      have e2 := fin_le hd k (ns.getD ref.toNat br0).y _ (by omega) e1
      split
      · exact e1
      · split
        · exact e2
        · split
          · dsimp only; omega
          · exact e2
def Hn (b1 b3 b4 : Nat) (d : Dg) (nx : Nat) : Heap := [(3, .blk b3 [.int .i64 nx]), (4, .blk b4 [.clo 68 [.ptr 3 b3 0, .ptr 4 b4 0, .ptr 1 b1 0]]), (1, .blk b1 [.sl 8 d.tb.length (d.tb.flatMap AtC), .sl 3 d.ns.length (d.ns.flatMap BrC), .int .i64 d.r])]
theorem finC (b1 b3 b4 : Nat) (d : Dg) (hl : d.ns.length ≤ 1000000) (hd : Down d.ns) : ∀ (k : Nat) (ref : Int) (nx : Nat), ref < k → k ≤ d.ns.length → nx ≤ d.ns.length →
    LCalls Try.prog gl 68 [.int .i64 ref, .ptr 3 b3 0, .ptr 4 b4 0, .ptr 1 b1 0] (Hn b1 b3 b4 d nx) fun r H => r = .bool (fin d.ns k ref nx).1 ∧ H = Hn b1 b3 b4 d (fin d.ns k ref nx).2
  | 0, ref, nx, h1, h2, h3 => by
    refine fn_viewT Try.func68 t68 Try.ntmps68 (by simp) ?_
    have hc : decide (ref < (nx : Int)) = true := by simp; omega
    unfold c68 r68
    simp only [Hn, fin]
    repeat' (first | (simp (disch := first | omega | (simp only [List.length_cons, List.length_nil]; first | done | omega)) only [go_sem, Nat.reduceAdd, Nat.reduceMul, Nat.reduceSub, Nat.reduceEqDiff, Nat.reduceLeDiff, Nat.reduceMod, Nat.reduceLT, Int.reduceToNat, Int.reduceAdd, Int.reduceSub, Int.reduceMul, Int.reduceNeg, Int.reduceLE, Int.reduceLT, Int.reduceNe, Int.reduceEq, Int.reduceBEq, Int.reduceBNe, Int.reduceTMod, Int.reduceTDiv, Nat.reduceBEq, hc]) | (refine allI (fun b => ?_)) | (refine allT (fun τ => ?_)) | (refine brP (fun h => ?_) (fun h => ?_) <;> (try simp only [zgx, zbx] at h)) | (apply And.intro; focus (first | omega | (simp; done) | (simp +contextual; done) | (intros; and_intros <;> first | assumption | omega) | (intros; simp_all; done) | (intro hgd; refine ⟨hgd, ?_⟩; simp [hgd]; done) | (intro hgd; simp only [zgx] at hgd ⊢; omega))) | fail)
    exact ⟨_, _, leVH.of (leV.refl _) ⟨_, List.Sublist.refl _, List.Perm.refl _⟩, rfl, rfl⟩
  | k + 1, ref, nx, h1, h2, h3 => by
    refine fn_viewT Try.func68 t68 Try.ntmps68 (by simp) ?_
    by_cases hr : ref < nx
    · have hc : decide (ref < (nx : Int)) = true := by simp [hr]
      rw [fin, if_pos hr]
      unfold c68 r68
      simp only [Hn]
      repeat' (first | (simp (disch := first | omega | (simp only [List.length_cons, List.length_nil]; first | done | omega)) only [go_sem, Nat.reduceAdd, Nat.reduceMul, Nat.reduceSub, Nat.reduceEqDiff, Nat.reduceLeDiff, Nat.reduceMod, Nat.reduceLT, Int.reduceToNat, Int.reduceAdd, Int.reduceSub, Int.reduceMul, Int.reduceNeg, Int.reduceLE, Int.reduceLT, Int.reduceNe, Int.reduceEq, Int.reduceBEq, Int.reduceBNe, Int.reduceTMod, Int.reduceTDiv, Nat.reduceBEq, hc]) | (refine allI (fun b => ?_)) | (refine allT (fun τ => ?_)) | (refine brP (fun h => ?_) (fun h => ?_) <;> (try simp only [zgx, zbx] at h)) | (apply And.intro; focus (first | omega | (simp; done) | (simp +contextual; done) | (intros; and_intros <;> first | assumption | omega) | (intros; simp_all; done) | (intro hgd; refine ⟨hgd, ?_⟩; simp [hgd]; done) | (intro hgd; simp only [zgx] at hgd ⊢; omega))) | fail)
      exact ⟨_, _, leVH.of (leV.refl _) ⟨_, List.Sublist.refl _, List.Perm.refl _⟩, rfl, rfl⟩
    · have hc : decide (ref < (nx : Int)) = false := by simp; omega
      obtain ⟨m, rfl⟩ : ∃ m : Nat, ref = (m : Int) := ⟨ref.toNat, by omega⟩
      have hm : m < d.ns.length := by omega
      have hdm := hd m hm
      have hR : fin d.ns (k + 1) m nx = fin d.ns (k + 1) m nx := rfl
      conv at hR => rhs; rw [fin, if_neg hr, Int.toNat_natCast]
      have g1 : (d.ns.flatMap BrC).getD (m * 3 + 1) .any = .int .i64 (d.ns.getD m br0).n := br_cell hm 1 (by omega)
      have g2 : (d.ns.flatMap BrC).getD (m * 3 + 2) .any = .int .i64 (d.ns.getD m br0).y := br_cell hm 2 (by omega)
      have hlb := len_br d.ns
      have c1 := finC b1 b3 b4 d hl hd k (d.ns.getD m br0).n nx (by omega) (by omega) h3
      have e1 := fin_le hd k (d.ns.getD m br0).n nx (by omega) h3
      generalize fin d.ns (k + 1) m nx = R at *
      generalize hr1 : fin d.ns k (d.ns.getD m br0).n nx = r1 at *
      have c2 := finC b1 b3 b4 d hl hd k (d.ns.getD m br0).y r1.2 (by omega) (by omega) e1
      have e2 := fin_le hd k (d.ns.getD m br0).y r1.2 (by omega) e1
      generalize hr2 : fin d.ns k (d.ns.getD m br0).y r1.2 = r2 at *
      generalize d.ns.getD m br0 = q at *
      unfold c68 r68
      simp only [Hn] at *
      repeat' (first | (simp (disch := first | omega | (simp only [List.length_cons, List.length_nil]; first | done | omega)) only [go_sem, Nat.reduceAdd, Nat.reduceMul, Nat.reduceSub, Nat.reduceEqDiff, Nat.reduceLeDiff, Nat.reduceMod, Nat.reduceLT, Int.reduceToNat, Int.reduceAdd, Int.reduceSub, Int.reduceMul, Int.reduceNeg, Int.reduceLE, Int.reduceLT, Int.reduceNe, Int.reduceEq, Int.reduceBEq, Int.reduceBNe, Int.reduceTMod, Int.reduceTDiv, Nat.reduceBEq, hc, g1, g2]) | (refine allI (fun b => ?_)) | (refine allT (fun τ => ?_)) | (refine brP (fun h => ?_) (fun h => ?_) <;> (try simp only [zgx, zbx] at h)) | (apply And.intro; focus (first | omega | (simp; done) | (simp +contextual; done) | (intros; and_intros <;> first | assumption | omega) | (intros; simp_all; done) | (intro hgd; refine ⟨hgd, ?_⟩; simp [hgd]; done) | (intro hgd; simp only [zgx] at hgd ⊢; omega))) | fail)
      refine ⟨by kernel_rfl, ?_⟩
      first | refine actsQ_U (c1) (pick_perm rfl (pick_perm rfl (pick_perm rfl (List.Perm.refl _)))) ?_ | refine actsQ_T (c1) (pick_perm rfl (pick_perm rfl (pick_perm rfl (List.Perm.refl _)))) ?_ | refine actsQ_N (c1) (pick_perm rfl (pick_perm rfl (pick_perm rfl (List.Perm.refl _)))) ?_ | refine actsQ_of (c1) (pick_perm rfl (pick_perm rfl (pick_perm rfl (List.Perm.refl _)))) ?_
      rintro _ _ ⟨rfl, rfl⟩
      obtain ⟨x1, n1⟩ := r1
      cases x1 with
      | false =>
        rw [if_pos rfl] at hR
        subst hR
        dsimp only at *
        repeat' (first | (simp (disch := first | omega | (simp only [List.length_cons, List.length_nil]; first | done | omega)) only [go_sem, Nat.reduceAdd, Nat.reduceMul, Nat.reduceSub, Nat.reduceEqDiff, Nat.reduceLeDiff, Nat.reduceMod, Nat.reduceLT, Int.reduceToNat, Int.reduceAdd, Int.reduceSub, Int.reduceMul, Int.reduceNeg, Int.reduceLE, Int.reduceLT, Int.reduceNe, Int.reduceEq, Int.reduceBEq, Int.reduceBNe, Int.reduceTMod, Int.reduceTDiv, Nat.reduceBEq, hc, g1, g2, un_anyL, pick_00a, Bool.not_false, Bool.not_true]) | (refine allI (fun b => ?_)) | (refine allT (fun τ => ?_)) | (refine brP (fun h => ?_) (fun h => ?_) <;> (try simp only [zgx, zbx] at h)) | (apply And.intro; focus (first | omega | (simp; done) | (simp +contextual; done) | (intros; and_intros <;> first | assumption | omega) | (intros; simp_all; done) | (intro hgd; refine ⟨hgd, ?_⟩; simp [hgd]; done) | (intro hgd; simp only [zgx] at hgd ⊢; omega))) | fail)
        exact ⟨_, _, leVH.of (leV.refl _) ⟨_, List.Sublist.refl _, List.Perm.refl _⟩, rfl, rfl⟩
      | true =>
        rw [if_neg (by simp)] at hR
        dsimp only at *
        repeat' (first | (simp (disch := first | omega | (simp only [List.length_cons, List.length_nil]; first | done | omega)) only [go_sem, Nat.reduceAdd, Nat.reduceMul, Nat.reduceSub, Nat.reduceEqDiff, Nat.reduceLeDiff, Nat.reduceMod, Nat.reduceLT, Int.reduceToNat, Int.reduceAdd, Int.reduceSub, Int.reduceMul, Int.reduceNeg, Int.reduceLE, Int.reduceLT, Int.reduceNe, Int.reduceEq, Int.reduceBEq, Int.reduceBNe, Int.reduceTMod, Int.reduceTDiv, Nat.reduceBEq, hc, g1, g2, Bool.not_false, Bool.not_true]) | (refine allI (fun b => ?_)) | (refine allT (fun τ => ?_)) | (refine brP (fun h => ?_) (fun h => ?_) <;> (try simp only [zgx, zbx] at h)) | (apply And.intro; focus (first | omega | (simp; done) | (simp +contextual; done) | (intros; and_intros <;> first | assumption | omega) | (intros; simp_all; done) | (intro hgd; refine ⟨hgd, ?_⟩; simp [hgd]; done) | (intro hgd; simp only [zgx] at hgd ⊢; omega))) | fail)
        refine ⟨by kernel_rfl, ?_⟩
        first | refine actsQ_U (c2) (pick_perm rfl (pick_perm rfl (pick_perm rfl (List.Perm.refl _)))) ?_ | refine actsQ_T (c2) (pick_perm rfl (pick_perm rfl (pick_perm rfl (List.Perm.refl _)))) ?_ | refine actsQ_N (c2) (pick_perm rfl (pick_perm rfl (pick_perm rfl (List.Perm.refl _)))) ?_ | refine actsQ_of (c2) (pick_perm rfl (pick_perm rfl (pick_perm rfl (List.Perm.refl _)))) ?_
        rintro _ _ ⟨rfl, rfl⟩
        repeat' (first | (simp (disch := first | omega | (simp only [List.length_cons, List.length_nil]; first | done | omega)) only [go_sem, Nat.reduceAdd, Nat.reduceMul, Nat.reduceSub, Nat.reduceEqDiff, Nat.reduceLeDiff, Nat.reduceMod, Nat.reduceLT, Int.reduceToNat, Int.reduceAdd, Int.reduceSub, Int.reduceMul, Int.reduceNeg, Int.reduceLE, Int.reduceLT, Int.reduceNe, Int.reduceEq, Int.reduceBEq, Int.reduceBNe, Int.reduceTMod, Int.reduceTDiv, Nat.reduceBEq, hc, g1, g2, Bool.not_false, Bool.not_true]) | (refine allI (fun b => ?_)) | (refine allT (fun τ => ?_)) | (refine brP (fun h => ?_) (fun h => ?_) <;> (try simp only [zgx, zbx] at h)) | (apply And.intro; focus (first | omega | (simp; done) | (simp +contextual; done) | (intros; and_intros <;> first | assumption | omega) | (intros; simp_all; done) | (intro hgd; refine ⟨hgd, ?_⟩; simp [hgd]; done) | (intro hgd; simp only [zgx] at hgd ⊢; omega))) | fail)
        · have hf : R = (false, r2.2) := by
            rw [hR]
            by_cases hx : r2.1 = false
            · rw [if_pos hx]
            · rw [if_neg hx, if_neg (h.resolve_left hx)]
          rw [hf]
          exact ⟨_, _, leVH.of (leV.refl _) ⟨_, List.Sublist.refl _, List.Perm.refl _⟩, rfl, rfl⟩
        · have hf : R = (true, r2.2 + 1) := by rw [hR, if_neg (by rw [h.1]; simp), if_pos (by simpa using h.2)]
          rw [hf]
          exact ⟨_, _, leVH.of (leV.refl _) ⟨_, List.Sublist.refl _, List.Perm.refl _⟩, rfl, by simp⟩
theorem numbered (d : Dg) (hl : d.ns.length ≤ 1000000) (hd : Down d.ns) (hr : d.r < d.ns.length) : Pure Try.prog gl 48 [.agg (DgC d)] (.bool (fin d.ns d.ns.length d.r 0).1) := by
  refine fn_pureT Try.func48 t48 Try.ntmps48 (by simp) ?_
  unfold c48 r48
  rw [DgC_eq]
  repeat' (first | (simp (disch := first | omega | (simp only [List.length_cons, List.length_nil]; first | done | omega)) only [go_sem, Nat.reduceAdd, Nat.reduceMul, Nat.reduceSub, Nat.reduceEqDiff, Nat.reduceLeDiff, Nat.reduceMod, Nat.reduceLT, Int.reduceToNat, Int.reduceAdd, Int.reduceSub, Int.reduceMul, Int.reduceNeg, Int.reduceLE, Int.reduceLT, Int.reduceNe, Int.reduceEq, Int.reduceBEq, Int.reduceBNe, Int.reduceTMod, Int.reduceTDiv, Nat.reduceBEq]) | (refine allI (fun b => ?_)) | (refine allT (fun τ => ?_)) | (refine brP (fun h => ?_) (fun h => ?_) <;> (try simp only [zgx, zbx] at h)) | (apply And.intro; focus (first | omega | (simp; done) | (simp +contextual; done) | (intros; and_intros <;> first | assumption | omega) | (intros; simp_all; done) | (intro hgd; refine ⟨hgd, ?_⟩; simp [hgd]; done) | (intro hgd; simp only [zgx] at hgd ⊢; omega))) | fail)
  refine ⟨by kernel_rfl, ?_⟩
  first | refine actsQ_U (finC _ _ _ d hl hd d.ns.length d.r 0 hr (by omega) (by omega)) (pick_perm rfl (pick_perm rfl (pick_perm rfl (List.Perm.refl _)))) ?_ | refine actsQ_T (finC _ _ _ d hl hd d.ns.length d.r 0 hr (by omega) (by omega)) (pick_perm rfl (pick_perm rfl (pick_perm rfl (List.Perm.refl _)))) ?_ | refine actsQ_N (finC _ _ _ d hl hd d.ns.length d.r 0 hr (by omega) (by omega)) (pick_perm rfl (pick_perm rfl (pick_perm rfl (List.Perm.refl _)))) ?_ | refine actsQ_of (finC _ _ _ d hl hd d.ns.length d.r 0 hr (by omega) (by omega)) (pick_perm rfl (pick_perm rfl (pick_perm rfl (List.Perm.refl _)))) ?_
  rintro _ _ ⟨rfl, rfl⟩
  simp only [Hn]
  repeat' (first | (simp (disch := first | omega | (simp only [List.length_cons, List.length_nil]; first | done | omega)) only [go_sem, Nat.reduceAdd, Nat.reduceMul, Nat.reduceSub, Nat.reduceEqDiff, Nat.reduceLeDiff, Nat.reduceMod, Nat.reduceLT, Int.reduceToNat, Int.reduceAdd, Int.reduceSub, Int.reduceMul, Int.reduceNeg, Int.reduceLE, Int.reduceLT, Int.reduceNe, Int.reduceEq, Int.reduceBEq, Int.reduceBNe, Int.reduceTMod, Int.reduceTDiv, Nat.reduceBEq]) | (refine allI (fun b => ?_)) | (refine allT (fun τ => ?_)) | (refine brP (fun h => ?_) (fun h => ?_) <;> (try simp only [zgx, zbx] at h)) | (apply And.intro; focus (first | omega | (simp; done) | (simp +contextual; done) | (intros; and_intros <;> first | assumption | omega) | (intros; simp_all; done) | (intro hgd; refine ⟨hgd, ?_⟩; simp [hgd]; done) | (intro hgd; simp only [zgx] at hgd ⊢; omega))) | fail)
/-- whether a node may stand behind others -/
def nodeOk (tl : Nat) (pre : List Br) (b : Br) : Prop := (0 ≤ b.a ∧ b.a < tl) ∧ b.n ≠ b.y ∧ b ∉ pre ∧ bel pre b.a b.n = true ∧ bel pre b.a b.y = true
instance (tl : Nat) (pre : List Br) (b : Br) : Decidable (nodeOk tl pre b) := by unfold nodeOk; infer_instance
def goodN (d : Dg) : Bool := decide (∀ i, i < d.ns.length → nodeOk d.tb.length (d.ns.take i) (d.ns.getD i br0))
theorem goodN_down {d : Dg} (h : ∀ i, i < d.ns.length → nodeOk d.tb.length (d.ns.take i) (d.ns.getD i br0)) : Down d.ns := fun i hi => by
  obtain ⟨_, _, _, h1, h2⟩ := h i hi
  simp only [bel, List.length_take, Bool.or_eq_true, decide_eq_true_eq, Bool.and_eq_true] at h1 h2
  omega
def validP (d : Dg) : Bool := if 12 < d.tb.length then false else if d.ns.length = 0 then decide (d.r < 0) else if d.r ≠ d.ns.length - 1 then false else if goodN d = true then (fin d.ns d.ns.length d.r 0).1 else false
/-- the nodes that were seen -/
def seenB (l : List Br) : List (LV × LV) := l.map fun b => (.agg (BrC b), .bool true)
theorem seenB_look (l : List Br) (b : Br) : lookL (seenB l) (.agg (BrC b)) = if b ∈ l then some (.bool true) else none := by
  induction l with
  | nil => rfl
  | cons c r ih =>
    simp only [seenB, List.map_cons, lookL, List.find?_cons, eqK_br] at ih ⊢
    by_cases h : b = c
    · subst h; simp
    · simp only [h, decide_false, List.mem_cons, false_or]
      exact ih
theorem seenB_upd (l : List Br) (b : Br) (h : b ∉ l) : updL (seenB l) (.agg (BrC b)) (.bool true) = seenB (l ++ [b]) := by
  induction l with
  | nil => rfl
  | cons c r ih =>
    have h1 : b ≠ c := fun e => h (by simp [e])
    have h2 : b ∉ r := fun e => h (by simp [e])
    simp only [seenB, List.map_cons, updL, eqK_br, List.cons_append] at ih ⊢
    rw [if_neg (by simp [h1]), ih h2]
theorem keysS {b : Br} {l : List Br} (h : brW b) (hn : ∀ c ∈ l, brW c) : KeysOK Try.prog 54 (.agg (BrC b)) (seenB l) := by
  refine ⟨keyed54, keyB h, fun p hp => ?_⟩
  obtain ⟨c, hc, rfl⟩ := List.mem_map.1 hp
  exact keyB (hn c hc)
end Go.Proofs.Ytcngkeeknlloaaa
