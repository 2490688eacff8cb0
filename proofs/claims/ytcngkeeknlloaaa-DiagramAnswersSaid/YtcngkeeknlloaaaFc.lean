/- Layer 16: the reference's order, with the atoms owned. -/
import Derived.Test.YtcngkeeknlloaaaFb
import Derived.Test.YtcngkeeknlloaaaFa
namespace Go.Proofs.Ytcngkeeknlloaaa
open Go Go.Lx
set_option linter.unusedSimpArgs false
set_option linter.unusedVariables false
set_option maxRecDepth 100000
set_option maxHeartbeats 4000000

def toC (N nx : Nat) : List LV := (List.range N).map fun j => .int .i64 (if j < nx then (j : Int) else -1)
theorem len_to (N nx : Nat) : (toC N nx).length = N := by simp [toC]
theorem toC_get {N nx a : Nat} (h : a < N) : (toC N nx).getD a .any = .int .i64 (if a < nx then (a : Int) else -1) := by simp [toC, List.getD, h]
theorem toC_set {N a : Nat} (h : a < N) : (toC N a).take a ++ [.int .i64 a] ++ (toC N a).drop (a + 1) = toC N (a + 1) := by
  have h1 := List.set_eq_take_append_cons_drop (l := toC N a) (i := a) (a := LV.int .i64 a)
  rw [if_pos (by rw [len_to]; exact h)] at h1
  have h2 : (toC N a).take a ++ [.int .i64 a] ++ (toC N a).drop (a + 1) = (toC N a).set a (.int .i64 a) := by rw [h1]; simp
  rw [h2]
  refine List.ext_getElem (by simp [toC]) fun j h3 h4 => ?_
  rw [List.getElem_set]
  split
  · rename_i e
    subst e
    simp [toC]
  · rename_i e
    simp only [toC, List.getElem_map, List.getElem_range]
    congr 1
    by_cases h5 : j < a
    · rw [if_pos h5, if_pos (by omega)]
    · rw [if_neg h5, if_neg (by omega)]
def Hv (b5 bt : Nat) (τa : Tok) (tb : List At) (ns : List Br) (nx : Nat) (τ : Tok) : Heap := [(5, .blk b5 [.osl 82 τa 8 tb.length (tb.flatMap AtC), .osl 48 τ 3 nx ((ns.take nx).flatMap BrC), .int .i64 0]), (48, .tok τ), (14, .blk bt (toC ns.length nx))]
theorem visit (b5 bt : Nat) (τa : Tok) (tb : List At) (ns : List Br) (hl : ns.length ≤ 1000000) (hd : Down ns) : ∀ (f : Nat) (at_ : Int) (nx m : Nat) (τ : Tok), fin ns f at_ nx = (true, m) → at_ < f → f ≤ ns.length → nx ≤ ns.length → -9000000 ≤ at_ → (∀ b ∈ ns, brOk b) →
    LCalls Try.prog gl 67 [.agg [.osl 82 τa 8 tb.length (tb.flatMap AtC), .sl 3 ns.length (ns.flatMap BrC), .int .i64 0], .ptr 5 b5 0, .msl 14 1 bt 0 ns.length ns.length, .int .i64 at_] (Hv b5 bt τa tb ns nx τ) fun r H => ∃ τ', r = .int .i64 at_ ∧ H = Hv b5 bt τa tb ns m τ'
  | 0, at_, nx, m, τ, hf, h1, h2, h3, h4, h5 => by
    refine fn_viewT Try.func67 t67 Try.ntmps67 (by simp) ?_
    obtain rfl : nx = m := congrArg Prod.snd hf
    have hc : decide (at_ < 0) = true := by simp; omega
    unfold c67 r67
    simp only [Hv]
    repeat' (first | (simp (disch := first | omega | (simp only [List.length_cons, List.length_nil]; first | done | omega)) only [go_sem, Nat.reduceAdd, Nat.reduceMul, Nat.reduceSub, Nat.reduceEqDiff, Nat.reduceLeDiff, Nat.reduceMod, Nat.reduceLT, Int.reduceToNat, Int.reduceAdd, Int.reduceSub, Int.reduceMul, Int.reduceNeg, Int.reduceLE, Int.reduceLT, Int.reduceNe, Int.reduceEq, Int.reduceBEq, Int.reduceBNe, Int.reduceTMod, Int.reduceTDiv, Nat.reduceBEq, hc]) | (refine allI (fun b => ?_)) | (refine allT (fun τ => ?_)) | (refine brP (fun h => ?_) (fun h => ?_) <;> (try simp only [zgx, zbx] at h)) | (apply And.intro; focus (first | omega | (simp; done) | (simp +contextual; done) | (intros; and_intros <;> first | assumption | omega) | (intros; simp_all; done) | (intro hgd; refine ⟨hgd, ?_⟩; simp [hgd]; done) | (intro hgd; simp only [zgx] at hgd ⊢; omega))) | fail)
    exact ⟨_, _, leVH.of (leV.refl _) ⟨_, List.Sublist.cons _ (List.Sublist.refl _), List.Perm.refl _⟩, τ, rfl, rfl⟩
  | f + 1, at_, nx, m, τ, hf, h1, h2, h3, h4, h5 => by
    refine fn_viewT Try.func67 t67 Try.ntmps67 (by simp) ?_
    have hlt := len_to ns.length nx
    have hlb := len_br ns
    have hle := len_at tb
    by_cases hn : at_ < 0
    · rw [fin_old _ (by omega)] at hf
      obtain rfl : nx = m := congrArg Prod.snd hf
      have hc : decide (at_ < 0) = true := by simp; omega
      unfold c67 r67
      simp only [Hv]
      repeat' (first | (simp (disch := first | omega | (simp only [List.length_cons, List.length_nil]; first | done | omega)) only [go_sem, Nat.reduceAdd, Nat.reduceMul, Nat.reduceSub, Nat.reduceEqDiff, Nat.reduceLeDiff, Nat.reduceMod, Nat.reduceLT, Int.reduceToNat, Int.reduceAdd, Int.reduceSub, Int.reduceMul, Int.reduceNeg, Int.reduceLE, Int.reduceLT, Int.reduceNe, Int.reduceEq, Int.reduceBEq, Int.reduceBNe, Int.reduceTMod, Int.reduceTDiv, Nat.reduceBEq, hc]) | (refine allI (fun b => ?_)) | (refine allT (fun τ => ?_)) | (refine brP (fun h => ?_) (fun h => ?_) <;> (try simp only [zgx, zbx] at h)) | (apply And.intro; focus (first | omega | (simp; done) | (simp +contextual; done) | (intros; and_intros <;> first | assumption | omega) | (intros; simp_all; done) | (intro hgd; refine ⟨hgd, ?_⟩; simp [hgd]; done) | (intro hgd; simp only [zgx] at hgd ⊢; omega))) | fail)
      exact ⟨_, _, leVH.of (leV.refl _) ⟨_, List.Sublist.cons _ (List.Sublist.refl _), List.Perm.refl _⟩, τ, rfl, rfl⟩
    · obtain ⟨a, rfl⟩ : ∃ a : Nat, at_ = (a : Int) := ⟨at_.toNat, by omega⟩
      have hc : decide ((a : Int) < 0) = false := by simp
      have ha : a < ns.length := by omega
      by_cases hax : a < nx
      · rw [fin_old _ (by omega)] at hf
        obtain rfl : nx = m := congrArg Prod.snd hf
        have g0 : (toC ns.length nx).getD a .any = .int .i64 a := by rw [toC_get ha, if_pos hax]
        have hc2 : decide (0 ≤ (a : Int)) = true := by simp
        unfold c67 r67
        simp only [Hv]
        repeat' (first | (simp (disch := first | omega | (simp only [List.length_cons, List.length_nil]; first | done | omega)) only [go_sem, Nat.reduceAdd, Nat.reduceMul, Nat.reduceSub, Nat.reduceEqDiff, Nat.reduceLeDiff, Nat.reduceMod, Nat.reduceLT, Int.reduceToNat, Int.reduceAdd, Int.reduceSub, Int.reduceMul, Int.reduceNeg, Int.reduceLE, Int.reduceLT, Int.reduceNe, Int.reduceEq, Int.reduceBEq, Int.reduceBNe, Int.reduceTMod, Int.reduceTDiv, Nat.reduceBEq, hc, g0, hc2, Nat.mul_one, Nat.zero_add]) | (refine allI (fun b => ?_)) | (refine allT (fun τ => ?_)) | (refine brP (fun h => ?_) (fun h => ?_) <;> (try simp only [zgx, zbx] at h)) | (apply And.intro; focus (first | omega | (simp; done) | (simp +contextual; done) | (intros; and_intros <;> first | assumption | omega) | (intros; simp_all; done) | (intro hgd; refine ⟨hgd, ?_⟩; simp [hgd]; done) | (intro hgd; simp only [zgx] at hgd ⊢; omega))) | fail)
        exact ⟨_, _, leVH.of (leV.refl _) ⟨_, List.Sublist.cons _ (List.Sublist.refl _), List.Perm.refl _⟩, τ, rfl, rfl⟩
      · have hq := hd a ha
        have e2 : ((ns.flatMap BrC).drop (a * 3)).take 3 = BrC (ns.getD a br0) := take_rows (f := BrC) (fun _ => rfl) br0 _ ha
        have hts := take_succ_getD br0 ns ha
        have hok := h5 _ (getD_memA br0 ha)
        rw [fin, if_neg (by omega), Int.toNat_natCast] at hf
        generalize ns.getD a br0 = q at *
        have hok2 := hok.2
        cases hr1 : fin ns f q.n nx with
        | mk x1 n1 =>
          rw [hr1] at hf
          cases x1 with
          | false => simp at hf
          | true =>
            cases hr2 : fin ns f q.y n1 with
            | mk x2 n2 =>
              dsimp only at hf
              rw [hr2] at hf
              cases x2 with
              | false => simp at hf
              | true =>
                simp only [Bool.true_eq_false, if_false] at hf
                by_cases han : (a : Int) = n2
                · rw [if_pos han] at hf
                  obtain rfl : n2 + 1 = m := congrArg Prod.snd hf
                  obtain rfl : a = n2 := by omega
                  have hn1 : n1 ≤ ns.length := by have := fin_le hd f q.n nx (by omega) h3; rw [hr1] at this; exact this
                  have c1 := visit b5 bt τa tb ns hl hd f q.n nx n1 τ hr1 (by omega) (by omega) h3 (by omega) h5
                  have c2 := fun τ => visit b5 bt τa tb ns hl hd f q.y n1 a τ hr2 (by omega) (by omega) hn1 (by omega) h5
                  have g0 : (toC ns.length nx).getD a .any = .int .i64 (-1) := by rw [toC_get ha, if_neg hax]
                  have g1 : (toC ns.length (a + 1)).getD a .any = .int .i64 a := by rw [toC_get ha, if_pos (by omega)]
                  have g2 := toC_set ha
                  have hlt1 := len_to ns.length n1
                  have hlt2 := len_to ns.length a
                  have hlt3 := len_to ns.length (a + 1)
                  have hla : ((ns.take a).flatMap BrC).length = a * 3 := by rw [len_br, List.length_take]; congr 1; omega
                  rw [BrC_eq] at e2
                  unfold c67 r67
                  simp only [Hv] at *
                  repeat' (first | (simp (disch := first | omega | (simp only [List.length_cons, List.length_nil]; first | done | omega)) only [go_sem, Nat.reduceAdd, Nat.reduceMul, Nat.reduceSub, Nat.reduceEqDiff, Nat.reduceLeDiff, Nat.reduceMod, Nat.reduceLT, Int.reduceToNat, Int.reduceAdd, Int.reduceSub, Int.reduceMul, Int.reduceNeg, Int.reduceLE, Int.reduceLT, Int.reduceNe, Int.reduceEq, Int.reduceBEq, Int.reduceBNe, Int.reduceTMod, Int.reduceTDiv, Nat.reduceBEq, hc, g0, Nat.mul_one, Nat.zero_add, e2, zBr]) | (refine allI (fun b => ?_)) | (refine allT (fun τ => ?_)) | (refine brP (fun h => ?_) (fun h => ?_) <;> (try simp only [zgx, zbx] at h)) | (apply And.intro; focus (first | omega | (simp; done) | (simp +contextual; done) | (intros; and_intros <;> first | assumption | omega) | (intros; simp_all; done) | (intro hgd; refine ⟨hgd, ?_⟩; simp [hgd]; done) | (intro hgd; simp only [zgx] at hgd ⊢; omega))) | fail)
                  first | refine actsQ_U (c1) (pick_perm rfl (pick_perm rfl (pick_perm rfl (List.Perm.refl _)))) ?_ | refine actsQ_T (c1) (pick_perm rfl (pick_perm rfl (pick_perm rfl (List.Perm.refl _)))) ?_ | refine actsQ_N (c1) (pick_perm rfl (pick_perm rfl (pick_perm rfl (List.Perm.refl _)))) ?_ | refine actsQ_of (c1) (pick_perm rfl (pick_perm rfl (pick_perm rfl (List.Perm.refl _)))) ?_
                  rintro _ _ ⟨τ1, rfl, rfl⟩
                  repeat' (first | (simp (disch := first | omega | (simp only [List.length_cons, List.length_nil]; first | done | omega)) only [go_sem, Nat.reduceAdd, Nat.reduceMul, Nat.reduceSub, Nat.reduceEqDiff, Nat.reduceLeDiff, Nat.reduceMod, Nat.reduceLT, Int.reduceToNat, Int.reduceAdd, Int.reduceSub, Int.reduceMul, Int.reduceNeg, Int.reduceLE, Int.reduceLT, Int.reduceNe, Int.reduceEq, Int.reduceBEq, Int.reduceBNe, Int.reduceTMod, Int.reduceTDiv, Nat.reduceBEq]) | (refine allI (fun b => ?_)) | (refine allT (fun τ => ?_)) | (refine brP (fun h => ?_) (fun h => ?_) <;> (try simp only [zgx, zbx] at h)) | (apply And.intro; focus (first | omega | (simp; done) | (simp +contextual; done) | (intros; and_intros <;> first | assumption | omega) | (intros; simp_all; done) | (intro hgd; refine ⟨hgd, ?_⟩; simp [hgd]; done) | (intro hgd; simp only [zgx] at hgd ⊢; omega))) | fail)
                  first | refine actsQ_U (c2 τ1) (pick_perm rfl (pick_perm rfl (pick_perm rfl (List.Perm.refl _)))) ?_ | refine actsQ_T (c2 τ1) (pick_perm rfl (pick_perm rfl (pick_perm rfl (List.Perm.refl _)))) ?_ | refine actsQ_N (c2 τ1) (pick_perm rfl (pick_perm rfl (pick_perm rfl (List.Perm.refl _)))) ?_ | refine actsQ_of (c2 τ1) (pick_perm rfl (pick_perm rfl (pick_perm rfl (List.Perm.refl _)))) ?_
                  rintro _ _ ⟨τ2, rfl, rfl⟩
                  repeat' (first | (simp (disch := first | omega | (simp only [List.length_cons, List.length_nil]; first | done | omega)) only [go_sem, Nat.reduceAdd, Nat.reduceMul, Nat.reduceSub, Nat.reduceEqDiff, Nat.reduceLeDiff, Nat.reduceMod, Nat.reduceLT, Int.reduceToNat, Int.reduceAdd, Int.reduceSub, Int.reduceMul, Int.reduceNeg, Int.reduceLE, Int.reduceLT, Int.reduceNe, Int.reduceEq, Int.reduceBEq, Int.reduceBNe, Int.reduceTMod, Int.reduceTDiv, Nat.reduceBEq, zBr, Nat.mul_one, Nat.zero_add]) | (refine allI (fun b => ?_)) | (refine allT (fun τ => ?_)) | (refine brP (fun h => ?_) (fun h => ?_) <;> (try simp only [zgx, zbx] at h)) | (apply And.intro; focus (first | omega | (simp; done) | (simp +contextual; done) | (intros; and_intros <;> first | assumption | omega) | (intros; simp_all; done) | (intro hgd; refine ⟨hgd, ?_⟩; simp [hgd]; done) | (intro hgd; simp only [zgx] at hgd ⊢; omega))) | fail)
                  refine ⟨by simp only [roomy]; omega, fun τ3 => ?_⟩
                  rw [show ((a + 1 : Nat) : Int) - 1 = (a : Int) by omega, g2, g1]
                  repeat' (first | (simp (disch := first | omega | (simp only [List.length_cons, List.length_nil]; first | done | omega)) only [go_sem, Nat.reduceAdd, Nat.reduceMul, Nat.reduceSub, Nat.reduceEqDiff, Nat.reduceLeDiff, Nat.reduceMod, Nat.reduceLT, Int.reduceToNat, Int.reduceAdd, Int.reduceSub, Int.reduceMul, Int.reduceNeg, Int.reduceLE, Int.reduceLT, Int.reduceNe, Int.reduceEq, Int.reduceBEq, Int.reduceBNe, Int.reduceTMod, Int.reduceTDiv, Nat.reduceBEq]) | (refine allI (fun b => ?_)) | (refine allT (fun τ => ?_)) | (refine brP (fun h => ?_) (fun h => ?_) <;> (try simp only [zgx, zbx] at h)) | (apply And.intro; focus (first | omega | (simp; done) | (simp +contextual; done) | (intros; and_intros <;> first | assumption | omega) | (intros; simp_all; done) | (intro hgd; refine ⟨hgd, ?_⟩; simp [hgd]; done) | (intro hgd; simp only [zgx] at hgd ⊢; omega))) | fail)
                  exact ⟨_, _, leVH.of (leV.refl _) ⟨_, List.Sublist.cons_cons _ (List.Sublist.cons_cons _ (List.Sublist.cons_cons _ (List.Sublist.cons _ (List.Sublist.cons _ List.Sublist.slnil)))), List.Perm.swap _ _ _⟩, τ3, rfl, by rw [hts]; simp [BrC_eq]⟩
                · rw [if_neg han] at hf
                  simp at hf
def toI (N i : Nat) : List LV := (List.range N).map fun j => .int .i64 (if j < i then -1 else 0)
theorem len_toI (N i : Nat) : (toI N i).length = N := by simp [toI]
theorem toI_set {N a : Nat} (h : a < N) : (toI N a).take a ++ [.int .i64 (-1)] ++ (toI N a).drop (a + 1) = toI N (a + 1) := by
  have h1 := List.set_eq_take_append_cons_drop (l := toI N a) (i := a) (a := LV.int .i64 (-1))
  rw [if_pos (by rw [len_toI]; exact h)] at h1
  have h2 : (toI N a).take a ++ [.int .i64 (-1)] ++ (toI N a).drop (a + 1) = (toI N a).set a (.int .i64 (-1)) := by rw [h1]; simp
  rw [h2]
  refine List.ext_getElem (by simp [toI]) fun j h3 h4 => ?_
  rw [List.getElem_set]
  split
  · rename_i e
    subst e
    simp [toI]
  · rename_i e
    simp only [toI, List.getElem_map, List.getElem_range]
    congr 1
    by_cases h5 : j < a
    · rw [if_pos h5, if_pos (by omega)]
    · rw [if_neg h5, if_neg (by omega)]
theorem toI_all (N : Nat) : toI N N = toC N 0 := by
  refine List.map_congr_left fun j hj => ?_
  have := List.mem_range.1 hj
  simp [this]
theorem toI_zero (N : Nat) : zeros [.int .i64 0] N = toI N 0 := by
  refine List.map_congr_left fun j hj => ?_
  simp [Nat.mod_one]
theorem visit0 (b5 bt : Nat) (τa : Tok) (tb : List At) (ns : List Br) (hl : ns.length ≤ 1000000) (hd : Down ns) (r : Int) (hf : fin ns ns.length r 0 = (true, ns.length)) (hr : r < ns.length) (h4 : -9000000 ≤ r) (h5 : ∀ b ∈ ns, brOk b) :
    LCalls Try.prog gl 67 [.agg [.osl 82 τa 8 tb.length (tb.flatMap AtC), .sl 3 ns.length (ns.flatMap BrC), .int .i64 0], .ptr 5 b5 0, .msl 14 1 bt 0 ns.length ns.length, .int .i64 r] [(5, .blk b5 [.osl 82 τa 8 tb.length (tb.flatMap AtC), .fsl 1 0 [], .int .i64 0]), (14, .blk bt (toC ns.length 0))] fun r' H => ∃ τ', r' = .int .i64 r ∧ H = Hv b5 bt τa tb ns ns.length τ' := fun w0 M HF w vs hI hv => by
  refine visit b5 bt τa tb ns hl hd ns.length r 0 ns.length ⟨0, 0, 0⟩ hf hr (by omega) (by omega) h4 h5 w0 M HF w vs ?_ hv
  have h2 := (hI.dummy 48 0).perm (List.Perm.swap ((5, Ent.blk b5 [.osl 82 τa 8 tb.length (tb.flatMap AtC), .fsl 1 0 [], .int .i64 0]) : Nat × Ent) _ _)
  refine heapLe.inv (H := [(5, .blk b5 [.osl 82 τa 8 tb.length (tb.flatMap AtC), .fsl 1 0 [], .int .i64 0]), (48, .tok ⟨0, 0, 0⟩), (14, .blk bt (toC ns.length 0))]) ?_ h2
  dsimp only [Hv, heapLe, entLe]
  exact ⟨⟨rfl, leV.refl _, leV.nil_osl _ _ _ _, leV.refl _, trivial⟩, rfl, ⟨rfl, leVs.refl _⟩, trivial⟩
theorem order (τa : Tok) (tb : List At) (ns : List Br) (hl : ns.length ≤ 1000000) (hd : Down ns) (r : Int) (hf : fin ns ns.length r 0 = (true, ns.length)) (hr : r < ns.length) (h4 : -9000000 ≤ r) (h5 : ∀ b ∈ ns, brOk b) :
    Pure Try.prog gl 46 [.agg [.osl 82 τa 8 tb.length (tb.flatMap AtC), .sl 3 ns.length (ns.flatMap BrC), .int .i64 0], .int .i64 r] (.agg [.osl 82 τa 8 tb.length (tb.flatMap AtC), .sl 3 ns.length (ns.flatMap BrC), .int .i64 r]) := by
  refine fn_pureT Try.func46 t46 Try.ntmps46 (by simp) ?_
  have hlb := len_br ns
  have hle := len_at tb
  have hz := toI_zero ns.length
  unfold c46 r46
  repeat' (first | (simp (disch := first | omega | (simp only [List.length_cons, List.length_nil]; first | done | omega)) only [go_sem, Nat.reduceAdd, Nat.reduceMul, Nat.reduceSub, Nat.reduceEqDiff, Nat.reduceLeDiff, Nat.reduceMod, Nat.reduceLT, Int.reduceToNat, Int.reduceAdd, Int.reduceSub, Int.reduceMul, Int.reduceNeg, Int.reduceLE, Int.reduceLT, Int.reduceNe, Int.reduceEq, Int.reduceBEq, Int.reduceBNe, Int.reduceTMod, Int.reduceTDiv, Nat.reduceBEq, Nat.mul_one, hz]) | (refine allI (fun b => ?_)) | (refine allT (fun τ => ?_)) | (refine brP (fun h => ?_) (fun h => ?_) <;> (try simp only [zgx, zbx] at h)) | (apply And.intro; focus (first | omega | (simp; done) | (simp +contextual; done) | (intros; and_intros <;> first | assumption | omega) | (intros; simp_all; done) | (intro hgd; refine ⟨hgd, ?_⟩; simp [hgd]; done) | (intro hgd; simp only [zgx] at hgd ⊢; omega))) | fail)
  refine .inr fun bt => ?_
  rename_i b2 b4
  refine loopI (ι := Nat) (fun i => i ≤ ns.length) (fun i => [(7, .int .i64 i), (6, .msl 14 1 bt 0 ns.length ns.length), (5, .ptr 5 b 0), (4, .ptr 4 b4 0), (2, .ptr 2 b2 0), (1, .int .i64 r)]) (fun i => [(14, .blk bt (toI ns.length i)), (5, .blk b [.osl 82 τa 8 tb.length (tb.flatMap AtC), .fsl 1 0 [], .int .i64 0]), (4, .blk b4 [.fsl 1 0 [], .fsl 1 0 [], .int .i64 0]), (2, .blk b2 [.osl 82 τa 8 tb.length (tb.flatMap AtC), .sl 3 ns.length (ns.flatMap BrC), .int .i64 0])]) (fun i => ns.length - i) 0 (by omega) (Ents.envH (by simp [go_sem]) rfl) ?_
  intro i hi
  have hli := len_toI ns.length i
  simp (disch := first | omega | (simp only [List.length_cons, List.length_nil]; first | done | omega)) only [go_sem, Nat.reduceAdd, Nat.reduceMul, Nat.reduceSub, Nat.reduceEqDiff, Nat.reduceLeDiff, Nat.reduceMod, Nat.reduceLT, Int.reduceToNat, Int.reduceAdd, Int.reduceSub, Int.reduceMul, Int.reduceNeg, Int.reduceLE, Int.reduceLT, Int.reduceNe, Int.reduceEq, Int.reduceBEq, Int.reduceBNe, Int.reduceTMod, Int.reduceTDiv, Nat.reduceBEq]
  refine brP (fun hb => ?_) (fun hb => ?_)
  · have hlt : i < ns.length := by simpa using hb
    have hs := toI_set hlt
    repeat' (first | (simp (disch := first | omega | (simp only [List.length_cons, List.length_nil]; first | done | omega)) only [go_sem, Nat.reduceAdd, Nat.reduceMul, Nat.reduceSub, Nat.reduceEqDiff, Nat.reduceLeDiff, Nat.reduceMod, Nat.reduceLT, Int.reduceToNat, Int.reduceAdd, Int.reduceSub, Int.reduceMul, Int.reduceNeg, Int.reduceLE, Int.reduceLT, Int.reduceNe, Int.reduceEq, Int.reduceBEq, Int.reduceBNe, Int.reduceTMod, Int.reduceTDiv, Nat.reduceBEq, Nat.mul_one, Nat.zero_add]) | (refine allI (fun b => ?_)) | (refine allT (fun τ => ?_)) | (refine brP (fun h => ?_) (fun h => ?_) <;> (try simp only [zgx, zbx] at h)) | (apply And.intro; focus (first | omega | (simp; done) | (simp +contextual; done) | (intros; and_intros <;> first | assumption | omega) | (intros; simp_all; done) | (intro hgd; refine ⟨hgd, ?_⟩; simp [hgd]; done) | (intro hgd; simp only [zgx] at hgd ⊢; omega))) | fail)
    exact ⟨⟨i + 1, by omega⟩, by dsimp only; omega, Ents.envH (by simp [go_sem]) (by rw [hs])⟩
  · have hie : i = ns.length := by simp only [decide_eq_false_iff_not] at hb; omega
    subst hie
    have hta := toI_all ns.length
    rw [hta]
    repeat' (first | (simp (disch := first | omega | (simp only [List.length_cons, List.length_nil]; first | done | omega)) only [go_sem, Nat.reduceAdd, Nat.reduceMul, Nat.reduceSub, Nat.reduceEqDiff, Nat.reduceLeDiff, Nat.reduceMod, Nat.reduceLT, Int.reduceToNat, Int.reduceAdd, Int.reduceSub, Int.reduceMul, Int.reduceNeg, Int.reduceLE, Int.reduceLT, Int.reduceNe, Int.reduceEq, Int.reduceBEq, Int.reduceBNe, Int.reduceTMod, Int.reduceTDiv, Nat.reduceBEq]) | (refine allI (fun b => ?_)) | (refine allT (fun τ => ?_)) | (refine brP (fun h => ?_) (fun h => ?_) <;> (try simp only [zgx, zbx] at h)) | (apply And.intro; focus (first | omega | (simp; done) | (simp +contextual; done) | (intros; and_intros <;> first | assumption | omega) | (intros; simp_all; done) | (intro hgd; refine ⟨hgd, ?_⟩; simp [hgd]; done) | (intro hgd; simp only [zgx] at hgd ⊢; omega))) | fail)
    first | refine actsQ_U (visit0 b bt τa tb ns hl hd r hf hr h4 h5) (pick_perm rfl (pick_perm rfl (List.Perm.refl _))) ?_ | refine actsQ_T (visit0 b bt τa tb ns hl hd r hf hr h4 h5) (pick_perm rfl (pick_perm rfl (List.Perm.refl _))) ?_ | refine actsQ_N (visit0 b bt τa tb ns hl hd r hf hr h4 h5) (pick_perm rfl (pick_perm rfl (List.Perm.refl _))) ?_ | refine actsQ_of (visit0 b bt τa tb ns hl hd r hf hr h4 h5) (pick_perm rfl (pick_perm rfl (List.Perm.refl _))) ?_
    rintro _ _ ⟨τ', rfl, rfl⟩
    simp only [Hv, List.take_length]
    repeat' (first | (simp (disch := first | omega | (simp only [List.length_cons, List.length_nil]; first | done | omega)) only [go_sem, Nat.reduceAdd, Nat.reduceMul, Nat.reduceSub, Nat.reduceEqDiff, Nat.reduceLeDiff, Nat.reduceMod, Nat.reduceLT, Int.reduceToNat, Int.reduceAdd, Int.reduceSub, Int.reduceMul, Int.reduceNeg, Int.reduceLE, Int.reduceLT, Int.reduceNe, Int.reduceEq, Int.reduceBEq, Int.reduceBNe, Int.reduceTMod, Int.reduceTDiv, Nat.reduceBEq]) | (refine allI (fun b => ?_)) | (refine allT (fun τ => ?_)) | (refine brP (fun h => ?_) (fun h => ?_) <;> (try simp only [zgx, zbx] at h)) | (apply And.intro; focus (first | omega | (simp; done) | (simp +contextual; done) | (intros; and_intros <;> first | assumption | omega) | (intros; simp_all; done) | (intro hgd; refine ⟨hgd, ?_⟩; simp [hgd]; done) | (intro hgd; simp only [zgx] at hgd ⊢; omega))) | fail)
    exact leV.agg ⟨leV.refl _, leV.osl_sl _ _ _ _ _, leV.refl _, trivial⟩
end Go.Proofs.Ytcngkeeknlloaaa
