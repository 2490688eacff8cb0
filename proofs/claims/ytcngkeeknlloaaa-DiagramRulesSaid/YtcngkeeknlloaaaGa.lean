/- Rows of a table (the reference): those of the exit list. -/
import Derived.Test.YtcngkeeknlloaaaMt
import Derived.Test.YtcngkeeknlloaaaDc
namespace Go.Proofs.Ytcngkeeknlloaaa
open Go Go.Lx
set_option linter.unusedSimpArgs false
set_option linter.unusedVariables false
set_option maxRecDepth 100000
set_option maxHeartbeats 4000000

def selX (rs : List Rl) (n i : Nat) : Bool := (rs.getD i rl0).l == 3 && hasC (rs.getD i rl0).c n
/-- the indices of the first i rules that are of the exit list and have the call n -/
def rowX (rs : List Rl) (n i : Nat) : List Int := ((List.range i).filter (selX rs n)).map Int.ofNat
theorem rowX_succ (rs : List Rl) (n i : Nat) : rowX rs n (i + 1) = rowX rs n i ++ if selX rs n i = true then [(i : Int)] else [] := by
  simp only [rowX, List.range_succ, List.filter_append, List.map_append]
  congr 1
  cases h : selX rs n i <;> simp [h]
theorem rowX_len (rs : List Rl) (n i : Nat) : (rowX rs n i).length ≤ i := by
  have := List.length_filter_le (selX rs n) (List.range i)
  simpa [rowX] using this
def rowsX (rs : List Rl) (n : Nat) : List LV := (List.range n).map fun j => WhS (rowX rs j rs.length)
theorem rowsX_succ (rs : List Rl) (n : Nat) : rowsX rs (n + 1) = rowsX rs n ++ [WhS (rowX rs n rs.length)] := by
  simp [rowsX, List.range_succ]
theorem bld15 (rs : List Rl) (hl : rs.length ≤ 1000000) : PureE Try.prog gl 32 [RlS rs, .int .i64 3] fun r => ∃ q, r = .agg [.int .u64 q, .sl 1 32 (rowsX rs 32)] := by
  refine fn_viewT Try.func32 t32 Try.ntmps32 (by simp) ?_
  have hlen := len_rl rs
  unfold c32 r32
  rw [RlS_eq]
  simp (disch := first | omega | (simp only [List.length_cons, List.length_nil]; first | done | omega)) only [go_sem, Nat.reduceAdd, Nat.reduceMul, Nat.reduceSub, Nat.reduceEqDiff, Nat.reduceLeDiff, Nat.reduceMod, Nat.reduceLT, Int.reduceToNat, Int.reduceAdd, Int.reduceSub, Int.reduceMul, Int.reduceNeg, Int.reduceLE, Int.reduceLT, Int.reduceNe, Int.reduceEq, Int.reduceBEq, Int.reduceBNe, Int.reduceTMod, Int.reduceTDiv, Nat.reduceBEq]
  intro b4 b5
  repeat' (first | (simp (disch := first | omega | (simp only [List.length_cons, List.length_nil]; first | done | omega)) only [go_sem, Nat.reduceAdd, Nat.reduceMul, Nat.reduceSub, Nat.reduceEqDiff, Nat.reduceLeDiff, Nat.reduceMod, Nat.reduceLT, Int.reduceToNat, Int.reduceAdd, Int.reduceSub, Int.reduceMul, Int.reduceNeg, Int.reduceLE, Int.reduceLT, Int.reduceNe, Int.reduceEq, Int.reduceBEq, Int.reduceBNe, Int.reduceTMod, Int.reduceTDiv, Nat.reduceBEq]) | (refine allI (fun b => ?_)) | (refine allT (fun τ => ?_)) | (refine brP (fun h => ?_) (fun h => ?_) <;> (try simp only [zgx, zbx] at h)) | (apply And.intro; focus (first | omega | (simp; done) | (simp +contextual; done) | (intros; and_intros <;> first | assumption | omega) | (intros; simp_all; done) | (intro hgd; refine ⟨hgd, ?_⟩; simp [hgd]; done) | (intro hgd; simp only [zgx] at hgd ⊢; omega))) | fail)
  refine loopI (ι := Nat × Int × Tok) (fun x => x.1 ≤ 32) (fun x => [(6, .int .i64 x.1), (5, .ptr 5 b5 0), (4, .ptr 4 b4 0), (0, .sl 8 rs.length (rs.flatMap RlC)), (1, .int .i64 3)]) (fun x => [(49, .tok x.2.2), (5, .blk b5 [.int .u64 x.2.1, .osl 49 x.2.2 1 x.1 (rowsX rs x.1)]), (4, .blk b4 [.int .u64 0, .fsl 1 0 []])]) (fun x => 32 - x.1) (0, 0, ⟨0, 0, 0⟩) (by dsimp only; omega) (Ents.dum 49 (Ents.le (by simp [go_sem, envLe]) (by simp [heapLe, entLe, leVs, leV.refl, leV.fsl_osl, rowsX]))) ?_
  rintro ⟨n, q, τ2⟩ hn
  dsimp only at hn ⊢
  have hrx : (rowsX rs n).length = n := by simp [rowsX]
  simp (disch := first | omega | (simp only [List.length_cons, List.length_nil]; first | done | omega)) only [go_sem, Nat.reduceAdd, Nat.reduceMul, Nat.reduceSub, Nat.reduceEqDiff, Nat.reduceLeDiff, Nat.reduceMod, Nat.reduceLT, Int.reduceToNat, Int.reduceAdd, Int.reduceSub, Int.reduceMul, Int.reduceNeg, Int.reduceLE, Int.reduceLT, Int.reduceNe, Int.reduceEq, Int.reduceBEq, Int.reduceBNe, Int.reduceTMod, Int.reduceTDiv, Nat.reduceBEq]
  refine brP (fun hb => ?_) (fun hb => ?_)
  · have hn2 : n < 32 := by simp only [decide_eq_true_eq] at hb; omega
    simp (disch := first | omega | (simp only [List.length_cons, List.length_nil]; first | done | omega)) only [go_sem, Nat.reduceAdd, Nat.reduceMul, Nat.reduceSub, Nat.reduceEqDiff, Nat.reduceLeDiff, Nat.reduceMod, Nat.reduceLT, Int.reduceToNat, Int.reduceAdd, Int.reduceSub, Int.reduceMul, Int.reduceNeg, Int.reduceLE, Int.reduceLT, Int.reduceNe, Int.reduceEq, Int.reduceBEq, Int.reduceBNe, Int.reduceTMod, Int.reduceTDiv, Nat.reduceBEq]
    refine loopI (ι := Nat × Tok) (fun x => x.1 ≤ rs.length) (fun x => [(8, .int .i64 x.1), (7, .osl 44 x.2 1 (rowX rs n x.1).length ((rowX rs n x.1).map (LV.int .i64))), (6, .int .i64 n), (5, .ptr 5 b5 0), (4, .ptr 4 b4 0), (0, .sl 8 rs.length (rs.flatMap RlC)), (1, .int .i64 3)]) (fun x => [(44, .tok x.2), (49, .tok τ2), (5, .blk b5 [.int .u64 q, .osl 49 τ2 1 n (rowsX rs n)]), (4, .blk b4 [.int .u64 0, .fsl 1 0 []])]) (fun x => rs.length - x.1) (0, ⟨0, 0, 0⟩) (by dsimp only; omega) (Ents.dum 44 (Ents.envH (by simp [go_sem, envLe, rowX, leV.fsl_osl]) rfl)) ?_
    rintro ⟨i, τ⟩ hi
    dsimp only at hi ⊢
    have hrl := rowX_len rs n i
    have hml : ((rowX rs n i).map (LV.int .i64)).length = (rowX rs n i).length := List.length_map _
    simp (disch := first | omega | (simp only [List.length_cons, List.length_nil]; first | done | omega)) only [go_sem, Nat.reduceAdd, Nat.reduceMul, Nat.reduceSub, Nat.reduceEqDiff, Nat.reduceLeDiff, Nat.reduceMod, Nat.reduceLT, Int.reduceToNat, Int.reduceAdd, Int.reduceSub, Int.reduceMul, Int.reduceNeg, Int.reduceLE, Int.reduceLT, Int.reduceNe, Int.reduceEq, Int.reduceBEq, Int.reduceBNe, Int.reduceTMod, Int.reduceTDiv, Nat.reduceBEq]
    refine brP (fun hb2 => ?_) (fun hb2 => ?_)
    · have hlt : i < rs.length := by simpa using hb2
      have e3 : ((rs.flatMap RlC).drop (i * 8)).take 8 = RlC (rs.getD i rl0) := take_rows (f := RlC) (fun _ => rfl) rl0 _ hlt
      have g0 : (rs.flatMap RlC).getD (i * 8) .any = .int .i64 (rs.getD i rl0).l := by
        have := congrArg (fun z => z.getD 0 LV.any) e3
        simpa [List.getD, RlC_eq] using this
      have g2 : (rs.flatMap RlC).getD (i * 8 + 2) .any = .int .u64 (rs.getD i rl0).c := by
        have := congrArg (fun z => z.getD 2 LV.any) e3
        simpa [List.getD, RlC_eq] using this
      have hsu := rowX_succ rs n i
      rw [selX] at hsu
      have hc := rhas01 (rs.getD i rl0).c n
      generalize rs.getD i rl0 = r at *
      repeat' (first | (simp (disch := first | omega | (simp only [List.length_cons, List.length_nil]; first | done | omega)) only [go_sem, Nat.reduceAdd, Nat.reduceMul, Nat.reduceSub, Nat.reduceEqDiff, Nat.reduceLeDiff, Nat.reduceMod, Nat.reduceLT, Int.reduceToNat, Int.reduceAdd, Int.reduceSub, Int.reduceMul, Int.reduceNeg, Int.reduceLE, Int.reduceLT, Int.reduceNe, Int.reduceEq, Int.reduceBEq, Int.reduceBNe, Int.reduceTMod, Int.reduceTDiv, Nat.reduceBEq, g0, g2, Nat.add_zero]) | (refine allI (fun b => ?_)) | (refine allT (fun τ => ?_)) | (refine brP (fun h => ?_) (fun h => ?_) <;> (try simp only [zgx, zbx] at h)) | refine call_U (hc) ?_ | refine callG_U (fun _ => hc) ?_ | refine call_T (hc) ?_ | refine callG_T (fun _ => hc) ?_ | refine call_N (hc) ?_ | refine call_of (hc) ?_ | refine callG_of (fun _ => hc) ?_ | (apply And.intro; focus (first | omega | (simp; done) | (simp +contextual; done) | (intros; and_intros <;> first | assumption | omega) | (intros; simp_all; done) | (intro hgd; refine ⟨hgd, ?_⟩; simp [hgd]; done) | (intro hgd; simp only [zgx] at hgd ⊢; omega))) | fail)
      · rw [if_pos (by simp [h])] at hsu
        refine ⟨by simp only [roomy]; omega, fun t => ⟨⟨(i + 1, t), by dsimp only; omega⟩, by dsimp only; omega, Ents.envH (by simp [go_sem, hsu]) rfl⟩⟩
      · rw [if_neg (by rcases h with h | h <;> simp [h]), List.append_nil] at hsu
        exact ⟨⟨(i + 1, τ), by dsimp only; omega⟩, by dsimp only; omega, Ents.envH (by simp [go_sem, hsu]) rfl⟩
    · have hie : i = rs.length := by simp only [decide_eq_false_iff_not] at hb2; omega
      subst hie
      repeat' (first | (simp (disch := first | omega | (simp only [List.length_cons, List.length_nil]; first | done | omega)) only [go_sem, Nat.reduceAdd, Nat.reduceMul, Nat.reduceSub, Nat.reduceEqDiff, Nat.reduceLeDiff, Nat.reduceMod, Nat.reduceLT, Int.reduceToNat, Int.reduceAdd, Int.reduceSub, Int.reduceMul, Int.reduceNeg, Int.reduceLE, Int.reduceLT, Int.reduceNe, Int.reduceEq, Int.reduceBEq, Int.reduceBNe, Int.reduceTMod, Int.reduceTDiv, Nat.reduceBEq]) | (refine allI (fun b => ?_)) | (refine allT (fun τ => ?_)) | (refine brP (fun h => ?_) (fun h => ?_) <;> (try simp only [zgx, zbx] at h)) | (apply And.intro; focus (first | omega | (simp; done) | (simp +contextual; done) | (intros; and_intros <;> first | assumption | omega) | (intros; simp_all; done) | (intro hgd; refine ⟨hgd, ?_⟩; simp [hgd]; done) | (intro hgd; simp only [zgx] at hgd ⊢; omega))) | fail)
      refine ⟨by simp only [roomy]; omega, fun t2 => ?_⟩
      repeat' (first | (simp (disch := first | omega | (simp only [List.length_cons, List.length_nil]; first | done | omega)) only [go_sem, Nat.reduceAdd, Nat.reduceMul, Nat.reduceSub, Nat.reduceEqDiff, Nat.reduceLeDiff, Nat.reduceMod, Nat.reduceLT, Int.reduceToNat, Int.reduceAdd, Int.reduceSub, Int.reduceMul, Int.reduceNeg, Int.reduceLE, Int.reduceLT, Int.reduceNe, Int.reduceEq, Int.reduceBEq, Int.reduceBNe, Int.reduceTMod, Int.reduceTDiv, Nat.reduceBEq]) | (refine allI (fun b => ?_)) | (refine allT (fun τ => ?_)) | (refine brP (fun h => ?_) (fun h => ?_) <;> (try simp only [zgx, zbx] at h)) | (apply And.intro; focus (first | omega | (simp; done) | (simp +contextual; done) | (intros; and_intros <;> first | assumption | omega) | (intros; simp_all; done) | (intro hgd; refine ⟨hgd, ?_⟩; simp [hgd]; done) | (intro hgd; simp only [zgx] at hgd ⊢; omega))) | fail)
      all_goals exact ⟨⟨(n + 1, _, t2), by dsimp only; omega⟩, by dsimp only; omega, Ents.heap [_, _, _] (by simp [go_sem]) ⟨_, .cons_cons _ (.cons _ (.refl _)), .refl _⟩ ⟨rfl, ⟨rfl, leV.refl _, by rw [rowsX_succ]; exact leV.osl (leVs.app (leVs.refl _) ⟨(leV.osl_sl _ _ _ _ _).trans (leV.of_eq (WhS_eq _).symm), trivial⟩), trivial⟩, ⟨rfl, leVs.refl _⟩, trivial⟩⟩
  · have hie : n = 32 := by simp only [decide_eq_false_iff_not] at hb; omega
    subst hie
    repeat' (first | (simp (disch := first | omega | (simp only [List.length_cons, List.length_nil]; first | done | omega)) only [go_sem, Nat.reduceAdd, Nat.reduceMul, Nat.reduceSub, Nat.reduceEqDiff, Nat.reduceLeDiff, Nat.reduceMod, Nat.reduceLT, Int.reduceToNat, Int.reduceAdd, Int.reduceSub, Int.reduceMul, Int.reduceNeg, Int.reduceLE, Int.reduceLT, Int.reduceNe, Int.reduceEq, Int.reduceBEq, Int.reduceBNe, Int.reduceTMod, Int.reduceTDiv, Nat.reduceBEq]) | (refine allI (fun b => ?_)) | (refine allT (fun τ => ?_)) | (refine brP (fun h => ?_) (fun h => ?_) <;> (try simp only [zgx, zbx] at h)) | (apply And.intro; focus (first | omega | (simp; done) | (simp +contextual; done) | (intros; and_intros <;> first | assumption | omega) | (intros; simp_all; done) | (intro hgd; refine ⟨hgd, ?_⟩; simp [hgd]; done) | (intro hgd; simp only [zgx] at hgd ⊢; omega))) | fail)
    exact ⟨.agg [.int .u64 q, .sl 1 32 (rowsX rs 32)], _, leVH.of (leV.agg ⟨leV.refl _, leV.osl_sl _ _ _ _ _, trivial⟩) ⟨_, List.nil_sublist _, List.Perm.refl _⟩, rfl, q, rfl⟩
theorem row15 (rs : List Rl) (q n : Int) (hl : rs.length ≤ 1000000) : Pure Try.prog gl 31 [.agg [.int .u64 q, .sl 1 32 (rowsX rs 32)], .int .i64 n] (WhS (if 0 ≤ n ∧ n < 32 then rowX rs n.toNat rs.length else [])) := by
  refine fn_pureT Try.func31 t31 Try.ntmps31 (by simp) ?_
  have h32 : (rowsX rs 32).length = 32 := by simp [rowsX]
  have hg : 0 ≤ n ∧ n < 32 → (rowsX rs 32).getD n.toNat .any = .sl 1 (rowX rs n.toNat rs.length).length ((rowX rs n.toNat rs.length).map (LV.int .i64)) := fun h => by
    have : n.toNat < 32 := by omega
    simp [rowsX, List.getD, this, WhS_eq]
  have hrl := rowX_len rs n.toNat rs.length
  unfold c31 r31
  by_cases hn : 0 ≤ n ∧ n < 32
  · rw [if_pos hn]
    have hg := hg hn
    generalize rowX rs n.toNat rs.length = wh at *
    rw [WhS_eq]
    have hml : (wh.map (LV.int .i64)).length = wh.length := List.length_map _
    repeat' (first | (simp (disch := first | omega | (simp only [List.length_cons, List.length_nil]; first | done | omega)) only [go_sem, Nat.reduceAdd, Nat.reduceMul, Nat.reduceSub, Nat.reduceEqDiff, Nat.reduceLeDiff, Nat.reduceMod, Nat.reduceLT, Int.reduceToNat, Int.reduceAdd, Int.reduceSub, Int.reduceMul, Int.reduceNeg, Int.reduceLE, Int.reduceLT, Int.reduceNe, Int.reduceEq, Int.reduceBEq, Int.reduceBNe, Int.reduceTMod, Int.reduceTDiv, Nat.reduceBEq, hg, Nat.mul_one]) | (refine allI (fun b => ?_)) | (refine allT (fun τ => ?_)) | (refine brP (fun h => ?_) (fun h => ?_) <;> (try simp only [zgx, zbx] at h)) | (apply And.intro; focus (first | omega | (simp; done) | (simp +contextual; done) | (intros; and_intros <;> first | assumption | omega) | (intros; simp_all; done) | (intro hgd; refine ⟨hgd, ?_⟩; simp [hgd]; done) | (intro hgd; simp only [zgx] at hgd ⊢; omega))) | fail)
    · omega
    · exact ⟨by simp only [roomy]; omega, fun τ => leV.osl_sl _ _ _ _ _⟩
  · rw [if_neg hn, WhS_eq]
    have d1 : (decide (n < 0) || decide (32 ≤ n)) = true := by simp; omega
    repeat' (first | (simp (disch := first | omega | (simp only [List.length_cons, List.length_nil]; first | done | omega)) only [go_sem, Nat.reduceAdd, Nat.reduceMul, Nat.reduceSub, Nat.reduceEqDiff, Nat.reduceLeDiff, Nat.reduceMod, Nat.reduceLT, Int.reduceToNat, Int.reduceAdd, Int.reduceSub, Int.reduceMul, Int.reduceNeg, Int.reduceLE, Int.reduceLT, Int.reduceNe, Int.reduceEq, Int.reduceBEq, Int.reduceBNe, Int.reduceTMod, Int.reduceTDiv, Nat.reduceBEq, d1]) | (refine allI (fun b => ?_)) | (refine allT (fun τ => ?_)) | (refine brP (fun h => ?_) (fun h => ?_) <;> (try simp only [zgx, zbx] at h)) | (apply And.intro; focus (first | omega | (simp; done) | (simp +contextual; done) | (intros; and_intros <;> first | assumption | omega) | (intros; simp_all; done) | (intro hgd; refine ⟨hgd, ?_⟩; simp [hgd]; done) | (intro hgd; simp only [zgx] at hgd ⊢; omega))) | fail)
    exact leV.nil_sl _ _
end Go.Proofs.Ytcngkeeknlloaaa
