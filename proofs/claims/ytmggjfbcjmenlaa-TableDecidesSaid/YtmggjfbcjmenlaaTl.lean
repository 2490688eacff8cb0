/- Layer 15: table: the theorem of the tables. -/
import Derived.Test.YtmggjfbcjmenlaaTk
import Derived.Test.YtmggjfbcjmenlaaMkI
import Derived.Test.YtmggjfbcjmenlaaMkJ
namespace Go.Proofs.Ytmggjfbcjmenlaa
open Go Go.Lx
set_option linter.unusedSimpArgs false
set_option linter.unusedVariables false
set_option maxRecDepth 100000
set_option maxHeartbeats 4000000

def atK (x : Cx) (n : Int) : Cx := { x with num := n }
theorem atK_C (x : Cx) (n : Int) : CxC (atK x n) = [.int .i64 x.ph, .int .i64 x.pid, .int .i64 x.ppid, .int .i64 x.uid, .int .i64 x.euid, .int .i64 x.gid, .int .i64 x.egid, .int .i64 x.auid, .int .i64 x.ses, .int .i64 x.cd, .int .i64 x.ci, .str x.comm, .str x.exe, x.opn, .bool x.aud, .int .i64 n, .int .i64 x.a0, .int .i64 x.a1, .int .i64 x.a2, .int .i64 x.a3, x.ps, x.xs, .int .i64 x.ex, ItS x.its, .int .i64 x.ty] := Eq.trans rfl rfl
theorem decL (l : List Int) (bits : Int) (hl : okS l 0) : Pure Try.prog gl 8 [Ms l, .int .i64 bits] (.bool true) := by
  refine fn_pureT Try.func8 t8 Try.ntmps8 (by simp) ?_
  have hs := new_ l
  unfold Ms at hs
  unfold c8 r8 Ms
  simp (disch := first | omega | (simp only [List.length_cons, List.length_nil]; first | done | omega)) only [go_sem, Nat.reduceAdd, Nat.reduceMul, Nat.reduceSub, Nat.reduceEqDiff, Nat.reduceLeDiff, Nat.reduceMod, Nat.reduceLT, Int.reduceToNat, Int.reduceAdd, Int.reduceSub, Int.reduceMul, Int.reduceNeg, Int.reduceLE, Int.reduceLT, Int.toNat_natCast, Int.cast_ofNat_Int, Int.reduceNe, Int.reduceEq, Int.reduceBEq, Int.reduceBNe, not_false_eq_true, ne_eq, Int.reduceTMod, Int.reduceTDiv, beq_self_eq_true, bne_self_eq_false, List.contains_cons, List.contains_nil, Nat.reduceBEq]
  first | refine newsE_U (hs) ?_ | refine newsE_T (hs) ?_ | refine newsE_of (hs) ?_
  rintro _ _ ⟨sb, rfl, rfl⟩
  simp (disch := first | omega | (simp only [List.length_cons, List.length_nil]; first | done | omega)) only [go_sem, Nat.reduceAdd, Nat.reduceMul, Nat.reduceSub, Nat.reduceEqDiff, Nat.reduceLeDiff, Nat.reduceMod, Nat.reduceLT, Int.reduceToNat, Int.reduceAdd, Int.reduceSub, Int.reduceMul, Int.reduceNeg, Int.reduceLE, Int.reduceLT, Int.toNat_natCast, Int.cast_ofNat_Int, Int.reduceNe, Int.reduceEq, Int.reduceBEq, Int.reduceBNe, not_false_eq_true, ne_eq, Int.reduceTMod, Int.reduceTDiv, beq_self_eq_true, bne_self_eq_false, List.contains_cons, List.contains_nil, Nat.reduceBEq]
  refine actsE_U (rules 14 (by omega) 3000 sb l 0 hl (by omega)) rfl ?_
  rintro _ _ ⟨a1, ha1, ⟨rs, ⟨hn, hrs⟩, rfl⟩, rfl⟩
  simp (disch := first | omega | (simp only [List.length_cons, List.length_nil]; first | done | omega)) only [go_sem, Nat.reduceAdd, Nat.reduceMul, Nat.reduceSub, Nat.reduceEqDiff, Nat.reduceLeDiff, Nat.reduceMod, Nat.reduceLT, Int.reduceToNat, Int.reduceAdd, Int.reduceSub, Int.reduceMul, Int.reduceNeg, Int.reduceLE, Int.reduceLT, Int.toNat_natCast, Int.cast_ofNat_Int, Int.reduceNe, Int.reduceEq, Int.reduceBEq, Int.reduceBNe, not_false_eq_true, ne_eq, Int.reduceTMod, Int.reduceTDiv, beq_self_eq_true, bne_self_eq_false, List.contains_cons, List.contains_nil, Nat.reduceBEq]
  refine actsE_U (context 3000 sb l a1 (hl.at (by omega) (by omega)) (by omega)) rfl ?_
  rintro _ _ ⟨a2, ha2, ⟨x, hx, rfl⟩, rfl⟩
  rw [RlS_eq, CxC_eq]
  simp (disch := first | omega | (simp only [List.length_cons, List.length_nil]; first | done | omega)) only [go_sem, Nat.reduceAdd, Nat.reduceMul, Nat.reduceSub, Nat.reduceEqDiff, Nat.reduceLeDiff, Nat.reduceMod, Nat.reduceLT, Int.reduceToNat, Int.reduceAdd, Int.reduceSub, Int.reduceMul, Int.reduceNeg, Int.reduceLE, Int.reduceLT, Int.toNat_natCast, Int.cast_ofNat_Int, Int.reduceNe, Int.reduceEq, Int.reduceBEq, Int.reduceBNe, not_false_eq_true, ne_eq, Int.reduceTMod, Int.reduceTDiv, beq_self_eq_true, bne_self_eq_false, List.contains_cons, List.contains_nil, Nat.reduceBEq]
  intro b7
  first | refine pureE_U (bools rs.length _ (by omega)) ?_ | refine pureE_T (bools rs.length _ (by omega)) ?_ | refine pureE_of (bools rs.length _ (by omega)) ?_
  rintro _ ⟨bs, hbs, rfl⟩
  unfold BsS
  have hok : okRs rs := ⟨by omega, fun r hr => by have := (hrs r hr).1.1; omega⟩
  simp (disch := first | omega | (simp only [List.length_cons, List.length_nil]; first | done | omega)) only [go_sem, Nat.reduceAdd, Nat.reduceMul, Nat.reduceSub, Nat.reduceEqDiff, Nat.reduceLeDiff, Nat.reduceMod, Nat.reduceLT, Int.reduceToNat, Int.reduceAdd, Int.reduceSub, Int.reduceMul, Int.reduceNeg, Int.reduceLE, Int.reduceLT, Int.toNat_natCast, Int.cast_ofNat_Int, Int.reduceNe, Int.reduceEq, Int.reduceBEq, Int.reduceBNe, not_false_eq_true, ne_eq, Int.reduceTMod, Int.reduceTDiv, beq_self_eq_true, bne_self_eq_false, List.contains_cons, List.contains_nil, Nat.reduceBEq]
  refine loopI (ι := Nat × Int) (fun y => y.1 ≤ 32) (fun y => [(9, .int .i64 y.1), (8, .sl 1 bs.length (bs.map LV.bool)), (7, .ptr 7 b7 0), (6, .sl 8 rs.length (rs.flatMap RlC)), (4, .bool false)]) (fun y => (7, .blk b7 [.int .i64 x.ph, .int .i64 x.pid, .int .i64 x.ppid, .int .i64 x.uid, .int .i64 x.euid, .int .i64 x.gid, .int .i64 x.egid, .int .i64 x.auid, .int .i64 x.ses, .int .i64 x.cd, .int .i64 x.ci, .str x.comm, .str x.exe, x.opn, .bool x.aud, .int .i64 y.2, .int .i64 x.a0, .int .i64 x.a1, .int .i64 x.a2, .int .i64 x.a3, x.ps, x.xs, .int .i64 x.ex, ItS x.its, .int .i64 x.ty]) :: _) (fun y => 32 - y.1) (0, x.num) (by dsimp only; omega) (Ents.envH (by simp [go_sem]) rfl) ?_
  rintro ⟨n, m⟩ hn2
  dsimp only at hn2 ⊢
  simp (disch := first | omega | (simp only [List.length_cons, List.length_nil]; first | done | omega)) only [go_sem, Nat.reduceAdd, Nat.reduceMul, Nat.reduceSub, Nat.reduceEqDiff, Nat.reduceLeDiff, Nat.reduceMod, Nat.reduceLT, Int.reduceToNat, Int.reduceAdd, Int.reduceSub, Int.reduceMul, Int.reduceNeg, Int.reduceLE, Int.reduceLT, Int.toNat_natCast, Int.cast_ofNat_Int, Int.reduceNe, Int.reduceEq, Int.reduceBEq, Int.reduceBNe, not_false_eq_true, ne_eq, Int.reduceTMod, Int.reduceTDiv, beq_self_eq_true, bne_self_eq_false, List.contains_cons, List.contains_nil, Nat.reduceBEq]
  refine brP (fun hb => ?_) (fun hb => ?_)
  · have hn3 : n < 32 := by simp only [decide_eq_true_eq] at hb; omega
    simp (disch := first | omega | (simp only [List.length_cons, List.length_nil]; first | done | omega)) only [go_sem, Nat.reduceAdd, Nat.reduceMul, Nat.reduceSub, Nat.reduceEqDiff, Nat.reduceLeDiff, Nat.reduceMod, Nat.reduceLT, Int.reduceToNat, Int.reduceAdd, Int.reduceSub, Int.reduceMul, Int.reduceNeg, Int.reduceLE, Int.reduceLT, Int.toNat_natCast, Int.cast_ofNat_Int, Int.reduceNe, Int.reduceEq, Int.reduceBEq, Int.reduceBNe, not_false_eq_true, ne_eq, Int.reduceTMod, Int.reduceTDiv, beq_self_eq_true, bne_self_eq_false, List.contains_cons, List.contains_nil, Nat.reduceBEq]
    refine loopI (ι := Int) (fun k => 1 ≤ k ∧ k ≤ 6) (fun k => (10, .int .i64 k) :: _) (fun _ => _) (fun k => (6 - k).toNat) 1 (by omega) Ents.same ?_
    intro k hk
    have hB := build (rs.map toRu) k (by rw [List.length_map]; omega)
    have hxn : okX (atK x n) := by show x.its.length ≤ 1000000; omega
    have hR : ∀ l ∈ ixR (rs.map toRu) k, l.length ≤ 17592186044416 := fun l h => by
      have := (ixR_ok (rs.map toRu) k (by rw [List.length_map]; omega)).1 l h
      omega
    have hF := rfir rs k bs (atK x n) hok hxn
    have hT := tfir (ixQ (rs.map toRu) k) (ixR (rs.map toRu) k) rs bs (atK x n) hR hok hxn
    have hcmp : k ≤ 5 → ftB rs bs (atK x n) (rowOf (atK x n).num (ixR (rs.map toRu) k)) = firB rs k bs (atK x n) := fun h5 => ft_built hrs ⟨hk.1, h5⟩ bs (atK x n) hn3 rfl
    generalize ftB rs bs (atK x n) (rowOf (atK x n).num (ixR (rs.map toRu) k)) = F1 at *
    rw [← RlS_Ru, RlS_eq] at hB
    rw [RlS_eq, atK_C] at hF hT
    unfold BsS at hF hT
    generalize ixR (rs.map toRu) k = R at *
    repeat' (first | (simp (disch := first | omega | (simp only [List.length_cons, List.length_nil]; first | done | omega)) only [go_sem, Nat.reduceAdd, Nat.reduceMul, Nat.reduceSub, Nat.reduceEqDiff, Nat.reduceLeDiff, Nat.reduceMod, Nat.reduceLT, Int.reduceToNat, Int.reduceAdd, Int.reduceSub, Int.reduceMul, Int.reduceNeg, Int.reduceLE, Int.reduceLT, Int.toNat_natCast, Int.cast_ofNat_Int, Int.reduceNe, Int.reduceEq, Int.reduceBEq, Int.reduceBNe, not_false_eq_true, ne_eq, Int.reduceTMod, Int.reduceTDiv, beq_self_eq_true, bne_self_eq_false, List.contains_cons, List.contains_nil, Nat.reduceBEq, Ix_g, Ix_v, true_and]) | (refine allI (fun b => ?_)) | (refine allT (fun τ => ?_)) | (refine brP (fun h => ?_) (fun h => ?_) <;> (try simp only [Bool.and_eq_true, Bool.and_eq_false_iff, Bool.or_eq_true, Bool.or_eq_false_iff, Bool.not_eq_true', Bool.not_eq_false', decide_eq_true_eq, decide_eq_false_iff_not, beq_iff_eq, beq_eq_false_iff_ne, ne_eq, bne_iff_ne, Int.not_lt, Int.not_le] at h)) | refine call_U (hB) ?_ | refine callG_U (fun _ => hB) ?_ | refine call_T (hB) ?_ | refine callG_T (fun _ => hB) ?_ | refine call_U (hT) ?_ | refine callG_U (fun _ => hT) ?_ | refine call_T (hT) ?_ | refine callG_T (fun _ => hT) ?_ | refine call_U (hF) ?_ | refine callG_U (fun _ => hF) ?_ | refine call_T (hF) ?_ | refine callG_T (fun _ => hF) ?_ | refine call_N (hB) ?_ | refine call_of (hB) ?_ | refine callG_of (fun _ => hB) ?_ | refine call_N (hT) ?_ | refine call_of (hT) ?_ | refine callG_of (fun _ => hT) ?_ | refine call_N (hF) ?_ | refine call_of (hF) ?_ | refine callG_of (fun _ => hF) ?_ | (apply And.intro; focus (first | omega | (simp; done) | (simp +contextual; done) | (intros; and_intros <;> first | assumption | omega) | (intros; simp_all; done) | (intro hgd; refine ⟨hgd, ?_⟩; simp [hgd]; done) | (intro hgd; simp only [beq_eq_false_iff_ne, beq_iff_eq, decide_eq_true_eq, decide_eq_false_iff_not, bne_iff_ne, ne_eq, Bool.and_eq_true, Bool.or_eq_false_iff, Bool.or_eq_true, Bool.and_eq_false_iff] at hgd ⊢; omega))) | fail)
    · exact h (hcmp (by omega))
    · exact ⟨⟨k + 1, by omega⟩, by dsimp only; omega, Ents.envH (by simp [go_sem]) rfl⟩
    · exact ⟨⟨(n + 1, n), by dsimp only; omega⟩, by dsimp only; omega, Ents.envH (by simp [go_sem]) rfl⟩
  · repeat' (first | (simp (disch := first | omega | (simp only [List.length_cons, List.length_nil]; first | done | omega)) only [go_sem, Nat.reduceAdd, Nat.reduceMul, Nat.reduceSub, Nat.reduceEqDiff, Nat.reduceLeDiff, Nat.reduceMod, Nat.reduceLT, Int.reduceToNat, Int.reduceAdd, Int.reduceSub, Int.reduceMul, Int.reduceNeg, Int.reduceLE, Int.reduceLT, Int.toNat_natCast, Int.cast_ofNat_Int, Int.reduceNe, Int.reduceEq, Int.reduceBEq, Int.reduceBNe, not_false_eq_true, ne_eq, Int.reduceTMod, Int.reduceTDiv, beq_self_eq_true, bne_self_eq_false, List.contains_cons, List.contains_nil, Nat.reduceBEq]) | (refine allI (fun b => ?_)) | (refine allT (fun τ => ?_)) | (refine brP (fun h => ?_) (fun h => ?_) <;> (try simp only [Bool.and_eq_true, Bool.and_eq_false_iff, Bool.or_eq_true, Bool.or_eq_false_iff, Bool.not_eq_true', Bool.not_eq_false', decide_eq_true_eq, decide_eq_false_iff_not, beq_iff_eq, beq_eq_false_iff_ne, ne_eq, bne_iff_ne, Int.not_lt, Int.not_le] at h)) | refine call_U (awake) ?_ | refine callG_U (fun _ => awake) ?_ | refine call_T (awake) ?_ | refine callG_T (fun _ => awake) ?_ | refine call_N (awake) ?_ | refine call_of (awake) ?_ | refine callG_of (fun _ => awake) ?_ | (apply And.intro; focus (first | omega | (simp; done) | (simp +contextual; done) | (intros; and_intros <;> first | assumption | omega) | (intros; simp_all; done) | (intro hgd; refine ⟨hgd, ?_⟩; simp [hgd]; done) | (intro hgd; simp only [beq_eq_false_iff_ne, beq_iff_eq, decide_eq_true_eq, decide_eq_false_iff_not, bne_iff_ne, ne_eq, Bool.and_eq_true, Bool.or_eq_false_iff, Bool.or_eq_true, Bool.and_eq_false_iff] at hgd ⊢; omega))) | fail)
end Go.Proofs.Ytmggjfbcjmenlaa
