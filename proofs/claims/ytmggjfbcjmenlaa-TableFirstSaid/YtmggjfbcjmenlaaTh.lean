/- Layer 15: table: lists that are built. -/
import Derived.Test.YtmggjfbcjmenlaaTf
import Derived.Test.YtmggjfbcjmenlaaMkE
namespace Go.Proofs.Ytmggjfbcjmenlaa
open Go Go.Lx
set_option linter.unusedSimpArgs false
set_option linter.unusedVariables false
set_option maxRecDepth 100000
set_option maxHeartbeats 4000000

def toRu (r : Rl) : Ru := ⟨r.l, r.a, r.c, TsS r.ts, .int .i64 r.w, .str r.p, .int .i64 r.m, .str r.k⟩
theorem RlS_Ru (rs : List Rl) : RlS rs = Rus (rs.map toRu) := by
  have h : (rs.map toRu).flatMap RuC = rs.flatMap RlC := by
    rw [List.flatMap_map]; rfl
  rw [RlS, Rus, h, List.length_map]
theorem Ix_g (q : Int) (rs : List (List Int)) : (Ix q rs).g = True := Eq.trans rfl rfl
theorem Ix_v (q : Int) (rs : List (List Int)) : (Ix q rs).v = Ix q rs := Eq.trans rfl rfl
theorem builtL (l : List Int) (hl : okS l 0) : Pure Try.prog gl 4 [Ms l] (.bool true) := by
  refine fn_pureT Try.func4 t4 Try.ntmps4 (by simp) ?_
  have hs := new_ l
  unfold Ms at hs
  unfold c4 r4 Ms
  simp (disch := first | omega | (simp only [List.length_cons, List.length_nil]; first | done | omega)) only [go_sem, Nat.reduceAdd, Nat.reduceMul, Nat.reduceSub, Nat.reduceEqDiff, Nat.reduceLeDiff, Nat.reduceMod, Nat.reduceLT, Int.reduceToNat, Int.reduceAdd, Int.reduceSub, Int.reduceMul, Int.reduceNeg, Int.reduceLE, Int.reduceLT, Int.toNat_natCast, Int.cast_ofNat_Int, Int.reduceNe, Int.reduceEq, Int.reduceBEq, Int.reduceBNe, not_false_eq_true, ne_eq, Int.reduceTMod, Int.reduceTDiv, beq_self_eq_true, bne_self_eq_false, List.contains_cons, List.contains_nil, Nat.reduceBEq]
  first | refine newsE_U (hs) ?_ | refine newsE_T (hs) ?_ | refine newsE_of (hs) ?_
  rintro _ _ ⟨sb, rfl, rfl⟩
  simp (disch := first | omega | (simp only [List.length_cons, List.length_nil]; first | done | omega)) only [go_sem, Nat.reduceAdd, Nat.reduceMul, Nat.reduceSub, Nat.reduceEqDiff, Nat.reduceLeDiff, Nat.reduceMod, Nat.reduceLT, Int.reduceToNat, Int.reduceAdd, Int.reduceSub, Int.reduceMul, Int.reduceNeg, Int.reduceLE, Int.reduceLT, Int.toNat_natCast, Int.cast_ofNat_Int, Int.reduceNe, Int.reduceEq, Int.reduceBEq, Int.reduceBNe, not_false_eq_true, ne_eq, Int.reduceTMod, Int.reduceTDiv, beq_self_eq_true, bne_self_eq_false, List.contains_cons, List.contains_nil, Nat.reduceBEq]
  refine actsE_U (rules 14 (by omega) 3000 sb l 0 hl (by omega)) rfl ?_
  rintro _ _ ⟨a1, ha1, ⟨rs, ⟨hn, hrs⟩, rfl⟩, rfl⟩
  rw [RlS_Ru]
  have hB := fun k => build (rs.map toRu) k (by rw [List.length_map]; omega)
  have hR := fun k => rbuild (rs.map toRu) k (by rw [List.length_map]; omega)
  have hS := fun k => sameIx (rs.map toRu) k (by rw [List.length_map]; omega)
  generalize rs.map toRu = us at *
  unfold Rus at *
  simp (disch := first | omega | (simp only [List.length_cons, List.length_nil]; first | done | omega)) only [go_sem, Nat.reduceAdd, Nat.reduceMul, Nat.reduceSub, Nat.reduceEqDiff, Nat.reduceLeDiff, Nat.reduceMod, Nat.reduceLT, Int.reduceToNat, Int.reduceAdd, Int.reduceSub, Int.reduceMul, Int.reduceNeg, Int.reduceLE, Int.reduceLT, Int.toNat_natCast, Int.cast_ofNat_Int, Int.reduceNe, Int.reduceEq, Int.reduceBEq, Int.reduceBNe, not_false_eq_true, ne_eq, Int.reduceTMod, Int.reduceTDiv, beq_self_eq_true, bne_self_eq_false, List.contains_cons, List.contains_nil, Nat.reduceBEq]
  refine loopI (ι := Int) (fun k => 1 ≤ k ∧ k ≤ 6) (fun k => (5, .int .i64 k) :: _) (fun _ => _) (fun k => (6 - k).toNat) 1 (by omega) Ents.same ?_
  intro k hk
  repeat' (first | (simp (disch := first | omega | (simp only [List.length_cons, List.length_nil]; first | done | omega)) only [go_sem, Nat.reduceAdd, Nat.reduceMul, Nat.reduceSub, Nat.reduceEqDiff, Nat.reduceLeDiff, Nat.reduceMod, Nat.reduceLT, Int.reduceToNat, Int.reduceAdd, Int.reduceSub, Int.reduceMul, Int.reduceNeg, Int.reduceLE, Int.reduceLT, Int.toNat_natCast, Int.cast_ofNat_Int, Int.reduceNe, Int.reduceEq, Int.reduceBEq, Int.reduceBNe, not_false_eq_true, ne_eq, Int.reduceTMod, Int.reduceTDiv, beq_self_eq_true, bne_self_eq_false, List.contains_cons, List.contains_nil, Nat.reduceBEq, Ix_g, Ix_v, true_and]) | (refine allI (fun b => ?_)) | (refine allT (fun τ => ?_)) | (refine brP (fun h => ?_) (fun h => ?_) <;> (try simp only [Bool.and_eq_true, Bool.and_eq_false_iff, Bool.or_eq_true, Bool.or_eq_false_iff, Bool.not_eq_true', Bool.not_eq_false', decide_eq_true_eq, decide_eq_false_iff_not, beq_iff_eq, beq_eq_false_iff_ne, ne_eq, bne_iff_ne, Int.not_lt, Int.not_le] at h)) | refine call_U (hB _) ?_ | refine callG_U (fun _ => hB _) ?_ | refine call_T (hB _) ?_ | refine callG_T (fun _ => hB _) ?_ | refine call_U (hR _) ?_ | refine callG_U (fun _ => hR _) ?_ | refine call_T (hR _) ?_ | refine callG_T (fun _ => hR _) ?_ | refine call_U (hS _) ?_ | refine callG_U (fun _ => hS _) ?_ | refine call_T (hS _) ?_ | refine callG_T (fun _ => hS _) ?_ | refine call_U (awake) ?_ | refine callG_U (fun _ => awake) ?_ | refine call_T (awake) ?_ | refine callG_T (fun _ => awake) ?_ | refine call_N (hB _) ?_ | refine call_of (hB _) ?_ | refine callG_of (fun _ => hB _) ?_ | refine call_N (hR _) ?_ | refine call_of (hR _) ?_ | refine callG_of (fun _ => hR _) ?_ | refine call_N (hS _) ?_ | refine call_of (hS _) ?_ | refine callG_of (fun _ => hS _) ?_ | refine call_N (awake) ?_ | refine call_of (awake) ?_ | refine callG_of (fun _ => awake) ?_ | (apply And.intro; focus (first | omega | (simp; done) | (simp +contextual; done) | (intros; and_intros <;> first | assumption | omega) | (intros; simp_all; done) | (intro hgd; refine ⟨hgd, ?_⟩; simp [hgd]; done) | (intro hgd; simp only [beq_eq_false_iff_ne, beq_iff_eq, decide_eq_true_eq, decide_eq_false_iff_not, bne_iff_ne, ne_eq, Bool.and_eq_true, Bool.or_eq_false_iff, Bool.or_eq_true, Bool.and_eq_false_iff] at hgd ⊢; omega))) | fail)
  exact ⟨⟨k + 1, by omega⟩, by dsimp only; omega, Ents.envH (by simp [go_sem]) rfl⟩
end Go.Proofs.Ytmggjfbcjmenlaa
