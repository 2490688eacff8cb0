/- Answers from a number. -/
import Derived.Test.YtmggjfbcjmenlaaMt
import Derived.Test.YtmggjfbcjmenlaaMkB
namespace Go.Proofs.Ytmggjfbcjmenlaa
open Go Go.Lx
set_option linter.unusedSimpArgs false
set_option linter.unusedVariables false
set_option maxRecDepth 100000
set_option maxHeartbeats 4000000

theorem leV_zero : zeros ([.bool false] : List LV) 1 = [.bool false] := Eq.trans rfl rfl
theorem bools (n : Nat) (k : Int) (hn : n ≤ 1000) : PureE Try.prog gl 19 [.int .i64 n, .int .i64 k] fun r => ∃ bs : List Bool, bs.length = n ∧ r = BsS bs := by
  refine fn_viewT Try.func19 t19 Try.ntmps19 (by simp) ?_
  unfold c19 r19
  simp (disch := first | omega | (simp only [List.length_cons, List.length_nil]; first | done | omega)) only [go_sem, Nat.reduceAdd, Nat.reduceMul, Nat.reduceSub, Nat.reduceEqDiff, Nat.reduceLeDiff, Nat.reduceMod, Nat.reduceLT, Int.reduceToNat, Int.reduceAdd, Int.reduceSub, Int.reduceMul, Int.reduceNeg, Int.reduceLE, Int.reduceLT, Int.toNat_natCast, Int.cast_ofNat_Int, Int.reduceNe, Int.reduceEq, Int.reduceBEq, Int.reduceBNe, not_false_eq_true, ne_eq, Int.reduceTMod, Int.reduceTDiv, beq_self_eq_true, bne_self_eq_false, List.contains_cons, List.contains_nil, Nat.reduceBEq]
  refine loopI (ι := Nat × List Bool × Tok) (fun y => y.1 ≤ n ∧ y.2.1.length = y.1) (fun y => [(6, .int .i64 y.1), (5, .osl 21 y.2.2 1 y.1 (y.2.1.map LV.bool)), (0, .int .i64 n), (1, .int .i64 k)]) (fun y => [(21, .tok y.2.2)]) (fun y => n - y.1) (0, [], ⟨0, 0, 0⟩) (by simp) (Ents.dummyE 21 (by simp [go_sem, envLe, leV.nil_osl])) ?_
  rintro ⟨i, bs, τ⟩ ⟨h1, h2⟩
  dsimp only at h1 h2 ⊢
  have hm : (i : Int).tmod 60 = i % 60 := Int.tmod_eq_emod_of_nonneg (by omega)
  have hw : IntKind.u64.wrap ((i : Int) % 60) = (i : Int) % 60 := wrap_u64 (by omega) (by omega)
  repeat' (first | (simp (disch := first | omega | (simp only [List.length_cons, List.length_nil]; first | done | omega)) only [go_sem, Nat.reduceAdd, Nat.reduceMul, Nat.reduceSub, Nat.reduceEqDiff, Nat.reduceLeDiff, Nat.reduceMod, Nat.reduceLT, Int.reduceToNat, Int.reduceAdd, Int.reduceSub, Int.reduceMul, Int.reduceNeg, Int.reduceLE, Int.reduceLT, Int.toNat_natCast, Int.cast_ofNat_Int, Int.reduceNe, Int.reduceEq, Int.reduceBEq, Int.reduceBNe, not_false_eq_true, ne_eq, Int.reduceTMod, Int.reduceTDiv, beq_self_eq_true, bne_self_eq_false, List.contains_cons, List.contains_nil, Nat.reduceBEq, leV_zero, hm, hw]) | (refine allI (fun b => ?_)) | (refine allT (fun τ => ?_)) | (refine brP (fun h => ?_) (fun h => ?_) <;> (try simp only [Bool.and_eq_true, Bool.and_eq_false_iff, Bool.or_eq_true, Bool.or_eq_false_iff, Bool.not_eq_true', Bool.not_eq_false', decide_eq_true_eq, decide_eq_false_iff_not, beq_iff_eq, beq_eq_false_iff_ne, ne_eq, bne_iff_ne, Int.not_lt, Int.not_le] at h)) | (apply And.intro; focus (first | omega | (simp; done) | (simp +contextual; done) | (intros; and_intros <;> first | assumption | omega) | (intros; simp_all; done) | (intro hgd; refine ⟨hgd, ?_⟩; simp [hgd]; done) | (intro hgd; simp only [beq_eq_false_iff_ne, beq_iff_eq, decide_eq_true_eq, decide_eq_false_iff_not, bne_iff_ne, ne_eq, Bool.and_eq_true, Bool.or_eq_false_iff, Bool.or_eq_true, Bool.and_eq_false_iff] at hgd ⊢; omega))) | fail)
  · exact ⟨by simp only [roomy]; omega, fun t => ⟨⟨(i + 1, bs ++ [bitop .and .i64 (shr .i64 k ((i : Int) % 60)) 1 == 1], t), by dsimp only; omega, by simp; omega⟩, by dsimp only; omega, Ents.envH ⟨leV.refl _, leV.of_eq (by simp [go_sem]), leV.refl _, leV.refl _, trivial⟩ rfl⟩⟩
  · refine pureE_end (r := BsS bs) ?_ ⟨bs, by omega, rfl⟩
    have e : i = bs.length := h2.symm
    subst e
    exact leV.osl_sl _ _ _ _ _
end Go.Proofs.Ytmggjfbcjmenlaa
