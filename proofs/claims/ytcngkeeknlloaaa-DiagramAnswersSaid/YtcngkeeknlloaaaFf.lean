/- Layer 16: the law of the answers. -/
import Derived.Test.YtcngkeeknlloaaaFe
import Derived.Test.YtcngkeeknlloaaaMkI
import Derived.Test.YtcngkeeknlloaaaDq
import Derived.Test.YtcngkeeknlloaaaCl10
namespace Go.Proofs.Ytcngkeeknlloaaa
open Go Go.Lx
set_option linter.unusedSimpArgs false
set_option linter.unusedVariables false
set_option maxRecDepth 100000
set_option maxHeartbeats 4000000

theorem zAt16 : zeros ([.int .i64 0, .int .i64 0, .int .i64 0, .str [], .int .i64 0, .int .i64 0, .str [], .int .i64 0] : List LV) 16 = [.int .i64 0, .int .i64 0, .int .i64 0, .str [], .int .i64 0, .int .i64 0, .str [], .int .i64 0, .int .i64 0, .int .i64 0, .int .i64 0, .str [], .int .i64 0, .int .i64 0, .str [], .int .i64 0] := Eq.trans rfl rfl
theorem dgR_len {l : List Rl} {wh : List Int} (hs : SmR l wh) : (dgR l wh).1.tb.length ≤ 12 := by
  by_cases he : (atomsR l wh).2 = 0
  · rw [dgR_ok he]
    exact (atomsR_ok hs (by rw [← he])).lt
  · rw [dgR_err he]
    simp
theorem ansLw (l : List Int) (hits : List Bool) (hl : okS l 0) (hh : hits.length ≤ 281474976710656) : Pure Try.prog gl 10 [Ms l, BlS hits] (.bool true) := by
  refine fn_pureT Try.func10 t10 Try.ntmps10 (by simp) ?_
  have hnw := new_ l
  unfold c10 r10
  unfold Ms at *
  rw [BlS_eq]
  repeat' (first | (simp (disch := first | omega | (simp only [List.length_cons, List.length_nil]; first | done | omega)) only [go_sem, Nat.reduceAdd, Nat.reduceMul, Nat.reduceSub, Nat.reduceEqDiff, Nat.reduceLeDiff, Nat.reduceMod, Nat.reduceLT, Int.reduceToNat, Int.reduceAdd, Int.reduceSub, Int.reduceMul, Int.reduceNeg, Int.reduceLE, Int.reduceLT, Int.reduceNe, Int.reduceEq, Int.reduceBEq, Int.reduceBNe, Int.reduceTMod, Int.reduceTDiv, Nat.reduceBEq]) | (refine allI (fun b => ?_)) | (refine allT (fun τ => ?_)) | (refine brP (fun h => ?_) (fun h => ?_) <;> (try simp only [zgx, zbx] at h)) | refine call_U (awake) ?_ | refine callG_U (fun _ => awake) ?_ | refine call_T (awake) ?_ | refine callG_T (fun _ => awake) ?_ | refine call_N (awake) ?_ | refine call_of (awake) ?_ | refine callG_of (fun _ => awake) ?_ | (apply And.intro; focus (first | omega | (simp; done) | (simp +contextual; done) | (intros; and_intros <;> first | assumption | omega) | (intros; simp_all; done) | (intro hgd; refine ⟨hgd, ?_⟩; simp [hgd]; done) | (intro hgd; simp only [zgx] at hgd ⊢; omega))) | fail)
  first | refine newsE_U (hnw) ?_ | refine newsE_T (hnw) ?_ | refine newsE_of (hnw) ?_
  rintro _ _ ⟨bs, rfl, rfl⟩
  simp (disch := first | omega | (simp only [List.length_cons, List.length_nil]; first | done | omega)) only [go_sem, Nat.reduceAdd, Nat.reduceMul, Nat.reduceSub, Nat.reduceEqDiff, Nat.reduceLeDiff, Nat.reduceMod, Nat.reduceLT, Int.reduceToNat, Int.reduceAdd, Int.reduceSub, Int.reduceMul, Int.reduceNeg, Int.reduceLE, Int.reduceLT, Int.reduceNe, Int.reduceEq, Int.reduceBEq, Int.reduceBNe, Int.reduceTMod, Int.reduceTDiv, Nat.reduceBEq]
  first | refine actsE_U (few 5 (by omega) 3000 bs l 0 hl (by omega)) (by first | rfl | simp only [getH, if_true]) ?_ | refine actsE_T (few 5 (by omega) 3000 bs l 0 hl (by omega)) (by first | rfl | simp only [getH, if_true]) ?_ | refine actsE_N (few 5 (by omega) 3000 bs l 0 hl (by omega)) (by first | rfl | simp only [getH, if_true]) ?_ | refine actsE_of (few 5 (by omega) 3000 bs l 0 hl (by omega)) (by first | rfl | simp only [getH, if_true]) ?_
  rintro _ _ ⟨a1, ha1, ⟨rs, wh, ⟨h1, h2⟩, h3, rfl⟩, rfl⟩
  rw [RlS_eq, WhS_eq]
  simp (disch := first | omega | (simp only [List.length_cons, List.length_nil]; first | done | omega)) only [go_sem, Nat.reduceAdd, Nat.reduceMul, Nat.reduceSub, Nat.reduceEqDiff, Nat.reduceLeDiff, Nat.reduceMod, Nat.reduceLT, Int.reduceToNat, Int.reduceAdd, Int.reduceSub, Int.reduceMul, Int.reduceNeg, Int.reduceLE, Int.reduceLT, Int.reduceNe, Int.reduceEq, Int.reduceBEq, Int.reduceBNe, Int.reduceTMod, Int.reduceTDiv, Nat.reduceBEq]
  first | refine actsE_U (context 3000 bs l a1 (hl.at (by omega) (by omega)) (by omega)) (by first | rfl | simp only [getH, if_true]) ?_ | refine actsE_T (context 3000 bs l a1 (hl.at (by omega) (by omega)) (by omega)) (by first | rfl | simp only [getH, if_true]) ?_ | refine actsE_N (context 3000 bs l a1 (hl.at (by omega) (by omega)) (by omega)) (by first | rfl | simp only [getH, if_true]) ?_ | refine actsE_of (context 3000 bs l a1 (hl.at (by omega) (by omega)) (by omega)) (by first | rfl | simp only [getH, if_true]) ?_
  rintro _ _ ⟨a2, ha2, ⟨x, hx, rfl⟩, rfl⟩
  have hs : SmR rs wh := ⟨by omega, by omega, fun r hr => by have := h2 r hr; omega⟩
  have hb := rBuildO rs wh hs
  have hlr := len_rl rs
  rw [cxE_eq]
  unfold cxE
  rw [RlS_eq, WhS_eq] at hb
  repeat' (first | (simp (disch := first | omega | (simp only [List.length_cons, List.length_nil]; first | done | omega)) only [go_sem, Nat.reduceAdd, Nat.reduceMul, Nat.reduceSub, Nat.reduceEqDiff, Nat.reduceLeDiff, Nat.reduceMod, Nat.reduceLT, Int.reduceToNat, Int.reduceAdd, Int.reduceSub, Int.reduceMul, Int.reduceNeg, Int.reduceLE, Int.reduceLT, Int.reduceNe, Int.reduceEq, Int.reduceBEq, Int.reduceBNe, Int.reduceTMod, Int.reduceTDiv, Nat.reduceBEq]) | (refine allI (fun b => ?_)) | (refine allT (fun τ => ?_)) | (refine brP (fun h => ?_) (fun h => ?_) <;> (try simp only [zgx, zbx] at h)) | (apply And.intro; focus (first | omega | (simp; done) | (simp +contextual; done) | (intros; and_intros <;> first | assumption | omega) | (intros; simp_all; done) | (intro hgd; refine ⟨hgd, ?_⟩; simp [hgd]; done) | (intro hgd; simp only [zgx] at hgd ⊢; omega))) | fail)
  first | refine newsQ_U (hb) ?_ | refine newsQ_T (hb) ?_ | refine newsQ_of (hb) ?_
  rintro _ _ ⟨τ, rfl, rfl⟩
  have hdl := dgR_len hs
  generalize dgR rs wh = D at *
  repeat' (first | (simp (disch := first | omega | (simp only [List.length_cons, List.length_nil]; first | done | omega)) only [go_sem, Nat.reduceAdd, Nat.reduceMul, Nat.reduceSub, Nat.reduceEqDiff, Nat.reduceLeDiff, Nat.reduceMod, Nat.reduceLT, Int.reduceToNat, Int.reduceAdd, Int.reduceSub, Int.reduceMul, Int.reduceNeg, Int.reduceLE, Int.reduceLT, Int.reduceNe, Int.reduceEq, Int.reduceBEq, Int.reduceBNe, Int.reduceTMod, Int.reduceTDiv, Nat.reduceBEq]) | (refine allI (fun b => ?_)) | (refine allT (fun τ => ?_)) | (refine brP (fun h => ?_) (fun h => ?_) <;> (try simp only [zgx, zbx] at h)) | refine call_U (awake) ?_ | refine callG_U (fun _ => awake) ?_ | refine call_T (awake) ?_ | refine callG_T (fun _ => awake) ?_ | refine call_N (awake) ?_ | refine call_of (awake) ?_ | refine callG_of (fun _ => awake) ?_ | (apply And.intro; focus (first | omega | (simp; done) | (simp +contextual; done) | (intros; and_intros <;> first | assumption | omega) | (intros; simp_all; done) | (intro hgd; refine ⟨hgd, ?_⟩; simp [hgd]; done) | (intro hgd; simp only [zgx] at hgd ⊢; omega))) | fail)
  first | refine actsE_U (test 3 3000 bs l a2 (hl.at (by omega) (by omega)) (by omega)) (by first | rfl | simp only [getH, if_true]) ?_ | refine actsE_T (test 3 3000 bs l a2 (hl.at (by omega) (by omega)) (by omega)) (by first | rfl | simp only [getH, if_true]) ?_ | refine actsE_N (test 3 3000 bs l a2 (hl.at (by omega) (by omega)) (by omega)) (by first | rfl | simp only [getH, if_true]) ?_ | refine actsE_of (test 3 3000 bs l a2 (hl.at (by omega) (by omega)) (by omega)) (by first | rfl | simp only [getH, if_true]) ?_
  rintro _ _ ⟨a3, ha3, ⟨te, hte, rfl⟩, rfl⟩
  rw [TeC_eq]
  repeat' (first | (simp (disch := first | omega | (simp only [List.length_cons, List.length_nil]; first | done | omega)) only [go_sem, Nat.reduceAdd, Nat.reduceMul, Nat.reduceSub, Nat.reduceEqDiff, Nat.reduceLeDiff, Nat.reduceMod, Nat.reduceLT, Int.reduceToNat, Int.reduceAdd, Int.reduceSub, Int.reduceMul, Int.reduceNeg, Int.reduceLE, Int.reduceLT, Int.reduceNe, Int.reduceEq, Int.reduceBEq, Int.reduceBNe, Int.reduceTMod, Int.reduceTDiv, Nat.reduceBEq]) | (refine allI (fun b => ?_)) | (refine allT (fun τ => ?_)) | (refine brP (fun h => ?_) (fun h => ?_) <;> (try simp only [zgx, zbx] at h)) | (apply And.intro; focus (first | omega | (simp; done) | (simp +contextual; done) | (intros; and_intros <;> first | assumption | omega) | (intros; simp_all; done) | (intro hgd; refine ⟨hgd, ?_⟩; simp [hgd]; done) | (intro hgd; simp only [zgx] at hgd ⊢; omega))) | fail)
  first | refine actsE_U (gr 0 3 (by omega) 3000 bs l a3 (hl.at (by omega) (by omega)) (by omega)) (by first | rfl | simp only [getH, if_true]) ?_ | refine actsE_T (gr 0 3 (by omega) 3000 bs l a3 (hl.at (by omega) (by omega)) (by omega)) (by first | rfl | simp only [getH, if_true]) ?_ | refine actsE_N (gr 0 3 (by omega) 3000 bs l a3 (hl.at (by omega) (by omega)) (by omega)) (by first | rfl | simp only [getH, if_true]) ?_ | refine actsE_of (gr 0 3 (by omega) 3000 bs l a3 (hl.at (by omega) (by omega)) (by omega)) (by first | rfl | simp only [getH, if_true]) ?_
  rintro _ _ ⟨a4, ha4, ⟨v, hv, rfl⟩, rfl⟩
  repeat' (first | (simp (disch := first | omega | (simp only [List.length_cons, List.length_nil]; first | done | omega)) only [go_sem, Nat.reduceAdd, Nat.reduceMul, Nat.reduceSub, Nat.reduceEqDiff, Nat.reduceLeDiff, Nat.reduceMod, Nat.reduceLT, Int.reduceToNat, Int.reduceAdd, Int.reduceSub, Int.reduceMul, Int.reduceNeg, Int.reduceLE, Int.reduceLT, Int.reduceNe, Int.reduceEq, Int.reduceBEq, Int.reduceBNe, Int.reduceTMod, Int.reduceTDiv, Nat.reduceBEq, zAt16]) | (refine allI (fun b => ?_)) | (refine allT (fun τ => ?_)) | (refine brP (fun h => ?_) (fun h => ?_) <;> (try simp only [zgx, zbx] at h)) | (apply And.intro; focus (first | omega | (simp; done) | (simp +contextual; done) | (intros; and_intros <;> first | assumption | omega) | (intros; simp_all; done) | (intro hgd; refine ⟨hgd, ?_⟩; simp [hgd]; done) | (intro hgd; simp only [zgx] at hgd ⊢; omega))) | fail)
  refine ⟨by simp only [roomy]; omega, fun τ2 => ?_⟩
  obtain ⟨tb, htb⟩ : ∃ x, x = D.1.tb ++ [(⟨te, 0, [], 0⟩ : At), ⟨te0, v, [47, 97], 2⟩] := ⟨_, rfl⟩
  have e1 : tb.length = D.1.tb.length + 2 := by rw [htb]; simp
  have e2 : tb.flatMap AtC = D.1.tb.flatMap AtC ++ [.int .i64 te.f, .int .i64 te.o, .int .i64 te.n, .str te.t, .int .i64 te.x, .int .i64 0, .str [], .int .i64 0, .int .i64 0, .int .i64 0, .int .i64 0, .str [], .int .i64 0, .int .i64 v, .str [47, 97], .int .i64 2] := by rw [htb]; simp [AtC_eq, te0]
  have c1 := ans_ ⟨tb, D.1.ns, D.1.r⟩ rs hits x τ2 (by dsimp only; omega) (by omega) (by omega)
  have c2 := rans_ ⟨tb, D.1.ns, D.1.r⟩ rs hits x τ2 (by dsimp only; omega) (by omega) (by omega)
  rw [RlS_eq, BlS_eq, cxE_eq] at c1 c2
  unfold cxE at c1 c2
  dsimp only at c1 c2
  rw [e1, e2] at c1 c2
  have hal : ∀ a ∈ tb, a.w = 0 → ansA rs hits x a = evT a.te x := fun a _ h => by rw [ansA, if_pos h]
  have d0 : ((((D.1.tb.length + 2 : Nat) : Int)) != ((D.1.tb.length + 2 : Nat) : Int)) = false := by simp
  repeat' (first | (simp (disch := first | omega | (simp only [List.length_cons, List.length_nil]; first | done | omega)) only [go_sem, Nat.reduceAdd, Nat.reduceMul, Nat.reduceSub, Nat.reduceEqDiff, Nat.reduceLeDiff, Nat.reduceMod, Nat.reduceLT, Int.reduceToNat, Int.reduceAdd, Int.reduceSub, Int.reduceMul, Int.reduceNeg, Int.reduceLE, Int.reduceLT, Int.reduceNe, Int.reduceEq, Int.reduceBEq, Int.reduceBNe, Int.reduceTMod, Int.reduceTDiv, Nat.reduceBEq, d0]) | (refine allI (fun b => ?_)) | (refine allT (fun τ => ?_)) | (refine brP (fun h => ?_) (fun h => ?_) <;> (try simp only [zgx, zbx] at h)) | refine call_U (c1) ?_ | refine callG_U (fun _ => c1) ?_ | refine call_T (c1) ?_ | refine callG_T (fun _ => c1) ?_ | refine call_U (c2) ?_ | refine callG_U (fun _ => c2) ?_ | refine call_T (c2) ?_ | refine callG_T (fun _ => c2) ?_ | refine call_N (c1) ?_ | refine call_of (c1) ?_ | refine callG_of (fun _ => c1) ?_ | refine call_N (c2) ?_ | refine call_of (c2) ?_ | refine callG_of (fun _ => c2) ?_ | (apply And.intro; focus (first | omega | (simp; done) | (simp +contextual; done) | (intros; and_intros <;> first | assumption | omega) | (intros; simp_all; done) | (intro hgd; refine ⟨hgd, ?_⟩; simp [hgd]; done) | (intro hgd; simp only [zgx] at hgd ⊢; omega))) | fail)
  rename_i b8
  rw [← e2, ← e1]
  have hlt := len_at tb
  have hml : ((tb.map (ansA rs hits x)).map LV.bool).length = tb.length := by simp
  refine loopI (ι := Nat) (fun i => i ≤ tb.length) (fun i => [(13, .int .i64 i), (12, .sl 1 tb.length ((tb.map (ansA rs hits x)).map LV.bool)), (11, .sl 1 tb.length ((tb.map (ansA rs hits x)).map LV.bool)), (9, .ptr 9 b 0), (8, .ptr 8 b8 0)]) (fun _ => [(9, .blk b [.osl 82 τ2 8 tb.length (tb.flatMap AtC), .sl 3 D.1.ns.length (D.1.ns.flatMap BrC), .int .i64 D.1.r]), (8, .blk b8 (cxE x))]) (fun i => tb.length - i) 0 (by omega) (Ents.sub (by simp [go_sem]) ⟨_, List.Sublist.cons _ (List.Sublist.cons_cons _ (List.Sublist.cons_cons _ (List.nil_sublist _))), List.Perm.refl _⟩) ?_
  intro i hi
  unfold cxE
  simp (disch := first | omega | (simp only [List.length_cons, List.length_nil]; first | done | omega)) only [go_sem, Nat.reduceAdd, Nat.reduceMul, Nat.reduceSub, Nat.reduceEqDiff, Nat.reduceLeDiff, Nat.reduceMod, Nat.reduceLT, Int.reduceToNat, Int.reduceAdd, Int.reduceSub, Int.reduceMul, Int.reduceNeg, Int.reduceLE, Int.reduceLT, Int.reduceNe, Int.reduceEq, Int.reduceBEq, Int.reduceBNe, Int.reduceTMod, Int.reduceTDiv, Nat.reduceBEq]
  refine brP (fun hb => ?_) (fun hb => ?_)
  · have hlt2 : i < tb.length := by simpa using hb
    have e3 : ((tb.flatMap AtC).drop (i * 8)).take 8 = AtC (tb.getD i at0) := take_rows (f := AtC) (fun _ => rfl) at0 _ hlt2
    have e4 : ((tb.flatMap AtC).drop (i * 8)).take 5 = TeC (tb.getD i at0).te := by
      have := congrArg (List.take 5) e3
      rwa [List.take_take] at this
    have g5 : (tb.flatMap AtC).getD (i * 8 + 5) .any = .int .i64 (tb.getD i at0).w := by
      have := congrArg (fun z => z.getD 5 LV.any) e3
      simpa [List.getD, AtC_eq] using this
    have g1 : ((tb.map (ansA rs hits x)).map LV.bool).getD i .any = .bool (ansA rs hits x (tb.getD i at0)) := by simp [List.getD, hlt2]
    have hal := hal _ (getD_memA at0 hlt2)
    generalize tb.getD i at0 = a at *
    have hev := reval a.te x (by omega)
    rw [cxE_eq] at hev
    unfold cxE at hev
    rw [TeC_eq] at hev e4
    generalize ansA rs hits x a = v1 at *
    have d3 : ∀ v : Bool, (!(v == v)) = false := fun v => by cases v <;> rfl
    by_cases hw : a.w = 0
    · have d4 : (a.w == 0) = true := by simp [hw]
      have d5 := hal hw
      repeat' (first | (simp (disch := first | omega | (simp only [List.length_cons, List.length_nil]; first | done | omega)) only [go_sem, Nat.reduceAdd, Nat.reduceMul, Nat.reduceSub, Nat.reduceEqDiff, Nat.reduceLeDiff, Nat.reduceMod, Nat.reduceLT, Int.reduceToNat, Int.reduceAdd, Int.reduceSub, Int.reduceMul, Int.reduceNeg, Int.reduceLE, Int.reduceLT, Int.reduceNe, Int.reduceEq, Int.reduceBEq, Int.reduceBNe, Int.reduceTMod, Int.reduceTDiv, Nat.reduceBEq, e3, e4, g1, g5, d3, d4, ← d5, Nat.mul_one, Nat.zero_add, Nat.add_zero]) | (refine allI (fun b => ?_)) | (refine allT (fun τ => ?_)) | (refine brP (fun h => ?_) (fun h => ?_) <;> (try simp only [zgx, zbx] at h)) | refine call_U (hev) ?_ | refine callG_U (fun _ => hev) ?_ | refine call_T (hev) ?_ | refine callG_T (fun _ => hev) ?_ | refine call_N (hev) ?_ | refine call_of (hev) ?_ | refine callG_of (fun _ => hev) ?_ | (apply And.intro; focus (first | omega | (simp; done) | (simp +contextual; done) | (intros; and_intros <;> first | assumption | omega) | (intros; simp_all; done) | (intro hgd; refine ⟨hgd, ?_⟩; simp [hgd]; done) | (intro hgd; simp only [zgx] at hgd ⊢; omega))) | fail)
      exact ⟨⟨i + 1, by omega⟩, by dsimp only; omega, Ents.envH (by simp [go_sem]) rfl⟩
    · have d4 : (a.w == 0) = false := by simp [hw]
      repeat' (first | (simp (disch := first | omega | (simp only [List.length_cons, List.length_nil]; first | done | omega)) only [go_sem, Nat.reduceAdd, Nat.reduceMul, Nat.reduceSub, Nat.reduceEqDiff, Nat.reduceLeDiff, Nat.reduceMod, Nat.reduceLT, Int.reduceToNat, Int.reduceAdd, Int.reduceSub, Int.reduceMul, Int.reduceNeg, Int.reduceLE, Int.reduceLT, Int.reduceNe, Int.reduceEq, Int.reduceBEq, Int.reduceBNe, Int.reduceTMod, Int.reduceTDiv, Nat.reduceBEq, e3, e4, g1, g5, d3, d4, Nat.mul_one, Nat.zero_add, Nat.add_zero]) | (refine allI (fun b => ?_)) | (refine allT (fun τ => ?_)) | (refine brP (fun h => ?_) (fun h => ?_) <;> (try simp only [zgx, zbx] at h)) | refine call_U (hev) ?_ | refine callG_U (fun _ => hev) ?_ | refine call_T (hev) ?_ | refine callG_T (fun _ => hev) ?_ | refine call_N (hev) ?_ | refine call_of (hev) ?_ | refine callG_of (fun _ => hev) ?_ | (apply And.intro; focus (first | omega | (simp; done) | (simp +contextual; done) | (intros; and_intros <;> first | assumption | omega) | (intros; simp_all; done) | (intro hgd; refine ⟨hgd, ?_⟩; simp [hgd]; done) | (intro hgd; simp only [zgx] at hgd ⊢; omega))) | fail)
      exact ⟨⟨i + 1, by omega⟩, by dsimp only; omega, Ents.envH (by simp [go_sem]) rfl⟩
  · repeat' (first | (simp (disch := first | omega | (simp only [List.length_cons, List.length_nil]; first | done | omega)) only [go_sem, Nat.reduceAdd, Nat.reduceMul, Nat.reduceSub, Nat.reduceEqDiff, Nat.reduceLeDiff, Nat.reduceMod, Nat.reduceLT, Int.reduceToNat, Int.reduceAdd, Int.reduceSub, Int.reduceMul, Int.reduceNeg, Int.reduceLE, Int.reduceLT, Int.reduceNe, Int.reduceEq, Int.reduceBEq, Int.reduceBNe, Int.reduceTMod, Int.reduceTDiv, Nat.reduceBEq]) | (refine allI (fun b => ?_)) | (refine allT (fun τ => ?_)) | (refine brP (fun h => ?_) (fun h => ?_) <;> (try simp only [zgx, zbx] at h)) | refine call_U (awake) ?_ | refine callG_U (fun _ => awake) ?_ | refine call_T (awake) ?_ | refine callG_T (fun _ => awake) ?_ | refine call_N (awake) ?_ | refine call_of (awake) ?_ | refine callG_of (fun _ => awake) ?_ | (apply And.intro; focus (first | omega | (simp; done) | (simp +contextual; done) | (intros; and_intros <;> first | assumption | omega) | (intros; simp_all; done) | (intro hgd; refine ⟨hgd, ?_⟩; simp [hgd]; done) | (intro hgd; simp only [zgx] at hgd ⊢; omega))) | fail)
end Go.Proofs.Ytcngkeeknlloaaa
