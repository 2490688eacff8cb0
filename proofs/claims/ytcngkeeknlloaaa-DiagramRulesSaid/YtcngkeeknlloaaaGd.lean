/- Layer 16: the law of the rules. -/
import Derived.Test.YtcngkeeknlloaaaGc
import Derived.Test.YtcngkeeknlloaaaMkI
import Derived.Test.YtcngkeeknlloaaaDj
import Derived.Test.YtcngkeeknlloaaaDh
import Derived.Test.YtcngkeeknlloaaaClb
import Derived.Test.YtcngkeeknlloaaaCl9
namespace Go.Proofs.Ytcngkeeknlloaaa
open Go Go.Lx
set_option linter.unusedSimpArgs false
set_option linter.unusedVariables false
set_option maxRecDepth 100000
set_option maxHeartbeats 4000000

theorem Ents.emp {env env' : Env} {H H' : Heap} (id : Nat) (h : Ents gl env ((id, .blk 0 []) :: H) env' H') : Ents gl env H env' H' := fun vv n w0 M HF w a hI hF => h vv n w0 M HF w a (hI.empty id 0) hF
def BoQ (n : Nat) : LV → Heap → Prop := fun r H => ∃ (bs : List Bool) (bl c : Nat), bs.length = n ∧ n ≤ c ∧ r = .msl 21 1 bl 0 n c ∧ H = [(21, .blk bl (Sp (bs.map LV.bool) (c - n)))]
theorem boolsM (n : Nat) (k : Int) (hn : n ≤ 1000) : LCalls Try.prog gl 26 [.int .i64 n, .int .i64 k] [] (BoQ n) := by
  refine fn_viewT Try.func26 t26 Try.ntmps26 (by simp) ?_
  unfold c26 r26
  simp (disch := first | omega | (simp only [List.length_cons, List.length_nil]; first | done | omega)) only [go_sem, Nat.reduceAdd, Nat.reduceMul, Nat.reduceSub, Nat.reduceEqDiff, Nat.reduceLeDiff, Nat.reduceMod, Nat.reduceLT, Int.reduceToNat, Int.reduceAdd, Int.reduceSub, Int.reduceMul, Int.reduceNeg, Int.reduceLE, Int.reduceLT, Int.reduceNe, Int.reduceEq, Int.reduceBEq, Int.reduceBNe, Int.reduceTMod, Int.reduceTDiv, Nat.reduceBEq]
  refine loopI (ι := Nat × List Bool × Nat × Nat) (fun y => (y.1 ≤ n ∧ y.2.1.length = y.1) ∧ y.1 ≤ y.2.2.2) (fun y => [(6, .int .i64 y.1), (5, .msl 21 1 y.2.2.1 0 y.1 y.2.2.2), (0, .int .i64 n), (1, .int .i64 k)]) (fun y => [(21, .blk y.2.2.1 (Sp (y.2.1.map LV.bool) (y.2.2.2 - y.1)))]) (fun y => n - y.1) (0, [], 0, 0) ⟨⟨by dsimp only; omega, rfl⟩, Nat.le_refl _⟩ (Ents.emp 21 (Ents.sub ⟨leV.refl _, leV.nil_msl _ _ _, leV.refl _, leV.refl _, trivial⟩ ⟨_, List.Sublist.refl _, List.Perm.refl _⟩)) ?_
  rintro ⟨i, bs, bl, c⟩ ⟨⟨h1, h2⟩, h3⟩
  dsimp only at h1 h2 h3 ⊢
  have hlr : (bs.map LV.bool).length = i := by rw [List.length_map, h2]
  have hm : (i : Int).tmod 60 = i % 60 := Int.tmod_eq_emod_of_nonneg (by omega)
  have hw : IntKind.u64.wrap ((i : Int) % 60) = (i : Int) % 60 := wrap_u64 (by omega) (by omega)
  have hz : zeros ([.bool false] : List LV) 1 = [.bool false] := Eq.trans rfl rfl
  repeat' (first | (simp (disch := first | omega | (simp only [List.length_cons, List.length_nil]; first | done | omega)) only [go_sem, Nat.reduceAdd, Nat.reduceMul, Nat.reduceSub, Nat.reduceEqDiff, Nat.reduceLeDiff, Nat.reduceMod, Nat.reduceLT, Int.reduceToNat, Int.reduceAdd, Int.reduceSub, Int.reduceMul, Int.reduceNeg, Int.reduceLE, Int.reduceLT, Int.reduceNe, Int.reduceEq, Int.reduceBEq, Int.reduceBNe, Int.reduceTMod, Int.reduceTDiv, Nat.reduceBEq, hm, hw, hz, Nat.mul_one]) | (refine allI (fun b => ?_)) | (refine allT (fun τ => ?_)) | (refine brP (fun h => ?_) (fun h => ?_) <;> (try simp only [zgx, zbx] at h)) | (apply And.intro; focus (first | omega | (simp; done) | (simp +contextual; done) | (intros; and_intros <;> first | assumption | omega) | (intros; simp_all; done) | (intro hgd; refine ⟨hgd, ?_⟩; simp [hgd]; done) | (intro hgd; simp only [zgx] at hgd ⊢; omega))) | fail)
  · refine .inl ⟨by rw [length_Sp, hlr]; omega, by rw [length_Sp, hlr]; omega, by simp only [roomy]; omega, fun b9 c9 h8 => ?_⟩
    rw [take_Sp _ hlr]
    refine ⟨⟨(i + 1, bs ++ [bitop .and .i64 (shr .i64 k ((i : Int) % 60)) 1 == 1], b9, c9), ⟨by dsimp only; omega, by simp [h2]⟩, h8⟩, by dsimp only; omega, Ents.envH (by simp [go_sem]) ?_⟩
    simp [Sp]
  · have e : i = n := by omega
    subst e
    repeat' (first | (simp (disch := first | omega | (simp only [List.length_cons, List.length_nil]; first | done | omega)) only [go_sem, Nat.reduceAdd, Nat.reduceMul, Nat.reduceSub, Nat.reduceEqDiff, Nat.reduceLeDiff, Nat.reduceMod, Nat.reduceLT, Int.reduceToNat, Int.reduceAdd, Int.reduceSub, Int.reduceMul, Int.reduceNeg, Int.reduceLE, Int.reduceLT, Int.reduceNe, Int.reduceEq, Int.reduceBEq, Int.reduceBNe, Int.reduceTMod, Int.reduceTDiv, Nat.reduceBEq]) | (refine allI (fun b => ?_)) | (refine allT (fun τ => ?_)) | (refine brP (fun h => ?_) (fun h => ?_) <;> (try simp only [zgx, zbx] at h)) | (apply And.intro; focus (first | omega | (simp; done) | (simp +contextual; done) | (intros; and_intros <;> first | assumption | omega) | (intros; simp_all; done) | (intro hgd; refine ⟨hgd, ?_⟩; simp [hgd]; done) | (intro hgd; simp only [zgx] at hgd ⊢; omega))) | fail)
    exact ⟨_, _, leVH.of (leV.refl _) ⟨_, List.Sublist.refl _, List.Perm.refl _⟩, bs, bl, c, h2, h3, rfl, rfl⟩
theorem EqH.set {rs : List Rl} {hs : List Bool} {i : Nat} (h : EqH rs hs i) (v : Bool) : EqH rs (hs.set i v) i := fun a b ha hb h1 h2 h3 => by
  have e : ∀ j, j < i → (hs.set i v).getD j false = hs.getD j false := fun j hj => by
    rw [List.getD, List.getElem?_set_ne (by omega)]; rfl
  rw [e a ha, e b hb]
  exact h a b ha hb h1 h2 h3
/-- the rule i was hit as the first k rules that watch the same -/
def EqK (rs : List Rl) (hs : List Bool) (i k : Nat) : Prop := ∀ j, j < k → (rs.getD i rl0).w = (rs.getD j rl0).w → (rs.getD i rl0).p = (rs.getD j rl0).p → (rs.getD i rl0).m = (rs.getD j rl0).m → hs.getD i false = hs.getD j false
theorem EqH.succ {rs : List Rl} {hs : List Bool} {i : Nat} (h : EqH rs hs i) (hk : EqK rs hs i i) : EqH rs hs (i + 1) := fun a b ha hb h1 h2 h3 => by
  by_cases ha2 : a = i
  · by_cases hb2 : b = i
    · rw [ha2, hb2]
    · rw [ha2] at h1 h2 h3 ⊢
      exact hk b (by omega) h1 h2 h3
  · by_cases hb2 : b = i
    · rw [hb2] at h1 h2 h3 ⊢
      exact (hk a (by omega) h1.symm h2.symm h3.symm).symm
    · exact h a b (by omega) (by omega) h1 h2 h3
theorem EqK.set {rs : List Rl} {hs : List Bool} {i k : Nat} (hi : i < hs.length) (hk : k < i) (h : EqH rs hs i) (h1 : (rs.getD i rl0).w = (rs.getD k rl0).w) (h2 : (rs.getD i rl0).p = (rs.getD k rl0).p) (h3 : (rs.getD i rl0).m = (rs.getD k rl0).m) : EqK rs (hs.set i (hs.getD k false)) i (k + 1) := fun j hj g1 g2 g3 => by
  have e : (hs.set i (hs.getD k false)).getD j false = hs.getD j false := by
    rw [List.getD, List.getElem?_set_ne (by omega)]; rfl
  have e2 : (hs.set i (hs.getD k false)).getD i false = hs.getD k false := by simp [List.getD, hi]
  rw [e, e2]
  exact h k j hk (by omega) (h1.symm.trans g1) (h2.symm.trans g2) (h3.symm.trans g3)
theorem EqK.skip {rs : List Rl} {hs : List Bool} {i k : Nat} (h : EqK rs hs i k) (hn : ¬ ((rs.getD i rl0).w = (rs.getD k rl0).w ∧ (rs.getD i rl0).p = (rs.getD k rl0).p ∧ (rs.getD i rl0).m = (rs.getD k rl0).m)) : EqK rs hs i (k + 1) := fun j hj g1 g2 g3 => by
  rcases (by omega : j < k ∨ j = k) with hj | rfl
  · exact h j hj g1 g2 g3
  · exact absurd ⟨g1, g2, g3⟩ hn
theorem setSp (L : List Bool) (a m : Nat) (v : Bool) (h : a < L.length) : (Sp (L.map LV.bool) m).take a ++ [.bool v] ++ (Sp (L.map LV.bool) m).drop (a + 1) = Sp ((L.set a v).map LV.bool) m := by
  have hl : (L.map LV.bool).length = L.length := List.length_map _
  rw [Sp, List.take_append_of_le_length (by omega), List.drop_append_of_le_length (by omega), ← List.append_assoc, setB L a v h, Sp]
theorem getSp (L : List Bool) (a m : Nat) (h : a < L.length) : (Sp (L.map LV.bool) m).getD a .any = .bool (L.getD a false) := by
  simp [Sp, List.getD, List.getElem?_append_left, h]
theorem rulesL (l : List Int) (bits : Int) (hl : okS l 0) : Pure Try.prog gl 9 [Ms l, .int .i64 bits] (.bool true) := by
  refine fn_pureT Try.func9 t9 Try.ntmps9 (by simp) ?_
  have hnw := new_ l
  unfold c9 r9
  unfold Ms at *
  simp (disch := first | omega | (simp only [List.length_cons, List.length_nil]; first | done | omega)) only [go_sem, Nat.reduceAdd, Nat.reduceMul, Nat.reduceSub, Nat.reduceEqDiff, Nat.reduceLeDiff, Nat.reduceMod, Nat.reduceLT, Int.reduceToNat, Int.reduceAdd, Int.reduceSub, Int.reduceMul, Int.reduceNeg, Int.reduceLE, Int.reduceLT, Int.reduceNe, Int.reduceEq, Int.reduceBEq, Int.reduceBNe, Int.reduceTMod, Int.reduceTDiv, Nat.reduceBEq]
  first | refine newsE_U (hnw) ?_ | refine newsE_T (hnw) ?_ | refine newsE_of (hnw) ?_
  rintro _ _ ⟨bs, rfl, rfl⟩
  simp (disch := first | omega | (simp only [List.length_cons, List.length_nil]; first | done | omega)) only [go_sem, Nat.reduceAdd, Nat.reduceMul, Nat.reduceSub, Nat.reduceEqDiff, Nat.reduceLeDiff, Nat.reduceMod, Nat.reduceLT, Int.reduceToNat, Int.reduceAdd, Int.reduceSub, Int.reduceMul, Int.reduceNeg, Int.reduceLE, Int.reduceLT, Int.reduceNe, Int.reduceEq, Int.reduceBEq, Int.reduceBNe, Int.reduceTMod, Int.reduceTDiv, Nat.reduceBEq]
  first | refine actsE_U (rules 6 (by omega) 3000 bs l 0 hl (by omega)) (by first | rfl | simp only [getH, if_true]) ?_ | refine actsE_T (rules 6 (by omega) 3000 bs l 0 hl (by omega)) (by first | rfl | simp only [getH, if_true]) ?_ | refine actsE_N (rules 6 (by omega) 3000 bs l 0 hl (by omega)) (by first | rfl | simp only [getH, if_true]) ?_ | refine actsE_of (rules 6 (by omega) 3000 bs l 0 hl (by omega)) (by first | rfl | simp only [getH, if_true]) ?_
  rintro _ _ ⟨a1, ha1, ⟨rs, ⟨hn, hrs⟩, rfl⟩, rfl⟩
  rw [RlS_eq]
  simp (disch := first | omega | (simp only [List.length_cons, List.length_nil]; first | done | omega)) only [go_sem, Nat.reduceAdd, Nat.reduceMul, Nat.reduceSub, Nat.reduceEqDiff, Nat.reduceLeDiff, Nat.reduceMod, Nat.reduceLT, Int.reduceToNat, Int.reduceAdd, Int.reduceSub, Int.reduceMul, Int.reduceNeg, Int.reduceLE, Int.reduceLT, Int.reduceNe, Int.reduceEq, Int.reduceBEq, Int.reduceBNe, Int.reduceTMod, Int.reduceTDiv, Nat.reduceBEq]
  first | refine actsE_U (context 3000 bs l a1 (hl.at (by omega) (by omega)) (by omega)) (by first | rfl | simp only [getH, if_true]) ?_ | refine actsE_T (context 3000 bs l a1 (hl.at (by omega) (by omega)) (by omega)) (by first | rfl | simp only [getH, if_true]) ?_ | refine actsE_N (context 3000 bs l a1 (hl.at (by omega) (by omega)) (by omega)) (by first | rfl | simp only [getH, if_true]) ?_ | refine actsE_of (context 3000 bs l a1 (hl.at (by omega) (by omega)) (by omega)) (by first | rfl | simp only [getH, if_true]) ?_
  rintro _ _ ⟨a2, ha2, ⟨x, hx, ⟨x1, ⟨x2, x3, x4⟩, x5, x6, x7⟩, rfl⟩, rfl⟩
  rw [cxE_eq]
  unfold cxE
  repeat' (first | (simp (disch := first | omega | (simp only [List.length_cons, List.length_nil]; first | done | omega)) only [go_sem, Nat.reduceAdd, Nat.reduceMul, Nat.reduceSub, Nat.reduceEqDiff, Nat.reduceLeDiff, Nat.reduceMod, Nat.reduceLT, Int.reduceToNat, Int.reduceAdd, Int.reduceSub, Int.reduceMul, Int.reduceNeg, Int.reduceLE, Int.reduceLT, Int.reduceNe, Int.reduceEq, Int.reduceBEq, Int.reduceBNe, Int.reduceTMod, Int.reduceTDiv, Nat.reduceBEq]) | (refine allI (fun b => ?_)) | (refine allT (fun τ => ?_)) | (refine brP (fun h => ?_) (fun h => ?_) <;> (try simp only [zgx, zbx] at h)) | (apply And.intro; focus (first | omega | (simp; done) | (simp +contextual; done) | (intros; and_intros <;> first | assumption | omega) | (intros; simp_all; done) | (intro hgd; refine ⟨hgd, ?_⟩; simp [hgd]; done) | (intro hgd; simp only [zgx] at hgd ⊢; omega))) | fail)
  first | refine newsQ_U (boolsM rs.length bits (by omega)) ?_ | refine newsQ_T (boolsM rs.length bits (by omega)) ?_ | refine newsQ_of (boolsM rs.length bits (by omega)) ?_
  rintro _ _ ⟨bs0, bl, c, hbs, hc, rfl, rfl⟩
  have hlr := len_rl rs
  repeat' (first | (simp (disch := first | omega | (simp only [List.length_cons, List.length_nil]; first | done | omega)) only [go_sem, Nat.reduceAdd, Nat.reduceMul, Nat.reduceSub, Nat.reduceEqDiff, Nat.reduceLeDiff, Nat.reduceMod, Nat.reduceLT, Int.reduceToNat, Int.reduceAdd, Int.reduceSub, Int.reduceMul, Int.reduceNeg, Int.reduceLE, Int.reduceLT, Int.reduceNe, Int.reduceEq, Int.reduceBEq, Int.reduceBNe, Int.reduceTMod, Int.reduceTDiv, Nat.reduceBEq]) | (refine allI (fun b => ?_)) | (refine allT (fun τ => ?_)) | (refine brP (fun h => ?_) (fun h => ?_) <;> (try simp only [zgx, zbx] at h)) | (apply And.intro; focus (first | omega | (simp; done) | (simp +contextual; done) | (intros; and_intros <;> first | assumption | omega) | (intros; simp_all; done) | (intro hgd; refine ⟨hgd, ?_⟩; simp [hgd]; done) | (intro hgd; simp only [zgx] at hgd ⊢; omega))) | fail)
  revert b
  intro b7
  refine loopI (ι := Nat × List Bool) (fun y => y.1 ≤ rs.length ∧ y.2.length = rs.length ∧ EqH rs y.2 y.1) (fun y => [(9, .int .i64 y.1), (8, .msl 21 1 bl 0 rs.length c), (7, .ptr 7 b7 0), (6, .sl 8 rs.length (rs.flatMap RlC))]) (fun y => [(21, .blk bl (Sp (y.2.map LV.bool) (c - rs.length))), (7, .blk b7 (cxE x))]) (fun y => rs.length - y.1) (0, bs0) ⟨Nat.zero_le _, hbs, fun a b ha => absurd ha (by dsimp only; omega)⟩ (Ents.sub (by simp [go_sem]) ⟨_, List.Sublist.cons_cons _ (List.Sublist.cons_cons _ (List.nil_sublist _)), List.Perm.refl _⟩) ?_
  rintro ⟨i, hs⟩ ⟨hi, hsl, he⟩
  dsimp only at hi hsl he ⊢
  unfold cxE
  simp (disch := first | omega | (simp only [List.length_cons, List.length_nil]; first | done | omega)) only [go_sem, Nat.reduceAdd, Nat.reduceMul, Nat.reduceSub, Nat.reduceEqDiff, Nat.reduceLeDiff, Nat.reduceMod, Nat.reduceLT, Int.reduceToNat, Int.reduceAdd, Int.reduceSub, Int.reduceMul, Int.reduceNeg, Int.reduceLE, Int.reduceLT, Int.reduceNe, Int.reduceEq, Int.reduceBEq, Int.reduceBNe, Int.reduceTMod, Int.reduceTDiv, Nat.reduceBEq]
  refine brP (fun hb => ?_) (fun hb => ?_)
  · have hi2 : i < rs.length := by simpa using hb
    simp (disch := first | omega | (simp only [List.length_cons, List.length_nil]; first | done | omega)) only [go_sem, Nat.reduceAdd, Nat.reduceMul, Nat.reduceSub, Nat.reduceEqDiff, Nat.reduceLeDiff, Nat.reduceMod, Nat.reduceLT, Int.reduceToNat, Int.reduceAdd, Int.reduceSub, Int.reduceMul, Int.reduceNeg, Int.reduceLE, Int.reduceLT, Int.reduceNe, Int.reduceEq, Int.reduceBEq, Int.reduceBNe, Int.reduceTMod, Int.reduceTDiv, Nat.reduceBEq]
    refine loopI (ι := Nat × List Bool) (fun y => y.1 ≤ i ∧ y.2.length = rs.length ∧ EqH rs y.2 i ∧ EqK rs y.2 i y.1) (fun y => [(10, .int .i64 y.1), (9, .int .i64 i), (8, .msl 21 1 bl 0 rs.length c), (7, .ptr 7 b7 0), (6, .sl 8 rs.length (rs.flatMap RlC))]) (fun y => [(21, .blk bl (Sp (y.2.map LV.bool) (c - rs.length))), (7, .blk b7 (cxE x))]) (fun y => i - y.1) (0, hs) ⟨Nat.zero_le _, hsl, he, fun j hj => absurd hj (by dsimp only; omega)⟩ (Ents.envH (by simp [go_sem]) rfl) ?_
    rintro ⟨k, ht⟩ ⟨hk, htl, het, hek⟩
    dsimp only at hk htl het hek ⊢
    unfold cxE
    simp (disch := first | omega | (simp only [List.length_cons, List.length_nil]; first | done | omega)) only [go_sem, Nat.reduceAdd, Nat.reduceMul, Nat.reduceSub, Nat.reduceEqDiff, Nat.reduceLeDiff, Nat.reduceMod, Nat.reduceLT, Int.reduceToNat, Int.reduceAdd, Int.reduceSub, Int.reduceMul, Int.reduceNeg, Int.reduceLE, Int.reduceLT, Int.reduceNe, Int.reduceEq, Int.reduceBEq, Int.reduceBNe, Int.reduceTMod, Int.reduceTDiv, Nat.reduceBEq]
    refine brP (fun hb2 => ?_) (fun hb2 => ?_)
    · have hk2 : k < i := by simpa using hb2
      have gg : ∀ j, j < rs.length → ((rs.flatMap RlC).getD (j * 8 + 4) .any = .int .i64 (rs.getD j rl0).w ∧ (rs.flatMap RlC).getD (j * 8 + 5) .any = .str (rs.getD j rl0).p ∧ (rs.flatMap RlC).getD (j * 8 + 6) .any = .int .i64 (rs.getD j rl0).m) := fun j hj => by
        have e3 : ((rs.flatMap RlC).drop (j * 8)).take 8 = RlC (rs.getD j rl0) := take_rows (f := RlC) (fun _ => rfl) rl0 _ hj
        refine ⟨?_, ?_, ?_⟩
        · have := congrArg (fun z => z.getD 4 LV.any) e3
          simpa [List.getD, RlC_eq] using this
        · have := congrArg (fun z => z.getD 5 LV.any) e3
          simpa [List.getD, RlC_eq] using this
        · have := congrArg (fun z => z.getD 6 LV.any) e3
          simpa [List.getD, RlC_eq] using this
      obtain ⟨g4, g5, g6⟩ := gg i hi2
      obtain ⟨k4, k5, k6⟩ := gg k (by omega)
      have hmk := getSp ht k (c - rs.length) (by omega)
      have hset := EqK.set (i := i) (k := k) (by omega) hk2 het
      have hskip := EqK.skip (k := k) hek
      have hspl : (Sp (ht.map LV.bool) (c - rs.length)).length = c := by rw [length_Sp, List.length_map]; omega
      have hes := fun v => EqH.set (i := i) het v
      generalize rs.getD i rl0 = ri at *
      generalize rs.getD k rl0 = rk at *
      repeat' (first | (simp (disch := first | omega | (simp only [List.length_cons, List.length_nil]; first | done | omega)) only [go_sem, Nat.reduceAdd, Nat.reduceMul, Nat.reduceSub, Nat.reduceEqDiff, Nat.reduceLeDiff, Nat.reduceMod, Nat.reduceLT, Int.reduceToNat, Int.reduceAdd, Int.reduceSub, Int.reduceMul, Int.reduceNeg, Int.reduceLE, Int.reduceLT, Int.reduceNe, Int.reduceEq, Int.reduceBEq, Int.reduceBNe, Int.reduceTMod, Int.reduceTDiv, Nat.reduceBEq, g4, g5, g6, k4, k5, k6, hmk, Nat.mul_one, Nat.zero_add]) | (refine allI (fun b => ?_)) | (refine allT (fun τ => ?_)) | (refine brP (fun h => ?_) (fun h => ?_) <;> (try simp only [zgx, zbx] at h)) | (apply And.intro; focus (first | omega | (simp; done) | (simp +contextual; done) | (intros; and_intros <;> first | assumption | omega) | (intros; simp_all; done) | (intro hgd; refine ⟨hgd, ?_⟩; simp [hgd]; done) | (intro hgd; simp only [zgx] at hgd ⊢; omega))) | fail)
      · rw [setSp ht i _ _ (by omega)]
        exact ⟨⟨(k + 1, ht.set i (ht.getD k false)), by dsimp only; omega, by simp [htl], hes _, hset h.1.1 h.1.2 h.2⟩, by dsimp only; omega, Ents.envH (by simp [go_sem]) rfl⟩
      · exact ⟨⟨(k + 1, ht), by dsimp only; omega, htl, het, hskip fun hh => by rcases h with (h | h) | h <;> simp [hh.1, hh.2.1, hh.2.2] at h⟩, by dsimp only; omega, Ents.envH (by simp [go_sem]) rfl⟩
    · have hke : k = i := by simp only [decide_eq_false_iff_not] at hb2; omega
      subst hke
      repeat' (first | (simp (disch := first | omega | (simp only [List.length_cons, List.length_nil]; first | done | omega)) only [go_sem, Nat.reduceAdd, Nat.reduceMul, Nat.reduceSub, Nat.reduceEqDiff, Nat.reduceLeDiff, Nat.reduceMod, Nat.reduceLT, Int.reduceToNat, Int.reduceAdd, Int.reduceSub, Int.reduceMul, Int.reduceNeg, Int.reduceLE, Int.reduceLT, Int.reduceNe, Int.reduceEq, Int.reduceBEq, Int.reduceBNe, Int.reduceTMod, Int.reduceTDiv, Nat.reduceBEq]) | (refine allI (fun b => ?_)) | (refine allT (fun τ => ?_)) | (refine brP (fun h => ?_) (fun h => ?_) <;> (try simp only [zgx, zbx] at h)) | (apply And.intro; focus (first | omega | (simp; done) | (simp +contextual; done) | (intros; and_intros <;> first | assumption | omega) | (intros; simp_all; done) | (intro hgd; refine ⟨hgd, ?_⟩; simp [hgd]; done) | (intro hgd; simp only [zgx] at hgd ⊢; omega))) | fail)
      exact ⟨⟨(k + 1, ht), by dsimp only; omega, htl, het.succ hek⟩, by dsimp only; omega, Ents.envH (by simp [go_sem]) rfl⟩
  · have hie : i = rs.length := by simp only [decide_eq_false_iff_not] at hb; omega
    subst hie
    have h3 := bld15 rs (by omega)
    rw [RlS_eq] at h3
    repeat' (first | (simp (disch := first | omega | (simp only [List.length_cons, List.length_nil]; first | done | omega)) only [go_sem, Nat.reduceAdd, Nat.reduceMul, Nat.reduceSub, Nat.reduceEqDiff, Nat.reduceLeDiff, Nat.reduceMod, Nat.reduceLT, Int.reduceToNat, Int.reduceAdd, Int.reduceSub, Int.reduceMul, Int.reduceNeg, Int.reduceLE, Int.reduceLT, Int.reduceNe, Int.reduceEq, Int.reduceBEq, Int.reduceBNe, Int.reduceTMod, Int.reduceTDiv, Nat.reduceBEq]) | (refine allI (fun b => ?_)) | (refine allT (fun τ => ?_)) | (refine brP (fun h => ?_) (fun h => ?_) <;> (try simp only [zgx, zbx] at h)) | (apply And.intro; focus (first | omega | (simp; done) | (simp +contextual; done) | (intros; and_intros <;> first | assumption | omega) | (intros; simp_all; done) | (intro hgd; refine ⟨hgd, ?_⟩; simp [hgd]; done) | (intro hgd; simp only [zgx] at hgd ⊢; omega))) | fail)
    refine pureE_of h3 ?_
    rintro _ ⟨q, rfl⟩
    have h4 := row15 rs q x.num (by omega)
    have hrl := rowX_len rs x.num.toNat rs.length
    obtain ⟨wh, hwh⟩ : ∃ w, w = (if 0 ≤ x.num ∧ x.num < 32 then rowX rs x.num.toNat rs.length else []) := ⟨_, rfl⟩
    rw [← hwh] at h4
    have hwl : wh.length ≤ rs.length := by rw [hwh]; split; exact hrl; exact Nat.zero_le _
    have hsm : SmR rs wh := ⟨by omega, by omega, fun r hr => by have := (hrs r hr).1.1; omega⟩
    have hB := buildP rs wh hsm
    have hA := ratoms rs wh hsm.ll hsm.lw hsm.lr
    rw [RlS_eq, WhS_eq] at hB hA
    rw [WhS_eq] at h4
    rw [DgC_eq] at hB
    rw [AtS_eq] at hA
    repeat' (first | (simp (disch := first | omega | (simp only [List.length_cons, List.length_nil]; first | done | omega)) only [go_sem, Nat.reduceAdd, Nat.reduceMul, Nat.reduceSub, Nat.reduceEqDiff, Nat.reduceLeDiff, Nat.reduceMod, Nat.reduceLT, Int.reduceToNat, Int.reduceAdd, Int.reduceSub, Int.reduceMul, Int.reduceNeg, Int.reduceLE, Int.reduceLT, Int.reduceNe, Int.reduceEq, Int.reduceBEq, Int.reduceBNe, Int.reduceTMod, Int.reduceTDiv, Nat.reduceBEq]) | (refine allI (fun b => ?_)) | (refine allT (fun τ => ?_)) | (refine brP (fun h => ?_) (fun h => ?_) <;> (try simp only [zgx, zbx] at h)) | refine call_U (h4) ?_ | refine callG_U (fun _ => h4) ?_ | refine call_T (h4) ?_ | refine callG_T (fun _ => h4) ?_ | refine call_N (h4) ?_ | refine call_of (h4) ?_ | refine callG_of (fun _ => h4) ?_ | (apply And.intro; focus (first | omega | (simp; done) | (simp +contextual; done) | (intros; and_intros <;> first | assumption | omega) | (intros; simp_all; done) | (intro hgd; refine ⟨hgd, ?_⟩; simp [hgd]; done) | (intro hgd; simp only [zgx] at hgd ⊢; omega))) | fail)
    refine LCalls.pure hB ⟨_, _, _, EntsT.pub 21 rfl ?_ ?_ ?_ (EntsT.refl _ _ _ _), ?_⟩
    · simp only [go_sem, Nat.mul_one, Nat.zero_add]
      rw [length_Sp, List.length_map]
      omega
    · simp only [go_sem]
    · simp only [go_sem, x1, x4, x7]
    have hst : ((Sp (hs.map LV.bool) (c - rs.length)).drop 0).take rs.length = hs.map LV.bool := sp_take _ (by rw [List.length_map]; exact hsl)
    have hst2 : (Sp (hs.map LV.bool) (c - rs.length)).take rs.length = hs.map LV.bool := take_Sp _ (by rw [List.length_map]; exact hsl)
    have p1 : ∀ cs, pubC 21 bl cs x.opn = (True, x.opn) := fun cs => by rw [x1]; rfl
    have p4 : ∀ cs, pubC 21 bl cs x.ps = (True, x.ps) := fun cs => by rw [x4]; rfl
    have p7 : ∀ cs, pubC 21 bl cs x.xs = (True, x.xs) := fun cs => by rw [x7]; rfl
    by_cases hE : (atomsR rs wh).2 = 0
    · rw [dgR_ok hE, leaf_ch']
      have hwk : WhOk rs wh (atomsR rs wh).1 := atomsR_ok hsm (by rw [← hE])
      generalize (atomsR rs wh).1 = tb at *
      cases hR : bld (chS rs wh tb) tb.length 0 0 [] with
      | mk r ns =>
      obtain ⟨f1, f2, f3, f4, f5, f6, f7, f8, f9, f10⟩ := built hwk ns r hR
      have htl := hwk.lt
      dsimp only
      by_cases hn : 0 ≤ x.num ∧ x.num < 32
      · have d1 : decide (x.num < 0) = false := by simp; omega
        have d2 : decide (32 ≤ x.num) = false := by simp; omega
        have hlaw : decS ⟨tb, ns, r⟩ (tb.map (ansA rs hs x)) = firB rs 3 hs x := by
          rw [if_pos hn] at hwh
          subst hwh
          exact rules_law hrs (by omega) (by omega) hsl he hwk ns r hR
        have c1 := ans_ ⟨tb, ns, r⟩ rs hs x (by dsimp only; omega) (by omega) (by omega)
        have hrw : (Lit.int .i64 r).wf = true := wf_sm ⟨by omega, by omega⟩
        have c2 := decide_ ⟨tb, ns, r⟩ (tb.map (ansA rs hs x)) (by dsimp only; omega) (by dsimp only; omega) (fun b hb => (f5 b hb).w) hrw (by rw [List.length_map]; omega)
        have c3 := rfir rs 3 hs x ⟨by omega, hsm.lr⟩ (by show x.its.length ≤ 1000000; omega)
        rw [hlaw] at c2
        rw [RlS_eq, BlS_eq, cxE_eq] at c1
        rw [DgC_eq, BlS_eq, List.length_map] at c2
        rw [RlS_eq, cxE_eq] at c3
        unfold cxE BsS at *
        rw [hsl] at c1 c3
        dsimp only at c1 c2
        repeat' (first | (simp (disch := first | omega | (simp only [List.length_cons, List.length_nil]; first | done | omega)) only [go_sem, Nat.reduceAdd, Nat.reduceMul, Nat.reduceSub, Nat.reduceEqDiff, Nat.reduceLeDiff, Nat.reduceMod, Nat.reduceLT, Int.reduceToNat, Int.reduceAdd, Int.reduceSub, Int.reduceMul, Int.reduceNeg, Int.reduceLE, Int.reduceLT, Int.reduceNe, Int.reduceEq, Int.reduceBEq, Int.reduceBNe, Int.reduceTMod, Int.reduceTDiv, Nat.reduceBEq, hst, hst2, p1, p4, p7, Nat.mul_one, d1, d2]) | (refine allI (fun b => ?_)) | (refine allT (fun τ => ?_)) | (refine brP (fun h => ?_) (fun h => ?_) <;> (try simp only [zgx, zbx] at h)) | refine call_U (c1) ?_ | refine callG_U (fun _ => c1) ?_ | refine call_T (c1) ?_ | refine callG_T (fun _ => c1) ?_ | refine call_U (c2) ?_ | refine callG_U (fun _ => c2) ?_ | refine call_T (c2) ?_ | refine callG_T (fun _ => c2) ?_ | refine call_U (c3) ?_ | refine callG_U (fun _ => c3) ?_ | refine call_T (c3) ?_ | refine callG_T (fun _ => c3) ?_ | refine call_U (awake) ?_ | refine callG_U (fun _ => awake) ?_ | refine call_T (awake) ?_ | refine callG_T (fun _ => awake) ?_ | refine call_N (c1) ?_ | refine call_of (c1) ?_ | refine callG_of (fun _ => c1) ?_ | refine call_N (c2) ?_ | refine call_of (c2) ?_ | refine callG_of (fun _ => c2) ?_ | refine call_N (c3) ?_ | refine call_of (c3) ?_ | refine callG_of (fun _ => c3) ?_ | refine call_N (awake) ?_ | refine call_of (awake) ?_ | refine callG_of (fun _ => awake) ?_ | (apply And.intro; focus (first | omega | (simp; done) | (simp +contextual; done) | (intros; and_intros <;> first | assumption | omega) | (intros; simp_all; done) | (intro hgd; refine ⟨hgd, ?_⟩; simp [hgd]; done) | (intro hgd; simp only [zgx] at hgd ⊢; omega))) | fail)
      · repeat' (first | (simp (disch := first | omega | (simp only [List.length_cons, List.length_nil]; first | done | omega)) only [go_sem, Nat.reduceAdd, Nat.reduceMul, Nat.reduceSub, Nat.reduceEqDiff, Nat.reduceLeDiff, Nat.reduceMod, Nat.reduceLT, Int.reduceToNat, Int.reduceAdd, Int.reduceSub, Int.reduceMul, Int.reduceNeg, Int.reduceLE, Int.reduceLT, Int.reduceNe, Int.reduceEq, Int.reduceBEq, Int.reduceBNe, Int.reduceTMod, Int.reduceTDiv, Nat.reduceBEq, hst, hst2, p1, p4, p7, Nat.mul_one]) | (refine allI (fun b => ?_)) | (refine allT (fun τ => ?_)) | (refine brP (fun h => ?_) (fun h => ?_) <;> (try simp only [zgx, zbx] at h)) | refine call_U (awake) ?_ | refine callG_U (fun _ => awake) ?_ | refine call_T (awake) ?_ | refine callG_T (fun _ => awake) ?_ | refine call_N (awake) ?_ | refine call_of (awake) ?_ | refine callG_of (fun _ => awake) ?_ | (apply And.intro; focus (first | omega | (simp; done) | (simp +contextual; done) | (intros; and_intros <;> first | assumption | omega) | (intros; simp_all; done) | (intro hgd; refine ⟨hgd, ?_⟩; simp [hgd]; done) | (intro hgd; simp only [zgx] at hgd ⊢; omega))) | fail)
        exact absurd h hn
    · rw [dgR_err hE]
      generalize (atomsR rs wh).2 = e at *
      have d1 : (e != 0) = true := by simp [hE]
      repeat' (first | (simp (disch := first | omega | (simp only [List.length_cons, List.length_nil]; first | done | omega)) only [go_sem, Nat.reduceAdd, Nat.reduceMul, Nat.reduceSub, Nat.reduceEqDiff, Nat.reduceLeDiff, Nat.reduceMod, Nat.reduceLT, Int.reduceToNat, Int.reduceAdd, Int.reduceSub, Int.reduceMul, Int.reduceNeg, Int.reduceLE, Int.reduceLT, Int.reduceNe, Int.reduceEq, Int.reduceBEq, Int.reduceBNe, Int.reduceTMod, Int.reduceTDiv, Nat.reduceBEq, hst, hst2, p1, p4, p7, Nat.mul_one, d1]) | (refine allI (fun b => ?_)) | (refine allT (fun τ => ?_)) | (refine brP (fun h => ?_) (fun h => ?_) <;> (try simp only [zgx, zbx] at h)) | refine call_U (hA) ?_ | refine callG_U (fun _ => hA) ?_ | refine call_T (hA) ?_ | refine callG_T (fun _ => hA) ?_ | refine call_U (awake) ?_ | refine callG_U (fun _ => awake) ?_ | refine call_T (awake) ?_ | refine callG_T (fun _ => awake) ?_ | refine call_N (hA) ?_ | refine call_of (hA) ?_ | refine callG_of (fun _ => hA) ?_ | refine call_N (awake) ?_ | refine call_of (awake) ?_ | refine callG_of (fun _ => awake) ?_ | (apply And.intro; focus (first | omega | (simp; done) | (simp +contextual; done) | (intros; and_intros <;> first | assumption | omega) | (intros; simp_all; done) | (intro hgd; refine ⟨hgd, ?_⟩; simp [hgd]; done) | (intro hgd; simp only [zgx] at hgd ⊢; omega))) | fail)
end Go.Proofs.Ytcngkeeknlloaaa
