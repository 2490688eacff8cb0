/- Layer 16: the answers to atoms (published). -/
import Derived.Test.YtcngkeeknlloaaaDg
import Derived.Test.YtcngkeeknlloaaaEw
namespace Go.Proofs.Ytcngkeeknlloaaa
open Go Go.Lx
set_option linter.unusedSimpArgs false
set_option linter.unusedVariables false
set_option maxRecDepth 100000
set_option maxHeartbeats 4000000

/-- whether the rule k was hit and watches what the atom asks -/
def hitB (a : At) (hits : List Bool) (r : Rl) (k : Nat) : Bool := decide (k < hits.length) && (hits.getD k false && (r.w == a.w && (r.p == a.p && r.m == a.m)))
def hitA (a : At) (hits : List Bool) (l : List Rl) (n : Nat) : Bool := (List.range n).any fun k => hitB a hits (l.getD k rl0) k
theorem hitA_succ (a : At) (hits : List Bool) (l : List Rl) (n : Nat) : hitA a hits l (n + 1) = (hitA a hits l n || hitB a hits (l.getD n rl0) n) := by
  simp [hitA, List.range_succ]
def ansA (l : List Rl) (hits : List Bool) (x : Cx) (a : At) : Bool := if a.w = 0 then evT a.te x else hitA a hits l l.length
def ansL (l : List Rl) (hits : List Bool) (x : Cx) (tb : List At) (i : Nat) : List Bool := (tb.take i).map (ansA l hits x) ++ List.replicate (tb.length - i) false
theorem ansL_len (l : List Rl) (hits : List Bool) (x : Cx) (tb : List At) (i : Nat) (h : i ≤ tb.length) : (ansL l hits x tb i).length = tb.length := by simp [ansL]; omega
theorem ansL_all (l : List Rl) (hits : List Bool) (x : Cx) (tb : List At) : ansL l hits x tb tb.length = tb.map (ansA l hits x) := by simp [ansL]
theorem ansL_set (l : List Rl) (hits : List Bool) (x : Cx) (tb : List At) (i : Nat) (h : i < tb.length) : (ansL l hits x tb i).set i (ansA l hits x (tb.getD i at0)) = ansL l hits x tb (i + 1) := by
  have h1 : tb.length - i = (tb.length - (i + 1)) + 1 := by omega
  have h2 : ((tb.take i).map (ansA l hits x)).length = i := by simp; omega
  unfold ansL
  rw [h1, List.replicate_succ, List.set_append_right _ _ (by omega), h2, Nat.sub_self, List.set_cons_zero, take_succ_getD at0 tb h]
  simp
theorem ansL_false (l : List Rl) (hits : List Bool) (x : Cx) (tb : List At) (i : Nat) (h : i < tb.length) : (ansL l hits x tb i).set i false = ansL l hits x tb i := by
  have h1 : tb.length - i = (tb.length - (i + 1)) + 1 := by omega
  have h2 : ((tb.take i).map (ansA l hits x)).length = i := by simp; omega
  unfold ansL
  rw [h1, List.replicate_succ, List.set_append_right _ _ (by omega), h2, Nat.sub_self, List.set_cons_zero]
theorem setB (L : List Bool) (a : Nat) (v : Bool) (h : a < L.length) : (L.map LV.bool).take a ++ [.bool v] ++ (L.map LV.bool).drop (a + 1) = (L.set a v).map LV.bool := by
  rw [List.set_eq_take_append_cons_drop, if_pos h]
  simp
theorem zBo (n : Nat) : zeros [.bool false] n = (List.replicate n false).map LV.bool := by
  refine List.ext_getElem (by simp [zeros]) fun i h1 h2 => ?_
  simp [zeros, Nat.mod_one]
theorem zRlA : zeros ([.int .i64 0, .int .i64 0, .int .u64 0, .fsl 1 0 [], .int .i64 0, .str [], .int .i64 0, .str []] : List LV) 8 = [.int .i64 0, .int .i64 0, .int .u64 0, .fsl 1 0 [], .int .i64 0, .str [], .int .i64 0, .str []] := Eq.trans rfl rfl
def cxE (x : Cx) : List LV := [.int .i64 x.ph, .int .i64 x.pid, .int .i64 x.ppid, .int .i64 x.uid, .int .i64 x.euid, .int .i64 x.gid, .int .i64 x.egid, .int .i64 x.auid, .int .i64 x.ses, .int .i64 x.cd, .int .i64 x.ci, .str x.comm, .str x.exe, x.opn, .bool x.aud, .int .i64 x.num, .int .i64 x.a0, .int .i64 x.a1, .int .i64 x.a2, .int .i64 x.a3, x.ps, x.xs, .int .i64 x.ex, .sl 13 x.its.length (x.its.flatMap ItC), .int .i64 x.ty]
theorem cxE_eq (x : Cx) : CxC x = cxE x := by rw [CxC_eq, ItS_eq]; rfl
theorem ans_ (d : Dg) (l : List Rl) (hits : List Bool) (x : Cx) (hd : d.tb.length ≤ 1000000) (hl : l.length ≤ 1000000) (hx : x.its.length ≤ 1000000) : Pure Try.prog gl 33 [.agg [.sl 8 d.tb.length (d.tb.flatMap AtC), .sl 3 d.ns.length (d.ns.flatMap BrC), .int .i64 d.r], RlS l, BlS hits, .agg (CxC x)] (.sl 1 d.tb.length ((d.tb.map (ansA l hits x)).map LV.bool)) := by
  refine fn_viewT Try.func33 t33 Try.ntmps33 (by simp) ?_
  have hlt := len_at d.tb
  have hlr := len_rl l
  have hlm : (hits.map LV.bool).length = hits.length := List.length_map _
  have hC := cxE_eq x
  have hz : zeros [.bool false] d.tb.length = (ansL l hits x d.tb 0).map LV.bool := by rw [zBo]; simp [ansL]
  have hev := fun t => peval t x hx
  simp only [evP_eq] at hev
  unfold c33 r33
  rw [RlS_eq, BlS_eq]
  rw [hC] at *
  unfold cxE at *
  repeat' (first | (simp (disch := first | omega | (simp only [List.length_cons, List.length_nil]; first | done | omega)) only [go_sem, Nat.reduceAdd, Nat.reduceMul, Nat.reduceSub, Nat.reduceEqDiff, Nat.reduceLeDiff, Nat.reduceMod, Nat.reduceLT, Int.reduceToNat, Int.reduceAdd, Int.reduceSub, Int.reduceMul, Int.reduceNeg, Int.reduceLE, Int.reduceLT, Int.reduceNe, Int.reduceEq, Int.reduceBEq, Int.reduceBNe, Int.reduceTMod, Int.reduceTDiv, Nat.reduceBEq, Nat.mul_one, hz]) | (refine allI (fun b => ?_)) | (refine allT (fun τ => ?_)) | (refine brP (fun h => ?_) (fun h => ?_) <;> (try simp only [zgx, zbx] at h)) | (apply And.intro; focus (first | omega | (simp; done) | (simp +contextual; done) | (intros; and_intros <;> first | assumption | omega) | (intros; simp_all; done) | (intro hgd; refine ⟨hgd, ?_⟩; simp [hgd]; done) | (intro hgd; simp only [zgx] at hgd ⊢; omega))) | fail)
  refine .inr fun ba => ?_
  revert b
  intro b7
  refine loopI (ι := Nat) (fun i => i ≤ d.tb.length) (fun i => [(21, .int .i64 i), (20, .int .i64 d.tb.length), (19, .sl 8 d.tb.length (d.tb.flatMap AtC)), (9, .msl 17 1 ba 0 d.tb.length d.tb.length), (7, .ptr 7 b7 0), (1, .sl 8 l.length (l.flatMap RlC)), (2, .sl 1 hits.length (hits.map LV.bool))]) (fun i => [(17, .blk ba ((ansL l hits x d.tb i).map LV.bool)), (7, .blk b7 (cxE x))]) (fun i => d.tb.length - i) 0 (by omega) (Ents.sub (by simp [go_sem]) ⟨_, List.Sublist.cons_cons _ (List.Sublist.cons_cons _ (List.nil_sublist _)), List.Perm.refl _⟩) ?_
  intro i hi
  have hal := ansL_len l hits x d.tb i hi
  unfold cxE
  simp (disch := first | omega | (simp only [List.length_cons, List.length_nil]; first | done | omega)) only [go_sem, Nat.reduceAdd, Nat.reduceMul, Nat.reduceSub, Nat.reduceEqDiff, Nat.reduceLeDiff, Nat.reduceMod, Nat.reduceLT, Int.reduceToNat, Int.reduceAdd, Int.reduceSub, Int.reduceMul, Int.reduceNeg, Int.reduceLE, Int.reduceLT, Int.reduceNe, Int.reduceEq, Int.reduceBEq, Int.reduceBNe, Int.reduceTMod, Int.reduceTDiv, Nat.reduceBEq]
  refine brP (fun hb => ?_) (fun hb => ?_)
  · have hlt2 : i < d.tb.length := by simpa using hb
    have e2 : ((d.tb.flatMap AtC).drop (i * 8)).take 8 = AtC (d.tb.getD i at0) := take_rows (f := AtC) (fun _ => rfl) at0 _ hlt2
    have hset := ansL_set l hits x d.tb i hlt2
    have hsf := ansL_false l hits x d.tb i hlt2
    generalize hL : ansL l hits x d.tb i = L at *
    generalize d.tb.getD i at0 = a at *
    have hev := hev a.te
    rw [AtC_eq] at e2
    rw [TeC_eq] at hev
    have hLm : (L.map LV.bool).length = d.tb.length := by rw [List.length_map, hal]
    repeat' (first | (simp (disch := first | omega | (simp only [List.length_cons, List.length_nil]; first | done | omega)) only [go_sem, Nat.reduceAdd, Nat.reduceMul, Nat.reduceSub, Nat.reduceEqDiff, Nat.reduceLeDiff, Nat.reduceMod, Nat.reduceLT, Int.reduceToNat, Int.reduceAdd, Int.reduceSub, Int.reduceMul, Int.reduceNeg, Int.reduceLE, Int.reduceLT, Int.reduceNe, Int.reduceEq, Int.reduceBEq, Int.reduceBNe, Int.reduceTMod, Int.reduceTDiv, Nat.reduceBEq, e2, zAt, Nat.mul_one, Nat.zero_add]) | (refine allI (fun b => ?_)) | (refine allT (fun τ => ?_)) | (refine brP (fun h => ?_) (fun h => ?_) <;> (try simp only [zgx, zbx] at h)) | refine call_U (hev) ?_ | refine callG_U (fun _ => hev) ?_ | refine call_T (hev) ?_ | refine callG_T (fun _ => hev) ?_ | refine call_N (hev) ?_ | refine call_of (hev) ?_ | refine callG_of (fun _ => hev) ?_ | (apply And.intro; focus (first | omega | (simp; done) | (simp +contextual; done) | (intros; and_intros <;> first | assumption | omega) | (intros; simp_all; done) | (intro hgd; refine ⟨hgd, ?_⟩; simp [hgd]; done) | (intro hgd; simp only [zgx] at hgd ⊢; omega))) | fail)
    · rw [setB L i _ (by omega), show evT a.te x = ansA l hits x a by rw [ansA, if_pos ‹_›], hset]
      exact ⟨⟨i + 1, by omega⟩, by dsimp only; omega, Ents.sub (by simp [go_sem]) ⟨_, List.Sublist.cons _ (List.Sublist.refl _), List.Perm.refl _⟩⟩
    · have haA : ansA l hits x a = hitA a hits l l.length := by rw [ansA, if_neg ‹_›]
      refine loopI (ι := Nat) (fun k => k ≤ l.length) (fun k => [(38, .int .i64 k), (37, .int .i64 l.length), (36, .sl 8 l.length (l.flatMap RlC)), (10, .int .i64 i), (11, .ptr 11 b 0), (21, .int .i64 i), (20, .int .i64 d.tb.length), (19, .sl 8 d.tb.length (d.tb.flatMap AtC)), (9, .msl 17 1 ba 0 d.tb.length d.tb.length), (7, .ptr 7 b7 0), (1, .sl 8 l.length (l.flatMap RlC)), (2, .sl 1 hits.length (hits.map LV.bool))]) (fun k => [(11, .blk b (AtC a)), (17, .blk ba ((L.set i (hitA a hits l k)).map LV.bool)), (7, .blk b7 (cxE x))]) (fun k => l.length - k) 0 (by omega) (Ents.envH (by simp [go_sem]) (by rw [show hitA a hits l 0 = false by rfl, hsf]; rfl)) ?_
      intro k hk
      rw [AtC_eq]
      unfold cxE
      simp (disch := first | omega | (simp only [List.length_cons, List.length_nil]; first | done | omega)) only [go_sem, Nat.reduceAdd, Nat.reduceMul, Nat.reduceSub, Nat.reduceEqDiff, Nat.reduceLeDiff, Nat.reduceMod, Nat.reduceLT, Int.reduceToNat, Int.reduceAdd, Int.reduceSub, Int.reduceMul, Int.reduceNeg, Int.reduceLE, Int.reduceLT, Int.reduceNe, Int.reduceEq, Int.reduceBEq, Int.reduceBNe, Int.reduceTMod, Int.reduceTDiv, Nat.reduceBEq]
      refine brP (fun hb2 => ?_) (fun hb2 => ?_)
      · have hkl : k < l.length := by simpa using hb2
        have e3 : ((l.flatMap RlC).drop (k * 8)).take 8 = RlC (l.getD k rl0) := take_rows (f := RlC) (fun _ => rfl) rl0 _ hkl
        have hsu := hitA_succ a hits l k
        generalize l.getD k rl0 = r at *
        rw [RlC_eq, TsS_eq] at e3
        have hss : ∀ u v, (L.set i u).set i v = L.set i v := fun u v => by simp
        have hLl : ∀ u, (L.set i u).length = d.tb.length := fun u => by rw [List.length_set, hal]
        have hLm : ∀ u, ((L.set i u).map LV.bool).length = d.tb.length := fun u => by rw [List.length_map, hLl]
        by_cases hh : k < hits.length
        · have d1 : decide ((k : Int) < (hits.length : Int)) = true := by simp; omega
          have d1' : decide (k < hits.length) = true := by simp; omega
          have g1 : (hits.map LV.bool).getD k .any = .bool (hits.getD k false) := by simp [List.getD, hh]
          rw [hitB, d1', Bool.true_and] at hsu
          generalize hits.getD k false = h9 at *
          repeat' (first | (simp (disch := first | omega | (simp only [List.length_cons, List.length_nil]; first | done | omega)) only [go_sem, Nat.reduceAdd, Nat.reduceMul, Nat.reduceSub, Nat.reduceEqDiff, Nat.reduceLeDiff, Nat.reduceMod, Nat.reduceLT, Int.reduceToNat, Int.reduceAdd, Int.reduceSub, Int.reduceMul, Int.reduceNeg, Int.reduceLE, Int.reduceLT, Int.reduceNe, Int.reduceEq, Int.reduceBEq, Int.reduceBNe, Int.reduceTMod, Int.reduceTDiv, Nat.reduceBEq, e3, zRlA, d1, g1, hLm, Nat.mul_one, Nat.zero_add]) | (refine allI (fun b => ?_)) | (refine allT (fun τ => ?_)) | (refine brP (fun h => ?_) (fun h => ?_) <;> (try simp only [zgx, zbx] at h)) | (apply And.intro; focus (first | omega | (simp; done) | (simp +contextual; done) | (intros; and_intros <;> first | assumption | omega) | (intros; simp_all; done) | (intro hgd; refine ⟨hgd, ?_⟩; simp [hgd]; done) | (intro hgd; simp only [zgx] at hgd ⊢; omega))) | fail)
          · have h5 : hitA a hits l (k + 1) = true := by rw [hsu]; simp [h]
            rw [setB _ i _ (by rw [hLl]; omega), hss, show L.set i true = L.set i (hitA a hits l (k + 1)) by rw [h5]]
            exact ⟨⟨k + 1, by omega⟩, by dsimp only; omega, Ents.sub (by simp [go_sem]) ⟨_, List.Sublist.cons _ (List.Sublist.refl _), List.Perm.refl _⟩⟩
          · have h5 : hitA a hits l k = hitA a hits l (k + 1) := by
              rw [hsu]
              rcases h with ((h | h) | h) | h <;> simp [h]
            rw [h5]
            exact ⟨⟨k + 1, by omega⟩, by dsimp only; omega, Ents.sub (by simp [go_sem]) ⟨_, List.Sublist.cons _ (List.Sublist.refl _), List.Perm.refl _⟩⟩
        · have d1 : decide ((k : Int) < (hits.length : Int)) = false := by simp; omega
          have d1' : decide (k < hits.length) = false := by simp; omega
          have g2 : (hits.map LV.bool).getD k .any = .any := by simp [List.getD]; rw [List.getElem?_eq_none (by omega)]; rfl
          rw [hitB, d1', Bool.false_and, Bool.or_false] at hsu
          repeat' (first | (simp (disch := first | omega | (simp only [List.length_cons, List.length_nil]; first | done | omega)) only [go_sem, Nat.reduceAdd, Nat.reduceMul, Nat.reduceSub, Nat.reduceEqDiff, Nat.reduceLeDiff, Nat.reduceMod, Nat.reduceLT, Int.reduceToNat, Int.reduceAdd, Int.reduceSub, Int.reduceMul, Int.reduceNeg, Int.reduceLE, Int.reduceLT, Int.reduceNe, Int.reduceEq, Int.reduceBEq, Int.reduceBNe, Int.reduceTMod, Int.reduceTDiv, Nat.reduceBEq, e3, zRlA, d1, g2, hLm, Nat.mul_one, Nat.zero_add, pick_0a0]) | (refine allI (fun b => ?_)) | (refine allT (fun τ => ?_)) | (refine brP (fun h => ?_) (fun h => ?_) <;> (try simp only [zgx, zbx] at h)) | (apply And.intro; focus (first | omega | (simp; done) | (simp +contextual; done) | (intros; and_intros <;> first | assumption | omega) | (intros; simp_all; done) | (intro hgd; refine ⟨hgd, ?_⟩; simp [hgd]; done) | (intro hgd; simp only [zgx] at hgd ⊢; omega))) | fail)
          rw [← hsu]
          exact ⟨⟨k + 1, by omega⟩, by dsimp only; omega, Ents.sub (by simp [go_sem]) ⟨_, List.Sublist.cons _ (List.Sublist.refl _), List.Perm.refl _⟩⟩
      · have hke : k = l.length := by simp only [decide_eq_false_iff_not] at hb2; omega
        subst hke
        repeat' (first | (simp (disch := first | omega | (simp only [List.length_cons, List.length_nil]; first | done | omega)) only [go_sem, Nat.reduceAdd, Nat.reduceMul, Nat.reduceSub, Nat.reduceEqDiff, Nat.reduceLeDiff, Nat.reduceMod, Nat.reduceLT, Int.reduceToNat, Int.reduceAdd, Int.reduceSub, Int.reduceMul, Int.reduceNeg, Int.reduceLE, Int.reduceLT, Int.reduceNe, Int.reduceEq, Int.reduceBEq, Int.reduceBNe, Int.reduceTMod, Int.reduceTDiv, Nat.reduceBEq]) | (refine allI (fun b => ?_)) | (refine allT (fun τ => ?_)) | (refine brP (fun h => ?_) (fun h => ?_) <;> (try simp only [zgx, zbx] at h)) | (apply And.intro; focus (first | omega | (simp; done) | (simp +contextual; done) | (intros; and_intros <;> first | assumption | omega) | (intros; simp_all; done) | (intro hgd; refine ⟨hgd, ?_⟩; simp [hgd]; done) | (intro hgd; simp only [zgx] at hgd ⊢; omega))) | fail)
        rw [← haA, hset]
        exact ⟨⟨i + 1, by omega⟩, by dsimp only; omega, Ents.sub (by simp [go_sem]) ⟨_, List.Sublist.cons _ (List.Sublist.refl _), List.Perm.refl _⟩⟩
  · have hie : i = d.tb.length := by simp only [decide_eq_false_iff_not] at hb; omega
    subst hie
    rw [ansL_all] at *
    repeat' (first | (simp (disch := first | omega | (simp only [List.length_cons, List.length_nil]; first | done | omega)) only [go_sem, Nat.reduceAdd, Nat.reduceMul, Nat.reduceSub, Nat.reduceEqDiff, Nat.reduceLeDiff, Nat.reduceMod, Nat.reduceLT, Int.reduceToNat, Int.reduceAdd, Int.reduceSub, Int.reduceMul, Int.reduceNeg, Int.reduceLE, Int.reduceLT, Int.reduceNe, Int.reduceEq, Int.reduceBEq, Int.reduceBNe, Int.reduceTMod, Int.reduceTDiv, Nat.reduceBEq]) | (refine allI (fun b => ?_)) | (refine allT (fun τ => ?_)) | (refine brP (fun h => ?_) (fun h => ?_) <;> (try simp only [zgx, zbx] at h)) | (apply And.intro; focus (first | omega | (simp; done) | (simp +contextual; done) | (intros; and_intros <;> first | assumption | omega) | (intros; simp_all; done) | (intro hgd; refine ⟨hgd, ?_⟩; simp [hgd]; done) | (intro hgd; simp only [zgx] at hgd ⊢; omega))) | fail)
    exact ⟨_, _, leVH.trans (leVH.of (leV.refl _) ⟨[(17, _)], List.Sublist.cons_cons _ (List.nil_sublist _), List.Perm.refl _⟩) (leVH.trans (leVH.pubF (by simp)) (leVH.of (leV.fsl_sl _ _ _) ⟨[], List.Sublist.slnil, List.Perm.refl _⟩)), rfl, rfl⟩
end Go.Proofs.Ytcngkeeknlloaaa
