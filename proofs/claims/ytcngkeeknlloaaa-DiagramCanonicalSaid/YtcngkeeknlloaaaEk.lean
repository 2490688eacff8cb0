/- Layer 16: the law of the canonical diagram. -/
import Derived.Test.YtcngkeeknlloaaaEj
import Derived.Test.YtcngkeeknlloaaaCl8
namespace Go.Proofs.Ytcngkeeknlloaaa
open Go Go.Lx
set_option linter.unusedSimpArgs false
set_option linter.unusedVariables false
set_option maxRecDepth 100000
set_option maxHeartbeats 4000000

def clrTo (rs : List Rl) (i : Nat) : List Rl := (rs.take i).map clr ++ rs.drop i
theorem clrTo_len (rs : List Rl) (i : Nat) : (clrTo rs i).length = rs.length := by simp [clrTo]; omega
theorem clrTo_all (rs : List Rl) : clrTo rs rs.length = rs.map clr := by simp [clrTo]
def allT (rs : List Rl) : List Te := rs.flatMap (·.ts)
theorem row8 (rs : List Rl) (i m : Nat) (h : i < rs.length) : ∃ P R : List LV, P.length = i * 8 ∧ Sp ((clrTo rs i).flatMap RlC) m = P ++ (RlC (rs.getD i rl0) ++ R) ∧ Sp ((clrTo rs (i + 1)).flatMap RlC) m = P ++ (RlC (clr (rs.getD i rl0)) ++ R) := by
  refine ⟨((rs.take i).map clr).flatMap RlC, (rs.drop (i + 1)).flatMap RlC ++ List.replicate m .any, by rw [len_rl, List.length_map, List.length_take, Nat.min_eq_left (by omega)], ?_, ?_⟩
  · have e : clrTo rs i = (rs.take i).map clr ++ rs.getD i rl0 :: rs.drop (i + 1) := by rw [clrTo, List.drop_eq_getElem_cons h]; simp [List.getD, h]
    rw [e, Sp, List.flatMap_append, List.flatMap_cons]
    simp only [List.append_assoc]
  · have e : clrTo rs (i + 1) = (rs.take i).map clr ++ clr (rs.getD i rl0) :: rs.drop (i + 1) := by
      rw [clrTo, take_succ_getD rl0 rs h, List.map_append, List.map_singleton, List.append_assoc]
      rfl
    rw [e, Sp, List.flatMap_append, List.flatMap_cons]
    simp only [List.append_assoc]
theorem allT_succ (rs : List Rl) (i : Nat) (h : i < rs.length) : allT (rs.take (i + 1)) = allT (rs.take i) ++ (rs.getD i rl0).ts := by
  rw [allT, List.take_add_one, List.flatMap_append]
  simp [allT, List.getD, h]
theorem allT_len {rs : List Rl} (h : ∀ r ∈ rs, r.ts.length ≤ 3) : (allT rs).length ≤ 3 * rs.length := by
  induction rs with
  | nil => simp [allT]
  | cons r l ih =>
    have h1 := ih fun x hx => h x (List.mem_cons_of_mem _ hx)
    have h2 := h r (by simp)
    simp only [allT, List.flatMap_cons, List.length_append, List.length_cons] at h1 ⊢
    omega
def pidT : Te := ⟨1, 1, -1, [], 0⟩
def headR (rs : List Rl) : Rl := ⟨3, 1, 1, pidT :: allT rs, 0, [], 0, []⟩
def headC (rs : List Rl) (τ : Tok) : List LV := [.int .i64 3, .int .i64 1, .int .u64 1, .osl 60 τ 5 (1 + (allT rs).length) (TeC pidT ++ (allT rs).flatMap TeC), .int .i64 0, .str [], .int .i64 0, .str []]
/-- cells that are no owned slices -/
def NoM (l : List LV) : Prop := ∀ x ∈ l, ∀ id b cs, pubC id b cs x = (True, x)
theorem NoM.app {l m : List LV} (h : NoM l) (h' : NoM m) : NoM (l ++ m) := fun x hx => (List.mem_append.1 hx).elim (h x) (h' x)
theorem NoM.cs {id b : Nat} {cs : List LV} : ∀ {l : List LV}, NoM l → (pubCs id b cs l).1 ∧ (pubCs id b cs l).2 = l
  | [], _ => ⟨trivial, rfl⟩
  | x :: r, h => by
    have h1 := h x (by simp) id b cs
    have h2 := NoM.cs (id := id) (b := b) (cs := cs) (l := r) fun y hy => h y (List.mem_cons_of_mem _ hy)
    simp only [pubCs, h1]
    exact ⟨⟨trivial, h2.1⟩, by rw [h2.2]⟩
theorem pubCs_app {id b : Nat} {cs : List LV} : ∀ (l m : List LV), ((pubCs id b cs (l ++ m)).1 ↔ (pubCs id b cs l).1 ∧ (pubCs id b cs m).1) ∧ (pubCs id b cs (l ++ m)).2 = (pubCs id b cs l).2 ++ (pubCs id b cs m).2
  | [], m => by simp [pubCs]
  | x :: r, m => by
    have h := pubCs_app (id := id) (b := b) (cs := cs) r m
    simp only [List.cons_append, pubCs, h.2]
    exact ⟨⟨fun g => ⟨⟨g.1, (h.1.1 g.2).1⟩, (h.1.1 g.2).2⟩, fun g => ⟨g.1.1, h.1.2 ⟨g.1.2, g.2⟩⟩⟩, by simp⟩
theorem noM_rl (l : List Rl) : NoM (l.flatMap RlC) := fun x hx => by
  obtain ⟨r, _, hr⟩ := List.mem_flatMap.1 hx
  rw [RlC_eq, TsS_eq] at hr
  simp only [List.mem_cons, List.not_mem_nil, or_false] at hr
  rcases hr with rfl | rfl | rfl | rfl | rfl | rfl | rfl | rfl <;> intros <;> rfl
theorem noM_any (m : Nat) : NoM (List.replicate m .any) := fun x hx => by
  rw [List.eq_of_mem_replicate hx]
  intros
  rfl
theorem rowB (hd : List LV) (h8 : hd.length = 8) (hm : NoM hd) (rs : List Rl) (i m : Nat) (h : i < rs.length) : ∃ P R : List LV, P.length = (i + 1) * 8 ∧ NoM P ∧ NoM R ∧ hd ++ (rs.flatMap RlC ++ List.replicate m .any) = P ++ (RlC (rs.getD i rl0) ++ R) ∧ ∀ x, hd ++ ((rs.set i x).flatMap RlC ++ List.replicate m .any) = P ++ (RlC x ++ R) := by
  refine ⟨hd ++ (rs.take i).flatMap RlC, (rs.drop (i + 1)).flatMap RlC ++ List.replicate m .any, by rw [List.length_append, len_rl, List.length_take, Nat.min_eq_left (by omega), h8]; omega, hm.app (noM_rl _), (noM_rl _).app (noM_any _), ?_, fun x => ?_⟩
  · have e : rs = rs.take i ++ rs.getD i rl0 :: rs.drop (i + 1) := by
      conv => lhs; rw [← List.take_append_drop i rs, List.drop_eq_getElem_cons h]
      simp [List.getD, h]
    conv => lhs; rw [e]
    rw [List.flatMap_append, List.flatMap_cons]
    simp only [List.append_assoc]
  · rw [List.set_eq_take_append_cons_drop, if_pos h, List.flatMap_append, List.flatMap_cons]
    simp only [List.append_assoc]
theorem noM_head (rs : List Rl) (τ : Tok) : NoM (headC rs τ) := fun x hx => by
  simp only [headC, List.mem_cons, List.not_mem_nil, or_false] at hx
  rcases hx with rfl | rfl | rfl | rfl | rfl | rfl | rfl | rfl <;> intros <;> rfl
theorem head_le (rs ls : List Rl) (τ : Tok) : leVs (headC rs τ ++ ls.flatMap RlC) ((headR rs :: ls).flatMap RlC) := by
  rw [List.flatMap_cons]
  refine leVs.app ?_ (leVs.refl _)
  rw [RlC_eq, TsS_eq]
  refine ⟨leV.refl _, leV.refl _, leV.refl _, (leV.osl_sl _ _ _ _ _).trans (leV.of_eq ?_), leV.refl _, leV.refl _, leV.refl _, leV.refl _, trivial⟩
  simp [headR, Nat.add_comm]
/-- what the loop over the indices begins with: both lists are let go -/
def envW (x10 x9 : LV) : Env := [(13, .int .i64 0), (12, .fsl 1 0 []), (10, x10), (9, x9)]
def envX (j : Nat) (τ : Tok) (lb la : List Rl) (n : Nat) : Env := [(13, .int .i64 j), (12, .osl 102 τ 1 j ((ixs j).map (LV.int .i64))), (10, .sl 8 n (lb.flatMap RlC)), (9, .sl 8 n (la.flatMap RlC))]
theorem enterW (rs ls : List Rl) (τ1 : Tok) (bb n c2 k : Nat) (L9 : List LV) (hn : n = 1 + ls.length) (hc : n ≤ c2) : Ents gl (envW (.msl 67 8 bb 0 n c2) (.sl 8 k L9)) [(67, .blk bb (headC rs τ1 ++ (ls.flatMap RlC ++ List.replicate ((c2 - n) * 8) .any)))] (envW (.sl 8 n ((headR rs :: ls).flatMap RlC)) (.sl 8 k L9)) [] := by
  have hl := len_rl ls
  have hh : (headC rs τ1).length = 8 := rfl
  have ht : List.take (n * 8) (List.drop 0 (headC rs τ1 ++ (ls.flatMap RlC ++ List.replicate ((c2 - n) * 8) .any))) = headC rs τ1 ++ ls.flatMap RlC := by
    rw [List.drop_zero, ← List.append_assoc]
    exact List.take_left' (by rw [List.length_append, hh, hl]; omega)
  refine Ents.pub 67 rfl ?_ trivial (Ents.sub ?_ ⟨[], List.Sublist.slnil, List.Perm.refl _⟩)
  · simp only [envW, pubEnv, pubV, pubA, pubC, if_true]
    exact ⟨trivial, trivial, ⟨trivial, by rw [List.length_append, List.length_append, hh, hl, List.length_replicate]; omega, hc⟩, trivial, trivial⟩
  · simp only [envW, pubEnv, pubV, pubA, pubC, if_true]
    rw [ht]
    simp only [envLe, Lx.get, if_true, Nat.reduceEqDiff, if_false]
    exact ⟨leV.refl _, leV.refl _, leV.sl (head_le rs ls τ1), leV.refl _, trivial⟩
theorem enterW2 (rs ls ls' : List Rl) (e : ls' = ls) (τ1 : Tok) (bb n c2 k : Nat) (L9 : List LV) (hn : n = 1 + ls.length) (hc : n ≤ c2) : Ents gl (envW (.msl 67 8 bb 0 n c2) (.sl 8 k L9)) [(67, .blk bb (headC rs τ1 ++ (ls.flatMap RlC ++ List.replicate ((c2 - n) * 8) .any)))] (envW (.sl 8 n ((headR rs :: ls').flatMap RlC)) (.sl 8 k L9)) [] := by
  subst e
  exact enterW rs _ τ1 bb n c2 k L9 hn hc
theorem enterV (rs ls : List Rl) (v : Nat) (hv : v < ls.length) (τ1 : Tok) (bb n c2 k b4 k4 c4 : Nat) (L9 C4 P R : List LV) (q q2 : Rl) (hn : n = 1 + ls.length) (hc : n ≤ c2) (m1 : NoM P) (m2 : NoM R) (hk : k4 * 5 ≤ C4.length ∧ k4 ≤ c4) (ht : C4.take (k4 * 5) = q2.ts.flatMap TeC) (hk2 : k4 = q2.ts.length) (hq : q2 = { q with ts := q2.ts })
    (p3 : headC rs τ1 ++ ((ls.set v q2).flatMap RlC ++ List.replicate ((c2 - n) * 8) .any) = P ++ (RlC q2 ++ R)) : Ents gl (envW (.msl 67 8 bb 0 n c2) (.sl 8 k L9)) [(84, .blk b4 C4), (67, .blk bb (P ++ (.int .i64 q.l :: .int .i64 q.a :: .int .u64 q.c :: .msl 84 5 b4 0 k4 c4 :: .int .i64 q.w :: .str q.p :: .int .i64 q.m :: .str q.k :: R)))] (envW (.sl 8 n ((headR rs :: ls.set v q2).flatMap RlC)) (.sl 8 k L9)) [] := by
  have h1 := NoM.cs (id := 84) (b := b4) (cs := C4) m1
  have h2 := NoM.cs (id := 84) (b := b4) (cs := C4) m2
  have h3 := pubCs_app (id := 84) (b := b4) (cs := C4) P (.int .i64 q.l :: .int .i64 q.a :: .int .u64 q.c :: .msl 84 5 b4 0 k4 c4 :: .int .i64 q.w :: .str q.p :: .int .i64 q.m :: .str q.k :: R)
  have hp : (pubCs 84 b4 C4 (.int .i64 q.l :: .int .i64 q.a :: .int .u64 q.c :: .msl 84 5 b4 0 k4 c4 :: .int .i64 q.w :: .str q.p :: .int .i64 q.m :: .str q.k :: R)).1 ∧ (pubCs 84 b4 C4 (.int .i64 q.l :: .int .i64 q.a :: .int .u64 q.c :: .msl 84 5 b4 0 k4 c4 :: .int .i64 q.w :: .str q.p :: .int .i64 q.m :: .str q.k :: R)).2 = RlC q2 ++ R := by
    simp only [pubCs, pubC, if_true]
    refine ⟨⟨trivial, trivial, trivial, ⟨trivial, by omega, by omega⟩, trivial, trivial, trivial, trivial, h2.1⟩, ?_⟩
    rw [h2.2, List.drop_zero, ht, hk2, RlC_eq, TsS_eq, hq]
    rfl
  refine Ents.pub 84 rfl ?_ ?_ ?_
  · simp only [envW, pubEnv, pubV, pubA, pubC, Nat.reduceEqDiff, if_false]
    exact ⟨trivial, trivial, trivial, trivial, trivial⟩
  · show (pubEnt 84 b4 C4 [(67, _)]).1
    exact ⟨h3.1.2 ⟨h1.1, hp.1⟩, trivial⟩
  · have e : pubEnt 84 b4 C4 (delH [(84, .blk b4 C4), (67, .blk bb (P ++ (.int .i64 q.l :: .int .i64 q.a :: .int .u64 q.c :: .msl 84 5 b4 0 k4 c4 :: .int .i64 q.w :: .str q.p :: .int .i64 q.m :: .str q.k :: R)))] 84) = (((pubCs 84 b4 C4 (P ++ (.int .i64 q.l :: .int .i64 q.a :: .int .u64 q.c :: .msl 84 5 b4 0 k4 c4 :: .int .i64 q.w :: .str q.p :: .int .i64 q.m :: .str q.k :: R))).1 ∧ True), [(67, .blk bb (pubCs 84 b4 C4 (P ++ (.int .i64 q.l :: .int .i64 q.a :: .int .u64 q.c :: .msl 84 5 b4 0 k4 c4 :: .int .i64 q.w :: .str q.p :: .int .i64 q.m :: .str q.k :: R))).2)]) := rfl
    rw [e, h3.2, h1.2, hp.2, ← p3]
    simp only [envW, pubEnv, pubV, pubA, pubC, Nat.reduceEqDiff, if_false]
    exact enterW rs (ls.set v q2) τ1 bb n c2 k L9 (by rw [List.length_set]; exact hn) hc
def okTl (rs ls : List Rl) : Prop := ls.length = rs.length ∧ ∀ r ∈ ls, r.w = 0 ∧ (∀ t ∈ r.ts, t ∈ allT rs) ∧ r.ts.length ≤ 10
theorem okTl_clr {rs : List Rl} (h : ∀ r ∈ rs, r.ts.length ≤ 3) : okTl rs (rs.map clr) := ⟨List.length_map _, fun r hr => by
  obtain ⟨x, hx, rfl⟩ := List.mem_map.1 hr
  exact ⟨rfl, fun t ht => List.mem_flatMap.2 ⟨x, hx, ht⟩, by have := h x hx; show x.ts.length ≤ 10; omega⟩⟩
theorem okTl_set {rs ls : List Rl} (h : okTl rs ls) {v m : Nat} {q : Rl} (hq : q ∈ ls) (h3 : q.ts.length ≤ 3) (hm : m ≤ 1) : okTl rs (ls.set v { q with ts := q.ts ++ (allT rs).take m }) := ⟨by rw [List.length_set]; exact h.1, fun r hr => by
  rcases List.mem_or_eq_of_mem_set hr with hr | rfl
  · exact h.2 r hr
  · obtain ⟨g1, g2, g3⟩ := h.2 q hq
    refine ⟨g1, fun t ht => ?_, ?_⟩
    · rcases List.mem_append.1 ht with ht | ht
      · exact g2 t ht
      · exact List.mem_of_mem_take ht
    · simp only [List.length_append, List.length_take]
      omega⟩
theorem okTl.own {rs ls : List Rl} (h : okTl rs ls) : ∀ r ∈ ls, ∀ a ∈ ownA r, a ∈ ownA (headR rs) := fun r hr a ha => by
  obtain ⟨g1, g2, g3⟩ := h.2 r hr
  rw [ownA, if_pos g1, List.append_nil] at ha
  obtain ⟨t, ht, rfl⟩ := List.mem_map.1 ha
  rw [ownA, if_pos (by rfl), List.append_nil]
  exact List.mem_map.2 ⟨t, List.mem_cons_of_mem _ (g2 t ht), rfl⟩
theorem okTl.sm {rs ls : List Rl} (h : okTl rs ls) (h1 : rs.length ≤ 10) (h2 : ∀ r ∈ rs, r.ts.length ≤ 3) : SmR (headR rs :: ls) (ixs (1 + rs.length)) := by
  have hA := allT_len h2
  have h0 := h.1
  refine ⟨by simp; omega, by rw [ixs_len]; omega, fun r hr => ?_⟩
  rcases List.mem_cons.1 hr with rfl | hr
  · simp only [headR, List.length_cons]; omega
  · have := (h.2 r hr).2.2
    omega
theorem ixs_succ (j : Nat) : ixs (j + 1) = ixs j ++ [(j : Int)] := by simp [ixs, List.range_succ]
theorem zTe5 : zeros ([.int .i64 0, .int .i64 0, .int .i64 0, .str [], .int .i64 0] : List LV) 5 = [.int .i64 0, .int .i64 0, .int .i64 0, .str [], .int .i64 0] := Eq.trans rfl rfl
theorem zRl8 : zeros ([.int .i64 0, .int .i64 0, .int .u64 0, .fsl 1 0 [], .int .i64 0, .str [], .int .i64 0, .str []] : List LV) 8 = [.int .i64 0, .int .i64 0, .int .u64 0, .fsl 1 0 [], .int .i64 0, .str [], .int .i64 0, .str []] := Eq.trans rfl rfl
theorem canonL (l : List Int) (hl : okS l 0) : Pure Try.prog gl 8 [Ms l] (.bool true) := by
  refine fn_pureT Try.func8 t8 Try.ntmps8 (by simp) ?_
  have hnw := new_ l
  unfold c8 r8
  unfold Ms at *
  simp (disch := first | omega | (simp only [List.length_cons, List.length_nil]; first | done | omega)) only [go_sem, Nat.reduceAdd, Nat.reduceMul, Nat.reduceSub, Nat.reduceEqDiff, Nat.reduceLeDiff, Nat.reduceMod, Nat.reduceLT, Int.reduceToNat, Int.reduceAdd, Int.reduceSub, Int.reduceMul, Int.reduceNeg, Int.reduceLE, Int.reduceLT, Int.toNat_natCast, Int.cast_ofNat_Int, Int.reduceNe, Int.reduceEq, Int.reduceBEq, Int.reduceBNe, not_false_eq_true, ne_eq, Int.reduceTMod, Int.reduceTDiv, beq_self_eq_true, bne_self_eq_false, List.contains_cons, List.contains_nil, Nat.reduceBEq]
  first | refine newsE_U (hnw) ?_ | refine newsE_T (hnw) ?_ | refine newsE_of (hnw) ?_
  rintro _ _ ⟨bs, rfl, rfl⟩
  simp (disch := first | omega | (simp only [List.length_cons, List.length_nil]; first | done | omega)) only [go_sem, Nat.reduceAdd, Nat.reduceMul, Nat.reduceSub, Nat.reduceEqDiff, Nat.reduceLeDiff, Nat.reduceMod, Nat.reduceLT, Int.reduceToNat, Int.reduceAdd, Int.reduceSub, Int.reduceMul, Int.reduceNeg, Int.reduceLE, Int.reduceLT, Int.toNat_natCast, Int.cast_ofNat_Int, Int.reduceNe, Int.reduceEq, Int.reduceBEq, Int.reduceBNe, not_false_eq_true, ne_eq, Int.reduceTMod, Int.reduceTDiv, beq_self_eq_true, bne_self_eq_false, List.contains_cons, List.contains_nil, Nat.reduceBEq]
  first | refine actsQ_U ((FewQ.at (fewM0 4 (by omega) bs l 0 hl (by omega)))) (pick_perm rfl (List.Perm.refl _)) ?_ | refine actsQ_T ((FewQ.at (fewM0 4 (by omega) bs l 0 hl (by omega)))) (pick_perm rfl (List.Perm.refl _)) ?_ | refine actsQ_N ((FewQ.at (fewM0 4 (by omega) bs l 0 hl (by omega)))) (pick_perm rfl (List.Perm.refl _)) ?_ | refine actsQ_of ((FewQ.at (fewM0 4 (by omega) bs l 0 hl (by omega)))) (pick_perm rfl (List.Perm.refl _)) ?_
  rintro _ _ ⟨a', rs, wh0, bl, c, ha', ⟨h1, h2⟩, h3, h4, rfl, rfl⟩
  rw [WhS_eq]
  repeat' (first | (simp (disch := first | omega | (simp only [List.length_cons, List.length_nil]; first | done | omega)) only [go_sem, Nat.reduceAdd, Nat.reduceMul, Nat.reduceSub, Nat.reduceEqDiff, Nat.reduceLeDiff, Nat.reduceMod, Nat.reduceLT, Int.reduceToNat, Int.reduceAdd, Int.reduceSub, Int.reduceMul, Int.reduceNeg, Int.reduceLE, Int.reduceLT, Int.toNat_natCast, Int.cast_ofNat_Int, Int.reduceNe, Int.reduceEq, Int.reduceBEq, Int.reduceBNe, not_false_eq_true, ne_eq, Int.reduceTMod, Int.reduceTDiv, beq_self_eq_true, bne_self_eq_false, List.contains_cons, List.contains_nil, Nat.reduceBEq, zTe5, zRl8]) | (refine allI (fun b => ?_)) | (refine allT (fun τ => ?_)) | (refine brP (fun h => ?_) (fun h => ?_) <;> (try simp only [Bool.and_eq_true, Bool.and_eq_false_iff, Bool.or_eq_true, Bool.or_eq_false_iff, Bool.not_eq_true', Bool.not_eq_false', decide_eq_true_eq, decide_eq_false_iff_not, beq_iff_eq, beq_eq_false_iff_ne, ne_eq, bne_iff_ne, Int.not_lt, Int.not_le] at h)) | (apply And.intro; focus (first | omega | (simp; done) | (simp +contextual; done) | (intros; and_intros <;> first | assumption | omega) | (intros; simp_all; done) | (intro hgd; refine ⟨hgd, ?_⟩; simp [hgd]; done) | (intro hgd; simp only [beq_eq_false_iff_ne, beq_iff_eq, decide_eq_true_eq, decide_eq_false_iff_not, bne_iff_ne, ne_eq, Bool.and_eq_true, Bool.or_eq_false_iff, Bool.or_eq_true, Bool.and_eq_false_iff] at hgd ⊢; omega))) | fail)
  have hlr := len_rl rs
  refine loopI (ι := Nat × Tok) (fun y => y.1 ≤ rs.length) (fun y => [(8, .int .i64 y.1), (7, .osl 56 y.2 5 (allT (rs.take y.1)).length ((allT (rs.take y.1)).flatMap TeC)), (6, .ptr 6 b 0), (4, .msl 68 8 bl 0 rs.length c), (3, .ptr 3000 bs 0)]) (fun y => [(56, .tok y.2), (6, .blk b [.int .i64 3, .int .i64 1, .int .u64 1, .fsl 5 1 (TeC pidT), .int .i64 0, .str [], .int .i64 0, .str []]), (68, .blk bl (Sp ((clrTo rs y.1).flatMap RlC) ((c - rs.length) * 8))), (3000, SB bs l a')]) (fun y => rs.length - y.1) (0, ⟨0, 0, 0⟩) (by simp) (Ents.dum 56 (Ents.le (by simp [go_sem, allT, leV.nil_osl]) ⟨rfl, ⟨rfl, leVs.refl _⟩, ⟨rfl, leVs.refl _⟩, ⟨rfl, leVs.refl _⟩, trivial⟩)) ?_
  rintro ⟨i, τ⟩ hi
  dsimp only at hi ⊢
  have hal := allT_len (rs := rs.take i) fun r hr => h2 r (List.mem_of_mem_take hr)
  rw [List.length_take, Nat.min_eq_left hi] at hal
  have hlt := len_te (allT (rs.take i))
  simp (disch := first | omega | (simp only [List.length_cons, List.length_nil]; first | done | omega)) only [go_sem, Nat.reduceAdd, Nat.reduceMul, Nat.reduceSub, Nat.reduceEqDiff, Nat.reduceLeDiff, Nat.reduceMod, Nat.reduceLT, Int.reduceToNat, Int.reduceAdd, Int.reduceSub, Int.reduceMul, Int.reduceNeg, Int.reduceLE, Int.reduceLT, Int.toNat_natCast, Int.cast_ofNat_Int, Int.reduceNe, Int.reduceEq, Int.reduceBEq, Int.reduceBNe, not_false_eq_true, ne_eq, Int.reduceTMod, Int.reduceTDiv, beq_self_eq_true, bne_self_eq_false, List.contains_cons, List.contains_nil, Nat.reduceBEq]
  refine brP (fun hb => ?_) (fun hb => ?_)
  · have hir : i < rs.length := by simpa using hb
    obtain ⟨P, R, p1, p2, p3⟩ := row8 rs i ((c - rs.length) * 8) hir
    have hsu := allT_succ rs i hir
    have hr3 := h2 _ (getD_memA rl0 hir)
    have hlen : (P ++ (RlC (rs.getD i rl0) ++ R)).length = c * 8 := by rw [← p2, length_Sp, len_rl, clrTo_len]; omega
    generalize rs.getD i rl0 = r at *
    have hlq := len_te r.ts
    rw [p2]
    have tk : ∀ k L, List.take (i * 8 + k) (P ++ L) = P ++ List.take k L := fun k L => by rw [← p1, List.take_length_add_append]
    have dk : ∀ k L, List.drop (i * 8 + k) (P ++ L) = List.drop k L := fun k L => by rw [← p1, List.drop_length_add_append]
    have dk2 : ∀ j k L, List.drop (i * 8 + j + k) (P ++ L) = List.drop (j + k) L := fun j k L => by rw [Nat.add_assoc, dk]
    have gk : ∀ k L, (P ++ L).getD (i * 8 + k) .any = L.getD k .any := fun k L => by rw [← p1]; simp [List.getD, List.getElem?_append_right]
    rw [RlC_eq, TsS_eq] at *
    repeat' (first | (simp (disch := first | omega | (simp only [List.length_cons, List.length_nil]; first | done | omega)) only [go_sem, Nat.reduceAdd, Nat.reduceMul, Nat.reduceSub, Nat.reduceEqDiff, Nat.reduceLeDiff, Nat.reduceMod, Nat.reduceLT, Int.reduceToNat, Int.reduceAdd, Int.reduceSub, Int.reduceMul, Int.reduceNeg, Int.reduceLE, Int.reduceLT, Int.toNat_natCast, Int.cast_ofNat_Int, Int.reduceNe, Int.reduceEq, Int.reduceBEq, Int.reduceBNe, not_false_eq_true, ne_eq, Int.reduceTMod, Int.reduceTDiv, beq_self_eq_true, bne_self_eq_false, List.contains_cons, List.contains_nil, Nat.reduceBEq, tk, dk, dk2, gk, List.take_succ_cons, List.take_zero, List.drop_succ_cons, List.drop_zero, List.cons_append, List.nil_append, List.append_assoc, List.getD_cons_succ, List.getD_cons_zero]) | (refine allI (fun b => ?_)) | (refine allT (fun τ => ?_)) | (refine brP (fun h => ?_) (fun h => ?_) <;> (try simp only [Bool.and_eq_true, Bool.and_eq_false_iff, Bool.or_eq_true, Bool.or_eq_false_iff, Bool.not_eq_true', Bool.not_eq_false', decide_eq_true_eq, decide_eq_false_iff_not, beq_iff_eq, beq_eq_false_iff_ne, ne_eq, bne_iff_ne, Int.not_lt, Int.not_le] at h)) | (apply And.intro; focus (first | omega | (simp; done) | (simp +contextual; done) | (intros; and_intros <;> first | assumption | omega) | (intros; simp_all; done) | (intro hgd; refine ⟨hgd, ?_⟩; simp [hgd]; done) | (intro hgd; simp only [beq_eq_false_iff_ne, beq_iff_eq, decide_eq_true_eq, decide_eq_false_iff_not, bne_iff_ne, ne_eq, Bool.and_eq_true, Bool.or_eq_false_iff, Bool.or_eq_true, Bool.and_eq_false_iff] at hgd ⊢; omega))) | fail)
    have hR : P.length + (R.length + 8) = c * 8 := by rw [← hlen]; simp only [List.length_append, List.length_cons, List.length_nil]; omega
    simp only [List.length_append, List.length_cons]
    refine ⟨by omega, ⟨by omega, by omega⟩, by omega, ⟨by omega, by omega⟩, by omega, ⟨by omega, by omega⟩, by omega, by simp only [roomy]; omega, fun τ' => ?_⟩
    refine ⟨⟨(i + 1, τ'), by dsimp only; omega⟩, by dsimp only; omega, Ents.envH ?_ ?_⟩
    · simp [go_sem, hsu]
    · dsimp only
      rw [p3]
      rfl
  · have hie : i = rs.length := by simp only [decide_eq_false_iff_not] at hb; omega
    subst hie
    rw [List.take_length] at *
    rw [clrTo_all]
    have hcl : ((rs.map clr).flatMap RlC).length = rs.length * 8 := by rw [len_rl, List.length_map]
    have hst := sp_take ((c - rs.length) * 8) hcl
    have hT : [LV.int .i64 1, LV.int .i64 1, LV.int .i64 (-1), LV.str [], LV.int .i64 0] = TeC pidT := rfl
    have hst2 : List.take (rs.length * 8) (Sp ((rs.map clr).flatMap RlC) ((c - rs.length) * 8)) = (rs.map clr).flatMap RlC := take_Sp _ hcl
    repeat' (first | (simp (disch := first | omega | (simp only [List.length_cons, List.length_nil]; first | done | omega)) only [go_sem, Nat.reduceAdd, Nat.reduceMul, Nat.reduceSub, Nat.reduceEqDiff, Nat.reduceLeDiff, Nat.reduceMod, Nat.reduceLT, Int.reduceToNat, Int.reduceAdd, Int.reduceSub, Int.reduceMul, Int.reduceNeg, Int.reduceLE, Int.reduceLT, Int.toNat_natCast, Int.cast_ofNat_Int, Int.reduceNe, Int.reduceEq, Int.reduceBEq, Int.reduceBNe, not_false_eq_true, ne_eq, Int.reduceTMod, Int.reduceTDiv, beq_self_eq_true, bne_self_eq_false, List.contains_cons, List.contains_nil, Nat.reduceBEq, hst, hst2, List.drop_zero, List.getD_cons_succ, List.getD_cons_zero, zRl8]) | (refine allI (fun b => ?_)) | (refine allT (fun τ => ?_)) | (refine brP (fun h => ?_) (fun h => ?_) <;> (try simp only [Bool.and_eq_true, Bool.and_eq_false_iff, Bool.or_eq_true, Bool.or_eq_false_iff, Bool.not_eq_true', Bool.not_eq_false', decide_eq_true_eq, decide_eq_false_iff_not, beq_iff_eq, beq_eq_false_iff_ne, ne_eq, bne_iff_ne, Int.not_lt, Int.not_le] at h)) | (apply And.intro; focus (first | omega | (simp; done) | (simp +contextual; done) | (intros; and_intros <;> first | assumption | omega) | (intros; simp_all; done) | (intro hgd; refine ⟨hgd, ?_⟩; simp [hgd]; done) | (intro hgd; simp only [beq_eq_false_iff_ne, beq_iff_eq, decide_eq_true_eq, decide_eq_false_iff_not, bne_iff_ne, ne_eq, Bool.and_eq_true, Bool.or_eq_false_iff, Bool.or_eq_true, Bool.and_eq_false_iff] at hgd ⊢; omega))) | fail)
    refine ⟨⟨.inl rfl, by simp only [roomy]; omega⟩, fun τ1 => ?_⟩
    repeat' (first | (simp (disch := first | omega | (simp only [List.length_cons, List.length_nil]; first | done | omega)) only [go_sem, Nat.reduceAdd, Nat.reduceMul, Nat.reduceSub, Nat.reduceEqDiff, Nat.reduceLeDiff, Nat.reduceMod, Nat.reduceLT, Int.reduceToNat, Int.reduceAdd, Int.reduceSub, Int.reduceMul, Int.reduceNeg, Int.reduceLE, Int.reduceLT, Int.toNat_natCast, Int.cast_ofNat_Int, Int.reduceNe, Int.reduceEq, Int.reduceBEq, Int.reduceBNe, not_false_eq_true, ne_eq, Int.reduceTMod, Int.reduceTDiv, beq_self_eq_true, bne_self_eq_false, List.contains_cons, List.contains_nil, Nat.reduceBEq, hst, hst2, List.drop_zero, List.getD_cons_succ, List.getD_cons_zero, zRl8]) | (refine allI (fun b => ?_)) | (refine allT (fun τ => ?_)) | (refine brP (fun h => ?_) (fun h => ?_) <;> (try simp only [Bool.and_eq_true, Bool.and_eq_false_iff, Bool.or_eq_true, Bool.or_eq_false_iff, Bool.not_eq_true', Bool.not_eq_false', decide_eq_true_eq, decide_eq_false_iff_not, beq_iff_eq, beq_eq_false_iff_ne, ne_eq, bne_iff_ne, Int.not_lt, Int.not_le] at h)) | (apply And.intro; focus (first | omega | (simp; done) | (simp +contextual; done) | (intros; and_intros <;> first | assumption | omega) | (intros; simp_all; done) | (intro hgd; refine ⟨hgd, ?_⟩; simp [hgd]; done) | (intro hgd; simp only [beq_eq_false_iff_ne, beq_iff_eq, decide_eq_true_eq, decide_eq_false_iff_not, bne_iff_ne, ne_eq, Bool.and_eq_true, Bool.or_eq_false_iff, Bool.or_eq_true, Bool.and_eq_false_iff] at hgd ⊢; omega))) | fail)
    refine ⟨by rw [length_Sp]; omega, ?_⟩
    repeat' (first | (simp (disch := first | omega | (simp only [List.length_cons, List.length_nil]; first | done | omega)) only [go_sem, Nat.reduceAdd, Nat.reduceMul, Nat.reduceSub, Nat.reduceEqDiff, Nat.reduceLeDiff, Nat.reduceMod, Nat.reduceLT, Int.reduceToNat, Int.reduceAdd, Int.reduceSub, Int.reduceMul, Int.reduceNeg, Int.reduceLE, Int.reduceLT, Int.toNat_natCast, Int.cast_ofNat_Int, Int.reduceNe, Int.reduceEq, Int.reduceBEq, Int.reduceBNe, not_false_eq_true, ne_eq, Int.reduceTMod, Int.reduceTDiv, beq_self_eq_true, bne_self_eq_false, List.contains_cons, List.contains_nil, Nat.reduceBEq, hst, hst2, List.drop_zero, List.getD_cons_succ, List.getD_cons_zero, zRl8]) | (refine allI (fun b => ?_)) | (refine allT (fun τ => ?_)) | (refine brP (fun h => ?_) (fun h => ?_) <;> (try simp only [Bool.and_eq_true, Bool.and_eq_false_iff, Bool.or_eq_true, Bool.or_eq_false_iff, Bool.not_eq_true', Bool.not_eq_false', decide_eq_true_eq, decide_eq_false_iff_not, beq_iff_eq, beq_eq_false_iff_ne, ne_eq, bne_iff_ne, Int.not_lt, Int.not_le] at h)) | (apply And.intro; focus (first | omega | (simp; done) | (simp +contextual; done) | (intros; and_intros <;> first | assumption | omega) | (intros; simp_all; done) | (intro hgd; refine ⟨hgd, ?_⟩; simp [hgd]; done) | (intro hgd; simp only [beq_eq_false_iff_ne, beq_iff_eq, decide_eq_true_eq, decide_eq_false_iff_not, bne_iff_ne, ne_eq, Bool.and_eq_true, Bool.or_eq_false_iff, Bool.or_eq_true, Bool.and_eq_false_iff] at hgd ⊢; omega))) | fail)
    refine ⟨⟨.inl rfl, by simp only [roomy]; omega⟩, fun τ2 => ?_⟩
    repeat' (first | (simp (disch := first | omega | (simp only [List.length_cons, List.length_nil]; first | done | omega)) only [go_sem, Nat.reduceAdd, Nat.reduceMul, Nat.reduceSub, Nat.reduceEqDiff, Nat.reduceLeDiff, Nat.reduceMod, Nat.reduceLT, Int.reduceToNat, Int.reduceAdd, Int.reduceSub, Int.reduceMul, Int.reduceNeg, Int.reduceLE, Int.reduceLT, Int.toNat_natCast, Int.cast_ofNat_Int, Int.reduceNe, Int.reduceEq, Int.reduceBEq, Int.reduceBNe, not_false_eq_true, ne_eq, Int.reduceTMod, Int.reduceTDiv, beq_self_eq_true, bne_self_eq_false, List.contains_cons, List.contains_nil, Nat.reduceBEq, hst, hst2, List.drop_zero, List.getD_cons_succ, List.getD_cons_zero, zRl8]) | (refine allI (fun b => ?_)) | (refine allT (fun τ => ?_)) | (refine brP (fun h => ?_) (fun h => ?_) <;> (try simp only [Bool.and_eq_true, Bool.and_eq_false_iff, Bool.or_eq_true, Bool.or_eq_false_iff, Bool.not_eq_true', Bool.not_eq_false', decide_eq_true_eq, decide_eq_false_iff_not, beq_iff_eq, beq_eq_false_iff_ne, ne_eq, bne_iff_ne, Int.not_lt, Int.not_le] at h)) | (apply And.intro; focus (first | omega | (simp; done) | (simp +contextual; done) | (intros; and_intros <;> first | assumption | omega) | (intros; simp_all; done) | (intro hgd; refine ⟨hgd, ?_⟩; simp [hgd]; done) | (intro hgd; simp only [beq_eq_false_iff_ne, beq_iff_eq, decide_eq_true_eq, decide_eq_false_iff_not, bne_iff_ne, ne_eq, Bool.and_eq_true, Bool.or_eq_false_iff, Bool.or_eq_true, Bool.and_eq_false_iff] at hgd ⊢; omega))) | fail)
    refine ⟨by simp only [roomy]; omega, fun bb c2 hc2 => ?_⟩
    repeat' (first | (simp (disch := first | omega | (simp only [List.length_cons, List.length_nil]; first | done | omega)) only [go_sem, Nat.reduceAdd, Nat.reduceMul, Nat.reduceSub, Nat.reduceEqDiff, Nat.reduceLeDiff, Nat.reduceMod, Nat.reduceLT, Int.reduceToNat, Int.reduceAdd, Int.reduceSub, Int.reduceMul, Int.reduceNeg, Int.reduceLE, Int.reduceLT, Int.toNat_natCast, Int.cast_ofNat_Int, Int.reduceNe, Int.reduceEq, Int.reduceBEq, Int.reduceBNe, not_false_eq_true, ne_eq, Int.reduceTMod, Int.reduceTDiv, beq_self_eq_true, bne_self_eq_false, List.contains_cons, List.contains_nil, Nat.reduceBEq, hst, hst2, List.drop_zero, List.getD_cons_succ, List.getD_cons_zero, zRl8]) | (refine allI (fun b => ?_)) | (refine allT (fun τ => ?_)) | (refine brP (fun h => ?_) (fun h => ?_) <;> (try simp only [Bool.and_eq_true, Bool.and_eq_false_iff, Bool.or_eq_true, Bool.or_eq_false_iff, Bool.not_eq_true', Bool.not_eq_false', decide_eq_true_eq, decide_eq_false_iff_not, beq_iff_eq, beq_eq_false_iff_ne, ne_eq, bne_iff_ne, Int.not_lt, Int.not_le] at h)) | (apply And.intro; focus (first | omega | (simp; done) | (simp +contextual; done) | (intros; and_intros <;> first | assumption | omega) | (intros; simp_all; done) | (intro hgd; refine ⟨hgd, ?_⟩; simp [hgd]; done) | (intro hgd; simp only [beq_eq_false_iff_ne, beq_iff_eq, decide_eq_true_eq, decide_eq_false_iff_not, bne_iff_ne, ne_eq, Bool.and_eq_true, Bool.or_eq_false_iff, Bool.or_eq_true, Bool.and_eq_false_iff] at hgd ⊢; omega))) | fail)
    case' refine_2.refine_1 =>
      have hn2 : 2 ≤ rs.length := by omega
      first | refine actsE_U (gn (((1 + rs.length : Nat) : Int) - 1) (by omega) 3000 bs l a' (hl.at (by omega) (by omega)) (by omega)) (by first | rfl | simp only [getH, if_true]) ?_ | refine actsE_T (gn (((1 + rs.length : Nat) : Int) - 1) (by omega) 3000 bs l a' (hl.at (by omega) (by omega)) (by omega)) (by first | rfl | simp only [getH, if_true]) ?_ | refine actsE_N (gn (((1 + rs.length : Nat) : Int) - 1) (by omega) 3000 bs l a' (hl.at (by omega) (by omega)) (by omega)) (by first | rfl | simp only [getH, if_true]) ?_ | refine actsE_of (gn (((1 + rs.length : Nat) : Int) - 1) (by omega) 3000 bs l a' (hl.at (by omega) (by omega)) (by omega)) (by first | rfl | simp only [getH, if_true]) ?_
      rintro _ _ ⟨a2, ha2, ⟨v0, hv0, rfl⟩, rfl⟩
      obtain ⟨v, rfl⟩ : ∃ v : Nat, v0 = (v : Int) := ⟨v0.toNat, by omega⟩
      have hv : v < (rs.map clr).length := by rw [List.length_map]; omega
      have hv1 : (1 + (v : Int)).toNat = v + 1 := by omega
      have hq3 : ((rs.map clr).getD v rl0).ts.length ≤ 3 := by
        have := getD_memA rl0 hv
        obtain ⟨r, hr1, hr2⟩ := List.mem_map.1 this
        rw [← hr2]
        exact h2 r hr1
      obtain ⟨P, R, p1, m1, m2, p2, p3⟩ := rowB (headC rs τ1) (by rfl) (noM_head rs τ1) (rs.map clr) v ((c2 - (1 + rs.length)) * 8) hv
      simp only [headC, List.cons_append, List.nil_append] at p2 p3
      rw [p2]
      have tk : ∀ k L, List.take ((v + 1) * 8 + k) (P ++ L) = P ++ List.take k L := fun k L => by rw [← p1, List.take_length_add_append]
      have dk : ∀ k L, List.drop ((v + 1) * 8 + k) (P ++ L) = List.drop k L := fun k L => by rw [← p1, List.drop_length_add_append]
      have dk2 : ∀ j k L, List.drop ((v + 1) * 8 + j + k) (P ++ L) = List.drop (j + k) L := fun j k L => by rw [Nat.add_assoc, dk]
      have gk : ∀ k L, (P ++ L).getD ((v + 1) * 8 + k) .any = L.getD k .any := fun k L => by rw [← p1]; simp [List.getD, List.getElem?_append_right]
      have hqm : (rs.map clr).getD v rl0 ∈ rs.map clr := getD_memA rl0 hv
      generalize hq : (rs.map clr).getD v rl0 = q at *
      have hlq := len_te q.ts
      have hlA := len_te (allT rs)
      rw [RlC_eq, TsS_eq] at *
      obtain ⟨mm, hmm0⟩ : ∃ m, m = min 1 (allT rs).length := ⟨_, rfl⟩
      have hmm : (if ((allT rs).length : Int) < 1 then ((allT rs).length : Int) else 1) = (mm : Int) := by split <;> omega
      have htk : List.take (mm * 5) ((allT rs).flatMap TeC) = ((allT rs).take mm).flatMap TeC := taken_rows (f := TeC) (fun _ => rfl) _ _
      have hlm := len_te ((allT rs).take mm)
      rw [List.length_take, Nat.min_eq_left (by omega)] at hlm
      have hR : P.length + (R.length + 8) = c2 * 8 := by
        have := congrArg List.length p2
        simp only [List.length_append, List.length_cons, List.length_replicate, hcl, List.length_nil] at this
        omega
      repeat' (first | (simp (disch := first | omega | (simp only [List.length_cons, List.length_nil]; first | done | omega)) only [go_sem, Nat.reduceAdd, Nat.reduceMul, Nat.reduceSub, Nat.reduceEqDiff, Nat.reduceLeDiff, Nat.reduceMod, Nat.reduceLT, Int.reduceToNat, Int.reduceAdd, Int.reduceSub, Int.reduceMul, Int.reduceNeg, Int.reduceLE, Int.reduceLT, Int.toNat_natCast, Int.cast_ofNat_Int, Int.reduceNe, Int.reduceEq, Int.reduceBEq, Int.reduceBNe, not_false_eq_true, ne_eq, Int.reduceTMod, Int.reduceTDiv, beq_self_eq_true, bne_self_eq_false, List.contains_cons, List.contains_nil, Nat.reduceBEq, hv1, hmm, htk, tk, dk, dk2, gk, Nat.sub_zero, List.take_succ_cons, List.take_zero, List.drop_succ_cons, List.drop_zero, List.cons_append, List.nil_append, List.append_assoc, List.getD_cons_succ, List.getD_cons_zero]) | (refine allI (fun b => ?_)) | (refine allT (fun τ => ?_)) | (refine brP (fun h => ?_) (fun h => ?_) <;> (try simp only [Bool.and_eq_true, Bool.and_eq_false_iff, Bool.or_eq_true, Bool.or_eq_false_iff, Bool.not_eq_true', Bool.not_eq_false', decide_eq_true_eq, decide_eq_false_iff_not, beq_iff_eq, beq_eq_false_iff_ne, ne_eq, bne_iff_ne, Int.not_lt, Int.not_le] at h)) | (apply And.intro; focus (first | omega | (simp; done) | (simp +contextual; done) | (intros; and_intros <;> first | assumption | omega) | (intros; simp_all; done) | (intro hgd; refine ⟨hgd, ?_⟩; simp [hgd]; done) | (intro hgd; simp only [beq_eq_false_iff_ne, beq_iff_eq, decide_eq_true_eq, decide_eq_false_iff_not, bne_iff_ne, ne_eq, Bool.and_eq_true, Bool.or_eq_false_iff, Bool.or_eq_true, Bool.and_eq_false_iff] at hgd ⊢; omega))) | fail)
      simp only [List.length_append, List.length_cons, List.length_replicate, hlq, hlm]
      refine ⟨by omega, ⟨by omega, by omega⟩, by simp only [roomy]; omega, fun b3 c3 hc3 => ?_⟩
      repeat' (first | (simp (disch := first | omega | (simp only [List.length_cons, List.length_nil]; first | done | omega)) only [go_sem, Nat.reduceAdd, Nat.reduceMul, Nat.reduceSub, Nat.reduceEqDiff, Nat.reduceLeDiff, Nat.reduceMod, Nat.reduceLT, Int.reduceToNat, Int.reduceAdd, Int.reduceSub, Int.reduceMul, Int.reduceNeg, Int.reduceLE, Int.reduceLT, Int.toNat_natCast, Int.cast_ofNat_Int, Int.reduceNe, Int.reduceEq, Int.reduceBEq, Int.reduceBNe, not_false_eq_true, ne_eq, Int.reduceTMod, Int.reduceTDiv, beq_self_eq_true, bne_self_eq_false, List.contains_cons, List.contains_nil, Nat.reduceBEq, hv1, hmm, htk, tk, dk, dk2, gk, Nat.sub_zero, List.take_succ_cons, List.take_zero, List.drop_succ_cons, List.drop_zero, List.cons_append, List.nil_append, List.append_assoc, List.getD_cons_succ, List.getD_cons_zero]) | (refine allI (fun b => ?_)) | (refine allT (fun τ => ?_)) | (refine brP (fun h => ?_) (fun h => ?_) <;> (try simp only [Bool.and_eq_true, Bool.and_eq_false_iff, Bool.or_eq_true, Bool.or_eq_false_iff, Bool.not_eq_true', Bool.not_eq_false', decide_eq_true_eq, decide_eq_false_iff_not, beq_iff_eq, beq_eq_false_iff_ne, ne_eq, bne_iff_ne, Int.not_lt, Int.not_le] at h)) | (apply And.intro; focus (first | omega | (simp; done) | (simp +contextual; done) | (intros; and_intros <;> first | assumption | omega) | (intros; simp_all; done) | (intro hgd; refine ⟨hgd, ?_⟩; simp [hgd]; done) | (intro hgd; simp only [beq_eq_false_iff_ne, beq_iff_eq, decide_eq_true_eq, decide_eq_false_iff_not, bne_iff_ne, ne_eq, Bool.and_eq_true, Bool.or_eq_false_iff, Bool.or_eq_true, Bool.and_eq_false_iff] at hgd ⊢; omega))) | fail)
      refine .inl ⟨by omega, by omega, by simp only [roomy]; omega, fun b4 c4 hc4 => ?_⟩
      repeat' (first | (simp (disch := first | omega | (simp only [List.length_cons, List.length_nil]; first | done | omega)) only [go_sem, Nat.reduceAdd, Nat.reduceMul, Nat.reduceSub, Nat.reduceEqDiff, Nat.reduceLeDiff, Nat.reduceMod, Nat.reduceLT, Int.reduceToNat, Int.reduceAdd, Int.reduceSub, Int.reduceMul, Int.reduceNeg, Int.reduceLE, Int.reduceLT, Int.toNat_natCast, Int.cast_ofNat_Int, Int.reduceNe, Int.reduceEq, Int.reduceBEq, Int.reduceBNe, not_false_eq_true, ne_eq, Int.reduceTMod, Int.reduceTDiv, beq_self_eq_true, bne_self_eq_false, List.contains_cons, List.contains_nil, Nat.reduceBEq, hv1, hmm, htk, tk, dk, dk2, gk, Nat.sub_zero, List.take_succ_cons, List.take_zero, List.drop_succ_cons, List.drop_zero, List.cons_append, List.nil_append, List.append_assoc, List.getD_cons_succ, List.getD_cons_zero]) | (refine allI (fun b => ?_)) | (refine allT (fun τ => ?_)) | (refine brP (fun h => ?_) (fun h => ?_) <;> (try simp only [Bool.and_eq_true, Bool.and_eq_false_iff, Bool.or_eq_true, Bool.or_eq_false_iff, Bool.not_eq_true', Bool.not_eq_false', decide_eq_true_eq, decide_eq_false_iff_not, beq_iff_eq, beq_eq_false_iff_ne, ne_eq, bne_iff_ne, Int.not_lt, Int.not_le] at h)) | (apply And.intro; focus (first | omega | (simp; done) | (simp +contextual; done) | (intros; and_intros <;> first | assumption | omega) | (intros; simp_all; done) | (intro hgd; refine ⟨hgd, ?_⟩; simp [hgd]; done) | (intro hgd; simp only [beq_eq_false_iff_ne, beq_iff_eq, decide_eq_true_eq, decide_eq_false_iff_not, bne_iff_ne, ne_eq, Bool.and_eq_true, Bool.or_eq_false_iff, Bool.or_eq_true, Bool.and_eq_false_iff] at hgd ⊢; omega))) | fail)
      obtain ⟨q2, hq2⟩ : ∃ x, x = { q with ts := q.ts ++ (allT rs).take mm } := ⟨_, rfl⟩
      refine loopI (ι := Nat × Tok) (fun y => y.1 ≤ 1 + rs.length) (fun y => envX y.1 y.2 (headR rs :: (rs.map clr).set v q2) (headR rs :: rs.map clr) (1 + rs.length)) (fun y => [(102, .tok y.2)]) (fun y => 1 + rs.length - y.1) (0, ⟨0, 0, 0⟩) (Nat.zero_le _) (Ents.trans (Ents.sub ?_ ⟨[(84, _), (67, _)], List.Sublist.cons_cons _ (List.Sublist.cons_cons _ (List.nil_sublist _)), List.Perm.refl _⟩) (Ents.trans (enterV rs (rs.map clr) v hv τ1 bb (1 + rs.length) c2 (1 + rs.length) b4 (q.ts.length + mm) c4 ((headR rs :: rs.map clr).flatMap RlC) _ P R q q2 (by rw [List.length_map]) hc2 m1 m2 ⟨?_, hc4⟩ ?_ ?_ ?_ ?_) (Ents.dum 102 (Ents.sub ?_ ⟨_, List.Sublist.refl _, List.Perm.refl _⟩)))) ?_
      · exact ⟨leV.refl _, leV.refl _, leV.refl _, (leV.osl_sl _ _ _ _ _).trans (leV.sl (head_le rs (rs.map clr) τ1)), trivial⟩
      · simp only [List.length_append, List.length_take, List.length_replicate, hlq, hlm]; omega
      · rw [show List.take (q.ts.length * 5) (q.ts.flatMap TeC ++ List.replicate ((c3 - q.ts.length) * 5) .any) = q.ts.flatMap TeC from List.take_left' hlq, ← List.append_assoc, hq2, List.flatMap_append]
        exact List.take_left' (by rw [List.length_append, hlq, hlm, Nat.add_mul])
      · rw [hq2, List.length_append, List.length_take, Nat.min_eq_left (by omega)]
      · rw [hq2]
      · exact p3 q2
      · exact ⟨leV.refl _, leV.nil_osl _ _ _ _, leV.refl _, leV.refl _, trivial⟩
      have hls : okTl rs ((rs.map clr).set v q2) := by rw [hq2]; exact okTl_set (okTl_clr h2) hqm (by omega) (by omega)
      clear p2 p3 tk dk dk2 gk hR htk hlm hmm
      generalize (rs.map clr).set v q2 = ls at *
    case' refine_2.refine_2 =>
      obtain ⟨ls, hl9⟩ : ∃ x, x = rs.map clr := ⟨_, rfl⟩
      refine loopI (ι := Nat × Tok) (fun y => y.1 ≤ 1 + rs.length) (fun y => envX y.1 y.2 (headR rs :: ls) (headR rs :: rs.map clr) (1 + rs.length)) (fun y => [(102, .tok y.2)]) (fun y => 1 + rs.length - y.1) (0, ⟨0, 0, 0⟩) (Nat.zero_le _) (Ents.trans (Ents.sub ?_ ⟨[(67, _)], List.Sublist.cons_cons _ (List.nil_sublist _), List.Perm.refl _⟩) (Ents.trans (enterW2 rs (rs.map clr) ls hl9 τ1 bb (1 + rs.length) c2 (1 + rs.length) ((headR rs :: rs.map clr).flatMap RlC) (by rw [List.length_map]) hc2) (Ents.dum 102 (Ents.sub ?_ ⟨_, List.Sublist.refl _, List.Perm.refl _⟩)))) ?_
      · exact ⟨leV.refl _, leV.refl _, leV.refl _, (leV.osl_sl _ _ _ _ _).trans (leV.sl (head_le rs (rs.map clr) τ1)), trivial⟩
      · exact ⟨leV.refl _, leV.nil_osl _ _ _ _, leV.refl _, leV.refl _, trivial⟩
      have hls : okTl rs ls := by rw [hl9]; exact okTl_clr h2
      clear hl9
    all_goals
      rintro ⟨j, τ3⟩ hj
      dsimp only at hj ⊢
      have hlj : ((ixs j).map (LV.int .i64)).length = j := by rw [List.length_map, ixs_len]
      simp only [envX]
      simp (disch := first | omega | (simp only [List.length_cons, List.length_nil]; first | done | omega)) only [go_sem, Nat.reduceAdd, Nat.reduceMul, Nat.reduceSub, Nat.reduceEqDiff, Nat.reduceLeDiff, Nat.reduceMod, Nat.reduceLT, Int.reduceToNat, Int.reduceAdd, Int.reduceSub, Int.reduceMul, Int.reduceNeg, Int.reduceLE, Int.reduceLT, Int.toNat_natCast, Int.cast_ofNat_Int, Int.reduceNe, Int.reduceEq, Int.reduceBEq, Int.reduceBNe, not_false_eq_true, ne_eq, Int.reduceTMod, Int.reduceTDiv, beq_self_eq_true, bne_self_eq_false, List.contains_cons, List.contains_nil, Nat.reduceBEq]
      refine brP (fun hb3 => ?_) (fun hb3 => ?_)
      · have hjl : j < 1 + rs.length := by simp only [decide_eq_true_eq] at hb3; omega
        repeat' (first | (simp (disch := first | omega | (simp only [List.length_cons, List.length_nil]; first | done | omega)) only [go_sem, Nat.reduceAdd, Nat.reduceMul, Nat.reduceSub, Nat.reduceEqDiff, Nat.reduceLeDiff, Nat.reduceMod, Nat.reduceLT, Int.reduceToNat, Int.reduceAdd, Int.reduceSub, Int.reduceMul, Int.reduceNeg, Int.reduceLE, Int.reduceLT, Int.toNat_natCast, Int.cast_ofNat_Int, Int.reduceNe, Int.reduceEq, Int.reduceBEq, Int.reduceBNe, not_false_eq_true, ne_eq, Int.reduceTMod, Int.reduceTDiv, beq_self_eq_true, bne_self_eq_false, List.contains_cons, List.contains_nil, Nat.reduceBEq]) | (refine allI (fun b => ?_)) | (refine allT (fun τ => ?_)) | (refine brP (fun h => ?_) (fun h => ?_) <;> (try simp only [Bool.and_eq_true, Bool.and_eq_false_iff, Bool.or_eq_true, Bool.or_eq_false_iff, Bool.not_eq_true', Bool.not_eq_false', decide_eq_true_eq, decide_eq_false_iff_not, beq_iff_eq, beq_eq_false_iff_ne, ne_eq, bne_iff_ne, Int.not_lt, Int.not_le] at h)) | (apply And.intro; focus (first | omega | (simp; done) | (simp +contextual; done) | (intros; and_intros <;> first | assumption | omega) | (intros; simp_all; done) | (intro hgd; refine ⟨hgd, ?_⟩; simp [hgd]; done) | (intro hgd; simp only [beq_eq_false_iff_ne, beq_iff_eq, decide_eq_true_eq, decide_eq_false_iff_not, bne_iff_ne, ne_eq, Bool.and_eq_true, Bool.or_eq_false_iff, Bool.or_eq_true, Bool.and_eq_false_iff] at hgd ⊢; omega))) | fail)
        refine ⟨by simp only [roomy]; omega, fun τ4 => ⟨⟨(j + 1, τ4), by dsimp only; omega⟩, by dsimp only; omega, Ents.envH ?_ rfl⟩⟩
        simp [go_sem, envX, ixs_succ]
      · have hje : j = 1 + rs.length := by simp only [decide_eq_false_iff_not] at hb3; omega
        subst hje
        have hla : (headR rs :: rs.map clr).length = 1 + rs.length := by simp; omega
        have hlb : (headR rs :: ls).length = 1 + rs.length := by have := hls.1; simp; omega
        have hsa := (okTl_clr h2).sm h1 h2
        have hsb := hls.sm h1 h2
        have hB1 := buildP _ _ hsa
        have hB2 := buildP _ _ hsb
        have hat := ratoms _ _ hsa.ll hsa.lw hsa.lr
        have hsame := same_atoms (h := headR rs) (la := rs.map clr) (lb := ls) (by rw [List.length_map, hls.1]) (okTl_clr h2).own hls.own
        rw [hla] at hsame
        have hee := @dgR_err (headR rs :: rs.map clr) (ixs (1 + rs.length))
        have heb := @dgR_err (headR rs :: ls) (ixs (1 + rs.length))
        have hoa := @dgR_ok (headR rs :: rs.map clr) (ixs (1 + rs.length))
        have hob := @dgR_ok (headR rs :: ls) (ixs (1 + rs.length))
        have hwa : (atomsR (headR rs :: rs.map clr) (ixs (1 + rs.length))).2 = 0 → WhOk _ _ _ := fun h => atomsR_ok hsa (by rw [← h])
        have hwb : (atomsR (headR rs :: ls) (ixs (1 + rs.length))).2 = 0 → WhOk _ _ _ := fun h => atomsR_ok hsb (by rw [← h])
        have htl := atomsR_len hsa
        rw [← hsame] at heb hob hwb
        have heq := eq_ (headR rs) (hsa.lr _ (by simp))
        have f3 := len_rl (headR rs :: rs.map clr)
        have f4 := len_rl (headR rs :: ls)
        rw [hla] at f3
        rw [hlb] at f4
        generalize hLA : headR rs :: rs.map clr = la at *
        generalize hLB : headR rs :: ls = lb at *
        have f1 : List.take 8 (la.flatMap RlC) = RlC (headR rs) := by rw [← hLA]; rfl
        have f1b : List.take 8 (lb.flatMap RlC) = RlC (headR rs) := by rw [← hLB]; rfl
        generalize hwh : ixs (1 + rs.length) = wh at *
        have hlw : wh.length = 1 + rs.length := by rw [← hwh, ixs_len]
        by_cases he : (atomsR la wh).2 = 0
        · have hwa := hwa he
          have hwb := hwb he
          rw [hoa he, leaf_ch'] at hB1
          rw [hob he, leaf_ch'] at hB2
          rw [he] at hat
          generalize (atomsR la wh).1 = tb at *
          have hch := fun K h => choose la wh tb K hwa h
          have hcb := fun K h => choose lb wh tb K hwb h
          cases hR1 : bld (chS la wh tb) tb.length 0 0 [] with
          | mk r1 n1 =>
          cases hR2 : bld (chS lb wh tb) tb.length 0 0 [] with
          | mk r2 n2 =>
          rw [hR1] at hB1
          rw [hR2] at hB2
          have g1 := built hwa n1 r1 hR1
          have g2 := built hwb n2 r2 hR2
          have hS2 := Same2 ⟨tb, n1, r1⟩ ⟨tb, n2, r2⟩ (by dsimp only; omega) (by dsimp only; omega) (by dsimp only; omega) (by dsimp only; omega)
          rw [canon_same hwa hwb hR1 hR2] at hS2
          rw [AtS_eq] at hat
          simp only [AtS_eq] at hch hcb
          rw [DgC_eq] at hB1 hB2
          rw [DgC_eq, DgC_eq] at hS2
          rw [RlS_eq, WhS_eq] at hB1 hB2 hat
          simp only [RlS_eq, WhS_eq] at hch hcb
          rw [hla, hlw] at hB1 hat
          rw [hlb, hlw] at hB2
          simp only [hla, hlb, hlw] at hch hcb
          dsimp only at hB1 hB2 hS2
          have hC1 : Pure Try.prog gl _ [.sl 8 (1 + rs.length) (la.flatMap RlC), .osl 102 τ3 1 (1 + rs.length) (wh.map (LV.int .i64))] _ := LCalls.args hB1 ⟨leV.refl _, leV.osl_sl _ _ _ _ _, trivial⟩
          have hC2 : Pure Try.prog gl _ [.sl 8 (1 + rs.length) (lb.flatMap RlC), .osl 102 τ3 1 (1 + rs.length) (wh.map (LV.int .i64))] _ := LCalls.args hB2 ⟨leV.refl _, leV.osl_sl _ _ _ _ _, trivial⟩
          have hC3 : Pure Try.prog gl _ [.sl 8 (1 + rs.length) (la.flatMap RlC), .osl 102 τ3 1 (1 + rs.length) (wh.map (LV.int .i64))] _ := LCalls.args hat ⟨leV.refl _, leV.osl_sl _ _ _ _ _, trivial⟩
          have hp := pow12 htl
          have hlt := len_at tb
          have s1 := shl_one (k := tb.length) (by omega)
          repeat' (first | (simp (disch := first | omega | (simp only [List.length_cons, List.length_nil]; first | done | omega)) only [go_sem, Nat.reduceAdd, Nat.reduceMul, Nat.reduceSub, Nat.reduceEqDiff, Nat.reduceLeDiff, Nat.reduceMod, Nat.reduceLT, Int.reduceToNat, Int.reduceAdd, Int.reduceSub, Int.reduceMul, Int.reduceNeg, Int.reduceLE, Int.reduceLT, Int.toNat_natCast, Int.cast_ofNat_Int, Int.reduceNe, Int.reduceEq, Int.reduceBEq, Int.reduceBNe, not_false_eq_true, ne_eq, Int.reduceTMod, Int.reduceTDiv, beq_self_eq_true, bne_self_eq_false, List.contains_cons, List.contains_nil, Nat.reduceBEq]) | (refine allI (fun b => ?_)) | (refine allT (fun τ => ?_)) | (refine brP (fun h => ?_) (fun h => ?_) <;> (try simp only [Bool.and_eq_true, Bool.and_eq_false_iff, Bool.or_eq_true, Bool.or_eq_false_iff, Bool.not_eq_true', Bool.not_eq_false', decide_eq_true_eq, decide_eq_false_iff_not, beq_iff_eq, beq_eq_false_iff_ne, ne_eq, bne_iff_ne, Int.not_lt, Int.not_le] at h)) | refine call_U (hC1) ?_ | refine callG_U (fun _ => hC1) ?_ | refine call_T (hC1) ?_ | refine callG_T (fun _ => hC1) ?_ | refine call_U (hC2) ?_ | refine callG_U (fun _ => hC2) ?_ | refine call_T (hC2) ?_ | refine callG_T (fun _ => hC2) ?_ | refine call_U (hC3) ?_ | refine callG_U (fun _ => hC3) ?_ | refine call_T (hC3) ?_ | refine callG_T (fun _ => hC3) ?_ | refine call_N (hC1) ?_ | refine call_of (hC1) ?_ | refine callG_of (fun _ => hC1) ?_ | refine call_N (hC2) ?_ | refine call_of (hC2) ?_ | refine callG_of (fun _ => hC2) ?_ | refine call_N (hC3) ?_ | refine call_of (hC3) ?_ | refine callG_of (fun _ => hC3) ?_ | (apply And.intro; focus (first | omega | (simp; done) | (simp +contextual; done) | (intros; and_intros <;> first | assumption | omega) | (intros; simp_all; done) | (intro hgd; refine ⟨hgd, ?_⟩; simp [hgd]; done) | (intro hgd; simp only [beq_eq_false_iff_ne, beq_iff_eq, decide_eq_true_eq, decide_eq_false_iff_not, bne_iff_ne, ne_eq, Bool.and_eq_true, Bool.or_eq_false_iff, Bool.or_eq_true, Bool.and_eq_false_iff] at hgd ⊢; omega))) | fail)
          rename_i b14
          refine loopI (ι := Nat) (fun K => K ≤ 2 ^ tb.length) (fun K => [(21, .int .i64 K), (20, .bool (sameK la lb wh tb K)), (18, .sl 8 tb.length (tb.flatMap AtC)), (16, .ptr 16 b 0), (14, .ptr 14 b14 0), (12, .osl 102 τ3 1 (1 + rs.length) (wh.map (LV.int .i64))), (10, .sl 8 (1 + rs.length) (lb.flatMap RlC)), (9, .sl 8 (1 + rs.length) (la.flatMap RlC))]) (fun _ => [(16, .blk b [.sl 8 tb.length (tb.flatMap AtC), .sl 3 n2.length (n2.flatMap BrC), .int .i64 r2]), (14, .blk b14 [.sl 8 tb.length (tb.flatMap AtC), .sl 3 n1.length (n1.flatMap BrC), .int .i64 r1])]) (fun K => 2 ^ tb.length - K) 0 (Nat.zero_le _) (Ents.sub (by simp [go_sem, sameK]) ⟨_, List.Sublist.cons_cons _ (List.Sublist.cons_cons _ (List.nil_sublist _)), List.Perm.refl _⟩) ?_
          intro K hK
          simp (disch := first | omega | (simp only [List.length_cons, List.length_nil]; first | done | omega)) only [go_sem, Nat.reduceAdd, Nat.reduceMul, Nat.reduceSub, Nat.reduceEqDiff, Nat.reduceLeDiff, Nat.reduceMod, Nat.reduceLT, Int.reduceToNat, Int.reduceAdd, Int.reduceSub, Int.reduceMul, Int.reduceNeg, Int.reduceLE, Int.reduceLT, Int.toNat_natCast, Int.cast_ofNat_Int, Int.reduceNe, Int.reduceEq, Int.reduceBEq, Int.reduceBNe, not_false_eq_true, ne_eq, Int.reduceTMod, Int.reduceTDiv, beq_self_eq_true, bne_self_eq_false, List.contains_cons, List.contains_nil, Nat.reduceBEq, s1]
          refine ⟨by omega, ?_⟩
          refine brP (fun hb1 => ?_) (fun hb1 => ?_)
          · have hKl : K < 2 ^ tb.length := by simp only [decide_eq_true_eq] at hb1; omega
            have hca := hch K (by omega)
            have hcc := hcb K (by omega)
            have hks := sameK_succ la lb wh tb K
            have hD1 : Pure Try.prog gl _ [.sl 8 (1 + rs.length) (la.flatMap RlC), .osl 102 τ3 1 (1 + rs.length) (wh.map (LV.int .i64)), _, _] _ := LCalls.args hca ⟨leV.refl _, leV.osl_sl _ _ _ _ _, leV.refl _, leV.refl _, trivial⟩
            have hD2 : Pure Try.prog gl _ [.sl 8 (1 + rs.length) (lb.flatMap RlC), .osl 102 τ3 1 (1 + rs.length) (wh.map (LV.int .i64)), _, _] _ := LCalls.args hcc ⟨leV.refl _, leV.osl_sl _ _ _ _ _, leV.refl _, leV.refl _, trivial⟩
            generalize chS la wh tb K = ca at *
            generalize chS lb wh tb K = cb at *
            repeat' (first | (simp (disch := first | omega | (simp only [List.length_cons, List.length_nil]; first | done | omega)) only [go_sem, Nat.reduceAdd, Nat.reduceMul, Nat.reduceSub, Nat.reduceEqDiff, Nat.reduceLeDiff, Nat.reduceMod, Nat.reduceLT, Int.reduceToNat, Int.reduceAdd, Int.reduceSub, Int.reduceMul, Int.reduceNeg, Int.reduceLE, Int.reduceLT, Int.toNat_natCast, Int.cast_ofNat_Int, Int.reduceNe, Int.reduceEq, Int.reduceBEq, Int.reduceBNe, not_false_eq_true, ne_eq, Int.reduceTMod, Int.reduceTDiv, beq_self_eq_true, bne_self_eq_false, List.contains_cons, List.contains_nil, Nat.reduceBEq]) | (refine allI (fun b => ?_)) | (refine allT (fun τ => ?_)) | (refine brP (fun h => ?_) (fun h => ?_) <;> (try simp only [Bool.and_eq_true, Bool.and_eq_false_iff, Bool.or_eq_true, Bool.or_eq_false_iff, Bool.not_eq_true', Bool.not_eq_false', decide_eq_true_eq, decide_eq_false_iff_not, beq_iff_eq, beq_eq_false_iff_ne, ne_eq, bne_iff_ne, Int.not_lt, Int.not_le] at h)) | refine call_U (hD1) ?_ | refine callG_U (fun _ => hD1) ?_ | refine call_T (hD1) ?_ | refine callG_T (fun _ => hD1) ?_ | refine call_U (hD2) ?_ | refine callG_U (fun _ => hD2) ?_ | refine call_T (hD2) ?_ | refine callG_T (fun _ => hD2) ?_ | refine call_N (hD1) ?_ | refine call_of (hD1) ?_ | refine callG_of (fun _ => hD1) ?_ | refine call_N (hD2) ?_ | refine call_of (hD2) ?_ | refine callG_of (fun _ => hD2) ?_ | (apply And.intro; focus (first | omega | (simp; done) | (simp +contextual; done) | (intros; and_intros <;> first | assumption | omega) | (intros; simp_all; done) | (intro hgd; refine ⟨hgd, ?_⟩; simp [hgd]; done) | (intro hgd; simp only [beq_eq_false_iff_ne, beq_iff_eq, decide_eq_true_eq, decide_eq_false_iff_not, bne_iff_ne, ne_eq, Bool.and_eq_true, Bool.or_eq_false_iff, Bool.or_eq_true, Bool.and_eq_false_iff] at hgd ⊢; omega))) | fail)
            exact ⟨⟨K + 1, by omega⟩, by dsimp only; omega, Ents.envH (by simp [go_sem, hks]) rfl⟩
          · have hKe : K = 2 ^ tb.length := by simp only [decide_eq_false_iff_not] at hb1; omega
            rw [← hKe] at hS2
            generalize sameK la lb wh tb K = sk at *
            repeat' (first | (simp (disch := first | omega | (simp only [List.length_cons, List.length_nil]; first | done | omega)) only [go_sem, Nat.reduceAdd, Nat.reduceMul, Nat.reduceSub, Nat.reduceEqDiff, Nat.reduceLeDiff, Nat.reduceMod, Nat.reduceLT, Int.reduceToNat, Int.reduceAdd, Int.reduceSub, Int.reduceMul, Int.reduceNeg, Int.reduceLE, Int.reduceLT, Int.toNat_natCast, Int.cast_ofNat_Int, Int.reduceNe, Int.reduceEq, Int.reduceBEq, Int.reduceBNe, not_false_eq_true, ne_eq, Int.reduceTMod, Int.reduceTDiv, beq_self_eq_true, bne_self_eq_false, List.contains_cons, List.contains_nil, Nat.reduceBEq, f1, f1b]) | (refine allI (fun b => ?_)) | (refine allT (fun τ => ?_)) | (refine brP (fun h => ?_) (fun h => ?_) <;> (try simp only [Bool.and_eq_true, Bool.and_eq_false_iff, Bool.or_eq_true, Bool.or_eq_false_iff, Bool.not_eq_true', Bool.not_eq_false', decide_eq_true_eq, decide_eq_false_iff_not, beq_iff_eq, beq_eq_false_iff_ne, ne_eq, bne_iff_ne, Int.not_lt, Int.not_le] at h)) | refine call_U (hS2) ?_ | refine callG_U (fun _ => hS2) ?_ | refine call_T (hS2) ?_ | refine callG_T (fun _ => hS2) ?_ | refine call_U (heq) ?_ | refine callG_U (fun _ => heq) ?_ | refine call_T (heq) ?_ | refine callG_T (fun _ => heq) ?_ | refine call_U (awake) ?_ | refine callG_U (fun _ => awake) ?_ | refine call_T (awake) ?_ | refine callG_T (fun _ => awake) ?_ | refine call_N (hS2) ?_ | refine call_of (hS2) ?_ | refine callG_of (fun _ => hS2) ?_ | refine call_N (heq) ?_ | refine call_of (heq) ?_ | refine callG_of (fun _ => heq) ?_ | refine call_N (awake) ?_ | refine call_of (awake) ?_ | refine callG_of (fun _ => awake) ?_ | (apply And.intro; focus (first | omega | (simp; done) | (simp +contextual; done) | (intros; and_intros <;> first | assumption | omega) | (intros; simp_all; done) | (intro hgd; refine ⟨hgd, ?_⟩; simp [hgd]; done) | (intro hgd; simp only [beq_eq_false_iff_ne, beq_iff_eq, decide_eq_true_eq, decide_eq_false_iff_not, bne_iff_ne, ne_eq, Bool.and_eq_true, Bool.or_eq_false_iff, Bool.or_eq_true, Bool.and_eq_false_iff] at hgd ⊢; omega))) | fail)
        · rw [hee he, DgC_eq] at hB1
          rw [heb he, DgC_eq] at hB2
          rw [AtS_eq] at hat
          rw [RlS_eq, WhS_eq] at hB1 hB2 hat
          rw [hla, hlw] at hB1 hat
          rw [hlb, hlw] at hB2
          generalize (atomsR la wh).2 = e at *
          generalize (atomsR la wh).1 = tb at *
          have d1 : (e != 0) = true := by simp [he]
          have hC1 : Pure Try.prog gl _ [.sl 8 (1 + rs.length) (la.flatMap RlC), .osl 102 τ3 1 (1 + rs.length) (wh.map (LV.int .i64))] _ := LCalls.args hB1 ⟨leV.refl _, leV.osl_sl _ _ _ _ _, trivial⟩
          have hC2 : Pure Try.prog gl _ [.sl 8 (1 + rs.length) (lb.flatMap RlC), .osl 102 τ3 1 (1 + rs.length) (wh.map (LV.int .i64))] _ := LCalls.args hB2 ⟨leV.refl _, leV.osl_sl _ _ _ _ _, trivial⟩
          have hC3 : Pure Try.prog gl _ [.sl 8 (1 + rs.length) (la.flatMap RlC), .osl 102 τ3 1 (1 + rs.length) (wh.map (LV.int .i64))] _ := LCalls.args hat ⟨leV.refl _, leV.osl_sl _ _ _ _ _, trivial⟩
          repeat' (first | (simp (disch := first | omega | (simp only [List.length_cons, List.length_nil]; first | done | omega)) only [go_sem, Nat.reduceAdd, Nat.reduceMul, Nat.reduceSub, Nat.reduceEqDiff, Nat.reduceLeDiff, Nat.reduceMod, Nat.reduceLT, Int.reduceToNat, Int.reduceAdd, Int.reduceSub, Int.reduceMul, Int.reduceNeg, Int.reduceLE, Int.reduceLT, Int.toNat_natCast, Int.cast_ofNat_Int, Int.reduceNe, Int.reduceEq, Int.reduceBEq, Int.reduceBNe, not_false_eq_true, ne_eq, Int.reduceTMod, Int.reduceTDiv, beq_self_eq_true, bne_self_eq_false, List.contains_cons, List.contains_nil, Nat.reduceBEq, d1]) | (refine allI (fun b => ?_)) | (refine allT (fun τ => ?_)) | (refine brP (fun h => ?_) (fun h => ?_) <;> (try simp only [Bool.and_eq_true, Bool.and_eq_false_iff, Bool.or_eq_true, Bool.or_eq_false_iff, Bool.not_eq_true', Bool.not_eq_false', decide_eq_true_eq, decide_eq_false_iff_not, beq_iff_eq, beq_eq_false_iff_ne, ne_eq, bne_iff_ne, Int.not_lt, Int.not_le] at h)) | refine call_U (hC1) ?_ | refine callG_U (fun _ => hC1) ?_ | refine call_T (hC1) ?_ | refine callG_T (fun _ => hC1) ?_ | refine call_U (hC2) ?_ | refine callG_U (fun _ => hC2) ?_ | refine call_T (hC2) ?_ | refine callG_T (fun _ => hC2) ?_ | refine call_U (hC3) ?_ | refine callG_U (fun _ => hC3) ?_ | refine call_T (hC3) ?_ | refine callG_T (fun _ => hC3) ?_ | refine call_U (awake) ?_ | refine callG_U (fun _ => awake) ?_ | refine call_T (awake) ?_ | refine callG_T (fun _ => awake) ?_ | refine call_N (hC1) ?_ | refine call_of (hC1) ?_ | refine callG_of (fun _ => hC1) ?_ | refine call_N (hC2) ?_ | refine call_of (hC2) ?_ | refine callG_of (fun _ => hC2) ?_ | refine call_N (hC3) ?_ | refine call_of (hC3) ?_ | refine callG_of (fun _ => hC3) ?_ | refine call_N (awake) ?_ | refine call_of (awake) ?_ | refine callG_of (fun _ => awake) ?_ | (apply And.intro; focus (first | omega | (simp; done) | (simp +contextual; done) | (intros; and_intros <;> first | assumption | omega) | (intros; simp_all; done) | (intro hgd; refine ⟨hgd, ?_⟩; simp [hgd]; done) | (intro hgd; simp only [beq_eq_false_iff_ne, beq_iff_eq, decide_eq_true_eq, decide_eq_false_iff_not, bne_iff_ne, ne_eq, Bool.and_eq_true, Bool.or_eq_false_iff, Bool.or_eq_true, Bool.and_eq_false_iff] at hgd ⊢; omega))) | fail)
          all_goals skip
end Go.Proofs.Ytcngkeeknlloaaa
