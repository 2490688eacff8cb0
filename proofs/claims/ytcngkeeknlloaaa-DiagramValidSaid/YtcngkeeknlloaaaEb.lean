/- Layer 16: the reference's visit and order in general, with the nodes owned and let go. -/
import Derived.Test.YtcngkeeknlloaaaDx
import Derived.Test.YtcngkeeknlloaaaDm
namespace Go.Proofs.Ytcngkeeknlloaaa
open Go Go.Lx
set_option linter.unusedSimpArgs false
set_option linter.unusedVariables false
set_option maxRecDepth 100000
set_option maxHeartbeats 4000000

theorem vis_len (ns : List Br) : ∀ (k : Nat) (r : Int) (out : List Br) (to : List Int), (vis ns k r out to).2.2.length = to.length
  | 0, _, _, _ => rfl
  | k + 1, r, out, to => by
    rw [vis]
    split
    · rfl
    · split
      · rfl
      · dsimp only
        rw [List.length_set, vis_len, vis_len]
theorem map_set (to : List Int) (a : Nat) (v : Int) (h : a < to.length) : (to.map (LV.int .i64)).take a ++ [.int .i64 v] ++ (to.map (LV.int .i64)).drop (a + 1) = (to.set a v).map (LV.int .i64) := by
  rw [List.set_eq_take_append_cons_drop, if_pos h]
  simp
theorem getD_mapI {to : List Int} {a : Nat} (h : a < to.length) : (to.map (LV.int .i64)).getD a .any = .int .i64 (to.getD a (-1)) := by simp [List.getD, h]
theorem toC_toZ (N : Nat) : toC N 0 = (toZ N 0).map (LV.int .i64) := by
  simp [toC, toZ]
def ordS (ns : List Br) (r : Int) : Int × List Br := ((vis ns ns.length r [] (toZ ns.length 0)).1, (vis ns ns.length r [] (toZ ns.length 0)).2.1)
/-- how many are numbered -/
def cnt (to : List Int) : Nat := to.countP fun z => decide (0 ≤ z)
theorem cnt_le (to : List Int) : cnt to ≤ to.length := List.countP_le_length
theorem cnt_set {to : List Int} {a : Nat} {v : Int} (ha : a < to.length) (h : to.getD a (-1) < 0) (hv : 0 ≤ v) : cnt (to.set a v) = cnt to + 1 := by
  induction to generalizing a with
  | nil => simp at ha
  | cons x l ih =>
    cases a with
    | zero =>
      have hx : ¬ 0 ≤ x := by simpa using h
      simp [cnt, hx, hv]
    | succ a =>
      have := ih (a := a) (by simpa using ha) (by simpa using h)
      simp only [cnt, List.set_cons_succ, List.countP_cons] at this ⊢
      omega
theorem cnt_toZ (N : Nat) : cnt (toZ N 0) = 0 := by
  simp [cnt, toZ, List.countP_eq_zero]
/-- nothing above is touched -/
theorem vis_up {ns : List Br} (hd : Down ns) : ∀ (k : Nat) (r : Int) (out : List Br) (to : List Int), r < ns.length → to.length = ns.length → ∀ j : Nat, r < j → (vis ns k r out to).2.2.getD j (-1) = to.getD j (-1)
  | 0, r, out, to, h1, h2, j, hj => rfl
  | k + 1, r, out, to, h1, h2, j, hj => by
    rw [vis]
    split
    · rfl
    · rename_i hn
      split
      · rfl
      · obtain ⟨m, rfl⟩ : ∃ m : Nat, r = (m : Int) := ⟨r.toNat, by omega⟩
        rw [Int.toNat_natCast] at *
        have hdm := hd m (by omega)
        have l1 := vis_len ns k (ns.getD m br0).n out to
        have u1 := vis_up hd k (ns.getD m br0).n out to (by omega) h2 j (by omega)
        generalize vis ns k (ns.getD m br0).n out to = v1 at *
        have l2 := vis_len ns k (ns.getD m br0).y v1.2.1 v1.2.2
        have u2 := vis_up hd k (ns.getD m br0).y v1.2.1 v1.2.2 (by omega) (by omega) j (by omega)
        generalize vis ns k (ns.getD m br0).y v1.2.1 v1.2.2 = v2 at *
        dsimp only
        rw [getD_set (by omega), if_neg (by omega), u2, u1]
theorem vis_cnt {ns : List Br} (hd : Down ns) : ∀ (k : Nat) (r : Int) (out : List Br) (to : List Int), r < ns.length → to.length = ns.length → cnt to = out.length → cnt (vis ns k r out to).2.2 = (vis ns k r out to).2.1.length
  | 0, r, out, to, h1, h2, h3 => h3
  | k + 1, r, out, to, h1, h2, h3 => by
    rw [vis]
    split
    · exact h3
    · rename_i hn
      split
      · exact h3
      · rename_i hno
        obtain ⟨m, rfl⟩ : ∃ m : Nat, r = (m : Int) := ⟨r.toNat, by omega⟩
        rw [Int.toNat_natCast] at *
        have hdm := hd m (by omega)
        have l1 := vis_len ns k (ns.getD m br0).n out to
        have u1 := vis_up hd k (ns.getD m br0).n out to (by omega) h2 m (by omega)
        have c1 := vis_cnt hd k (ns.getD m br0).n out to (by omega) h2 h3
        generalize vis ns k (ns.getD m br0).n out to = v1 at *
        have l2 := vis_len ns k (ns.getD m br0).y v1.2.1 v1.2.2
        have u2 := vis_up hd k (ns.getD m br0).y v1.2.1 v1.2.2 (by omega) (by omega) m (by omega)
        have c2 := vis_cnt hd k (ns.getD m br0).y v1.2.1 v1.2.2 (by omega) (by omega) c1
        generalize vis ns k (ns.getD m br0).y v1.2.1 v1.2.2 = v2 at *
        dsimp only
        rw [cnt_set (by omega) (by omega) (by omega), c2, List.length_append]
        rfl
def Hm (b5 bt bo cap : Nat) (tb : List At) (out : List Br) (to : List Int) : Heap := [(5, .blk b5 [.sl 8 tb.length (tb.flatMap AtC), .msl 48 3 bo 0 out.length cap, .int .i64 0]), (48, .blk bo (Sp (out.flatMap BrC) ((cap - out.length) * 3))), (14, .blk bt (to.map (LV.int .i64)))]
theorem visitM (b5 bt : Nat) (tb : List At) (ns : List Br) (rt : Int) (hl : ns.length ≤ 1000000) (hd : Down ns) : ∀ (f : Nat) (at_ : Int) (out : List Br) (to : List Int) (bo cap : Nat), at_ < f → at_ < ns.length → to.length = ns.length → cnt to = out.length → out.length ≤ cap →
    LCalls Try.prog gl 67 [.agg [.sl 8 tb.length (tb.flatMap AtC), .sl 3 ns.length (ns.flatMap BrC), .int .i64 rt], .ptr 5 b5 0, .msl 14 1 bt 0 ns.length ns.length, .int .i64 at_] (Hm b5 bt bo cap tb out to) fun r H => ∃ bo' cap', (vis ns f at_ out to).2.1.length ≤ cap' ∧ r = .int .i64 (vis ns f at_ out to).1 ∧ H = Hm b5 bt bo' cap' tb (vis ns f at_ out to).2.1 (vis ns f at_ out to).2.2
  | 0, at_, out, to, bo, cap, h1, h2, h3, h4, h5 => by
    refine fn_viewT Try.func67 t67 Try.ntmps67 (by simp) ?_
    have hc : decide (at_ < 0) = true := by simp; omega
    unfold c67 r67
    simp only [Hm, vis]
    repeat' (first | (simp (disch := first | omega | (simp only [List.length_cons, List.length_nil]; first | done | omega)) only [go_sem, Nat.reduceAdd, Nat.reduceMul, Nat.reduceSub, Nat.reduceEqDiff, Nat.reduceLeDiff, Nat.reduceMod, Nat.reduceLT, Int.reduceToNat, Int.reduceAdd, Int.reduceSub, Int.reduceMul, Int.reduceNeg, Int.reduceLE, Int.reduceLT, Int.toNat_natCast, Int.cast_ofNat_Int, Int.reduceNe, Int.reduceEq, Int.reduceBEq, Int.reduceBNe, not_false_eq_true, ne_eq, Int.reduceTMod, Int.reduceTDiv, beq_self_eq_true, bne_self_eq_false, List.contains_cons, List.contains_nil, Nat.reduceBEq, hc]) | (refine allI (fun b => ?_)) | (refine allT (fun τ => ?_)) | (refine brP (fun h => ?_) (fun h => ?_) <;> (try simp only [Bool.and_eq_true, Bool.and_eq_false_iff, Bool.or_eq_true, Bool.or_eq_false_iff, Bool.not_eq_true', Bool.not_eq_false', decide_eq_true_eq, decide_eq_false_iff_not, beq_iff_eq, beq_eq_false_iff_ne, ne_eq, bne_iff_ne, Int.not_lt, Int.not_le] at h)) | (apply And.intro; focus (first | omega | (simp; done) | (simp +contextual; done) | (intros; and_intros <;> first | assumption | omega) | (intros; simp_all; done) | (intro hgd; refine ⟨hgd, ?_⟩; simp [hgd]; done) | (intro hgd; simp only [beq_eq_false_iff_ne, beq_iff_eq, decide_eq_true_eq, decide_eq_false_iff_not, bne_iff_ne, ne_eq, Bool.and_eq_true, Bool.or_eq_false_iff, Bool.or_eq_true, Bool.and_eq_false_iff] at hgd ⊢; omega))) | fail)
    exact ⟨_, _, leVH.of (leV.refl _) ⟨_, List.Sublist.cons _ (List.Sublist.refl _), List.Perm.refl _⟩, bo, cap, h5, rfl, rfl⟩
  | f + 1, at_, out, to, bo, cap, h1, h2, h3, h4, h5 => by
    refine fn_viewT Try.func67 t67 Try.ntmps67 (by simp) ?_
    have hlt : (to.map (LV.int .i64)).length = ns.length := by rw [List.length_map, h3]
    have hlb := len_br ns
    have hle := len_at tb
    by_cases hn : at_ < 0
    · have hc : decide (at_ < 0) = true := by simp; omega
      rw [vis, if_pos hn]
      unfold c67 r67
      simp only [Hm]
      repeat' (first | (simp (disch := first | omega | (simp only [List.length_cons, List.length_nil]; first | done | omega)) only [go_sem, Nat.reduceAdd, Nat.reduceMul, Nat.reduceSub, Nat.reduceEqDiff, Nat.reduceLeDiff, Nat.reduceMod, Nat.reduceLT, Int.reduceToNat, Int.reduceAdd, Int.reduceSub, Int.reduceMul, Int.reduceNeg, Int.reduceLE, Int.reduceLT, Int.toNat_natCast, Int.cast_ofNat_Int, Int.reduceNe, Int.reduceEq, Int.reduceBEq, Int.reduceBNe, not_false_eq_true, ne_eq, Int.reduceTMod, Int.reduceTDiv, beq_self_eq_true, bne_self_eq_false, List.contains_cons, List.contains_nil, Nat.reduceBEq, hc]) | (refine allI (fun b => ?_)) | (refine allT (fun τ => ?_)) | (refine brP (fun h => ?_) (fun h => ?_) <;> (try simp only [Bool.and_eq_true, Bool.and_eq_false_iff, Bool.or_eq_true, Bool.or_eq_false_iff, Bool.not_eq_true', Bool.not_eq_false', decide_eq_true_eq, decide_eq_false_iff_not, beq_iff_eq, beq_eq_false_iff_ne, ne_eq, bne_iff_ne, Int.not_lt, Int.not_le] at h)) | (apply And.intro; focus (first | omega | (simp; done) | (simp +contextual; done) | (intros; and_intros <;> first | assumption | omega) | (intros; simp_all; done) | (intro hgd; refine ⟨hgd, ?_⟩; simp [hgd]; done) | (intro hgd; simp only [beq_eq_false_iff_ne, beq_iff_eq, decide_eq_true_eq, decide_eq_false_iff_not, bne_iff_ne, ne_eq, Bool.and_eq_true, Bool.or_eq_false_iff, Bool.or_eq_true, Bool.and_eq_false_iff] at hgd ⊢; omega))) | fail)
      exact ⟨_, _, leVH.of (leV.refl _) ⟨_, List.Sublist.cons _ (List.Sublist.refl _), List.Perm.refl _⟩, bo, cap, h5, rfl, rfl⟩
    · obtain ⟨a, rfl⟩ : ∃ a : Nat, at_ = (a : Int) := ⟨at_.toNat, by omega⟩
      have hc : decide ((a : Int) < 0) = false := by simp
      have ha : a < ns.length := by omega
      have g0 := getD_mapI (to := to) (a := a) (by omega)
      by_cases hax : 0 ≤ to.getD a (-1)
      · have hc2 : decide (0 ≤ to.getD a (-1)) = true := decide_eq_true hax
        rw [vis, if_neg hn, Int.toNat_natCast, if_pos hax]
        generalize to.getD a (-1) = z at *
        unfold c67 r67
        simp only [Hm]
        repeat' (first | (simp (disch := first | omega | (simp only [List.length_cons, List.length_nil]; first | done | omega)) only [go_sem, Nat.reduceAdd, Nat.reduceMul, Nat.reduceSub, Nat.reduceEqDiff, Nat.reduceLeDiff, Nat.reduceMod, Nat.reduceLT, Int.reduceToNat, Int.reduceAdd, Int.reduceSub, Int.reduceMul, Int.reduceNeg, Int.reduceLE, Int.reduceLT, Int.toNat_natCast, Int.cast_ofNat_Int, Int.reduceNe, Int.reduceEq, Int.reduceBEq, Int.reduceBNe, not_false_eq_true, ne_eq, Int.reduceTMod, Int.reduceTDiv, beq_self_eq_true, bne_self_eq_false, List.contains_cons, List.contains_nil, Nat.reduceBEq, hc, g0, hc2, Nat.mul_one, Nat.zero_add]) | (refine allI (fun b => ?_)) | (refine allT (fun τ => ?_)) | (refine brP (fun h => ?_) (fun h => ?_) <;> (try simp only [Bool.and_eq_true, Bool.and_eq_false_iff, Bool.or_eq_true, Bool.or_eq_false_iff, Bool.not_eq_true', Bool.not_eq_false', decide_eq_true_eq, decide_eq_false_iff_not, beq_iff_eq, beq_eq_false_iff_ne, ne_eq, bne_iff_ne, Int.not_lt, Int.not_le] at h)) | (apply And.intro; focus (first | omega | (simp; done) | (simp +contextual; done) | (intros; and_intros <;> first | assumption | omega) | (intros; simp_all; done) | (intro hgd; refine ⟨hgd, ?_⟩; simp [hgd]; done) | (intro hgd; simp only [beq_eq_false_iff_ne, beq_iff_eq, decide_eq_true_eq, decide_eq_false_iff_not, bne_iff_ne, ne_eq, Bool.and_eq_true, Bool.or_eq_false_iff, Bool.or_eq_true, Bool.and_eq_false_iff] at hgd ⊢; omega))) | fail)
        exact ⟨_, _, leVH.of (leV.refl _) ⟨_, List.Sublist.cons _ (List.Sublist.refl _), List.Perm.refl _⟩, bo, cap, h5, rfl, rfl⟩
      · have hc2 : decide (0 ≤ to.getD a (-1)) = false := decide_eq_false hax
        have hq := hd a ha
        have e3 : ((ns.flatMap BrC).drop (a * 3)).take 3 = BrC (ns.getD a br0) := take_rows (f := BrC) (fun _ => rfl) br0 _ ha
        rw [vis, if_neg hn, Int.toNat_natCast, if_neg hax]
        have c1 := visitM b5 bt tb ns rt hl hd f (ns.getD a br0).n out to bo cap (by omega) (by omega) h3 h4 h5
        have l1 := vis_len ns f (ns.getD a br0).n out to
        have k1 := vis_cnt hd f (ns.getD a br0).n out to (by omega) h3 h4
        generalize vis ns f (ns.getD a br0).n out to = v1 at *
        have c2 := fun bo' cap' hh => visitM b5 bt tb ns rt hl hd f (ns.getD a br0).y v1.2.1 v1.2.2 bo' cap' (by omega) (by omega) (by omega) k1 hh
        have l2 := vis_len ns f (ns.getD a br0).y v1.2.1 v1.2.2
        have k2 := vis_cnt hd f (ns.getD a br0).y v1.2.1 v1.2.2 (by omega) (by omega) k1
        generalize vis ns f (ns.getD a br0).y v1.2.1 v1.2.2 = v2 at *
        have k3 := cnt_le v2.2.2
        generalize ns.getD a br0 = q at *
        generalize to.getD a (-1) = z at *
        have hlt1 : (v1.2.2.map (LV.int .i64)).length = ns.length := by rw [List.length_map]; omega
        have hlt2 : (v2.2.2.map (LV.int .i64)).length = ns.length := by rw [List.length_map]; omega
        have hla := len_br v2.2.1
        have g2 := map_set v2.2.2 a (v2.2.1.length : Int) (by omega)
        have hlt3 : ((v2.2.2.set a (v2.2.1.length : Int)).map (LV.int .i64)).length = ns.length := by rw [List.length_map, List.length_set]; omega
        have g1 : ((v2.2.2.set a (v2.2.1.length : Int)).map (LV.int .i64)).getD a .any = .int .i64 v2.2.1.length := by
          rw [getD_mapI (by rw [List.length_set]; omega), getD_set (by omega), if_pos rfl]
        rw [BrC_eq] at e3
        unfold c67 r67
        simp only [Hm] at *
        repeat' (first | (simp (disch := first | omega | (simp only [List.length_cons, List.length_nil]; first | done | omega)) only [go_sem, Nat.reduceAdd, Nat.reduceMul, Nat.reduceSub, Nat.reduceEqDiff, Nat.reduceLeDiff, Nat.reduceMod, Nat.reduceLT, Int.reduceToNat, Int.reduceAdd, Int.reduceSub, Int.reduceMul, Int.reduceNeg, Int.reduceLE, Int.reduceLT, Int.toNat_natCast, Int.cast_ofNat_Int, Int.reduceNe, Int.reduceEq, Int.reduceBEq, Int.reduceBNe, not_false_eq_true, ne_eq, Int.reduceTMod, Int.reduceTDiv, beq_self_eq_true, bne_self_eq_false, List.contains_cons, List.contains_nil, Nat.reduceBEq, hc, g0, hc2, Nat.mul_one, Nat.zero_add, e3, zBr]) | (refine allI (fun b => ?_)) | (refine allT (fun τ => ?_)) | (refine brP (fun h => ?_) (fun h => ?_) <;> (try simp only [Bool.and_eq_true, Bool.and_eq_false_iff, Bool.or_eq_true, Bool.or_eq_false_iff, Bool.not_eq_true', Bool.not_eq_false', decide_eq_true_eq, decide_eq_false_iff_not, beq_iff_eq, beq_eq_false_iff_ne, ne_eq, bne_iff_ne, Int.not_lt, Int.not_le] at h)) | (apply And.intro; focus (first | omega | (simp; done) | (simp +contextual; done) | (intros; and_intros <;> first | assumption | omega) | (intros; simp_all; done) | (intro hgd; refine ⟨hgd, ?_⟩; simp [hgd]; done) | (intro hgd; simp only [beq_eq_false_iff_ne, beq_iff_eq, decide_eq_true_eq, decide_eq_false_iff_not, bne_iff_ne, ne_eq, Bool.and_eq_true, Bool.or_eq_false_iff, Bool.or_eq_true, Bool.and_eq_false_iff] at hgd ⊢; omega))) | fail)
        first | refine actsQ_U (c1) (pick_perm rfl (pick_perm rfl (pick_perm rfl (List.Perm.refl _)))) ?_ | refine actsQ_T (c1) (pick_perm rfl (pick_perm rfl (pick_perm rfl (List.Perm.refl _)))) ?_ | refine actsQ_N (c1) (pick_perm rfl (pick_perm rfl (pick_perm rfl (List.Perm.refl _)))) ?_ | refine actsQ_of (c1) (pick_perm rfl (pick_perm rfl (pick_perm rfl (List.Perm.refl _)))) ?_
        rintro _ _ ⟨bo1, cap1, hb1, rfl, rfl⟩
        repeat' (first | (simp (disch := first | omega | (simp only [List.length_cons, List.length_nil]; first | done | omega)) only [go_sem, Nat.reduceAdd, Nat.reduceMul, Nat.reduceSub, Nat.reduceEqDiff, Nat.reduceLeDiff, Nat.reduceMod, Nat.reduceLT, Int.reduceToNat, Int.reduceAdd, Int.reduceSub, Int.reduceMul, Int.reduceNeg, Int.reduceLE, Int.reduceLT, Int.toNat_natCast, Int.cast_ofNat_Int, Int.reduceNe, Int.reduceEq, Int.reduceBEq, Int.reduceBNe, not_false_eq_true, ne_eq, Int.reduceTMod, Int.reduceTDiv, beq_self_eq_true, bne_self_eq_false, List.contains_cons, List.contains_nil, Nat.reduceBEq]) | (refine allI (fun b => ?_)) | (refine allT (fun τ => ?_)) | (refine brP (fun h => ?_) (fun h => ?_) <;> (try simp only [Bool.and_eq_true, Bool.and_eq_false_iff, Bool.or_eq_true, Bool.or_eq_false_iff, Bool.not_eq_true', Bool.not_eq_false', decide_eq_true_eq, decide_eq_false_iff_not, beq_iff_eq, beq_eq_false_iff_ne, ne_eq, bne_iff_ne, Int.not_lt, Int.not_le] at h)) | (apply And.intro; focus (first | omega | (simp; done) | (simp +contextual; done) | (intros; and_intros <;> first | assumption | omega) | (intros; simp_all; done) | (intro hgd; refine ⟨hgd, ?_⟩; simp [hgd]; done) | (intro hgd; simp only [beq_eq_false_iff_ne, beq_iff_eq, decide_eq_true_eq, decide_eq_false_iff_not, bne_iff_ne, ne_eq, Bool.and_eq_true, Bool.or_eq_false_iff, Bool.or_eq_true, Bool.and_eq_false_iff] at hgd ⊢; omega))) | fail)
        first | refine actsQ_U (c2 bo1 cap1 hb1) (pick_perm rfl (pick_perm rfl (pick_perm rfl (List.Perm.refl _)))) ?_ | refine actsQ_T (c2 bo1 cap1 hb1) (pick_perm rfl (pick_perm rfl (pick_perm rfl (List.Perm.refl _)))) ?_ | refine actsQ_N (c2 bo1 cap1 hb1) (pick_perm rfl (pick_perm rfl (pick_perm rfl (List.Perm.refl _)))) ?_ | refine actsQ_of (c2 bo1 cap1 hb1) (pick_perm rfl (pick_perm rfl (pick_perm rfl (List.Perm.refl _)))) ?_
        rintro _ _ ⟨bo2, cap2, hb2, rfl, rfl⟩
        repeat' (first | (simp (disch := first | omega | (simp only [List.length_cons, List.length_nil]; first | done | omega)) only [go_sem, Nat.reduceAdd, Nat.reduceMul, Nat.reduceSub, Nat.reduceEqDiff, Nat.reduceLeDiff, Nat.reduceMod, Nat.reduceLT, Int.reduceToNat, Int.reduceAdd, Int.reduceSub, Int.reduceMul, Int.reduceNeg, Int.reduceLE, Int.reduceLT, Int.toNat_natCast, Int.cast_ofNat_Int, Int.reduceNe, Int.reduceEq, Int.reduceBEq, Int.reduceBNe, not_false_eq_true, ne_eq, Int.reduceTMod, Int.reduceTDiv, beq_self_eq_true, bne_self_eq_false, List.contains_cons, List.contains_nil, Nat.reduceBEq, zBr, Nat.mul_one, Nat.zero_add]) | (refine allI (fun b => ?_)) | (refine allT (fun τ => ?_)) | (refine brP (fun h => ?_) (fun h => ?_) <;> (try simp only [Bool.and_eq_true, Bool.and_eq_false_iff, Bool.or_eq_true, Bool.or_eq_false_iff, Bool.not_eq_true', Bool.not_eq_false', decide_eq_true_eq, decide_eq_false_iff_not, beq_iff_eq, beq_eq_false_iff_ne, ne_eq, bne_iff_ne, Int.not_lt, Int.not_le] at h)) | (apply And.intro; focus (first | omega | (simp; done) | (simp +contextual; done) | (intros; and_intros <;> first | assumption | omega) | (intros; simp_all; done) | (intro hgd; refine ⟨hgd, ?_⟩; simp [hgd]; done) | (intro hgd; simp only [beq_eq_false_iff_ne, beq_iff_eq, decide_eq_true_eq, decide_eq_false_iff_not, bne_iff_ne, ne_eq, Bool.and_eq_true, Bool.or_eq_false_iff, Bool.or_eq_true, Bool.and_eq_false_iff] at hgd ⊢; omega))) | fail)
        refine .inl ⟨by rw [length_Sp]; omega, by rw [length_Sp, hla]; omega, by simp only [roomy]; omega, fun b2 c3 h9 => ?_⟩
        rw [take_Sp _ hla]
        rw [show ((v2.2.1.length + 1 : Nat) : Int) - 1 = (v2.2.1.length : Int) by omega, g2, g1]
        repeat' (first | (simp (disch := first | omega | (simp only [List.length_cons, List.length_nil]; first | done | omega)) only [go_sem, Nat.reduceAdd, Nat.reduceMul, Nat.reduceSub, Nat.reduceEqDiff, Nat.reduceLeDiff, Nat.reduceMod, Nat.reduceLT, Int.reduceToNat, Int.reduceAdd, Int.reduceSub, Int.reduceMul, Int.reduceNeg, Int.reduceLE, Int.reduceLT, Int.toNat_natCast, Int.cast_ofNat_Int, Int.reduceNe, Int.reduceEq, Int.reduceBEq, Int.reduceBNe, not_false_eq_true, ne_eq, Int.reduceTMod, Int.reduceTDiv, beq_self_eq_true, bne_self_eq_false, List.contains_cons, List.contains_nil, Nat.reduceBEq]) | (refine allI (fun b => ?_)) | (refine allT (fun τ => ?_)) | (refine brP (fun h => ?_) (fun h => ?_) <;> (try simp only [Bool.and_eq_true, Bool.and_eq_false_iff, Bool.or_eq_true, Bool.or_eq_false_iff, Bool.not_eq_true', Bool.not_eq_false', decide_eq_true_eq, decide_eq_false_iff_not, beq_iff_eq, beq_eq_false_iff_ne, ne_eq, bne_iff_ne, Int.not_lt, Int.not_le] at h)) | (apply And.intro; focus (first | omega | (simp; done) | (simp +contextual; done) | (intros; and_intros <;> first | assumption | omega) | (intros; simp_all; done) | (intro hgd; refine ⟨hgd, ?_⟩; simp [hgd]; done) | (intro hgd; simp only [beq_eq_false_iff_ne, beq_iff_eq, decide_eq_true_eq, decide_eq_false_iff_not, bne_iff_ne, ne_eq, Bool.and_eq_true, Bool.or_eq_false_iff, Bool.or_eq_true, Bool.and_eq_false_iff] at hgd ⊢; omega))) | fail)
        exact ⟨_, _, leVH.of (leV.refl _) ⟨_, List.Sublist.cons_cons _ (List.Sublist.cons_cons _ (List.Sublist.cons_cons _ (List.Sublist.cons _ (List.Sublist.cons _ List.Sublist.slnil)))), List.Perm.swap _ _ _⟩, b2, c3, by simpa using h9, rfl, by simp [BrC_eq, Sp]⟩
theorem visitM0 (b5 bt : Nat) (tb : List At) (ns : List Br) (rt : Int) (hl : ns.length ≤ 1000000) (hd : Down ns) (r : Int) (hr : r < ns.length) :
    LCalls Try.prog gl 67 [.agg [.sl 8 tb.length (tb.flatMap AtC), .sl 3 ns.length (ns.flatMap BrC), .int .i64 rt], .ptr 5 b5 0, .msl 14 1 bt 0 ns.length ns.length, .int .i64 r] [(5, .blk b5 [.sl 8 tb.length (tb.flatMap AtC), .fsl 1 0 [], .int .i64 0]), (14, .blk bt (toC ns.length 0))] fun r' H => ∃ bo cap, (ordS ns r).2.length ≤ cap ∧ r' = .int .i64 (ordS ns r).1 ∧ H = Hm b5 bt bo cap tb (ordS ns r).2 (vis ns ns.length r [] (toZ ns.length 0)).2.2 := fun w0 M HF w vs hI hv => by
  refine visitM b5 bt tb ns rt hl hd ns.length r [] (toZ ns.length 0) 0 0 hr hr (len_toZ _ _) (cnt_toZ _) (Nat.le_refl _) w0 M HF w vs ?_ hv
  have h2 := (hI.empty 48 0).perm (List.Perm.swap ((5, Ent.blk b5 [.sl 8 tb.length (tb.flatMap AtC), .fsl 1 0 [], .int .i64 0]) : Nat × Ent) _ _)
  rw [toC_toZ] at h2
  refine heapLe.inv (H := [(5, .blk b5 [.sl 8 tb.length (tb.flatMap AtC), .fsl 1 0 [], .int .i64 0]), (48, .blk 0 []), (14, .blk bt ((toZ ns.length 0).map (LV.int .i64)))]) ?_ h2
  dsimp only [Hm, heapLe, entLe]
  exact ⟨⟨rfl, leV.refl _, leV.nil_msl _ _ _, leV.refl _, trivial⟩, ⟨rfl, trivial⟩, ⟨rfl, leVs.refl _⟩, trivial⟩
def OrdQ (tb : List At) (ns : List Br) (r : Int) : LV → Ent → Prop := fun v e => ∃ bo cap, ns.length ≤ cap ∧ v = .agg [.sl 8 tb.length (tb.flatMap AtC), .msl 48 3 bo 0 ns.length cap, .int .i64 r] ∧ e = .blk bo (Sp (ns.flatMap BrC) ((cap - ns.length) * 3))
theorem orderM (tb : List At) (ns : List Br) (rt : Int) (hl : ns.length ≤ 1000000) (hd : Down ns) (r : Int) (hr : r < ns.length) :
    NewsE Try.prog gl 46 [.agg [.sl 8 tb.length (tb.flatMap AtC), .sl 3 ns.length (ns.flatMap BrC), .int .i64 rt], .int .i64 r] 48 (OrdQ tb (ordS ns r).2 (ordS ns r).1) := by
  refine fn_viewT Try.func46 t46 Try.ntmps46 (by simp) ?_
  have hlb := len_br ns
  have hle := len_at tb
  have hz := toI_zero ns.length
  have hvg := fun b5 bt => visitM0 b5 bt tb ns rt hl hd r hr
  generalize ordS ns r = R at *
  unfold c46 r46
  repeat' (first | (simp (disch := first | omega | (simp only [List.length_cons, List.length_nil]; first | done | omega)) only [go_sem, Nat.reduceAdd, Nat.reduceMul, Nat.reduceSub, Nat.reduceEqDiff, Nat.reduceLeDiff, Nat.reduceMod, Nat.reduceLT, Int.reduceToNat, Int.reduceAdd, Int.reduceSub, Int.reduceMul, Int.reduceNeg, Int.reduceLE, Int.reduceLT, Int.toNat_natCast, Int.cast_ofNat_Int, Int.reduceNe, Int.reduceEq, Int.reduceBEq, Int.reduceBNe, not_false_eq_true, ne_eq, Int.reduceTMod, Int.reduceTDiv, beq_self_eq_true, bne_self_eq_false, List.contains_cons, List.contains_nil, Nat.reduceBEq, Nat.mul_one, hz]) | (refine allI (fun b => ?_)) | (refine allT (fun τ => ?_)) | (refine brP (fun h => ?_) (fun h => ?_) <;> (try simp only [Bool.and_eq_true, Bool.and_eq_false_iff, Bool.or_eq_true, Bool.or_eq_false_iff, Bool.not_eq_true', Bool.not_eq_false', decide_eq_true_eq, decide_eq_false_iff_not, beq_iff_eq, beq_eq_false_iff_ne, ne_eq, bne_iff_ne, Int.not_lt, Int.not_le] at h)) | (apply And.intro; focus (first | omega | (simp; done) | (simp +contextual; done) | (intros; and_intros <;> first | assumption | omega) | (intros; simp_all; done) | (intro hgd; refine ⟨hgd, ?_⟩; simp [hgd]; done) | (intro hgd; simp only [beq_eq_false_iff_ne, beq_iff_eq, decide_eq_true_eq, decide_eq_false_iff_not, bne_iff_ne, ne_eq, Bool.and_eq_true, Bool.or_eq_false_iff, Bool.or_eq_true, Bool.and_eq_false_iff] at hgd ⊢; omega))) | fail)
  refine .inr fun bt => ?_
  rename_i b2 b4
  refine loopI (ι := Nat) (fun i => i ≤ ns.length) (fun i => [(7, .int .i64 i), (6, .msl 14 1 bt 0 ns.length ns.length), (5, .ptr 5 b 0), (4, .ptr 4 b4 0), (2, .ptr 2 b2 0), (1, .int .i64 r)]) (fun i => [(14, .blk bt (toI ns.length i)), (5, .blk b [.sl 8 tb.length (tb.flatMap AtC), .fsl 1 0 [], .int .i64 0]), (4, .blk b4 [.fsl 1 0 [], .fsl 1 0 [], .int .i64 0]), (2, .blk b2 [.sl 8 tb.length (tb.flatMap AtC), .sl 3 ns.length (ns.flatMap BrC), .int .i64 rt])]) (fun i => ns.length - i) 0 (by omega) (Ents.envH (by simp [go_sem]) rfl) ?_
  intro i hi
  have hli := len_toI ns.length i
  simp (disch := first | omega | (simp only [List.length_cons, List.length_nil]; first | done | omega)) only [go_sem, Nat.reduceAdd, Nat.reduceMul, Nat.reduceSub, Nat.reduceEqDiff, Nat.reduceLeDiff, Nat.reduceMod, Nat.reduceLT, Int.reduceToNat, Int.reduceAdd, Int.reduceSub, Int.reduceMul, Int.reduceNeg, Int.reduceLE, Int.reduceLT, Int.toNat_natCast, Int.cast_ofNat_Int, Int.reduceNe, Int.reduceEq, Int.reduceBEq, Int.reduceBNe, not_false_eq_true, ne_eq, Int.reduceTMod, Int.reduceTDiv, beq_self_eq_true, bne_self_eq_false, List.contains_cons, List.contains_nil, Nat.reduceBEq]
  refine brP (fun hb => ?_) (fun hb => ?_)
  · have hlt : i < ns.length := by simpa using hb
    have hs := toI_set hlt
    repeat' (first | (simp (disch := first | omega | (simp only [List.length_cons, List.length_nil]; first | done | omega)) only [go_sem, Nat.reduceAdd, Nat.reduceMul, Nat.reduceSub, Nat.reduceEqDiff, Nat.reduceLeDiff, Nat.reduceMod, Nat.reduceLT, Int.reduceToNat, Int.reduceAdd, Int.reduceSub, Int.reduceMul, Int.reduceNeg, Int.reduceLE, Int.reduceLT, Int.toNat_natCast, Int.cast_ofNat_Int, Int.reduceNe, Int.reduceEq, Int.reduceBEq, Int.reduceBNe, not_false_eq_true, ne_eq, Int.reduceTMod, Int.reduceTDiv, beq_self_eq_true, bne_self_eq_false, List.contains_cons, List.contains_nil, Nat.reduceBEq, Nat.mul_one, Nat.zero_add]) | (refine allI (fun b => ?_)) | (refine allT (fun τ => ?_)) | (refine brP (fun h => ?_) (fun h => ?_) <;> (try simp only [Bool.and_eq_true, Bool.and_eq_false_iff, Bool.or_eq_true, Bool.or_eq_false_iff, Bool.not_eq_true', Bool.not_eq_false', decide_eq_true_eq, decide_eq_false_iff_not, beq_iff_eq, beq_eq_false_iff_ne, ne_eq, bne_iff_ne, Int.not_lt, Int.not_le] at h)) | (apply And.intro; focus (first | omega | (simp; done) | (simp +contextual; done) | (intros; and_intros <;> first | assumption | omega) | (intros; simp_all; done) | (intro hgd; refine ⟨hgd, ?_⟩; simp [hgd]; done) | (intro hgd; simp only [beq_eq_false_iff_ne, beq_iff_eq, decide_eq_true_eq, decide_eq_false_iff_not, bne_iff_ne, ne_eq, Bool.and_eq_true, Bool.or_eq_false_iff, Bool.or_eq_true, Bool.and_eq_false_iff] at hgd ⊢; omega))) | fail)
    exact ⟨⟨i + 1, by omega⟩, by dsimp only; omega, Ents.envH (by simp [go_sem]) (by rw [hs])⟩
  · have hie : i = ns.length := by simp only [decide_eq_false_iff_not] at hb; omega
    subst hie
    have hta := toI_all ns.length
    rw [hta]
    repeat' (first | (simp (disch := first | omega | (simp only [List.length_cons, List.length_nil]; first | done | omega)) only [go_sem, Nat.reduceAdd, Nat.reduceMul, Nat.reduceSub, Nat.reduceEqDiff, Nat.reduceLeDiff, Nat.reduceMod, Nat.reduceLT, Int.reduceToNat, Int.reduceAdd, Int.reduceSub, Int.reduceMul, Int.reduceNeg, Int.reduceLE, Int.reduceLT, Int.toNat_natCast, Int.cast_ofNat_Int, Int.reduceNe, Int.reduceEq, Int.reduceBEq, Int.reduceBNe, not_false_eq_true, ne_eq, Int.reduceTMod, Int.reduceTDiv, beq_self_eq_true, bne_self_eq_false, List.contains_cons, List.contains_nil, Nat.reduceBEq]) | (refine allI (fun b => ?_)) | (refine allT (fun τ => ?_)) | (refine brP (fun h => ?_) (fun h => ?_) <;> (try simp only [Bool.and_eq_true, Bool.and_eq_false_iff, Bool.or_eq_true, Bool.or_eq_false_iff, Bool.not_eq_true', Bool.not_eq_false', decide_eq_true_eq, decide_eq_false_iff_not, beq_iff_eq, beq_eq_false_iff_ne, ne_eq, bne_iff_ne, Int.not_lt, Int.not_le] at h)) | (apply And.intro; focus (first | omega | (simp; done) | (simp +contextual; done) | (intros; and_intros <;> first | assumption | omega) | (intros; simp_all; done) | (intro hgd; refine ⟨hgd, ?_⟩; simp [hgd]; done) | (intro hgd; simp only [beq_eq_false_iff_ne, beq_iff_eq, decide_eq_true_eq, decide_eq_false_iff_not, bne_iff_ne, ne_eq, Bool.and_eq_true, Bool.or_eq_false_iff, Bool.or_eq_true, Bool.and_eq_false_iff] at hgd ⊢; omega))) | fail)
    first | refine actsQ_U (hvg b bt) (pick_perm rfl (pick_perm rfl (List.Perm.refl _))) ?_ | refine actsQ_T (hvg b bt) (pick_perm rfl (pick_perm rfl (List.Perm.refl _))) ?_ | refine actsQ_N (hvg b bt) (pick_perm rfl (pick_perm rfl (List.Perm.refl _))) ?_ | refine actsQ_of (hvg b bt) (pick_perm rfl (pick_perm rfl (List.Perm.refl _))) ?_
    rintro _ _ ⟨bo, cap, hcap, rfl, rfl⟩
    simp only [Hm]
    repeat' (first | (simp (disch := first | omega | (simp only [List.length_cons, List.length_nil]; first | done | omega)) only [go_sem, Nat.reduceAdd, Nat.reduceMul, Nat.reduceSub, Nat.reduceEqDiff, Nat.reduceLeDiff, Nat.reduceMod, Nat.reduceLT, Int.reduceToNat, Int.reduceAdd, Int.reduceSub, Int.reduceMul, Int.reduceNeg, Int.reduceLE, Int.reduceLT, Int.toNat_natCast, Int.cast_ofNat_Int, Int.reduceNe, Int.reduceEq, Int.reduceBEq, Int.reduceBNe, not_false_eq_true, ne_eq, Int.reduceTMod, Int.reduceTDiv, beq_self_eq_true, bne_self_eq_false, List.contains_cons, List.contains_nil, Nat.reduceBEq]) | (refine allI (fun b => ?_)) | (refine allT (fun τ => ?_)) | (refine brP (fun h => ?_) (fun h => ?_) <;> (try simp only [Bool.and_eq_true, Bool.and_eq_false_iff, Bool.or_eq_true, Bool.or_eq_false_iff, Bool.not_eq_true', Bool.not_eq_false', decide_eq_true_eq, decide_eq_false_iff_not, beq_iff_eq, beq_eq_false_iff_ne, ne_eq, bne_iff_ne, Int.not_lt, Int.not_le] at h)) | (apply And.intro; focus (first | omega | (simp; done) | (simp +contextual; done) | (intros; and_intros <;> first | assumption | omega) | (intros; simp_all; done) | (intro hgd; refine ⟨hgd, ?_⟩; simp [hgd]; done) | (intro hgd; simp only [beq_eq_false_iff_ne, beq_iff_eq, decide_eq_true_eq, decide_eq_false_iff_not, bne_iff_ne, ne_eq, Bool.and_eq_true, Bool.or_eq_false_iff, Bool.or_eq_true, Bool.and_eq_false_iff] at hgd ⊢; omega))) | fail)
    refine ⟨_, _, leVH.of (leV.refl _) ⟨[(48, .blk bo (Sp (R.2.flatMap BrC) ((cap - R.2.length) * 3)))], ?_, List.Perm.refl _⟩, _, rfl, bo, cap, hcap, rfl, rfl⟩
    exact List.Sublist.cons _ (List.Sublist.cons_cons _ (List.Sublist.cons _ (List.Sublist.cons _ (List.Sublist.cons _ List.Sublist.slnil))))
/-- a call whose thing is made known to all -/
theorem NewsE.pure {f : FuncId} {args : List LV} {id : Nat} {Q : LV → Ent → Prop} {r' : LV} (h : NewsE Try.prog gl f args id Q) (hq : ∀ r e, Q r e → leVH gl r [(id, e)] r' []) : Pure Try.prog gl f args r' :=
  fun w0 M HF w vs hI hv => (h w0 M HF w vs hI hv).mono fun _ _ ⟨M', v, r, H', h1, h2, h3, h4, e', h5, h6⟩ => by
    subst h5
    obtain ⟨M2, g1, g2, g3⟩ := hq r e' h6 w0 M' HF _ v h4 h3
    exact ⟨M2, v, r', [], h1.trans g1, h2, g2, g3, rfl, rfl⟩
theorem OrdQ.pub {tb : List At} {ns : List Br} {r : Int} {v : LV} {e : Ent} (h : OrdQ tb ns r v e) : leVH gl v [(48, e)] (.agg [.sl 8 tb.length (tb.flatMap AtC), .sl 3 ns.length (ns.flatMap BrC), .int .i64 r]) [] := by
  obtain ⟨bo, cap, h1, rfl, rfl⟩ := h
  have hlb := len_br ns
  refine leVH.pub 48 rfl ?_ (leVH.of ?_ ⟨[], List.Sublist.slnil, List.Perm.refl _⟩)
  · simp only [pubV, pubA, pubCs, pubC, if_true]
    exact ⟨trivial, ⟨trivial, by rw [length_Sp]; omega, h1⟩, trivial, trivial⟩
  · simp only [pubV, pubA, pubCs, pubC, if_true]
    exact leV.of_eq (by rw [sp_take _ hlb])
theorem orderP (tb : List At) (ns : List Br) (rt : Int) (hl : ns.length ≤ 1000000) (hd : Down ns) (r : Int) (hr : r < ns.length) :
    Pure Try.prog gl 46 [.agg [.sl 8 tb.length (tb.flatMap AtC), .sl 3 ns.length (ns.flatMap BrC), .int .i64 rt], .int .i64 r] (.agg [.sl 8 tb.length (tb.flatMap AtC), .sl 3 (ordS ns r).2.length ((ordS ns r).2.flatMap BrC), .int .i64 (ordS ns r).1]) :=
  NewsE.pure (orderM tb ns rt hl hd r hr) fun _ _ h => h.pub
end Go.Proofs.Ytcngkeeknlloaaa
