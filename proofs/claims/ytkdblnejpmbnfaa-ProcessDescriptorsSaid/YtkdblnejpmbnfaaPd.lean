/- Layer 9: what changes a process. -/
import Derived.Test.YtkdblnejpmbnfaaPc
namespace Go.Proofs.Ytkdblnejpmbnfaa
open Go Go.Lx
set_option linter.unusedSimpArgs false
set_option linter.unusedVariables false
set_option maxRecDepth 100000
set_option maxHeartbeats 4000000

/-- one cell is set -/
def putC (cs : List LV) (o : Nat) (v : LV) : List LV := cs.take o ++ [v] ++ cs.drop (o + 1)
theorem putC_eq (cs : List LV) (o : Nat) (v : LV) : cs.take o ++ [v] ++ cs.drop (o + 1) = putC cs o v := Eq.trans rfl rfl
theorem putC_set {cs : List LV} {o : Nat} (v : LV) (h : o < cs.length) : putC cs o v = cs.set o v := by
  rw [putC, List.set_eq_take_append_cons_drop, if_pos h]; simp
theorem putC_len {cs : List LV} {o : Nat} (v : LV) (h : o < cs.length) : (putC cs o v).length = cs.length := by rw [putC_set v h, List.length_set]
theorem putC_ne {cs : List LV} {o i : Nat} (v : LV) (h : o < cs.length) (hn : o ≠ i) : (putC cs o v).getD i .any = cs.getD i .any := by
  rw [putC_set v h]; simp [List.getD, List.getElem?_set_ne hn]
theorem putC_Sp {cs : List LV} {o k : Nat} (v : LV) (h : o < cs.length) : putC (Sp cs k) o v = Sp (putC cs o v) k := by
  rw [putC_set v (by rw [length_Sp]; omega), putC_set v h, Sp, Sp, List.set_append_left _ _ h]
theorem putC_rows {α : Type} {f : α → List LV} {w : Nat} (hw : ∀ x, (f x).length = w) (d x' : α) : ∀ (l : List α) {i j : Nat} (v : LV), i < l.length → j < w → f x' = putC (f (l.getD i d)) j v → putC (l.flatMap f) (i * w + j) v = (l.set i x').flatMap f
  | [], i, j, v, h, _, _ => by simp at h
  | r :: l, 0, j, v, h, hj, he => by
    have hlen := hw r
    simp only [List.getD_cons_zero] at he
    rw [putC_set v (by omega)] at he
    rw [List.flatMap_cons, Nat.zero_mul, Nat.zero_add, putC_set v (by rw [List.length_append]; omega), List.set_append_left _ _ (by omega), List.set_cons_zero, List.flatMap_cons, he]
  | r :: l, i + 1, j, v, h, hj, he => by
    have hlen := hw r
    have h' : i < l.length := by simpa using h
    have ih := putC_rows hw d x' l (i := i) (j := j) v h' hj (by simpa using he)
    have hll := length_rows hw l
    have hin : i * w + j < (l.flatMap f).length := by
      rw [hll]
      have : (i + 1) * w ≤ l.length * w := Nat.mul_le_mul_right w h'
      rw [Nat.add_mul] at this; omega
    rw [putC_set v hin] at ih
    rw [List.flatMap_cons, List.set_cons_succ, List.flatMap_cons, ← ih, putC_set v (by rw [List.length_append, Nat.add_mul]; omega), List.set_append_right _ _ (by rw [Nat.add_mul]; omega)]
    congr 2
    rw [Nat.add_mul]; omega
def idB (n : Int) : Bool := decide (0 ≤ n ∧ n < 4294967295)
theorem ident (n : Int) : Pure Try.prog gl 38 [.int .i64 n] (.bool (idB n)) := by
  refine fn_pureT Try.func38 t38 Try.ntmps38 (by simp) ?_
  unfold c38 r38
  repeat' (first | (simp (disch := first | omega | (simp only [List.length_cons, List.length_nil]; first | done | omega)) only [go_sem, Nat.reduceAdd, Nat.reduceMul, Nat.reduceSub, Nat.reduceEqDiff, Nat.reduceLeDiff, Nat.reduceMod, Nat.reduceLT, Int.reduceToNat, Int.reduceAdd, Int.reduceSub, Int.reduceMul, Int.reduceNeg, Int.reduceLE, Int.reduceLT, Int.toNat_natCast, Int.cast_ofNat_Int, Int.reduceNe, Int.reduceEq, Int.reduceBEq, Int.reduceBNe, not_false_eq_true, ne_eq, Int.reduceTMod, Int.reduceTDiv, beq_self_eq_true, bne_self_eq_false, List.contains_cons, List.contains_nil, Nat.reduceBEq]) | (refine allI (fun b => ?_)) | (refine allT (fun τ => ?_)) | (refine brP (fun h => ?_) (fun h => ?_) <;> (try simp only [Bool.and_eq_true, Bool.and_eq_false_iff, Bool.or_eq_true, Bool.or_eq_false_iff, Bool.not_eq_true', Bool.not_eq_false', decide_eq_true_eq, decide_eq_false_iff_not, beq_iff_eq, beq_eq_false_iff_ne, ne_eq, bne_iff_ne, Int.not_lt, Int.not_le] at h)) | (apply And.intro; focus (first | omega | (simp; done) | (simp +contextual; done) | (intros; and_intros <;> first | assumption | omega) | (intros; simp_all; done) | (intro hgd; refine ⟨hgd, ?_⟩; simp [hgd]; done) | (intro hgd; simp only [beq_eq_false_iff_ne, beq_iff_eq, decide_eq_true_eq, decide_eq_false_iff_not, bne_iff_ne, ne_eq, Bool.and_eq_true, Bool.or_eq_false_iff, Bool.or_eq_true, Bool.and_eq_false_iff] at hgd ⊢; omega))) | fail)
  simp [idB, Bool.decide_and]
def becR (u : Int) (pr : Bool) (x y : Int) : Int × Int × Int := if idB u = false then (22, x, y) else if pr = true then (0, u, u) else if u = x ∨ u = y then (0, x, u) else (1, x, y)
theorem become (u : Int) (pr : Bool) (b o1 o2 : Nat) (cs : List LV) (x y : Int) (h1 : cs.getD o1 .any = .int .i64 x) (h2 : cs.getD o2 .any = .int .i64 y) (hl : o1 < cs.length ∧ o2 < cs.length) (hn : o1 ≠ o2) :
    Acts Try.prog gl 35 [.int .i64 u, .bool pr, .ptr 6000 b o1, .ptr 6000 b o2] [(6000, .blk b cs)] (.int .i64 (becR u pr x y).1) [(6000, .blk b (putC (putC cs o1 (.int .i64 (becR u pr x y).2.1)) o2 (.int .i64 (becR u pr x y).2.2)))] := by
  refine fn_actsT Try.func35 t35 Try.ntmps35 (by simp) ?_
  obtain ⟨hl1, hl2⟩ := hl
  have hR : becR u pr x y = if idB u = false then (22, x, y) else if pr = true then (0, u, u) else if u = x ∨ u = y then (0, x, u) else (1, x, y) := rfl
  have hp : putC cs o1 (.int .i64 x) = cs := by
    rw [putC_set _ hl1, ← h1]
    simp [List.getD, hl1]
  have hq : putC cs o2 (.int .i64 y) = cs := by
    rw [putC_set _ hl2, ← h2]
    simp [List.getD, hl2]
  unfold c35 r35
  repeat' (first | (simp (disch := first | omega | (simp only [List.length_cons, List.length_nil]; first | done | omega)) only [go_sem, Nat.reduceAdd, Nat.reduceMul, Nat.reduceSub, Nat.reduceEqDiff, Nat.reduceLeDiff, Nat.reduceMod, Nat.reduceLT, Int.reduceToNat, Int.reduceAdd, Int.reduceSub, Int.reduceMul, Int.reduceNeg, Int.reduceLE, Int.reduceLT, Int.toNat_natCast, Int.cast_ofNat_Int, Int.reduceNe, Int.reduceEq, Int.reduceBEq, Int.reduceBNe, not_false_eq_true, ne_eq, Int.reduceTMod, Int.reduceTDiv, beq_self_eq_true, bne_self_eq_false, List.contains_cons, List.contains_nil, Nat.reduceBEq, h1, h2, putC_eq, putC_len]) | (refine allI (fun b => ?_)) | (refine allT (fun τ => ?_)) | (refine brP (fun h => ?_) (fun h => ?_) <;> (try simp only [Bool.and_eq_true, Bool.and_eq_false_iff, Bool.or_eq_true, Bool.or_eq_false_iff, Bool.not_eq_true', Bool.not_eq_false', decide_eq_true_eq, decide_eq_false_iff_not, beq_iff_eq, beq_eq_false_iff_ne, ne_eq, bne_iff_ne, Int.not_lt, Int.not_le] at h)) | refine call_U (ident _) ?_ | refine callG_U (fun _ => ident _) ?_ | refine call_T (ident _) ?_ | refine callG_T (fun _ => ident _) ?_ | refine call_N (ident _) ?_ | refine call_of (ident _) ?_ | refine callG_of (fun _ => ident _) ?_ | (apply And.intro; focus (first | omega | (simp; done) | (simp +contextual; done) | (intros; and_intros <;> first | assumption | omega) | (intros; simp_all; done) | (intro hgd; refine ⟨hgd, ?_⟩; simp [hgd]; done) | (intro hgd; simp only [beq_eq_false_iff_ne, beq_iff_eq, decide_eq_true_eq, decide_eq_false_iff_not, bne_iff_ne, ne_eq, Bool.and_eq_true, Bool.or_eq_false_iff, Bool.or_eq_true, Bool.and_eq_false_iff] at hgd ⊢; omega))) | fail)
  all_goals first
    | contradiction
    | (rw [hR, if_pos (by assumption)]; dsimp only; rw [hp, hq]; exact acts_end (leV.refl _) (List.Sublist.refl _))
    | (rw [hR, if_neg (by rw [‹idB u = true›]; simp), if_pos (by assumption)]; exact acts_end (leV.refl _) (List.Sublist.refl _))
    | (rw [hR, if_neg (by rw [‹idB u = true›]; simp), if_neg (by rw [‹pr = false›]; simp), if_pos (.inl (by assumption))]; dsimp only; rw [hp]; exact acts_end (leV.refl _) (List.Sublist.refl _))
    | (rw [hR, if_neg (by rw [‹idB u = true›]; simp), if_neg (by rw [‹pr = false›]; simp), if_pos (.inr (by assumption))]; dsimp only; rw [hp]; exact acts_end (leV.refl _) (List.Sublist.refl _))
    | (rw [hR, if_neg (by rw [‹idB u = true›]; simp), if_neg (by rw [‹pr = false›]; simp), if_neg (not_or.2 ⟨by assumption, by assumption⟩)]; dsimp only; rw [hp, hq]; exact acts_end (leV.refl _) (List.Sublist.refl _))
/-- the i-th process is changed -/
def setP (t : Tb) (i : Nat) (p : Ps) : Tb := { t with ps := t.ps.set i p }
def pAt (t : Tb) (i : Nat) : Ps := t.ps.getD i ps0
def suP (u : Int) (p : Ps) : Int × Ps := ((becR u (p.euid == 0) p.uid p.euid).1, { p with uid := (becR u (p.euid == 0) p.uid p.euid).2.1, euid := (becR u (p.euid == 0) p.uid p.euid).2.2 })
def suG (u : Int) (t : Tb) (i : Nat) : Int × Tb := ((suP u (pAt t i)).1, setP t i (suP u (pAt t i)).2)
theorem gdSp {l : List Ps} {i j k : Nat} (h : i < l.length) (hj : j < 14) : (Sp (l.flatMap PsC) k).getD (i * 14 + j) .any = (PsC (l.getD i ps0)).getD j .any := by
  have e := take_rows (f := PsC) (w := 14) (fun _ => rfl) ps0 l h
  have hle := len_ps l
  have : (i + 1) * 14 ≤ l.length * 14 := Nat.mul_le_mul_right 14 h
  rw [← e, Sp]
  simp only [List.getD_eq_getElem?_getD]
  rw [List.getElem?_append_left (by omega), List.getElem?_take_of_lt hj, List.getElem?_drop]
theorem rowSet {l : List Ps} {i j k : Nat} {v : LV} (p' : Ps) (h : i < l.length) (hj : j < 14) (he : PsC p' = putC (PsC (l.getD i ps0)) j v) : putC (Sp (l.flatMap PsC) k) (i * 14 + j) v = Sp ((l.set i p').flatMap PsC) k := by
  have hle := len_ps l
  have : (i + 1) * 14 ≤ l.length * 14 := Nat.mul_le_mul_right 14 h
  rw [putC_Sp _ (by omega), putC_rows (f := PsC) (w := 14) (fun _ => rfl) ps0 p' l v h hj he]
theorem rowSet2 {l : List Ps} {i j j2 k : Nat} {v v2 : LV} (p' p2 : Ps) (h : i < l.length) (hj : j < 14) (hj2 : j2 < 14) (he : PsC p' = putC (PsC (l.getD i ps0)) j v) (he2 : PsC p2 = putC (PsC p') j2 v2) : putC (putC (Sp (l.flatMap PsC) k) (i * 14 + j) v) (i * 14 + j2) v2 = Sp ((l.set i p2).flatMap PsC) k := by
  rw [rowSet p' h hj he, rowSet (l := l.set i p') p2 (by simpa using h) hj2 (by rw [he2]; simp [List.getD, h])]
  simp
theorem cl_end {b' c' bt : Nat} {v : LV} {H Hc : Heap} {g : Int × Tb} (h1 : v = .int .i64 g.1) (h2 : g.2.ps.length ≤ c') (hp : ∃ H1 : Heap, H1.Sublist H ∧ H1.Perm (ChH bt g.2 b' c' ++ Hc)) : ∃ r' H', leVH gl v H r' H' ∧ ∃ b' c', g.2.ps.length ≤ c' ∧ r' = .int .i64 g.1 ∧ H' = ChH bt g.2 b' c' ++ Hc := ⟨_, _, leVH.of (leV.of_eq h1) hp, b', c', h2, rfl, rfl⟩
theorem su1 (u : Int) (b4 : Nat) (t : Tb) (i : Nat) (hi : i < t.ps.length) : ClOk 34 [.ptr 5 b4 0] [(5, .blk b4 [.int .i64 u])] t i (suG u t i) := by
  intro bt b c hc
  refine fn_viewT Try.func34 t34 Try.ntmps34 (by simp) ?_
  have hle := len_ps t.ps
  have g2 := gdSp (k := (c - t.ps.length) * 14) hi (j := 2) (by omega)
  have g3 := gdSp (k := (c - t.ps.length) * 14) hi (j := 3) (by omega)
  have hs := length_Sp (t.ps.flatMap PsC) ((c - t.ps.length) * 14)
  rw [PsC_eq] at g2 g3
  simp only [List.getD_cons_zero, List.getD_cons_succ] at g2 g3
  unfold c34 r34 ChH
  simp only [List.cons_append, List.nil_append]
  repeat' (first | (simp (disch := first | omega | (simp only [List.length_cons, List.length_nil]; first | done | omega)) only [go_sem, Nat.reduceAdd, Nat.reduceMul, Nat.reduceSub, Nat.reduceEqDiff, Nat.reduceLeDiff, Nat.reduceMod, Nat.reduceLT, Int.reduceToNat, Int.reduceAdd, Int.reduceSub, Int.reduceMul, Int.reduceNeg, Int.reduceLE, Int.reduceLT, Int.toNat_natCast, Int.cast_ofNat_Int, Int.reduceNe, Int.reduceEq, Int.reduceBEq, Int.reduceBNe, not_false_eq_true, ne_eq, Int.reduceTMod, Int.reduceTDiv, beq_self_eq_true, bne_self_eq_false, List.contains_cons, List.contains_nil, Nat.reduceBEq, g2, g3]) | (refine allI (fun b => ?_)) | (refine allT (fun τ => ?_)) | (refine brP (fun h => ?_) (fun h => ?_) <;> (try simp only [Bool.and_eq_true, Bool.and_eq_false_iff, Bool.or_eq_true, Bool.or_eq_false_iff, Bool.not_eq_true', Bool.not_eq_false', decide_eq_true_eq, decide_eq_false_iff_not, beq_iff_eq, beq_eq_false_iff_ne, ne_eq, bne_iff_ne, Int.not_lt, Int.not_le] at h)) | (apply And.intro; focus (first | omega | (simp; done) | (simp +contextual; done) | (intros; and_intros <;> first | assumption | omega) | (intros; simp_all; done) | (intro hgd; refine ⟨hgd, ?_⟩; simp [hgd]; done) | (intro hgd; simp only [beq_eq_false_iff_ne, beq_iff_eq, decide_eq_true_eq, decide_eq_false_iff_not, bne_iff_ne, ne_eq, Bool.and_eq_true, Bool.or_eq_false_iff, Bool.or_eq_true, Bool.and_eq_false_iff] at hgd ⊢; omega))) | fail)
  first | refine acts_U (become u _ b _ _ _ _ _ g2 g3 ⟨by omega, by omega⟩ (by omega)) (by simp (disch := first | omega | (simp only [List.length_cons, List.length_nil]; first | done | omega)) only [go_sem, Nat.reduceAdd, Nat.reduceMul, Nat.reduceSub, Nat.reduceEqDiff, Nat.reduceLeDiff, Nat.reduceMod, Nat.reduceLT, Int.reduceToNat, Int.reduceAdd, Int.reduceSub, Int.reduceMul, Int.reduceNeg, Int.reduceLE, Int.reduceLT, Int.toNat_natCast, Int.cast_ofNat_Int, Int.reduceNe, Int.reduceEq, Int.reduceBEq, Int.reduceBNe, not_false_eq_true, ne_eq, Int.reduceTMod, Int.reduceTDiv, beq_self_eq_true, bne_self_eq_false, List.contains_cons, List.contains_nil, Nat.reduceBEq]) ?_ | refine acts_T (become u _ b _ _ _ _ _ g2 g3 ⟨by omega, by omega⟩ (by omega)) (by simp (disch := first | omega | (simp only [List.length_cons, List.length_nil]; first | done | omega)) only [go_sem, Nat.reduceAdd, Nat.reduceMul, Nat.reduceSub, Nat.reduceEqDiff, Nat.reduceLeDiff, Nat.reduceMod, Nat.reduceLT, Int.reduceToNat, Int.reduceAdd, Int.reduceSub, Int.reduceMul, Int.reduceNeg, Int.reduceLE, Int.reduceLT, Int.toNat_natCast, Int.cast_ofNat_Int, Int.reduceNe, Int.reduceEq, Int.reduceBEq, Int.reduceBNe, not_false_eq_true, ne_eq, Int.reduceTMod, Int.reduceTDiv, beq_self_eq_true, bne_self_eq_false, List.contains_cons, List.contains_nil, Nat.reduceBEq]) ?_ | refine acts_N (become u _ b _ _ _ _ _ g2 g3 ⟨by omega, by omega⟩ (by omega)) (by simp (disch := first | omega | (simp only [List.length_cons, List.length_nil]; first | done | omega)) only [go_sem, Nat.reduceAdd, Nat.reduceMul, Nat.reduceSub, Nat.reduceEqDiff, Nat.reduceLeDiff, Nat.reduceMod, Nat.reduceLT, Int.reduceToNat, Int.reduceAdd, Int.reduceSub, Int.reduceMul, Int.reduceNeg, Int.reduceLE, Int.reduceLT, Int.toNat_natCast, Int.cast_ofNat_Int, Int.reduceNe, Int.reduceEq, Int.reduceBEq, Int.reduceBNe, not_false_eq_true, ne_eq, Int.reduceTMod, Int.reduceTDiv, beq_self_eq_true, bne_self_eq_false, List.contains_cons, List.contains_nil, Nat.reduceBEq]) ?_ | refine acts_of (H1 := []) (become u _ b _ _ _ _ _ g2 g3 ⟨by omega, by omega⟩ (by omega)) (by simp (disch := first | omega | (simp only [List.length_cons, List.length_nil]; first | done | omega)) only [go_sem, Nat.reduceAdd, Nat.reduceMul, Nat.reduceSub, Nat.reduceEqDiff, Nat.reduceLeDiff, Nat.reduceMod, Nat.reduceLT, Int.reduceToNat, Int.reduceAdd, Int.reduceSub, Int.reduceMul, Int.reduceNeg, Int.reduceLE, Int.reduceLT, Int.toNat_natCast, Int.cast_ofNat_Int, Int.reduceNe, Int.reduceEq, Int.reduceBEq, Int.reduceBNe, not_false_eq_true, ne_eq, Int.reduceTMod, Int.reduceTDiv, beq_self_eq_true, bne_self_eq_false, List.contains_cons, List.contains_nil, Nat.reduceBEq]) ?_
  rw [rowSet2 _ (suP u (pAt t i)).2 hi (by omega) (by omega) (Eq.trans (b := PsC { pAt t i with uid := (suP u (pAt t i)).2.uid }) rfl rfl) (Eq.trans rfl rfl)]
  repeat' (first | (simp (disch := first | omega | (simp only [List.length_cons, List.length_nil]; first | done | omega)) only [go_sem, Nat.reduceAdd, Nat.reduceMul, Nat.reduceSub, Nat.reduceEqDiff, Nat.reduceLeDiff, Nat.reduceMod, Nat.reduceLT, Int.reduceToNat, Int.reduceAdd, Int.reduceSub, Int.reduceMul, Int.reduceNeg, Int.reduceLE, Int.reduceLT, Int.toNat_natCast, Int.cast_ofNat_Int, Int.reduceNe, Int.reduceEq, Int.reduceBEq, Int.reduceBNe, not_false_eq_true, ne_eq, Int.reduceTMod, Int.reduceTDiv, beq_self_eq_true, bne_self_eq_false, List.contains_cons, List.contains_nil, Nat.reduceBEq]) | (refine allI (fun b => ?_)) | (refine allT (fun τ => ?_)) | (refine brP (fun h => ?_) (fun h => ?_) <;> (try simp only [Bool.and_eq_true, Bool.and_eq_false_iff, Bool.or_eq_true, Bool.or_eq_false_iff, Bool.not_eq_true', Bool.not_eq_false', decide_eq_true_eq, decide_eq_false_iff_not, beq_iff_eq, beq_eq_false_iff_ne, ne_eq, bne_iff_ne, Int.not_lt, Int.not_le] at h)) | (apply And.intro; focus (first | omega | (simp; done) | (simp +contextual; done) | (intros; and_intros <;> first | assumption | omega) | (intros; simp_all; done) | (intro hgd; refine ⟨hgd, ?_⟩; simp [hgd]; done) | (intro hgd; simp only [beq_eq_false_iff_ne, beq_iff_eq, decide_eq_true_eq, decide_eq_false_iff_not, bne_iff_ne, ne_eq, Bool.and_eq_true, Bool.or_eq_false_iff, Bool.or_eq_true, Bool.and_eq_false_iff] at hgd ⊢; omega))) | fail)
  refine ⟨_, _, leVH.of (leV.refl _) ⟨_, List.Sublist.refl _, List.Perm.refl _⟩, b, c, ?_, rfl, ?_⟩ <;> simp [suG, setP]
  all_goals omega
def sgP (u : Int) (p : Ps) : Int × Ps := ((becR u (p.euid == 0) p.gid p.egid).1, { p with gid := (becR u (p.euid == 0) p.gid p.egid).2.1, egid := (becR u (p.euid == 0) p.gid p.egid).2.2 })
def sgG (u : Int) (t : Tb) (i : Nat) : Int × Tb := ((sgP u (pAt t i)).1, setP t i (sgP u (pAt t i)).2)
theorem sg1 (u : Int) (b4 : Nat) (t : Tb) (i : Nat) (hi : i < t.ps.length) : ClOk 39 [.ptr 5 b4 0] [(5, .blk b4 [.int .i64 u])] t i (sgG u t i) := by
  intro bt b c hc
  refine fn_viewT Try.func39 t39 Try.ntmps39 (by simp) ?_
  have hle := len_ps t.ps
  have g4 := gdSp (k := (c - t.ps.length) * 14) hi (j := 4) (by omega)
  have g5 := gdSp (k := (c - t.ps.length) * 14) hi (j := 5) (by omega)
  have hs := length_Sp (t.ps.flatMap PsC) ((c - t.ps.length) * 14)
  have g3 := gdSp (k := (c - t.ps.length) * 14) hi (j := 3) (by omega)
  rw [PsC_eq] at g3 g4 g5
  simp only [List.getD_cons_zero, List.getD_cons_succ] at g3 g4 g5
  unfold c39 r39 ChH
  simp only [List.cons_append, List.nil_append]
  repeat' (first | (simp (disch := first | omega | (simp only [List.length_cons, List.length_nil]; first | done | omega)) only [go_sem, Nat.reduceAdd, Nat.reduceMul, Nat.reduceSub, Nat.reduceEqDiff, Nat.reduceLeDiff, Nat.reduceMod, Nat.reduceLT, Int.reduceToNat, Int.reduceAdd, Int.reduceSub, Int.reduceMul, Int.reduceNeg, Int.reduceLE, Int.reduceLT, Int.toNat_natCast, Int.cast_ofNat_Int, Int.reduceNe, Int.reduceEq, Int.reduceBEq, Int.reduceBNe, not_false_eq_true, ne_eq, Int.reduceTMod, Int.reduceTDiv, beq_self_eq_true, bne_self_eq_false, List.contains_cons, List.contains_nil, Nat.reduceBEq, g3, g4, g5]) | (refine allI (fun b => ?_)) | (refine allT (fun τ => ?_)) | (refine brP (fun h => ?_) (fun h => ?_) <;> (try simp only [Bool.and_eq_true, Bool.and_eq_false_iff, Bool.or_eq_true, Bool.or_eq_false_iff, Bool.not_eq_true', Bool.not_eq_false', decide_eq_true_eq, decide_eq_false_iff_not, beq_iff_eq, beq_eq_false_iff_ne, ne_eq, bne_iff_ne, Int.not_lt, Int.not_le] at h)) | (apply And.intro; focus (first | omega | (simp; done) | (simp +contextual; done) | (intros; and_intros <;> first | assumption | omega) | (intros; simp_all; done) | (intro hgd; refine ⟨hgd, ?_⟩; simp [hgd]; done) | (intro hgd; simp only [beq_eq_false_iff_ne, beq_iff_eq, decide_eq_true_eq, decide_eq_false_iff_not, bne_iff_ne, ne_eq, Bool.and_eq_true, Bool.or_eq_false_iff, Bool.or_eq_true, Bool.and_eq_false_iff] at hgd ⊢; omega))) | fail)
  first | refine acts_U (become u _ b _ _ _ _ _ g4 g5 ⟨by omega, by omega⟩ (by omega)) (by simp (disch := first | omega | (simp only [List.length_cons, List.length_nil]; first | done | omega)) only [go_sem, Nat.reduceAdd, Nat.reduceMul, Nat.reduceSub, Nat.reduceEqDiff, Nat.reduceLeDiff, Nat.reduceMod, Nat.reduceLT, Int.reduceToNat, Int.reduceAdd, Int.reduceSub, Int.reduceMul, Int.reduceNeg, Int.reduceLE, Int.reduceLT, Int.toNat_natCast, Int.cast_ofNat_Int, Int.reduceNe, Int.reduceEq, Int.reduceBEq, Int.reduceBNe, not_false_eq_true, ne_eq, Int.reduceTMod, Int.reduceTDiv, beq_self_eq_true, bne_self_eq_false, List.contains_cons, List.contains_nil, Nat.reduceBEq]) ?_ | refine acts_T (become u _ b _ _ _ _ _ g4 g5 ⟨by omega, by omega⟩ (by omega)) (by simp (disch := first | omega | (simp only [List.length_cons, List.length_nil]; first | done | omega)) only [go_sem, Nat.reduceAdd, Nat.reduceMul, Nat.reduceSub, Nat.reduceEqDiff, Nat.reduceLeDiff, Nat.reduceMod, Nat.reduceLT, Int.reduceToNat, Int.reduceAdd, Int.reduceSub, Int.reduceMul, Int.reduceNeg, Int.reduceLE, Int.reduceLT, Int.toNat_natCast, Int.cast_ofNat_Int, Int.reduceNe, Int.reduceEq, Int.reduceBEq, Int.reduceBNe, not_false_eq_true, ne_eq, Int.reduceTMod, Int.reduceTDiv, beq_self_eq_true, bne_self_eq_false, List.contains_cons, List.contains_nil, Nat.reduceBEq]) ?_ | refine acts_N (become u _ b _ _ _ _ _ g4 g5 ⟨by omega, by omega⟩ (by omega)) (by simp (disch := first | omega | (simp only [List.length_cons, List.length_nil]; first | done | omega)) only [go_sem, Nat.reduceAdd, Nat.reduceMul, Nat.reduceSub, Nat.reduceEqDiff, Nat.reduceLeDiff, Nat.reduceMod, Nat.reduceLT, Int.reduceToNat, Int.reduceAdd, Int.reduceSub, Int.reduceMul, Int.reduceNeg, Int.reduceLE, Int.reduceLT, Int.toNat_natCast, Int.cast_ofNat_Int, Int.reduceNe, Int.reduceEq, Int.reduceBEq, Int.reduceBNe, not_false_eq_true, ne_eq, Int.reduceTMod, Int.reduceTDiv, beq_self_eq_true, bne_self_eq_false, List.contains_cons, List.contains_nil, Nat.reduceBEq]) ?_ | refine acts_of (H1 := []) (become u _ b _ _ _ _ _ g4 g5 ⟨by omega, by omega⟩ (by omega)) (by simp (disch := first | omega | (simp only [List.length_cons, List.length_nil]; first | done | omega)) only [go_sem, Nat.reduceAdd, Nat.reduceMul, Nat.reduceSub, Nat.reduceEqDiff, Nat.reduceLeDiff, Nat.reduceMod, Nat.reduceLT, Int.reduceToNat, Int.reduceAdd, Int.reduceSub, Int.reduceMul, Int.reduceNeg, Int.reduceLE, Int.reduceLT, Int.toNat_natCast, Int.cast_ofNat_Int, Int.reduceNe, Int.reduceEq, Int.reduceBEq, Int.reduceBNe, not_false_eq_true, ne_eq, Int.reduceTMod, Int.reduceTDiv, beq_self_eq_true, bne_self_eq_false, List.contains_cons, List.contains_nil, Nat.reduceBEq]) ?_
  rw [rowSet2 _ (sgP u (pAt t i)).2 hi (by omega) (by omega) (Eq.trans (b := PsC { pAt t i with gid := (sgP u (pAt t i)).2.gid }) rfl rfl) (Eq.trans rfl rfl)]
  repeat' (first | (simp (disch := first | omega | (simp only [List.length_cons, List.length_nil]; first | done | omega)) only [go_sem, Nat.reduceAdd, Nat.reduceMul, Nat.reduceSub, Nat.reduceEqDiff, Nat.reduceLeDiff, Nat.reduceMod, Nat.reduceLT, Int.reduceToNat, Int.reduceAdd, Int.reduceSub, Int.reduceMul, Int.reduceNeg, Int.reduceLE, Int.reduceLT, Int.toNat_natCast, Int.cast_ofNat_Int, Int.reduceNe, Int.reduceEq, Int.reduceBEq, Int.reduceBNe, not_false_eq_true, ne_eq, Int.reduceTMod, Int.reduceTDiv, beq_self_eq_true, bne_self_eq_false, List.contains_cons, List.contains_nil, Nat.reduceBEq]) | (refine allI (fun b => ?_)) | (refine allT (fun τ => ?_)) | (refine brP (fun h => ?_) (fun h => ?_) <;> (try simp only [Bool.and_eq_true, Bool.and_eq_false_iff, Bool.or_eq_true, Bool.or_eq_false_iff, Bool.not_eq_true', Bool.not_eq_false', decide_eq_true_eq, decide_eq_false_iff_not, beq_iff_eq, beq_eq_false_iff_ne, ne_eq, bne_iff_ne, Int.not_lt, Int.not_le] at h)) | (apply And.intro; focus (first | omega | (simp; done) | (simp +contextual; done) | (intros; and_intros <;> first | assumption | omega) | (intros; simp_all; done) | (intro hgd; refine ⟨hgd, ?_⟩; simp [hgd]; done) | (intro hgd; simp only [beq_eq_false_iff_ne, beq_iff_eq, decide_eq_true_eq, decide_eq_false_iff_not, bne_iff_ne, ne_eq, Bool.and_eq_true, Bool.or_eq_false_iff, Bool.or_eq_true, Bool.and_eq_false_iff] at hgd ⊢; omega))) | fail)
  refine ⟨_, _, leVH.of (leV.refl _) ⟨_, List.Sublist.refl _, List.Perm.refl _⟩, b, c, ?_, rfl, ?_⟩ <;> simp [sgG, setP]
  all_goals omega
def suR (t : Tb) (pid u : Int) : Int × Tb := chR t pid (suG u t)
theorem su (t : Tb) (pid u : Int) (ht : okT t) : Pure Try.prog gl 12 [TbL t, .int .i64 pid, .int .i64 u] (.tup [TbL (suR t pid u).2, .int .i64 (suR t pid u).1]) := by
  refine fn_pureT Try.func12 t12 Try.ntmps12 (by simp) ?_
  have hF := findI_lt t pid
  unfold c12 r12
  rw [TbL_eq t]
  repeat' (first | (simp (disch := first | omega | (simp only [List.length_cons, List.length_nil]; first | done | omega)) only [go_sem, Nat.reduceAdd, Nat.reduceMul, Nat.reduceSub, Nat.reduceEqDiff, Nat.reduceLeDiff, Nat.reduceMod, Nat.reduceLT, Int.reduceToNat, Int.reduceAdd, Int.reduceSub, Int.reduceMul, Int.reduceNeg, Int.reduceLE, Int.reduceLT, Int.toNat_natCast, Int.cast_ofNat_Int, Int.reduceNe, Int.reduceEq, Int.reduceBEq, Int.reduceBNe, not_false_eq_true, ne_eq, Int.reduceTMod, Int.reduceTDiv, beq_self_eq_true, bne_self_eq_false, List.contains_cons, List.contains_nil, Nat.reduceBEq]) | (refine allI (fun b => ?_)) | (refine allT (fun τ => ?_)) | (refine brP (fun h => ?_) (fun h => ?_) <;> (try simp only [Bool.and_eq_true, Bool.and_eq_false_iff, Bool.or_eq_true, Bool.or_eq_false_iff, Bool.not_eq_true', Bool.not_eq_false', decide_eq_true_eq, decide_eq_false_iff_not, beq_iff_eq, beq_eq_false_iff_ne, ne_eq, bne_iff_ne, Int.not_lt, Int.not_le] at h)) | (apply And.intro; focus (first | omega | (simp; done) | (simp +contextual; done) | (intros; and_intros <;> first | assumption | omega) | (intros; simp_all; done) | (intro hgd; refine ⟨hgd, ?_⟩; simp [hgd]; done) | (intro hgd; simp only [beq_eq_false_iff_ne, beq_iff_eq, decide_eq_true_eq, decide_eq_false_iff_not, bne_iff_ne, ne_eq, Bool.and_eq_true, Bool.or_eq_false_iff, Bool.or_eq_true, Bool.and_eq_false_iff] at hgd ⊢; omega))) | fail)
  rename_i b1 b2
  refine actsP_U (change t pid ht 34 [.ptr 5 b2 0] [(5, _)] (suG u t) (by kernel_rfl) fun i hi => su1 u b2 t i (by omega)) (List.Perm.swap _ _ _) ?_
  rintro _ _ ⟨rfl, rfl⟩
  have hR : suR t pid u = chR t pid (suG u t) := rfl
  rw [← hR]
  generalize suR t pid u = R at *
  obtain ⟨e, t'⟩ := R
  dsimp only
  rw [TbL_eq t']
  repeat' (first | (simp (disch := first | omega | (simp only [List.length_cons, List.length_nil]; first | done | omega)) only [go_sem, Nat.reduceAdd, Nat.reduceMul, Nat.reduceSub, Nat.reduceEqDiff, Nat.reduceLeDiff, Nat.reduceMod, Nat.reduceLT, Int.reduceToNat, Int.reduceAdd, Int.reduceSub, Int.reduceMul, Int.reduceNeg, Int.reduceLE, Int.reduceLT, Int.toNat_natCast, Int.cast_ofNat_Int, Int.reduceNe, Int.reduceEq, Int.reduceBEq, Int.reduceBNe, not_false_eq_true, ne_eq, Int.reduceTMod, Int.reduceTDiv, beq_self_eq_true, bne_self_eq_false, List.contains_cons, List.contains_nil, Nat.reduceBEq]) | (refine allI (fun b => ?_)) | (refine allT (fun τ => ?_)) | (refine brP (fun h => ?_) (fun h => ?_) <;> (try simp only [Bool.and_eq_true, Bool.and_eq_false_iff, Bool.or_eq_true, Bool.or_eq_false_iff, Bool.not_eq_true', Bool.not_eq_false', decide_eq_true_eq, decide_eq_false_iff_not, beq_iff_eq, beq_eq_false_iff_ne, ne_eq, bne_iff_ne, Int.not_lt, Int.not_le] at h)) | (apply And.intro; focus (first | omega | (simp; done) | (simp +contextual; done) | (intros; and_intros <;> first | assumption | omega) | (intros; simp_all; done) | (intro hgd; refine ⟨hgd, ?_⟩; simp [hgd]; done) | (intro hgd; simp only [beq_eq_false_iff_ne, beq_iff_eq, decide_eq_true_eq, decide_eq_false_iff_not, bne_iff_ne, ne_eq, Bool.and_eq_true, Bool.or_eq_false_iff, Bool.or_eq_true, Bool.and_eq_false_iff] at hgd ⊢; omega))) | fail)
def sgR (t : Tb) (pid u : Int) : Int × Tb := chR t pid (sgG u t)
theorem sg (t : Tb) (pid u : Int) (ht : okT t) : Pure Try.prog gl 18 [TbL t, .int .i64 pid, .int .i64 u] (.tup [TbL (sgR t pid u).2, .int .i64 (sgR t pid u).1]) := by
  refine fn_pureT Try.func18 t18 Try.ntmps18 (by simp) ?_
  have hF := findI_lt t pid
  unfold c18 r18
  rw [TbL_eq t]
  repeat' (first | (simp (disch := first | omega | (simp only [List.length_cons, List.length_nil]; first | done | omega)) only [go_sem, Nat.reduceAdd, Nat.reduceMul, Nat.reduceSub, Nat.reduceEqDiff, Nat.reduceLeDiff, Nat.reduceMod, Nat.reduceLT, Int.reduceToNat, Int.reduceAdd, Int.reduceSub, Int.reduceMul, Int.reduceNeg, Int.reduceLE, Int.reduceLT, Int.toNat_natCast, Int.cast_ofNat_Int, Int.reduceNe, Int.reduceEq, Int.reduceBEq, Int.reduceBNe, not_false_eq_true, ne_eq, Int.reduceTMod, Int.reduceTDiv, beq_self_eq_true, bne_self_eq_false, List.contains_cons, List.contains_nil, Nat.reduceBEq]) | (refine allI (fun b => ?_)) | (refine allT (fun τ => ?_)) | (refine brP (fun h => ?_) (fun h => ?_) <;> (try simp only [Bool.and_eq_true, Bool.and_eq_false_iff, Bool.or_eq_true, Bool.or_eq_false_iff, Bool.not_eq_true', Bool.not_eq_false', decide_eq_true_eq, decide_eq_false_iff_not, beq_iff_eq, beq_eq_false_iff_ne, ne_eq, bne_iff_ne, Int.not_lt, Int.not_le] at h)) | (apply And.intro; focus (first | omega | (simp; done) | (simp +contextual; done) | (intros; and_intros <;> first | assumption | omega) | (intros; simp_all; done) | (intro hgd; refine ⟨hgd, ?_⟩; simp [hgd]; done) | (intro hgd; simp only [beq_eq_false_iff_ne, beq_iff_eq, decide_eq_true_eq, decide_eq_false_iff_not, bne_iff_ne, ne_eq, Bool.and_eq_true, Bool.or_eq_false_iff, Bool.or_eq_true, Bool.and_eq_false_iff] at hgd ⊢; omega))) | fail)
  rename_i b1 b2
  refine actsP_U (change t pid ht 39 [.ptr 5 b2 0] [(5, _)] (sgG u t) (by kernel_rfl) fun i hi => sg1 u b2 t i (by omega)) (List.Perm.swap _ _ _) ?_
  rintro _ _ ⟨rfl, rfl⟩
  have hR : sgR t pid u = chR t pid (sgG u t) := rfl
  rw [← hR]
  generalize sgR t pid u = R at *
  obtain ⟨e, t'⟩ := R
  dsimp only
  rw [TbL_eq t']
  repeat' (first | (simp (disch := first | omega | (simp only [List.length_cons, List.length_nil]; first | done | omega)) only [go_sem, Nat.reduceAdd, Nat.reduceMul, Nat.reduceSub, Nat.reduceEqDiff, Nat.reduceLeDiff, Nat.reduceMod, Nat.reduceLT, Int.reduceToNat, Int.reduceAdd, Int.reduceSub, Int.reduceMul, Int.reduceNeg, Int.reduceLE, Int.reduceLT, Int.toNat_natCast, Int.cast_ofNat_Int, Int.reduceNe, Int.reduceEq, Int.reduceBEq, Int.reduceBNe, not_false_eq_true, ne_eq, Int.reduceTMod, Int.reduceTDiv, beq_self_eq_true, bne_self_eq_false, List.contains_cons, List.contains_nil, Nat.reduceBEq]) | (refine allI (fun b => ?_)) | (refine allT (fun τ => ?_)) | (refine brP (fun h => ?_) (fun h => ?_) <;> (try simp only [Bool.and_eq_true, Bool.and_eq_false_iff, Bool.or_eq_true, Bool.or_eq_false_iff, Bool.not_eq_true', Bool.not_eq_false', decide_eq_true_eq, decide_eq_false_iff_not, beq_iff_eq, beq_eq_false_iff_ne, ne_eq, bne_iff_ne, Int.not_lt, Int.not_le] at h)) | (apply And.intro; focus (first | omega | (simp; done) | (simp +contextual; done) | (intros; and_intros <;> first | assumption | omega) | (intros; simp_all; done) | (intro hgd; refine ⟨hgd, ?_⟩; simp [hgd]; done) | (intro hgd; simp only [beq_eq_false_iff_ne, beq_iff_eq, decide_eq_true_eq, decide_eq_false_iff_not, bne_iff_ne, ne_eq, Bool.and_eq_true, Bool.or_eq_false_iff, Bool.or_eq_true, Bool.and_eq_false_iff] at hgd ⊢; omega))) | fail)
end Go.Proofs.Ytkdblnejpmbnfaa
