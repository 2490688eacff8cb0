/- More of the engine: rows of slices, slices in slices. -/
import Derived.Test.YtfheeghkajihoaaDoorLxS
namespace Go.Lx
open Go
set_option linter.unusedSimpArgs false
set_option linter.unusedVariables false
variable {P : Program} {gl : Glob}
theorem leV.osl {i : Nat} {t : Tok} {s m : Nat} {xs ys : List LV} (h : leVs xs ys) : leV (.osl i t s m xs) (.osl i t s m ys) := fun M v hv => by
  simp only [RV] at hv ⊢
  refine ⟨by rw [← h.length]; exact hv.1, hv.2.imp ?_ id⟩
  rintro ⟨b, o, cap, e, hle, hc, hl⟩
  exact ⟨b, o, cap, e, hle, h.rcs hc, hl⟩
theorem leV.nil_osl (s s' i : Nat) (t : Tok) : leV (.fsl s 0 []) (.osl i t s' 0 []) := (leV.nil_sz s s').trans (leV.fsl_osl i t s' 0 [])
/-- the cells of one row -/
theorem take_rows {α : Type} {f : α → List LV} {w : Nat} (hw : ∀ x, (f x).length = w) (d : α) : ∀ (l : List α) {i : Nat}, i < l.length → ((l.flatMap f).drop (i * w)).take w = f (l.getD i d)
  | [], i, h => by simp at h
  | r :: l, 0, _ => by
    simp only [List.flatMap_cons, Nat.zero_mul, List.drop_zero, List.getD_cons_zero]
    rw [List.take_append_of_le_length (by rw [hw]; exact Nat.le_refl _), List.take_of_length_le (by rw [hw]; exact Nat.le_refl _)]
  | r :: l, i + 1, h => by
    simp only [List.flatMap_cons, List.getD_cons_succ]
    rw [← take_rows hw d l (i := i) (by simpa using h), show (i + 1) * w = (f r).length + i * w by rw [hw, Nat.add_mul]; omega, List.drop_append, List.drop_eq_nil_of_le (by omega), List.nil_append, Nat.add_sub_cancel_left]
/-- the cells from one row on -/
theorem drop_rows {α : Type} {f : α → List LV} {w : Nat} (hw : ∀ x, (f x).length = w) : ∀ (l : List α) (i : Nat), (l.flatMap f).drop (i * w) = (l.drop i).flatMap f
  | [], i => by simp
  | r :: l, 0 => by simp
  | r :: l, i + 1 => by
    rw [List.flatMap_cons, List.drop_succ_cons, ← drop_rows hw l i, show (i + 1) * w = (f r).length + i * w by rw [hw, Nat.add_mul]; omega, List.drop_append, List.drop_eq_nil_of_le (by omega), List.nil_append, Nat.add_sub_cancel_left]
/-- the cells of the first rows -/
theorem taken_rows {α : Type} {f : α → List LV} {w : Nat} (hw : ∀ x, (f x).length = w) (l : List α) (i : Nat) : (l.flatMap f).take (i * w) = (l.take i).flatMap f := by
  have h1 : l.flatMap f = (l.take i).flatMap f ++ (l.drop i).flatMap f := by rw [← List.flatMap_append, List.take_append_drop]
  by_cases h : i ≤ l.length
  · rw [h1]
    refine List.take_left' ?_
    rw [length_rows hw, List.length_take, Nat.min_eq_left h]
  · rw [List.take_of_length_le (by rw [length_rows hw]; exact Nat.mul_le_mul_right w (by omega)), List.take_of_length_le (by omega)]
theorem getD_take1 {cs : List LV} {k : Nat} {x : LV} (h : (cs.drop (k * 1)).take 1 = [x]) : cs.getD (k * 1) .any = x := by
  rw [List.getD_eq_getElem?_getD]
  have : ((cs.drop (k * 1)).take 1)[0]? = some x := by rw [h]; rfl
  rw [List.getElem?_take_of_lt (by omega), List.getElem?_drop] at this
  simpa using congrArg (fun o => o.getD LV.any) this
theorem take_succ_getD {α : Type} (d : α) (l : List α) {i : Nat} (h : i < l.length) : l.take (i + 1) = l.take i ++ [l.getD i d] := by
  rw [List.take_add_one]
  simp [List.getD, h]
theorem getD_memA {α : Type} (d : α) {l : List α} {i : Nat} (h : i < l.length) : l.getD i d ∈ l := by
  simp only [List.getD, List.getElem?_eq_getElem h, Option.getD_some]; exact List.getElem_mem h
theorem pick_o0a (gc c a g2 : Bool) : pickQ (.opt gc (.bool c)) (.bool a) (.opt g2 .any) = (gc = true ∧ c = true, .bool a) := by simp [pickQ, LV.v, LV.g]
theorem leVH.gen {x r : LV} {H H2 H3 H4 H' : Heap} (h : leV x r) (hs : H2.Sublist H) (hl : heapLe H2 H3) (hp : H3.Perm H4) (hn : H4.map Prod.snd = H'.map Prod.snd) : leVH gl x H r H' := fun w0 M HF w v hI hv =>
  ⟨M, MLe.refl M, h M v hv, ((hl.inv (hI.sub (hs.append_right HF))).perm (hp.append_right HF)).names (by simp [hn])⟩
theorem leVH.pickd {x r : LV} {H H2 R H' : Heap} (h : leV x r) (hp : H.Perm (H2 ++ R)) (hl : heapLe H2 H') : leVH gl x H r H' := fun w0 M HF w v hI hv =>
  ⟨M, MLe.refl M, h M v hv, hl.inv ((hI.perm (hp.append_right HF)).sub ((List.sublist_append_left H2 R).append_right HF))⟩
theorem leVH.mkE (id : Nat) {x r : LV} {H H' : Heap} (h : leVH gl x H r H') : leVH gl x H r ((id, .blk 0 []) :: H') := fun w0 M HF w v hI hv => by
  obtain ⟨M', h1, h2, h3⟩ := h w0 M HF w v hI hv
  exact ⟨M', h1, h2, h3.empty id 0⟩
theorem leV.nil_msl (s id s' : Nat) : leV (.fsl s 0 []) (.msl id s' 0 0 0 0) := fun M v hv => by
  simp only [RV] at hv ⊢
  refine .inr ⟨trivial, trivial, ?_⟩
  rcases hv.2 with ⟨b, o, h1, _⟩ | ⟨ad, h1, _⟩
  · exact ⟨_, h1⟩
  · exact ⟨_, h1⟩
theorem pick_perm {H H1 : Heap} {id : Nat} {e : Ent} (hg : getH H id = some e) (h : (delH H id).Perm H1) : H.Perm ((id, e) :: H1) := (getH_perm hg).1.trans (h.cons _)
/-- a call that acts on many things -/
theorem actsQ_of {f : FuncId} {args : List LV} {H H0 H2 : Heap} {K Q : LV → Heap → Prop} (h : LCalls P gl f args H0 Q) (hp : H.Perm (H0 ++ H2)) (hk : ∀ r H', Q r H' → K r (H' ++ H2)) : LCalls P gl f args H K :=
  LCalls.perm (LCalls.frame (H := H0) (H2 := H2) (h.mono fun r' H' h1 => hk r' H' h1)) hp
theorem actsQ_T {f : FuncId} {args : List LV} {H H0 H2 : Heap} {F : Env → Env → Heap → Prop} {d : Nat} {env tmp : Env} {Q : LV → Heap → Prop} (h : LCalls P gl f args H0 Q) (hp : H.Perm (H0 ++ H2)) (hk : ∀ r H', Q r H' → F ((d, r) :: env) tmp (H' ++ H2)) : LCalls P gl f args H (kvT gl F d env tmp) := actsQ_of h hp fun r e' hq => ⟨_, _, _, EntsT.refl _ _ _ _, hk r e' hq⟩
theorem actsQ_U {f : FuncId} {args : List LV} {H H0 H2 : Heap} {F : Env → Env → Heap → Prop} {d : Nat} {env tmp : Env} {Q : LV → Heap → Prop} (h : LCalls P gl f args H0 Q) (hp : H.Perm (H0 ++ H2)) (hk : ∀ r H', Q r H' → F env ((d, r) :: tmp) (H' ++ H2)) : LCalls P gl f args H (kvU gl F d env tmp) := actsQ_of h hp fun r e' hq => ⟨_, _, _, EntsT.refl _ _ _ _, hk r e' hq⟩
theorem actsQ_N {f : FuncId} {args : List LV} {H H0 H2 : Heap} {F : Env → Env → Heap → Prop} {env tmp : Env} {Q : LV → Heap → Prop} (h : LCalls P gl f args H0 Q) (hp : H.Perm (H0 ++ H2)) (hk : ∀ r H', Q r H' → F env tmp (H' ++ H2)) : LCalls P gl f args H (kvN gl F env tmp) := actsQ_of h hp fun r e' hq => ⟨_, _, _, EntsT.refl _ _ _ _, hk r e' hq⟩
end Go.Lx
