/- More of the engine: calls that make many things, calls that act on two things. -/
import Derived.Test.YtfheeghkajihoaaDoorLxR
namespace Go.Lx
open Go
set_option linter.unusedSimpArgs false
set_option linter.unusedVariables false
variable {P : Program} {gl : Glob}
theorem newsQ_of {f : FuncId} {args : List LV} {H : Heap} {K Q : LV → Heap → Prop} (h : LCalls P gl f args [] Q) (hk : ∀ r H', Q r H' → K r (H' ++ H)) : LCalls P gl f args H K :=
  LCalls.frame (H := []) (h.mono fun r' H' h1 => hk r' H' h1)
theorem newsQ_T {f : FuncId} {args : List LV} {H : Heap} {F : Env → Env → Heap → Prop} {d : Nat} {env tmp : Env} {Q : LV → Heap → Prop} (h : LCalls P gl f args [] Q) (hk : ∀ r H', Q r H' → F ((d, r) :: env) tmp (H' ++ H)) : LCalls P gl f args H (kvT gl F d env tmp) := newsQ_of h fun r e' hq => ⟨_, _, _, EntsT.refl _ _ _ _, hk r e' hq⟩
theorem newsQ_U {f : FuncId} {args : List LV} {H : Heap} {F : Env → Env → Heap → Prop} {d : Nat} {env tmp : Env} {Q : LV → Heap → Prop} (h : LCalls P gl f args [] Q) (hk : ∀ r H', Q r H' → F env ((d, r) :: tmp) (H' ++ H)) : LCalls P gl f args H (kvU gl F d env tmp) := newsQ_of h fun r e' hq => ⟨_, _, _, EntsT.refl _ _ _ _, hk r e' hq⟩
theorem getH_del {i j : Nat} (h : i ≠ j) : ∀ H : Heap, getH (delH H i) j = getH H j
  | [] => rfl
  | (k, e) :: H => by
    simp only [delH, getH]
    split
    · rename_i h1; subst h1; rw [if_neg h]
    · simp only [getH]
      rw [getH_del h H]
theorem getH_set {i j : Nat} (h : i ≠ j) (e' : Ent) : ∀ H : Heap, getH (setH H i e') j = getH H j
  | [] => rfl
  | (k, e) :: H => by
    simp only [setH, getH]
    split
    · rename_i h1; subst h1; simp only [getH]; rw [if_neg h, if_neg h]
    · simp only [getH]
      rw [getH_set h e' H]
/-- A call that acts on two things that are owned. -/
def Acts2 (P : Program) (gl : Glob) (f : FuncId) (args : List LV) (i : Nat) (e1 : Ent) (j : Nat) (e2 : Ent) (Q : LV → Ent → Ent → Prop) : Prop := LCalls P gl f args [(i, e1), (j, e2)] fun r H' => ∃ e1' e2', H' = [(i, e1'), (j, e2')] ∧ Q r e1' e2'
theorem acts2_of {f : FuncId} {args : List LV} {H : Heap} {K : LV → Heap → Prop} {i j : Nat} {e1 e2 : Ent} {Q : LV → Ent → Ent → Prop} (h : Acts2 P gl f args i e1 j e2 Q) (hij : i ≠ j) (g1 : getH H i = some e1) (g2 : getH H j = some e2) (hk : ∀ r e1' e2', Q r e1' e2' → K r (setH (setH H i e1') j e2')) : LCalls P gl f args H K := by
  have p1 := getH_perm g1
  have p2 := getH_perm (H := delH H i) (id := j) (e := e2) (by rw [getH_del hij]; exact g2)
  have p : H.Perm ([(i, e1), (j, e2)] ++ delH (delH H i) j) := p1.1.trans (p2.1.cons _)
  refine LCalls.post_perm (LCalls.perm (LCalls.frame (H := [(i, e1), (j, e2)]) (H2 := delH (delH H i) j) (K := fun r' H' => ∃ e1' e2', Q r' e1' e2' ∧ H' = [(i, e1'), (j, e2')] ++ delH (delH H i) j) (h.mono fun r' H' ⟨e1', e2', h1, h2⟩ => by subst h1; exact ⟨e1', e2', h2, rfl⟩)) p) ?_
  rintro r' H' ⟨e1', e2', h1, rfl⟩
  refine ⟨_, ?_, hk r' e1' e2' h1⟩
  have q1 : (setH H i e1').Perm ((i, e1') :: (j, e2) :: delH (delH H i) j) := (p1.2 e1').trans (p2.1.cons _)
  have q2 := getH_perm (H := setH H i e1') (id := j) (e := e2) (by rw [getH_set hij]; exact g2)
  have q3 : (delH (setH H i e1') j).Perm ((i, e1') :: delH (delH H i) j) := List.Perm.cons_inv ((q2.1.symm.trans q1).trans (List.Perm.swap _ _ _))
  exact (((q2.2 e2').trans (q3.cons _)).trans (List.Perm.swap _ _ _)).symm
theorem acts2_T {f : FuncId} {args : List LV} {H : Heap} {F : Env → Env → Heap → Prop} {d : Nat} {env tmp : Env} {i j : Nat} {e1 e2 : Ent} {Q : LV → Ent → Ent → Prop} (h : Acts2 P gl f args i e1 j e2 Q) (hij : i ≠ j) (g1 : getH H i = some e1) (g2 : getH H j = some e2) (hk : ∀ r e1' e2', Q r e1' e2' → F ((d, r) :: env) tmp (setH (setH H i e1') j e2')) : LCalls P gl f args H (kvT gl F d env tmp) :=
  acts2_of h hij g1 g2 fun r e1' e2' hq => ⟨_, _, _, EntsT.refl _ _ _ _, hk r e1' e2' hq⟩
theorem acts2_U {f : FuncId} {args : List LV} {H : Heap} {F : Env → Env → Heap → Prop} {d : Nat} {env tmp : Env} {i j : Nat} {e1 e2 : Ent} {Q : LV → Ent → Ent → Prop} (h : Acts2 P gl f args i e1 j e2 Q) (hij : i ≠ j) (g1 : getH H i = some e1) (g2 : getH H j = some e2) (hk : ∀ r e1' e2', Q r e1' e2' → F env ((d, r) :: tmp) (setH (setH H i e1') j e2')) : LCalls P gl f args H (kvU gl F d env tmp) :=
  acts2_of h hij g1 g2 fun r e1' e2' hq => ⟨_, _, _, EntsT.refl _ _ _ _, hk r e1' e2' hq⟩
theorem acts2_N {f : FuncId} {args : List LV} {H : Heap} {F : Env → Env → Heap → Prop} {env tmp : Env} {i j : Nat} {e1 e2 : Ent} {Q : LV → Ent → Ent → Prop} (h : Acts2 P gl f args i e1 j e2 Q) (hij : i ≠ j) (g1 : getH H i = some e1) (g2 : getH H j = some e2) (hk : ∀ r e1' e2', Q r e1' e2' → F env tmp (setH (setH H i e1') j e2')) : LCalls P gl f args H (kvN gl F env tmp) :=
  acts2_of h hij g1 g2 fun r e1' e2' hq => ⟨_, _, _, EntsT.refl _ _ _ _, hk r e1' e2' hq⟩
theorem leVH.le {x : LV} {H H' : Heap} (hl : heapLe H H') : leVH gl x H x H' := fun w0 M HF w v hI hv => ⟨M, MLe.refl M, hv, hl.inv hI⟩
theorem leVs.app : ∀ {xs ys us vs : List LV}, leVs xs ys → leVs us vs → leVs (xs ++ us) (ys ++ vs)
  | [], [], us, vs, _, h => h
  | [], _ :: _, us, vs, h, _ => h.elim
  | _ :: _, [], us, vs, h, _ => h.elim
  | x :: xs, y :: ys, us, vs, h, h' => ⟨h.1, leVs.app h.2 h'⟩
/-- cells with spare ones behind them -/
def Sp (cs : List LV) (k : Nat) : List LV := cs ++ List.replicate k .any
theorem take_Sp {cs : List LV} {n : Nat} (k : Nat) (h : cs.length = n) : (Sp cs k).take n = cs := by subst h; simp [Sp]
theorem length_Sp (cs : List LV) (k : Nat) : (Sp cs k).length = cs.length + k := by simp [Sp]
theorem sub1 {α : Type} {a : α} {l : List α} : [a].Sublist (a :: l) := List.Sublist.cons_cons _ (List.nil_sublist _)
theorem sub2 {α : Type} {a b : α} {l : List α} : [a, b].Sublist (a :: b :: l) := List.Sublist.cons_cons _ sub1
theorem leVs_any : ∀ {xs : List LV} {n : Nat}, xs.length = n → leVs xs (List.replicate n .any)
  | [], 0, _ => trivial
  | [], n + 1, h => by simp at h
  | x :: xs, 0, h => by simp at h
  | x :: xs, n + 1, h => ⟨leV.any x, leVs_any (by simpa using h)⟩
/-- cells with something behind them -/
theorem leVs.sp {cs zs : List LV} {k : Nat} (h : zs.length = k) : leVs (cs ++ zs) (Sp cs k) := leVs.app (leVs.refl _) (leVs_any h)
theorem leVH.ofNil (id s s' : Nat) : leVH gl (.fsl s 0 []) [] (.msl id s' 0 0 0 0) [(id, .blk 0 [])] := fun w0 M HF w v hI hv => by
  refine ⟨M, MLe.refl M, ?_, hI.empty id 0⟩
  simp only [RV] at hv ⊢
  refine .inr ⟨trivial, trivial, ?_⟩
  rcases hv.2 with ⟨b, o, h1, _⟩ | ⟨ad, h1, _⟩
  · exact ⟨_, h1⟩
  · exact ⟨_, h1⟩
theorem leVH.names {i j : Nat} {e : Ent} (b : Nat) : leVH gl (.ptr i b 0) [(i, e)] (.ptr j b 0) [(j, e)] := fun w0 M HF w v hI hv =>
  ⟨M, MLe.refl M, leV.ptr_name i j b 0 M v hv, Inv.names hI (by simp)⟩
/-- values without blocks of their own -/
def Dry (rest : List LV) : Prop := ∀ id b cs, pubAs id b cs rest = (True, rest)
theorem sp_take {cs : List LV} {n : Nat} (k : Nat) (h : cs.length = n) : ((Sp cs k).drop 0).take n = cs := by rw [List.drop_zero]; exact take_Sp k h
theorem getD_Sp {cs : List LV} {i k : Nat} (h : i < cs.length) : (Sp cs k).getD i .any = cs.getD i .any := by simp [Sp, List.getD, List.getElem?_append_left h]
theorem take_Sp_le {cs : List LV} {m k : Nat} (h : m ≤ cs.length) : (Sp cs k).take m = cs.take m := by rw [Sp, List.take_append_of_le_length h]
theorem bin_anyR (op : BinOp) (k : IntKind) (n : Int) : binQ op (.int k n) .any = (False, .any) := by cases op <;> rfl
theorem bin_anyL (op : BinOp) (y : LV) : binQ op .any y = (False, .any) := by cases op <;> rfl
theorem pick_0a0 (c b g1 : Bool) : pickQ (.bool c) (.opt g1 .any) (.bool b) = (c = false, .bool b) := by simp [pickQ, LV.v, LV.g]
theorem pick_00a (c a g2 : Bool) : pickQ (.bool c) (.bool a) (.opt g2 .any) = (c = true, .bool a) := by simp [pickQ, LV.v, LV.g]
end Go.Lx
