/- The quiet operations do what 'q' says. -/
import Derived.Test.YtkdblnejpmbnfaaGreatW00
namespace Go.Lx
set_option linter.unusedSimpArgs false
set_option linter.unusedVariables false
open RowKit
section
variable {P : Program} {M : Imm} {w : World}
theorem run_isAgg {t : TypeId} {g : Bool} (h : aggOf P t = some g) : (isAgg t).run P w = .ok g w := by
  unfold aggOf at h
  unfold isAgg
  split at h <;> rename_i d hd
  · cases h; simp [run_underlying hd]
  · cases h; simp [run_underlying hd]
  · cases h
    simp only [Sem.run_bind, run_underlying hd, Result.andThen_ok]
    rfl
  · cases h
theorem run_sizeAt {t : TypeId} {s : Nat} (h : sizeAt P t = some s) : (sizeOf t).run P w = .ok s w := by
  simp only [sizeAt, Option.map_eq_some_iff] at h
  obtain ⟨i, hi, rfl⟩ := h
  simp [sizeOf, run_typeInfo w hi]
theorem take_drop_length {α : Type} {cs : List α} {o s : Nat} (h : o + s ≤ cs.length) : ((cs.drop o).take s).length = s := by
  simp; omega
theorem getD_eq {cs : List LV} {i : Nat} (h : i < cs.length) : cs[i]? = some (cs.getD i .any) := by
  rw [List.getElem?_eq_getElem h]; simp [List.getD, h]
def Holds (M : Imm) (w : World) (b o : Nat) (cs : List LV) : Prop := ∀ (i : Nat) (c : LV), cs[i]? = some c → ∃ u, w.cell? ⟨b, o + i, none⟩ = some u ∧ RV M c u ∧ u.oneCell' = true
theorem Holds.of_imm {gl : Glob} {w0 : World} {H : Heap} (hI : Inv gl w0 M H w) {b o : Nat} {cs : List LV} (h : RCs M b o cs) : Holds M w b o cs := by
  intro i c hc
  obtain ⟨v, h1, h2⟩ := RCs_get h i c hc
  exact ⟨v, (hI.imm _ _ _ h1).1, h2, (hI.imm _ _ _ h1).2⟩
theorem Holds.of_own {gl : Glob} {w0 : World} {H : Heap} (hI : Inv gl w0 M H w) {id b : Nat} {cs : List LV} (h : (id, Ent.blk b cs) ∈ H) : Holds M w b 0 cs := by
  intro i c hc
  have h3 := (hI.own _ h).2
  simp only [entOK] at h3
  obtain ⟨u, a1, _, a3, a4⟩ := h3 i c hc
  exact ⟨u, by simpa using a1, a3, a4⟩
theorem Holds.drop {b o : Nat} {cs : List LV} (h : Holds M w b o cs) (k : Nat) : Holds M w b (o + k) (cs.drop k) := by
  intro i c hc
  rw [List.getElem?_drop] at hc
  obtain ⟨u, h1, h2⟩ := h (k + i) c hc
  exact ⟨u, by rw [show o + k + i = o + (k + i) by omega]; exact h1, h2⟩
theorem Holds.take {b o : Nat} {cs : List LV} (h : Holds M w b o cs) (k : Nat) : Holds M w b o (cs.take k) := by
  intro i c hc
  rw [List.getElem?_take] at hc
  split at hc
  · exact h i c hc
  · cases hc
theorem Holds.vals {b o : Nat} {cs : List LV} (h : Holds M w b o cs) : ∃ vs : List Value, RVs M cs vs ∧ (∀ v ∈ vs, v.oneCell' = true) ∧ ∀ i v, vs[i]? = some v → w.cell? ⟨b, o + i, none⟩ = some v := by
  induction cs generalizing o with
  | nil => exact ⟨[], by simp [RVs], by simp, by simp⟩
  | cons c cs ih =>
    obtain ⟨u, hu, hv, h1⟩ := h 0 c (by simp)
    obtain ⟨us, a1, a2, a3⟩ := ih (o := o + 1) (fun i c' hc => by
      rw [show o + 1 + i = o + (i + 1) by omega]; exact h (i + 1) c' (by simpa using hc))
    refine ⟨u :: us, by simp only [RVs]; exact ⟨u, us, rfl, hv, a1⟩, fun v hv' => ?_, fun i v hi => ?_⟩
    · rcases List.mem_cons.1 hv' with rfl | hv'
      · exact h1
      · exact a2 v hv'
    · cases i with
      | zero => simp at hi; subst hi; simpa using hu
      | succ i => rw [show o + (i + 1) = o + 1 + i by omega]; exact a3 i v (by simpa using hi)
theorem Holds.load {b o : Nat} {cs : List LV} (h : Holds M w b o cs) : ∃ vs : List Value, (loadCells ⟨b, o, none⟩ cs.length).run P w = .ok vs.toArray w ∧ RVs M cs vs ∧ ∀ v ∈ vs, v.oneCell' = true := by
  obtain ⟨vs, h1, h2, h3⟩ := h.vals
  refine ⟨vs, ?_, h1, h2⟩
  rw [← RVs_length h1]
  exact run_loadCells_at b o vs h3
theorem load_part {t : TypeId} {g : Bool} {s : Nat} (hg : aggOf P t = some g) (hs : sizeAt P t = some s) (hgs : (g || s == 1) = true) {b o off : Nat} {cs : List LV} (h : Holds M w b o cs) (hr : off + s ≤ cs.length) :
    ∃ u, (loadVar t ⟨b, o + off, none⟩).run P w = .ok u w ∧ RV M (partL g s off cs) u := by
  unfold loadVar
  cases g with
  | true =>
    obtain ⟨vs, h1, h2, h3⟩ := ((h.drop off).take s).load (P := P)
    rw [take_drop_length hr] at h1
    refine ⟨.agg vs.toArray, ?_, ?_⟩
    · simp [run_isAgg hg, run_sizeAt hs, h1]
    · simp only [partL, if_true, RV]; exact ⟨vs, rfl, h2, h3⟩
  | false =>
    have hs1 : s = 1 := by simpa using hgs
    obtain ⟨u, h1, h2, _⟩ := h off (cs.getD off .any) (getD_eq (by omega))
    refine ⟨u, ?_, by simpa [partL] using h2⟩
    simp [run_isAgg hg, h1]
theorem load_sound {gl : Glob} {w0 : World} {H HF : Heap} (hI : Inv gl w0 M (H ++ HF) w) {t : TypeId} {g : Bool} {s : Nat} (hg : aggOf P t = some g) (hs : sizeAt P t = some s) (hgs : (g || s == 1) = true) {x : LV} {v : Value} (hx : RV M x v)
    (ho : (loadQ g s x H).1) : ∃ u, (Instr.loadAt t v).run P w = .ok u w ∧ RV M (loadQ g s x H).2 u := by
  unfold loadQ at ho ⊢
  split at ho
  · rename_i cs off
    simp only [RV] at hx
    obtain ⟨b, o, rfl, hc⟩ := hx
    obtain ⟨u, h1, h2⟩ := load_part (P := P) hg hs hgs (Holds.of_imm hI hc) ho
    exact ⟨u, by simp [Instr.loadAt, Instr.sureAddr, h1], h2⟩
  · rename_i id b off
    simp only [RV] at hx
    subst hx
    split at ho
    · rename_i b' cs hH
      obtain ⟨rfl, ho⟩ := ho
      obtain ⟨u, h1, h2⟩ := load_part (P := P) (off := off) hg hs hgs (Holds.of_own hI (List.mem_append_left _ (getH_mem hH))) ho
      refine ⟨u, ?_, h2⟩
      simp only [Nat.zero_add] at h1
      simp [Instr.loadAt, Instr.sureAddr, h1]
    · exact ho.elim
  · exact ho.elim
theorem part_sound {t : TypeId} {g : Bool} {s : Nat} (hg : aggOf P t = some g) (hs : sizeAt P t = some s) (hgs : (g || s == 1) = true) {cs : List LV} {vs : List Value} {off : Nat} (h : RVs M cs vs) (hone : ∀ u ∈ vs, u.oneCell' = true) (hr : off + s ≤ cs.length) :
    ∃ u, (part t vs.toArray off).run P w = .ok u w ∧ RV M (partL g s off cs) u := by
  have hl := RVs_length h
  unfold part
  cases g with
  | true =>
    refine ⟨.agg ((vs.drop off).take s).toArray, ?_, ?_⟩
    · simp only [Sem.run_bind, run_isAgg hg, run_sizeAt hs, Result.andThen_ok, if_true, Sem.run_pure]
      congr 2
      rw [List.extract_toArray]
      simp [List.extract]
    · simp only [partL, if_true, RV]
      refine ⟨_, rfl, RVs_of_get (by simp; omega) fun i c v hc hv => ?_, fun u hu => hone u (List.mem_of_mem_drop (List.mem_of_mem_take hu))⟩
      rw [List.getElem?_take] at hc hv
      split at hc
      · rename_i hi
        rw [if_pos hi, List.getElem?_drop] at hv
        rw [List.getElem?_drop] at hc
        obtain ⟨u, h1, h2⟩ := RVs_get h _ c hc
        rw [h1] at hv; cases hv; exact h2
      · cases hc
  | false =>
    have hs1 : s = 1 := by simpa using hgs
    obtain ⟨u, h1, h2⟩ := RVs_get h off (cs.getD off .any) (getD_eq (by omega))
    refine ⟨u, ?_, by simpa [partL] using h2⟩
    simp [run_isAgg hg, h1]
theorem faddr_sound {t : TypeId} {fs : Array Field} {f : Nat} {fd : Field} {s : Nat} (hu : P.underlying t = some (.struct fs)) (hf : fs[f]? = some fd) (hs : sizeAt P fd.type = some s) (h0 : s ≠ 0) {x : LV} {v : Value} (hx : RV M x v)
    (ho : (faddrQ fd.offset x).1) : ∃ u, (Instr.fieldAt t v f).run P w = .ok u w ∧ RV M (faddrQ fd.offset x).2 u := by
  unfold faddrQ at ho ⊢
  have key : ∀ b o, (Instr.fieldAt t (.pointer (some ⟨b, o, none⟩)) f).run P w = .ok (.pointer (some ⟨b, o + fd.offset, none⟩)) w := by
    intro b o
    simp [Instr.fieldAt, run_underlying hu, hf, Instr.sureAddr, fieldPlace, run_sizeAt hs, h0, addr_add]
  split at ho
  · simp only [RV] at hx ⊢
    obtain ⟨b, o, rfl, hc⟩ := hx
    exact ⟨_, key _ _, b, o, by rw [Nat.add_assoc], hc⟩
  · simp only [RV] at hx ⊢
    subst hx
    exact ⟨_, key _ _, rfl⟩
  · exact ho.elim
theorem run_eqGuard_one {op : BinOp} {t : TypeId} {x y : Operand} {a b : Value} (h : (∀ cs, a ≠ .agg cs)) (h' : a ≠ .nilIface) : (eqGuard op t x y a b).run P w = .ok () w := by
  unfold eqGuard
  cases op <;> cases a <;> first | rfl | simp_all
theorem bin_sound {op : BinOp} {t : TypeId} {ox oy : Operand} {x y : LV} {a b : Value} (hx : RV M x a) (hy : RV M y b) (ho : (binQ op x y).1) :
    ∃ u, (do eqGuard op t ox oy a b; binOp op t a b : Sem Value).run P w = .ok u w ∧ RV M (binQ op x y).2 u := by
  unfold binQ at ho ⊢
  split at ho
  · rename_i k n k' m
    simp only [RV] at hx hy
    subst hx; subst hy
    have hg : (eqGuard op t ox oy (.int k n) (.int k' m)).run P w = .ok () w := run_eqGuard_one (by simp) (by simp)
    simp only [Sem.run_bind, hg, Result.andThen_ok]
    cases op <;> simp only at ho <;> first
      | (subst ho; refine ⟨_, ?_, rfl⟩; simp [binOp, Op.intArith]; done)
      | (subst ho; refine ⟨_, ?_, rfl⟩; simp [binOp, Op.intBits]; done)
      | (subst ho; refine ⟨_, ?_, rfl⟩; simp [binOp, Op.intCmp]; done)
      | (obtain ⟨rfl, h0⟩ := ho; refine ⟨_, ?_, rfl⟩; simp [binOp, Op.intDiv, h0]; done)
      | (refine ⟨_, ?_, rfl⟩; simp [binOp, Op.shift, show ¬ m < 0 by omega]; done)
  · rename_i s r
    simp only [RV] at hx hy
    subst hx; subst hy
    have hg : (eqGuard op t ox oy (.string ⟨s.toArray⟩) (.string ⟨r.toArray⟩)).run P w = .ok () w := run_eqGuard_one (by simp) (by simp)
    simp only [Sem.run_bind, hg, Result.andThen_ok]
    cases op <;> simp only at ho <;> first
      | exact ho.elim
      | (refine ⟨_, ?_, rfl⟩; simp [binOp, Op.stringOp]; done)
      | skip
    refine ⟨.string (⟨s.toArray⟩ ++ ⟨r.toArray⟩), ?_, ?_⟩
    · have hsz : ∀ l : List UInt8, (ByteArray.mk l.toArray).size = l.length := fun l => by simp [ByteArray.size]
      simp only [binOp, Op.stringOp, hsz]
      rw [if_neg (by simp only [IntKind.max, IntKind.signed, IntKind.bits]; omega)]
      rfl
    · simp only [RV]
      congr 1
  · exact ho.elim
theorem un_sound {op : UnOp} {x : LV} {a : Value} (hx : RV M x a) (ho : (unQ op x).1) : ∃ u, (Op.unary op a).run P w = .ok u w ∧ RV M (unQ op x).2 u := by
  unfold unQ at ho ⊢
  split at ho
  · simp only [RV] at hx; subst hx; exact ⟨_, rfl, rfl⟩
  · simp only [RV] at hx; subst hx; exact ⟨_, rfl, rfl⟩
  · simp only [RV] at hx; subst hx; exact ⟨_, rfl, rfl⟩
  · exact ho.elim
theorem pick_sound {c a b : LV} {vc va vb : Value} (hc : RV M c vc) (ha : RV M a va) (hb : RV M b vb) (ho : (pickQ c a b).1) :
    ∃ u, (do pure (Next.value (if ← asBool vc then va else vb)) : Sem Next).run P w = .ok (.value u) w ∧ RV M (pickQ c a b).2 u := by
  unfold pickQ at ho ⊢
  split at ho
  · rename_i c' a' b' h1 h2 h3
    obtain ⟨g1, g2, g3⟩ := ho
    have e1 := strip hc g1
    rw [h1] at e1
    simp only [RV] at e1
    subst e1
    cases c' with
    | true =>
      have e2 := strip ha (g2 rfl)
      rw [h2] at e2
      simp only [RV] at e2
      exact ⟨va, by simp [asBool], by simp [RV, e2]⟩
    | false =>
      have e2 := strip hb (g3 rfl)
      rw [h3] at e2
      simp only [RV] at e2
      exact ⟨vb, by simp [asBool], by simp [RV, e2]⟩
  · rename_i c' b' h1 h2 h3
    obtain ⟨g1, rfl, g3⟩ := ho
    have e1 := strip hc g1
    rw [h1] at e1
    simp only [RV] at e1
    subst e1
    have e2 := strip hb g3
    rw [h3] at e2
    simp only [RV] at e2
    exact ⟨vb, by simp [asBool], by simp [RV, e2]⟩
  · rename_i c' a' h1 h2 h3
    obtain ⟨g1, rfl, g3⟩ := ho
    have e1 := strip hc g1
    rw [h1] at e1
    simp only [RV] at e1
    subst e1
    have e2 := strip ha g3
    rw [h2] at e2
    simp only [RV] at e2
    exact ⟨va, by simp [asBool], by simp [RV, e2]⟩
  · exact ho.elim
theorem equalIn_bool (d : Nat) {t : TypeId} (hu : P.underlying t = some .bool) (a b : Bool) : (Op.equalIn (d + 1) t (.bool a) (.bool b)).run P w = .ok (a == b) w := by
  simp only [Op.equalIn, Sem.run_bind, run_underlying hu, Result.andThen_ok, Sem.run_pure]
theorem equalIn_nil (d : Nat) {t e : TypeId} (hu : P.underlying t = some (.pointer e)) (p : Option Addr) : (Op.equalIn (d + 1) t (.pointer none) (.pointer p)).run P w = .ok p.isNone w := by
  simp only [Op.equalIn, Sem.run_bind, run_underlying hu, Result.andThen_ok, Sem.run_pure]
theorem equalIn_nil' (d : Nat) {t e : TypeId} (hu : P.underlying t = some (.pointer e)) (p : Option Addr) : (Op.equalIn (d + 1) t (.pointer p) (.pointer none)).run P w = .ok p.isNone w := by
  cases p <;> simp only [Op.equalIn, Sem.run_bind, run_underlying hu, Result.andThen_ok, Sem.run_pure] <;> rfl
theorem eqB_sound {op : BinOp} (hop : op = .eql ∨ op = .neq) {t : TypeId} (hu : P.underlying t = some .bool) {ox oy : Operand} {x y : LV} {a b : Value} (hx : RV M x a) (hy : RV M y b) (ho : (eqBQ (op == .neq) x y).1) :
    ∃ u, (do eqGuard op t ox oy a b; binOp op t a b : Sem Value).run P w = .ok u w ∧ RV M (eqBQ (op == .neq) x y).2 u := by
  unfold eqBQ at ho ⊢
  split at ho
  · rename_i a' b'
    simp only [RV] at hx hy
    subst hx; subst hy
    have hg : (eqGuard op t ox oy (.bool a') (.bool b')).run P w = .ok () w := run_eqGuard_one (by simp) (by simp)
    have heq : (Op.equal t (.bool a') (.bool b')).run P w = .ok (a' == b') w := equalIn_bool 9999 hu a' b'
    simp only [Sem.run_bind, hg, Result.andThen_ok]
    rcases hop with rfl | rfl
    · exact ⟨.bool (a' == b'), by simp only [binOp, Sem.run_bind, heq, Result.andThen_ok, Sem.run_pure], by simp [RV]⟩
    · exact ⟨.bool (!(a' == b')), by simp only [binOp, Sem.run_bind, heq, Result.andThen_ok, Sem.run_pure], by simp [RV]⟩
  · exact ho.elim
theorem eqN_sound {op : BinOp} (hop : op = .eql ∨ op = .neq) {t e : TypeId} (hu : P.underlying t = some (.pointer e)) {ox oy : Operand} {x y : LV} {a b : Value} (hx : RV M x a) (hy : RV M y b) (ho : (eqNQ (op == .neq) x y).1) :
    ∃ u, (do eqGuard op t ox oy a b; binOp op t a b : Sem Value).run P w = .ok u w ∧ RV M (eqNQ (op == .neq) x y).2 u := by
  have key : ∀ p p' r, ((p = none ∧ r = p'.isNone) ∨ (p' = none ∧ r = p.isNone)) → (Op.equal t (.pointer p) (.pointer p')).run P w = .ok r w := by
    intro p p' r h
    rcases h with ⟨rfl, rfl⟩ | ⟨rfl, rfl⟩
    · exact equalIn_nil 9999 hu p'
    · exact equalIn_nil' 9999 hu p
  have hg : ∀ p p', (eqGuard op t ox oy (.pointer p) (.pointer p')).run P w = .ok () w := fun p p' => run_eqGuard_one (by simp) (by simp)
  have fin : ∀ p p' (r : Bool), ((p = none ∧ r = p'.isNone) ∨ (p' = none ∧ r = p.isNone)) → ∃ u, (do eqGuard op t ox oy (.pointer p) (.pointer p'); binOp op t (.pointer p) (.pointer p') : Sem Value).run P w = .ok u w ∧ RV M (.bool (r != (op == .neq))) u := by
    intro p p' r h
    simp only [Sem.run_bind, hg, Result.andThen_ok]
    rcases hop with rfl | rfl
    · refine ⟨.bool r, ?_, by show RV M (.bool (r != false)) _; simp [RV]⟩
      cases p <;> cases p' <;> simp only [binOp, Sem.run_bind, key _ _ r h, Result.andThen_ok, Sem.run_pure]
    · refine ⟨.bool (!r), ?_, by show RV M (.bool (r != true)) _; simp [RV]⟩
      cases p <;> cases p' <;> simp only [binOp, Sem.run_bind, key _ _ r h, Result.andThen_ok, Sem.run_pure]
  unfold eqNQ at ho ⊢
  split at ho
  case h_6 => exact ho.elim
  all_goals simp only [RV] at hx hy
  · subst hx; subst hy
    obtain ⟨u, h1, h2⟩ := fin none none true (.inl ⟨rfl, rfl⟩)
    exact ⟨u, h1, by simpa using h2⟩
  · subst hx; subst hy
    obtain ⟨u, h1, h2⟩ := fin none (some _) false (.inl ⟨rfl, rfl⟩)
    exact ⟨u, h1, by simpa using h2⟩
  · subst hx
    obtain ⟨b, o, rfl, _⟩ := hy
    obtain ⟨u, h1, h2⟩ := fin none (some _) false (.inl ⟨rfl, rfl⟩)
    exact ⟨u, h1, by simpa using h2⟩
  · subst hx; subst hy
    obtain ⟨u, h1, h2⟩ := fin (some _) none false (.inr ⟨rfl, rfl⟩)
    exact ⟨u, h1, by simpa using h2⟩
  · subst hy
    obtain ⟨b, o, rfl, _⟩ := hx
    obtain ⟨u, h1, h2⟩ := fin (some _) none false (.inr ⟨rfl, rfl⟩)
    exact ⟨u, h1, by simpa using h2⟩
end
end Go.Lx
namespace Go.Lx
set_option linter.unusedSimpArgs false
set_option linter.unusedVariables false
open RowKit
section
variable {vv : Nat → Bool} {P : Program} {M : Imm} {w : World}
theorem idx_sound {i : LV} {v : Value} (hi : RV M i v) (h : (idxI i).1) : ∃ k, v = .int k (idxI i).2 := by
  unfold idxI at h ⊢
  split at h
  · simp only [RV] at hi; exact ⟨_, hi⟩
  · exact h.elim
theorem iaA_sound {t e : TypeId} {n s : Nat} (hu : P.underlying t = some (.array n e)) (hs : sizeAt P e = some s) {x i : LV} {v vi : Value} (hx : RV M x v) (hi : RV M i vi) (ho : (iaAQ n s x i).1) :
    ∃ u, (Instr.indexAt t v vi).run P w = .ok u w ∧ RV M (iaAQ n s x i).2 u := by
  have key : ∀ b o, (idxI i).1 → 0 ≤ (idxI i).2 → (idxI i).2 < n → (Instr.indexAt t (.pointer (some ⟨b, o, none⟩)) vi).run P w = .ok (.pointer (some ⟨b, o + (idxI i).2.toNat * s, none⟩)) w := by
    intro b o h1 h2 h3
    obtain ⟨k, rfl⟩ := idx_sound hi h1
    simp [Instr.indexAt, asIntOf, run_underlying hu, Instr.sureAddr, h2, h3, run_sizeAt hs, addr_add]
  unfold iaAQ at ho ⊢
  dsimp only at ho ⊢
  split at ho
  · simp only [RV] at hx ⊢
    obtain ⟨b, o, rfl, hc⟩ := hx
    exact ⟨_, key _ _ ho.1 ho.2.1 ho.2.2, b, o, by rw [Nat.add_assoc], hc⟩
  · simp only [RV] at hx ⊢
    subst hx
    exact ⟨_, key _ _ ho.1 ho.2.1 ho.2.2, rfl⟩
  · exact ho.elim
theorem iaS_sound {t e : TypeId} {s : Nat} (hu : P.underlying t = some (.slice e)) (hs : sizeAt P e = some s) {x i : LV} {v vi : Value} (hx : RV M x v) (hi : RV M i vi) (ho : (iaSQ s x i).1) :
    ∃ u, (Instr.indexAt t v vi).run P w = .ok u w ∧ RV M (iaSQ s x i).2 u := by
  have key : ∀ (b o n cap : Nat), (idxI i).1 → 0 ≤ (idxI i).2 → (idxI i).2 < n → (Instr.indexAt t (.slice (some ⟨b, o, none⟩) n cap) vi).run P w = .ok (.pointer (some ⟨b, o + (idxI i).2.toNat * s, none⟩)) w := by
    intro b o n cap h1 h2 h3
    obtain ⟨k, rfl⟩ := idx_sound hi h1
    simp [Instr.indexAt, asIntOf, run_underlying hu, h2, h3, run_sizeAt hs, addr_add]
  unfold iaSQ at ho ⊢
  dsimp only at ho ⊢
  split at ho
  · simp only [RV] at hx ⊢
    obtain ⟨hl, ⟨b, o, cap, rfl, hle, hc⟩ | ⟨a, cap, rfl, rfl⟩⟩ := hx
    · exact ⟨_, key _ _ _ _ ho.1 ho.2.2.1 ho.2.2.2, b, o, rfl, hc⟩
    · obtain ⟨_, _, h1, h2⟩ := ho; omega
  · simp only [RV] at hx ⊢
    obtain ⟨hl, ⟨b, o, rfl, hc⟩ | ⟨a, rfl, rfl⟩⟩ := hx
    · exact ⟨_, key _ _ _ _ ho.1 ho.2.2.1 ho.2.2.2, b, o, rfl, hc⟩
    · obtain ⟨_, _, h1, h2⟩ := ho; omega
  · simp only [RV] at hx ⊢
    obtain ⟨hl, ⟨b, o, cap, rfl, hle, hc, _⟩ | ⟨a, rfl, rfl⟩⟩ := hx
    · exact ⟨_, key _ _ _ _ ho.1 ho.2.2.1 ho.2.2.2, b, o, rfl, hc⟩
    · obtain ⟨_, _, h1, h2⟩ := ho; omega
  · simp only [RV] at hx ⊢
    rcases hx with rfl | ⟨rfl, rfl, a, rfl⟩
    · exact ⟨_, key _ _ _ _ ho.1 ho.2.2.1 ho.2.2.2, rfl⟩
    · obtain ⟨_, _, h1, h2⟩ := ho; omega
  · exact ho.elim
theorem ixS_sound {t : TypeId} (hu : P.underlying t = some .string) {x i : LV} {v vi : Value} (hx : RV M x v) (hi : RV M i vi) (ho : (ixSQ x i).1) :
    ∃ u, (Instr.index t v vi).run P w = .ok u w ∧ RV M (ixSQ x i).2 u := by
  unfold ixSQ at ho ⊢
  dsimp only at ho ⊢
  split at ho
  · rename_i s
    simp only [RV] at hx ⊢
    subst hx
    obtain ⟨h1, h2, h3⟩ := ho
    obtain ⟨k, rfl⟩ := idx_sound hi h1
    have hlt : (idxI i).2.toNat < s.length := by omega
    refine ⟨_, ?_, rfl⟩
    have hb : (ByteArray.mk s.toArray)[(idxI i).2.toNat]? = some (s.getD (idxI i).2.toNat 0) := by
      rw [getElem?_pos _ _ (by simpa [ByteArray.size] using hlt)]
      congr 1
      show s.toArray[(idxI i).2.toNat]'(by simpa using hlt) = _
      simp [List.getD, hlt]
    simp [Instr.index, asIntOf, run_underlying hu, h2, hb]
  · exact ho.elim
theorem ixA_sound {t e : TypeId} {g : Bool} {n s : Nat} (hu : P.underlying t = some (.array n e)) (hg : aggOf P e = some g) (hs : sizeAt P e = some s) (hgs : (g || s == 1) = true) {x i : LV} {v vi : Value} (hx : RV M x v) (hi : RV M i vi) (ho : (ixAQ g n s x i).1) :
    ∃ u, (Instr.index t v vi).run P w = .ok u w ∧ RV M (ixAQ g n s x i).2 u := by
  unfold ixAQ at ho ⊢
  dsimp only at ho ⊢
  split at ho
  · rename_i cs
    simp only [RV] at hx
    obtain ⟨vs, rfl, hvs, hone⟩ := hx
    obtain ⟨h1, h2, h3, h4⟩ := ho
    obtain ⟨k, rfl⟩ := idx_sound hi h1
    have hr : (idxI i).2.toNat * s + s ≤ cs.length := by
      rw [h4]
      have : (idxI i).2.toNat + 1 ≤ n := by omega
      calc (idxI i).2.toNat * s + s = ((idxI i).2.toNat + 1) * s := by rw [Nat.add_mul]; omega
        _ ≤ n * s := Nat.mul_le_mul_right _ this
    obtain ⟨u, a1, a2⟩ := part_sound (P := P) (w := w) hg hs hgs hvs hone hr
    exact ⟨u, by simp [Instr.index, asIntOf, run_underlying hu, h2, h3, run_sizeAt hs, a1], a2⟩
  · exact ho.elim
theorem fld_sound {t : TypeId} {fs : Array Field} {f : Nat} {fd : Field} {g : Bool} {s : Nat} (hu : P.underlying t = some (.struct fs)) (hf : fs[f]? = some fd) (hg : aggOf P fd.type = some g) (hs : sizeAt P fd.type = some s) (hgs : (g || s == 1) = true)
    {x : LV} {v : Value} (hx : RV M x v) (ho : (fldQ g s fd.offset x).1) : ∃ u, (Instr.field t v f).run P w = .ok u w ∧ RV M (fldQ g s fd.offset x).2 u := by
  unfold fldQ at ho ⊢
  split at ho
  · simp only [RV] at hx
    obtain ⟨vs, rfl, hvs, hone⟩ := hx
    obtain ⟨u, a1, a2⟩ := part_sound (P := P) (w := w) hg hs hgs hvs hone ho
    exact ⟨u, by simp [Instr.field, run_underlying hu, hf, asAgg, a1], a2⟩
  · exact ho.elim
theorem ext_sound {x : LV} {v : Value} {i : Nat} (hx : RV M x v) (ho : (extQ x i).1) : ∃ u, (Instr.extract v i).run P w = .ok u w ∧ RV M (extQ x i).2 u := by
  unfold extQ at ho ⊢
  split at ho
  · simp only [RV] at hx
    obtain ⟨vs, rfl, hvs⟩ := hx
    obtain ⟨u, h1, h2⟩ := RVs_get hvs i _ (getD_eq ho)
    exact ⟨u, by simp [Instr.extract, h1], h2⟩
  · exact ho.elim
theorem len_sound {t : TypeId} {ty : TypeId} (hu : P.underlying t = some .string) {x : LV} {v : Value} (hx : RV M x v) (ho : (lenQ x).1) :
    ∃ u, (Builtin.len_ #[t] ty #[v]).run P w = .ok u w ∧ RV M (lenQ x).2 u := by
  unfold lenQ at ho ⊢
  split at ho
  · rename_i s
    simp only [RV] at hx ⊢
    subst hx
    have hsz : (ByteArray.mk s.toArray).size = s.length := by simp [ByteArray.size]
    exact ⟨_, by simp [Builtin.len_, run_underlying hu, goInt, hsz], rfl⟩
  · exact ho.elim
theorem lenL_sound {t e : TypeId} {ty : TypeId} (hu : P.underlying t = some (.slice e)) {x : LV} {v : Value} (hx : RV M x v) (ho : (lenLQ x).1) :
    ∃ u, (Builtin.len_ #[t] ty #[v]).run P w = .ok u w ∧ RV M (lenLQ x).2 u := by
  unfold lenLQ at ho ⊢
  have key : ∀ a n c, (Builtin.len_ #[t] ty #[.slice a n c]).run P w = .ok (.int .i64 n) w := by
    intro a n c
    simp [Builtin.len_, run_underlying hu, goInt]
  split at ho
  · simp only [RV] at hx ⊢
    obtain ⟨hl, ⟨b, o, cap, rfl, hle, hc⟩ | ⟨a, cap, rfl, rfl⟩⟩ := hx
    · exact ⟨_, key _ _ _, rfl⟩
    · exact ⟨_, key _ _ _, rfl⟩
  · simp only [RV] at hx ⊢
    obtain ⟨hl, ⟨b, o, cap, rfl, hle, hc⟩ | ⟨a, rfl, rfl⟩⟩ := hx
    · exact ⟨_, key _ _ _, rfl⟩
    · exact ⟨_, key _ _ _, rfl⟩
  · simp only [RV] at hx ⊢
    obtain ⟨hl, ⟨b, o, rfl, hc⟩ | ⟨a, rfl, rfl⟩⟩ := hx
    · exact ⟨_, key _ _ _, rfl⟩
    · exact ⟨_, key _ _ _, rfl⟩
  · simp only [RV] at hx ⊢
    rcases hx with rfl | ⟨rfl, rfl, a, rfl⟩
    · exact ⟨_, key _ _ _, rfl⟩
    · exact ⟨_, key _ _ _, rfl⟩
  · exact ho.elim
theorem cap_sound {t e : TypeId} {ty : TypeId} (hu : P.underlying t = some (.slice e)) {x : LV} {v : Value} (hx : RV M x v) (ho : (capQ x).1) :
    ∃ u, (Builtin.cap_ #[t] ty #[v]).run P w = .ok u w ∧ RV M (capQ x).2 u := by
  unfold capQ at ho ⊢
  have key : ∀ a n c, (Builtin.cap_ #[t] ty #[.slice a n c]).run P w = .ok (.int .i64 c) w := by
    intro a n c
    simp [Builtin.cap_, run_underlying hu, goInt]
  split at ho
  · simp only [RV] at hx ⊢
    obtain ⟨hl, ⟨b, o, rfl, hc⟩ | ⟨a, rfl, rfl⟩⟩ := hx
    · exact ⟨_, key _ _ _, rfl⟩
    · exact ⟨_, key _ _ _, rfl⟩
  · simp only [RV] at hx ⊢
    rcases hx with rfl | ⟨rfl, rfl, a, rfl⟩
    · exact ⟨_, key _ _ _, rfl⟩
    · exact ⟨_, key _ _ _, rfl⟩
  · exact ho.elim
theorem nilc_sound {x : LV} {v : Value} (hx : RV M x v) (ho : (nilcQ x).1) : ∀ o : Oper, ∀ ρ : Operand → Value, ∀ y : Operand, o.op = .nilCheck y → ρ y = v → (execOp ρ o).run P w = .ok (.value v) w ∧ RV M (nilcQ x).2 v := by
  intro o ρ y hop hy
  have key : (∀ a b c, v ≠ .func (.method a) b c) → v ≠ .pointer none → v ≠ .nilIface → v ≠ .nilFunc → (execOp ρ o).run P w = .ok (.value v) w := by
    intro h1 h2 h3 h4
    simp only [execOp, hop, hy]
    rfl
  unfold nilcQ at ho ⊢
  split at ho
  all_goals first
    | exact ho.elim
    | (refine ⟨key ?_ ?_ ?_ ?_, hx⟩ <;> simp only [RV] at hx <;> first
        | (subst hx; simp; done)
        | (rcases hx with rfl | ⟨_, _, a, rfl⟩ <;> simp; done)
        | (obtain ⟨b, o, rfl, _⟩ := hx; simp; done)
        | (obtain ⟨vs, rfl, _⟩ := hx; simp; done)
        | (obtain ⟨_, ⟨b, o, cap, rfl, _⟩ | ⟨a, cap, rfl, _⟩⟩ := hx <;> simp; done)
        | (obtain ⟨_, ⟨b, o, cap, rfl, _⟩ | ⟨a, rfl, _⟩⟩ := hx <;> simp; done)
        | (obtain ⟨_, ⟨b, o, rfl, _⟩ | ⟨a, rfl, _⟩⟩ := hx <;> simp; done))
theorem conv_sound {s d : TypeId} {k : IntKind} {ds : TypeDesc} (hs : P.underlying s = some ds) (hd : P.underlying d = some (.int k)) {x : LV} {v : Value} (hx : RV M x v) (ho : (convQ k x).1) :
    ∃ u, (convert s d v).run P w = .ok u w ∧ RV M (convQ k x).2 u := by
  unfold convQ at ho ⊢
  split at ho
  · simp only [RV] at hx ⊢
    subst hx
    exact ⟨_, by simp [convert, run_underlying hs, run_underlying hd, Conv.intToInt], rfl⟩
  · exact ho.elim
theorem same_sound {s d : TypeId} (hs : P.underlying s = some .string) (hd : P.underlying d = some .string) {x : LV} {v : Value} (hx : RV M x v) (ho : (sameQ x).1) :
    ∃ u, (convert s d v).run P w = .ok u w ∧ RV M (sameQ x).2 u := by
  unfold sameQ at ho ⊢
  split at ho
  · simp only [RV] at hx ⊢
    subst hx
    exact ⟨_, by simp [convert, run_underlying hs, run_underlying hd], rfl⟩
  · exact ho.elim
theorem mm_sound (ρL : X → LV) (ρ : Operand → Value) (hρ : ∀ x y, trX vv x = some y → RV M (ρL y) (ρ x)) (mx : Bool) : ∀ (xs : List Operand) (ys : List X) (x : LV) (v : Value), trXs vv xs = some ys → RV M x v → (mmQ mx ρL x ys).1 →
    ∃ u, ((xs.map ρ).foldlM (if mx then Builtin.max2 else Builtin.min2) v : Sem Value).run P w = .ok u w ∧ RV M (mmQ mx ρL x ys).2 u
  | [], ys, x, v, ht, hx, ho => by
    simp only [trXs, Option.some.injEq] at ht
    subst ht
    exact ⟨v, by simp, by simpa [mmQ] using hx⟩
  | z :: r, ys, x, v, ht, hx, ho => by
    simp only [trXs] at ht
    split at ht
    · rename_i y ys' h1 h2
      cases ht
      simp only [mmQ] at ho ⊢
      obtain ⟨g1, g2, g3⟩ := ho
      have hz := strip (hρ z y h1) g1
      have step : ∃ u, ((if mx then Builtin.max2 else Builtin.min2) v (ρ z) : Sem Value).run P w = .ok u w ∧ RV M (mm2 mx x (ρL y).v).2 u := by
        generalize (ρL y).v = y' at *
        unfold mm2 at g2 ⊢
        split at g2
        · simp only [RV] at hx hz ⊢
          subst hx
          subst g2
          rw [hz]
          cases mx
          · exact ⟨_, by simp [Builtin.min2], rfl⟩
          · refine ⟨_, ?_, rfl⟩
            simp [Builtin.max2]
        · exact g2.elim
      obtain ⟨u, h3, h4⟩ := step
      obtain ⟨u', h5, h6⟩ := mm_sound ρL ρ hρ mx r ys' _ u h2 h4 g3
      exact ⟨u', by simp [List.foldlM_cons, h3, h5], h6⟩
    · cases ht
theorem optI_sound {ρL : X → LV} {ρ : Operand → Value} (hρ : ∀ x y, trX vv x = some y → RV M (ρL y) (ρ x)) {d : Int} {o : Option Operand} {y : Option X} (h : trO vv o = some y) (hg : (optI ρL d y).1) :
    (o = none ∧ y = none ∧ (optI ρL d y).2 = d) ∨ ∃ x k, o = some x ∧ y.isSome = true ∧ ρ x = .int k (optI ρL d y).2 := by
  cases o with
  | none => simp only [trO, Option.some.injEq] at h; subst h; exact .inl ⟨rfl, rfl, rfl⟩
  | some x =>
    simp only [trO, Option.map_eq_some_iff] at h
    obtain ⟨y', h1, rfl⟩ := h
    right
    unfold optI at hg ⊢
    dsimp only at hg ⊢
    split at hg
    · rename_i k i hi
      have := strip (hρ x y' h1) hg
      rw [hi] at this
      simp only [RV] at this
      exact ⟨x, k, rfl, rfl, this⟩
    · exact hg.elim
theorem run_sliceBound {k : IntKind} {i : Int} {y : Nat} {code : BoundsCode} (h0 : 0 ≤ i) (h1 : i ≤ y) : (Instr.sliceBound (.int k i) y code).run P w = .ok i.toNat w := by
  simp [Instr.sliceBound, asIntOf, h0, h1]
theorem run_bounds2 {ρL : X → LV} {ρ : Operand → Value} (hρ : ∀ x y, trX vv x = some y → RV M (ρL y) (ρ x)) {lo hi : Option Operand} {lo' hi' : Option X} (hlo : trO vv lo = some lo') (hhi : trO vv hi = some hi') {isS : Bool} {n cap : Nat}
    (g1 : (optI ρL 0 lo').1) (g2 : (optI ρL n hi').1) (h0 : 0 ≤ (optI ρL 0 lo').2) (h1 : (optI ρL 0 lo').2 ≤ (optI ρL n hi').2) (h2 : (optI ρL n hi').2 ≤ cap) :
    (Instr.sliceBounds isS n cap (lo.map ρ) (hi.map ρ) none).run P w = .ok ((optI ρL 0 lo').2.toNat, (optI ρL n hi').2.toNat, cap) w := by
  unfold Instr.sliceBounds
  rcases optI_sound hρ hhi g2 with ⟨rfl, rfl, e2⟩ | ⟨xh, kh, rfl, hs, eh⟩
  · rw [e2] at h1 h2 ⊢
    rcases optI_sound hρ hlo g1 with ⟨rfl, rfl, e1⟩ | ⟨xl, kl, rfl, hs', el⟩
    · rw [e1]; simp
    · simp only [Option.map_none, Option.map_some, Sem.run_bind, Sem.run_pure, Result.andThen_ok, el]
      rw [run_sliceBound h0 (by omega)]
      simp
  · simp only [Option.map_some, Sem.run_bind, Sem.run_pure, Result.andThen_ok, eh]
    rw [run_sliceBound (by omega) h2]
    rcases optI_sound hρ hlo g1 with ⟨rfl, rfl, e1⟩ | ⟨xl, kl, rfl, hs', el⟩
    · rw [e1]; simp
    · simp only [Option.map_some, Sem.run_bind, Sem.run_pure, Result.andThen_ok, el]
      rw [run_sliceBound h0 (by omega)]
      simp
theorem run_bounds3 {ρL : X → LV} {ρ : Operand → Value} (hρ : ∀ x y, trX vv x = some y → RV M (ρL y) (ρ x)) {lo hi mx : Option Operand} {lo' hi' mx' : Option X} (hlo : trO vv lo = some lo') (hhi : trO vv hi = some hi') (hmx : trO vv mx = some mx')
    (hs : hi'.isSome = true) (ms : mx'.isSome = true) {isS : Bool} {n cap : Nat} {d d' : Int}
    (g1 : (optI ρL 0 lo').1) (g2 : (optI ρL d hi').1) (g3 : (optI ρL d' mx').1) (h0 : 0 ≤ (optI ρL 0 lo').2) (h1 : (optI ρL 0 lo').2 ≤ (optI ρL d hi').2) (h2 : (optI ρL d hi').2 ≤ (optI ρL d' mx').2) (h3 : (optI ρL d' mx').2 ≤ cap) :
    (Instr.sliceBounds isS n cap (lo.map ρ) (hi.map ρ) (mx.map ρ)).run P w = .ok ((optI ρL 0 lo').2.toNat, (optI ρL d hi').2.toNat, (optI ρL d' mx').2.toNat) w := by
  unfold Instr.sliceBounds
  rcases optI_sound hρ hhi g2 with ⟨rfl, rfl, e2⟩ | ⟨xh, kh, rfl, hs, eh⟩
  · simp at hs
  rcases optI_sound hρ hmx g3 with ⟨rfl, rfl, e2⟩ | ⟨xm, km, rfl, hs, em⟩
  · simp at ms
  simp only [Option.map_some, Sem.run_bind, em, eh]
  rw [run_sliceBound (by omega) h3]
  simp only [Result.andThen_ok]
  rw [run_sliceBound (by omega) (by omega)]
  simp only [Result.andThen_ok]
  rcases optI_sound hρ hlo g1 with ⟨rfl, rfl, e1⟩ | ⟨xl, kl, rfl, hs', el⟩
  · rw [e1]; simp
  · simp only [Option.map_some, Sem.run_bind, Sem.run_pure, el]
    rw [run_sliceBound h0 (by omega)]
    simp
theorem slS_sound {t : TypeId} (hu : P.underlying t = some .string) {ρL : X → LV} {ρ : Operand → Value} (hρ : ∀ x y, trX vv x = some y → RV M (ρL y) (ρ x)) {lo hi : Option Operand} {lo' hi' : Option X} (hlo : trO vv lo = some lo') (hhi : trO vv hi = some hi')
    {s : List UInt8} (g1 : (optI ρL 0 lo').1) (g2 : (optI ρL s.length hi').1) (ho : (slSQ s (optI ρL 0 lo').2 (optI ρL s.length hi').2).1) :
    ∃ u, (Instr.sliceAt t (.string ⟨s.toArray⟩) (lo.map ρ) (hi.map ρ) none).run P w = .ok u w ∧ RV M (slSQ s (optI ρL 0 lo').2 (optI ρL s.length hi').2).2 u := by
  unfold slSQ at ho ⊢
  obtain ⟨h0, h1, h2⟩ := ho
  have hb := run_bounds2 (P := P) (w := w) hρ hlo hhi (isS := false) g1 g2 h0 h1 h2
  refine ⟨.string ⟨((s.drop (optI ρL 0 lo').2.toNat).take ((optI ρL s.length hi').2.toNat - (optI ρL 0 lo').2.toNat)).toArray⟩, ?_, by simp only [RV]⟩
  have hsz : (ByteArray.mk s.toArray).size = s.length := by simp [ByteArray.size]
  simp only [Instr.sliceAt, Sem.run_bind, run_underlying hu, Result.andThen_ok, Instr.slice]
  simp only [hsz, hb, Result.andThen_ok, Option.isSome_none, Bool.false_eq_true, if_false, Sem.run_bind, Sem.run_pure]
  congr 2
  apply ByteArray.ext
  apply Array.ext'
  simp [ByteArray.data_extract, List.extract_toArray, List.extract]
theorem sub_mul_le {n h l sz : Nat} (h1 : h ≤ n) : l * sz + (h - l) * sz ≤ n * sz ∨ h < l := by
  rcases Nat.lt_or_ge h l with hl | hl
  · exact .inr hl
  · left
    rw [← Nat.add_mul]
    exact Nat.mul_le_mul_right _ (by omega)
theorem slice_len {cs : List LV} {n sz l h : Nat} (hc : cs.length = n * sz) (hlh : l ≤ h) (hn : h ≤ n) : ((cs.drop (l * sz)).take ((h - l) * sz)).length = (h - l) * sz := by
  have := sub_mul_le (l := l) (sz := sz) hn
  simp; omega
theorem drop_len {cs : List LV} {n sz l : Nat} (hc : cs.length = n * sz) : (cs.drop (l * sz)).length = (n - l) * sz := by
  simp [hc, Nat.sub_mul]
theorem run_slice_slice {t e : TypeId} {sz : Nat} (hu : P.underlying t = some (.slice e)) (hs : sizeAt P e = some sz) {a : Option Addr} {n cap l h m : Nat} {lo hi mx : Option Value}
    (hb : (Instr.sliceBounds true n cap lo hi mx).run P w = .ok (l, h, m) w) :
    (Instr.sliceAt t (.slice a n cap) lo hi mx).run P w = .ok (.slice (if m = l then a else a.map (·.add (l * sz))) (h - l) (m - l)) w := by
  simp only [Instr.sliceAt, Sem.run_bind, run_underlying hu, Result.andThen_ok, Instr.slice, hb, run_sizeAt hs, Sem.run_pure]
theorem slL_sound {t e : TypeId} {sz : Nat} (hu : P.underlying t = some (.slice e)) (hs : sizeAt P e = some sz) {ρL : X → LV} {ρ : Operand → Value} (hρ : ∀ x y, trX vv x = some y → RV M (ρL y) (ρ x)) {lo hi mx : Option Operand} {lo' hi' mx' : Option X}
    (hlo : trO vv lo = some lo') (hhi : trO vv hi = some hi') (hmx : trO vv mx = some mx') {x : LV} {v : Value} (hx : RV M x v) (ho : (slLQ sz x lo' hi' mx' ρL).1) :
    ∃ u, (Instr.sliceAt t v (lo.map ρ) (hi.map ρ) (mx.map ρ)).run P w = .ok u w ∧ RV M (slLQ sz x lo' hi' mx' ρL).2 u := by
  -- two indices, any slice of which the cells are immutable
  have two : ∀ (n cap : Nat) (cs : List LV) (b o : Nat), mx' = none → cs.length = n * sz → n ≤ cap → RCs M b o cs →
      (optI ρL 0 lo').1 → (optI ρL n hi').1 → 0 ≤ (optI ρL 0 lo').2 → (optI ρL 0 lo').2 ≤ (optI ρL n hi').2 → (optI ρL n hi').2 ≤ n →
      ∃ o', (Instr.sliceAt t (.slice (some ⟨b, o, none⟩) n cap) (lo.map ρ) (hi.map ρ) (mx.map ρ)).run P w = .ok (.slice (some ⟨b, o', none⟩) ((optI ρL n hi').2.toNat - (optI ρL 0 lo').2.toNat) (cap - (optI ρL 0 lo').2.toNat)) w ∧
        RCs M b o' ((cs.drop ((optI ρL 0 lo').2.toNat * sz)).take (((optI ρL n hi').2.toNat - (optI ρL 0 lo').2.toNat) * sz)) ∧ (o' = o + (optI ρL 0 lo').2.toNat * sz ∨ cap - (optI ρL 0 lo').2.toNat = 0) := by
    intro n cap cs b o hm hc hle hr g1 g2 h0 h1 h2
    subst hm
    have hmn : mx = none := by cases mx with | none => rfl | some _ => simp [trO] at hmx
    subst hmn
    have hb := run_bounds2 (P := P) (w := w) hρ hlo hhi (isS := true) (n := n) (cap := cap) g1 g2 h0 h1 (by omega)
    have hrun := run_slice_slice (P := P) (a := some ⟨b, o, none⟩) hu hs hb
    by_cases hcap : cap = (optI ρL 0 lo').2.toNat
    · refine ⟨o, ?_, ?_, .inr (by omega)⟩
      · simpa [hcap] using hrun
      · have : (optI ρL n hi').2.toNat - (optI ρL 0 lo').2.toNat = 0 := by omega
        rw [this]; simp [RCs]
    · refine ⟨o + (optI ρL 0 lo').2.toNat * sz, ?_, RCs_take _ (RCs_drop _ hr), .inl rfl⟩
      simpa [hcap, addr_add] using hrun
  -- two indices, no element
  have nil2 : ∀ (a : Option Addr) (cap : Nat), mx' = none → (optI ρL 0 lo').1 → (optI ρL ((0 : Nat) : Int) hi').1 → 0 ≤ (optI ρL 0 lo').2 → (optI ρL 0 lo').2 ≤ (optI ρL ((0 : Nat) : Int) hi').2 → (optI ρL ((0 : Nat) : Int) hi').2 ≤ ((0 : Nat) : Int) →
      ∃ a', (Instr.sliceAt t (.slice a 0 cap) (lo.map ρ) (hi.map ρ) (mx.map ρ)).run P w = .ok (.slice a' 0 cap) w := by
    intro a cap hm g1 g2 h0 h1 h2
    subst hm
    have hmn : mx = none := by cases mx with | none => rfl | some _ => simp [trO] at hmx
    subst hmn
    have hb := run_bounds2 (P := P) (w := w) hρ hlo hhi (isS := true) (n := 0) (cap := cap) g1 g2 h0 h1 (by omega)
    have hrun := run_slice_slice (P := P) (a := a) hu hs hb
    rw [show (Instr.sliceAt t (.slice a 0 cap) (lo.map ρ) (hi.map ρ) (Option.map ρ none)) = (Instr.sliceAt t (.slice a 0 cap) (lo.map ρ) (hi.map ρ) none) from rfl, hrun]
    have e1 : (optI ρL ((0 : Nat) : Int) hi').2.toNat = 0 := by omega
    have e2 : (optI ρL 0 lo').2.toNat = 0 := by omega
    rw [e1, e2]
    exact ⟨_, rfl⟩
  -- three indices
  have three : ∀ (n cap : Nat) (cs : List LV) (a : Option Addr), mx'.isSome = true → hi'.isSome = true → cs.length = n * sz → n ≤ cap → ((∃ b o, a = some ⟨b, o, none⟩ ∧ RCs M b o cs) ∨ n = 0) →
      (optI ρL 0 lo').1 → (optI ρL n hi').1 → (optI ρL n mx').1 → 0 ≤ (optI ρL 0 lo').2 → (optI ρL 0 lo').2 ≤ (optI ρL n hi').2 → (optI ρL n hi').2 = (optI ρL n mx').2 → (optI ρL n hi').2 ≤ n →
      ∃ u, (Instr.sliceAt t (.slice a n cap) (lo.map ρ) (hi.map ρ) (mx.map ρ)).run P w = .ok u w ∧
        RV M (.fsl sz ((optI ρL n hi').2.toNat - (optI ρL 0 lo').2.toNat) ((cs.drop ((optI ρL 0 lo').2.toNat * sz)).take (((optI ρL n hi').2.toNat - (optI ρL 0 lo').2.toNat) * sz))) u := by
    intro n cap cs a hm hh hc hle hr g1 g2 g3 h0 h1 h2 h3
    have hb := run_bounds3 (P := P) (w := w) hρ hlo hhi hmx hh hm (isS := true) (n := n) (cap := cap) (d := n) (d' := n) g1 g2 g3 h0 h1 (by omega) (by omega)
    have hrun := run_slice_slice (P := P) (a := a) hu hs hb
    refine ⟨_, hrun, ?_⟩
    simp only [RV]
    refine ⟨slice_len hc (by omega) (by omega), ?_⟩
    rcases hr with ⟨b, o, rfl, hr⟩ | rfl
    · left
      rw [← h2]
      by_cases hcap : (optI ρL n hi').2.toNat = (optI ρL 0 lo').2.toNat
      · refine ⟨b, o, by simp [hcap], ?_⟩
        rw [hcap]; simp [RCs]
      · refine ⟨b, o + (optI ρL 0 lo').2.toNat * sz, by simp [hcap, addr_add], RCs_take _ (RCs_drop _ hr)⟩
    · right
      rw [← h2]
      have e1 : (optI ρL ((0 : Nat) : Int) hi').2.toNat = 0 := by omega
      have e2 : (optI ρL 0 lo').2.toNat = 0 := by omega
      rw [e1, e2]
      exact ⟨_, rfl, rfl⟩
  unfold slLQ at ho ⊢
  dsimp only at ho ⊢
  split at ho
  · -- sl
    rename_i sz' n cs
    simp only [RV] at hx
    obtain ⟨hc, hv⟩ := hx
    cases mx' with
    | none =>
      dsimp only at ho ⊢
      obtain ⟨g1, g2, rfl, h0, h1, h2⟩ := ho
      rcases hv with ⟨b, o, cap, rfl, hle, hr⟩ | ⟨a, cap, rfl, rfl⟩
      · obtain ⟨o', r1, r2, _⟩ := two n cap cs b o rfl hc hle hr g1 g2 h0 h1 h2
        exact ⟨_, r1, by simp only [RV]; exact ⟨slice_len hc (by omega) (by omega), .inl ⟨b, o', _, rfl, by omega, r2⟩⟩⟩
      · obtain ⟨a', hr⟩ := nil2 a cap rfl g1 g2 h0 h1 h2
        refine ⟨_, hr, ?_⟩
        simp only [RV]
        exact ⟨slice_len hc (by omega) (by omega), .inr ⟨a', cap, rfl, by omega⟩⟩
    | some m =>
      dsimp only at ho ⊢
      obtain ⟨g1, g2, g3, hh, rfl, h0, h1, h2, h3⟩ := ho
      rcases hv with ⟨b, o, cap, rfl, hle, hr⟩ | ⟨a, cap, rfl, rfl⟩
      · exact three n cap cs _ rfl hh hc hle (.inl ⟨b, o, rfl, hr⟩) g1 g2 g3 h0 h1 h2 h3
      · exact three 0 cap cs a rfl hh hc (Nat.zero_le _) (.inr rfl) g1 g2 g3 h0 h1 h2 h3
  · -- fsl
    rename_i sz' n cs
    simp only [RV] at hx
    obtain ⟨hc, hv⟩ := hx
    cases mx' with
    | none =>
      cases hi' with
      | none =>
        dsimp only at ho ⊢
        obtain ⟨g1, rfl, h0, h1⟩ := ho
        have e : (optI ρL (n : Int) none).2 = n := rfl
        rcases hv with ⟨b, o, rfl, hr⟩ | ⟨a, rfl, rfl⟩
        · obtain ⟨o', r1, r2, _⟩ := two n n cs b o rfl hc (Nat.le_refl _) hr g1 trivial h0 h1 (by rw [e]; exact Int.le_refl _)
          refine ⟨_, r1, ?_⟩
          simp only [e, Int.toNat_natCast] at r2 ⊢
          simp only [RV]
          refine ⟨drop_len hc, .inl ⟨b, o', rfl, ?_⟩⟩
          rwa [List.take_of_length_le (by rw [drop_len hc]; exact Nat.le_refl _)] at r2
        · obtain ⟨a', hr⟩ := nil2 a 0 rfl g1 trivial h0 h1 (Int.le_refl _)
          refine ⟨_, hr, ?_⟩
          simp only [RV]
          exact ⟨drop_len hc, .inr ⟨a', rfl, by simp⟩⟩
      | some h =>
        dsimp only at ho ⊢
        obtain ⟨g1, g2, rfl, h0, h1, h2⟩ := ho
        rcases hv with ⟨b, o, rfl, hr⟩ | ⟨a, rfl, rfl⟩
        · obtain ⟨o', r1, r2, _⟩ := two n n cs b o rfl hc (Nat.le_refl _) hr g1 g2 h0 h1 h2
          exact ⟨_, r1, by simp only [RV]; exact ⟨slice_len hc (by omega) (by omega), .inl ⟨b, o', _, rfl, by omega, r2⟩⟩⟩
        · obtain ⟨a', hr⟩ := nil2 a 0 rfl g1 g2 h0 h1 h2
          refine ⟨_, hr, ?_⟩
          simp only [RV]
          exact ⟨slice_len hc (by omega) (by omega), .inr ⟨a', 0, rfl, by omega⟩⟩
    | some m =>
      have ho' : (optI ρL 0 lo').1 ∧ (optI ρL n hi').1 ∧ (optI ρL n (some m)).1 ∧ hi'.isSome ∧ sz' = sz ∧ 0 ≤ (optI ρL 0 lo').2 ∧ (optI ρL 0 lo').2 ≤ (optI ρL n hi').2 ∧ (optI ρL n hi').2 = (optI ρL n (some m)).2 ∧ (optI ρL n hi').2 ≤ n := by
        cases hi' <;> exact ho
      obtain ⟨g1, g2, g3, hh, rfl, h0, h1, h2, h3⟩ := ho'
      have fin : ∃ u, (Instr.sliceAt t v (lo.map ρ) (hi.map ρ) (mx.map ρ)).run P w = .ok u w ∧
          RV M (.fsl sz' ((optI ρL n hi').2.toNat - (optI ρL 0 lo').2.toNat) ((cs.drop ((optI ρL 0 lo').2.toNat * sz')).take (((optI ρL n hi').2.toNat - (optI ρL 0 lo').2.toNat) * sz'))) u := by
        rcases hv with ⟨b, o, rfl, hr⟩ | ⟨a, rfl, rfl⟩
        · exact three n n cs _ rfl hh hc (Nat.le_refl _) (.inl ⟨b, o, rfl, hr⟩) g1 g2 g3 h0 h1 h2 h3
        · exact three 0 0 cs a rfl hh hc (Nat.le_refl _) (.inr rfl) g1 g2 g3 h0 h1 h2 h3
      cases hi' <;> exact fin
  · -- osl
    rename_i id τ sz' n cs
    simp only [RV] at hx
    obtain ⟨hc, hv⟩ := hx
    cases mx' with
    | none =>
      cases hi' with
      | none =>
        dsimp only at ho ⊢
        obtain ⟨g1, rfl, h0, h1⟩ := ho
        have e : (optI ρL (n : Int) none).2 = n := rfl
        rcases hv with ⟨b, o, cap, rfl, hle, hr, hτ⟩ | ⟨a, rfl, rfl⟩
        · obtain ⟨o', r1, r2, r3⟩ := two n cap cs b o rfl hc hle hr g1 trivial h0 h1 (by rw [e]; exact Int.le_refl _)
          refine ⟨_, r1, ?_⟩
          simp only [e, Int.toNat_natCast] at r2 ⊢
          simp only [RV]
          refine ⟨drop_len hc, .inl ⟨b, o', _, rfl, by omega, ?_, ?_⟩⟩
          · rwa [List.take_of_length_le (by rw [drop_len hc]; exact Nat.le_refl _)] at r2
          · rcases r3 with r3 | r3
            · rcases hτ with hτ | ⟨t1, t2, t3⟩
              · left; omega
              · right
                refine ⟨t1, ?_, ?_⟩
                · rw [t2, r3, Nat.add_assoc, ← Nat.add_mul]; congr 2; omega
                · rw [t3, r3, Nat.add_assoc, ← Nat.add_mul]; congr 2; omega
            · left; omega
        · obtain ⟨a', hr⟩ := nil2 a 0 rfl g1 trivial h0 h1 (Int.le_refl _)
          refine ⟨_, hr, ?_⟩
          simp only [RV]
          exact ⟨drop_len hc, .inr ⟨a', rfl, by simp⟩⟩
      | some h =>
        dsimp only at ho ⊢
        obtain ⟨g1, g2, rfl, h0, h1, h2⟩ := ho
        rcases hv with ⟨b, o, cap, rfl, hle, hr, _⟩ | ⟨a, rfl, rfl⟩
        · obtain ⟨o', r1, r2, _⟩ := two n cap cs b o rfl hc hle hr g1 g2 h0 h1 h2
          exact ⟨_, r1, by simp only [RV]; exact ⟨slice_len hc (by omega) (by omega), .inl ⟨b, o', _, rfl, by omega, r2⟩⟩⟩
        · obtain ⟨a', hr⟩ := nil2 a 0 rfl g1 g2 h0 h1 h2
          refine ⟨_, hr, ?_⟩
          simp only [RV]
          exact ⟨slice_len hc (by omega) (by omega), .inr ⟨a', 0, rfl, by omega⟩⟩
    | some m =>
      have ho' : (optI ρL 0 lo').1 ∧ (optI ρL n hi').1 ∧ (optI ρL n (some m)).1 ∧ hi'.isSome ∧ sz' = sz ∧ 0 ≤ (optI ρL 0 lo').2 ∧ (optI ρL 0 lo').2 ≤ (optI ρL n hi').2 ∧ (optI ρL n hi').2 = (optI ρL n (some m)).2 ∧ (optI ρL n hi').2 ≤ n := by
        cases hi' <;> exact ho
      obtain ⟨g1, g2, g3, hh, rfl, h0, h1, h2, h3⟩ := ho'
      have fin : ∃ u, (Instr.sliceAt t v (lo.map ρ) (hi.map ρ) (mx.map ρ)).run P w = .ok u w ∧
          RV M (.fsl sz' ((optI ρL n hi').2.toNat - (optI ρL 0 lo').2.toNat) ((cs.drop ((optI ρL 0 lo').2.toNat * sz')).take (((optI ρL n hi').2.toNat - (optI ρL 0 lo').2.toNat) * sz'))) u := by
        rcases hv with ⟨b, o, cap, rfl, hle, hr, _⟩ | ⟨a, rfl, rfl⟩
        · exact three n cap cs _ rfl hh hc hle (.inl ⟨b, o, rfl, hr⟩) g1 g2 g3 h0 h1 h2 h3
        · exact three 0 0 cs a rfl hh hc (Nat.le_refl _) (.inr rfl) g1 g2 g3 h0 h1 h2 h3
      cases hi' <;> exact fin
  · -- msl
    rename_i id sz' b off len cap
    simp only [RV] at hx
    rcases hx with rfl | ⟨rfl, rfl, a, rfl⟩
    rotate_left
    · cases mx' with
      | none =>
        dsimp only at ho ⊢
        obtain ⟨g1, g2, rfl, h0, h1, h2⟩ := ho
        have hmn : mx = none := by cases mx with | none => rfl | some _ => simp [trO] at hmx
        subst hmn
        have hb := run_bounds2 (P := P) (w := w) hρ hlo hhi (isS := true) (n := 0) (cap := 0) g1 g2 h0 h1 h2
        have hrun := run_slice_slice (P := P) (a := a) hu hs hb
        refine ⟨_, hrun, ?_⟩
        have e1 : (optI ρL ((0 : Nat) : Int) hi').2.toNat = 0 := by omega
        simp only [RV, e1, Nat.zero_sub]
        exact .inr ⟨trivial, trivial, _, rfl⟩
      | some m =>
        dsimp only at ho ⊢
        obtain ⟨g1, g2, g3, hh, rfl, h0, h1, h2, h3⟩ := ho
        have hb := run_bounds3 (P := P) (w := w) hρ hlo hhi hmx hh rfl (isS := true) (n := 0) (cap := 0) (d := ((0 : Nat) : Int)) (d' := ((0 : Nat) : Int)) g1 g2 g3 h0 h1 h2 h3
        have hrun := run_slice_slice (P := P) (a := a) hu hs hb
        refine ⟨_, hrun, ?_⟩
        have hm : (optI ρL ((0 : Nat) : Int) (some m)).2 = (optI ρL 0 lo').2 := by omega
        rw [if_pos hm, if_pos (by rw [hm])]
        have e : (optI ρL ((0 : Nat) : Int) hi').2.toNat - (optI ρL 0 lo').2.toNat = 0 := by omega
        simp only [RV, e, hm, Nat.sub_self]
        exact ⟨by simp, .inr ⟨_, rfl, by simp⟩⟩
    cases mx' with
    | none =>
      dsimp only at ho ⊢
      obtain ⟨g1, g2, rfl, h0, h1, h2⟩ := ho
      have hmn : mx = none := by cases mx with | none => rfl | some _ => simp [trO] at hmx
      subst hmn
      have hb := run_bounds2 (P := P) (w := w) hρ hlo hhi (isS := true) (n := len) (cap := cap) g1 g2 h0 h1 h2
      have hrun := run_slice_slice (P := P) (a := some ⟨b, off, none⟩) hu hs hb
      refine ⟨_, hrun, ?_⟩
      simp only [RV]
      split <;> simp [addr_add]
    | some m =>
      dsimp only at ho ⊢
      obtain ⟨g1, g2, g3, hh, rfl, h0, h1, h2, h3⟩ := ho
      have hb := run_bounds3 (P := P) (w := w) hρ hlo hhi hmx hh rfl (isS := true) (n := len) (cap := cap) (d := len) (d' := len) g1 g2 g3 h0 h1 h2 h3
      have hrun := run_slice_slice (P := P) (a := some ⟨b, off, none⟩) hu hs hb
      refine ⟨_, hrun, ?_⟩
      by_cases hm : (optI ρL (len : Int) (some m)).2 = (optI ρL 0 lo').2
      · rw [if_pos hm, if_pos (by rw [hm])]
        have e : (optI ρL (len : Int) hi').2.toNat - (optI ρL 0 lo').2.toNat = 0 := by omega
        simp only [RV, e, hm, Nat.sub_self]
        exact ⟨by simp, .inr ⟨_, rfl, by simp⟩⟩
      · rw [if_neg hm, if_neg (by omega)]
        simp only [RV, Option.map_some, addr_add]
        exact .inl trivial
  · exact ho.elim
theorem slA_sound {t e : TypeId} {n sz : Nat} (hu : P.underlying t = some (.array n e)) (hs : sizeAt P e = some sz) {ρL : X → LV} {ρ : Operand → Value} (hρ : ∀ x y, trX vv x = some y → RV M (ρL y) (ρ x)) {lo hi mx : Option Operand} {lo' hi' mx' : Option X}
    (hlo : trO vv lo = some lo') (hhi : trO vv hi = some hi') (hmx : trO vv mx = some mx') {x : LV} {v : Value} (hx : RV M x v) (ho : (slAQ n sz x lo' hi' mx' ρL).1) :
    ∃ u, (Instr.sliceAt t v (lo.map ρ) (hi.map ρ) (mx.map ρ)).run P w = .ok u w ∧ RV M (slAQ n sz x lo' hi' mx' ρL).2 u := by
  unfold slAQ at ho ⊢
  dsimp only at ho ⊢
  have key : ∀ b o, mx' = none → (optI ρL 0 lo').1 → (optI ρL n hi').1 → 0 ≤ (optI ρL 0 lo').2 → (optI ρL 0 lo').2 ≤ (optI ρL n hi').2 → (optI ρL n hi').2 ≤ n → (optI ρL 0 lo').2 < n →
      (Instr.sliceAt t (.pointer (some ⟨b, o, none⟩)) (lo.map ρ) (hi.map ρ) (mx.map ρ)).run P w = .ok (.slice (some ⟨b, o + (optI ρL 0 lo').2.toNat * sz, none⟩) ((optI ρL n hi').2.toNat - (optI ρL 0 lo').2.toNat) (n - (optI ρL 0 lo').2.toNat)) w := by
    intro b o hm g1 g2 h0 h1 h2 h3
    subst hm
    have hmn : mx = none := by cases mx with | none => rfl | some _ => simp [trO] at hmx
    subst hmn
    have hb := run_bounds2 (P := P) (w := w) hρ hlo hhi (isS := false) (n := n) (cap := n) g1 g2 h0 h1 h2
    have hcap : n ≠ (optI ρL 0 lo').2.toNat := by omega
    simp only [Instr.sliceAt, Sem.run_bind, run_underlying hu, Result.andThen_ok, Instr.sureAddr, Sem.run_pure, Option.map_none, hb, run_sizeAt hs, hcap, if_false, addr_add]
  split at ho
  · simp only [RV] at hx ⊢
    subst hx
    obtain ⟨g1, g2, h0, h1, h2, h3⟩ := ho
    exact ⟨_, key _ _ rfl g1 g2 h0 h1 h2 h3, .inl rfl⟩
  · rename_i cs off
    simp only [RV] at hx ⊢
    obtain ⟨b, o, rfl, hr⟩ := hx
    obtain ⟨g1, g2, h0, h1, h2, h3, h4⟩ := ho
    refine ⟨_, key _ _ rfl g1 g2 h0 h1 h2 h3, ?_, .inl ⟨b, _, _, rfl, by omega, ?_⟩⟩
    · have := sub_mul_le (n := n) (h := (optI ρL n hi').2.toNat) (l := (optI ρL 0 lo').2.toNat) (sz := sz) (by omega)
      simp; omega
    · rw [Nat.add_assoc]
      exact RCs_take _ (RCs_drop _ hr)
  · exact ho.elim
theorem run_b2s {b o cap : Nat} {cs : List LV} (h : Holds M w b o cs) (hb : ∀ c ∈ cs, isByte c = true) :
    (Conv.bytesToString (.slice (some ⟨b, o, none⟩) cs.length cap)).run P w = .ok (.string ⟨(cs.map toByte).toArray⟩) w := by
  obtain ⟨vs, h1, h2, _⟩ := h.load (P := P)
  simp only [Conv.bytesToString, Sem.run_bind, h1, Result.andThen_ok]
  have key : ∀ (f : Value → ByteArray → Sem (ForInStep ByteArray)), (∀ n r, f (.int .u8 n) r = pure (ForInStep.yield (r.push (UInt8.ofNat n.toNat)))) → ∀ (cs : List LV) (vs : List Value) (s : ByteArray), (∀ c ∈ cs, isByte c = true) → RVs M cs vs →
      (forIn vs.toArray s f : Sem ByteArray).run P w = .ok (s ++ ⟨(cs.map toByte).toArray⟩) w := by
    intro f hf cs
    induction cs with
    | nil =>
      intro vs s _ hr
      simp only [RVs] at hr
      subst hr
      simp only [List.forIn_toArray, List.forIn_nil, Sem.run_pure, List.map_nil]
      congr 1
      apply ByteArray.ext
      simp
    | cons c cs ih =>
      intro vs s hb hr
      simp only [RVs] at hr
      obtain ⟨u, us, rfl, hu, hs⟩ := hr
      have hc := hb c (by simp)
      cases c with
      | int k n =>
        cases k <;> simp only [isByte, Bool.false_eq_true] at hc
        simp only [RV] at hu
        subst hu
        have := ih us (s.push (UInt8.ofNat n.toNat)) (fun c hc => hb c (List.mem_cons_of_mem _ hc)) hs
        simp only [List.forIn_toArray, List.forIn_cons, Sem.run_bind, hf, Sem.run_pure, Result.andThen_ok] at this ⊢
        rw [this]
        congr 1
        apply ByteArray.ext
        simp [toByte]
      | _ => simp [isByte] at hc
  rw [key _ (fun n r => rfl) cs vs ByteArray.empty hb h2]
  simp only [Result.andThen_ok, Sem.run_pure]
  congr 2
end
end Go.Lx
namespace Go.Lx
set_option linter.unusedSimpArgs false
set_option linter.unusedVariables false
open RowKit
section
variable {vv : Nat → Bool} {P : Program} {M : Imm} {w : World}
theorem b2s_sound {gl : Glob} {w0 : World} {H HF : Heap} (hI : Inv gl w0 M (H ++ HF) w) {s d e : TypeId} (hs : P.underlying s = some (.slice e)) (he : P.underlying e = some (.int .u8)) (hd : P.underlying d = some .string) {x : LV} {v : Value} (hx : RV M x v) (ho : (b2sQ x H).1) :
    ∃ u, (convert s d v).run P w = .ok u w ∧ RV M (b2sQ x H).2 u := by
  have conv : ∀ a l c, (convert s d (.slice a l c)).run P w = (Conv.bytesToString (.slice a l c)).run P w := by
    intro a l c
    simp [convert, run_underlying hs, run_underlying hd, run_underlying he]
  have im : ∀ (n : Nat) (cs : List LV), cs.length = n * 1 → (∀ c ∈ cs, isByte c = true) → ((∃ b o cap, v = .slice (some ⟨b, o, none⟩) n cap ∧ RCs M b o cs) ∨ (∃ a cap, v = .slice a 0 cap ∧ n = 0)) → (convert s d v).run P w = .ok (.string ⟨(cs.map toByte).toArray⟩) w := by
    intro n cs hc hb hv
    rcases hv with ⟨b, o, cap, rfl, hr⟩ | ⟨a, cap, rfl, rfl⟩
    · rw [conv]
      have := run_b2s (P := P) (cap := cap) (Holds.of_imm hI hr) hb
      rwa [hc, Nat.mul_one] at this
    · rw [conv]
      have : cs = [] := by simpa using hc
      subst this
      cases a with
      | none => simp [Conv.bytesToString]; rfl
      | some a =>
        have : (loadCells a 0).run P w = .ok #[] w := by simpa using run_loadCells_list (P := P) (w := w) a [] (by simp)
        simp [Conv.bytesToString, this]
        rfl
  unfold b2sQ at ho ⊢
  split at ho
  · simp only [RV] at hx ⊢
    refine ⟨_, im _ _ hx.1 ho ?_, rfl⟩
    rcases hx.2 with ⟨b, o, cap, h1, _, h2⟩ | h
    · exact .inl ⟨b, o, cap, h1, h2⟩
    · exact .inr h
  · simp only [RV] at hx ⊢
    refine ⟨_, im _ _ hx.1 ho ?_, rfl⟩
    rcases hx.2 with ⟨b, o, h1, h2⟩ | ⟨a, h⟩
    · exact .inl ⟨b, o, _, h1, h2⟩
    · exact .inr ⟨a, 0, h⟩
  · simp only [RV] at hx ⊢
    refine ⟨_, im _ _ hx.1 ho ?_, rfl⟩
    rcases hx.2 with ⟨b, o, cap, h1, _, h2, _⟩ | ⟨a, h⟩
    · exact .inl ⟨b, o, cap, h1, h2⟩
    · exact .inr ⟨a, 0, h⟩
  · rename_i id b off len cap
    simp only [RV] at hx
    rcases hx with rfl | ⟨rfl, rfl, a, rfl⟩
    rotate_left
    · split at ho
      · rename_i b' cs hH
        refine ⟨_, im 0 [] (by simp) (by simp) (.inr ⟨a, 0, rfl, rfl⟩), ?_⟩
        simp [RV]
      · exact ho.elim
    split at ho
    · rename_i b' cs hH
      obtain ⟨rfl, h1, h2⟩ := ho
      refine ⟨.string ⟨(((cs.drop off).take len).map toByte).toArray⟩, ?_, by simp only [RV]⟩
      rw [conv]
      have := run_b2s (P := P) (cap := cap) (((Holds.of_own hI (List.mem_append_left _ (getH_mem hH))).drop off).take len) h2
      rw [take_drop_length h1, Nat.zero_add] at this
      exact this
    · exact ho.elim
  · exact ho.elim
theorem fold_set (off : Nat) : ∀ (l : List Value) (k : Nat) (cells : Array Value) (i : Nat),
    ((l.zipIdx k).foldl (fun (cs : Array Value) (p : Value × Nat) => cs.setIfInBounds (off + p.2) p.1) cells)[i]? = if off + k ≤ i ∧ i < off + k + l.length ∧ i < cells.size then l[i - (off + k)]? else cells[i]?
  | [], k, cells, i => by simp; omega
  | v :: l, k, cells, i => by
    simp only [List.zipIdx_cons, List.foldl_cons]
    rw [fold_set off l (k + 1)]
    simp only [Array.size_setIfInBounds, List.length_cons]
    by_cases h1 : off + k = i
    · subst h1
      rw [if_neg (by omega)]
      by_cases h2 : off + k < cells.size
      · rw [if_pos ⟨by omega, by omega, h2⟩]
        simp [h2]
      · rw [if_neg (by omega)]
        simp [Array.setIfInBounds, h2]
    · by_cases h2 : off + (k + 1) ≤ i ∧ i < off + (k + 1) + l.length ∧ i < cells.size
      · rw [if_pos h2, if_pos (by omega)]
        rw [show i - (off + k) = (i - (off + (k + 1))) + 1 by omega]
        simp
      · rw [if_neg h2, if_neg (by omega)]
        rw [Array.getElem?_setIfInBounds_ne h1]
theorem fold_size (off : Nat) : ∀ (l : List (Value × Nat)) (cells : Array Value), (l.foldl (fun (cs : Array Value) (p : Value × Nat) => cs.setIfInBounds (off + p.2) p.1) cells).size = cells.size
  | [], cells => rfl
  | p :: l, cells => by rw [List.foldl_cons, fold_size off l]; simp
theorem fold_splice {cs ds : List LV} {cells vs : Array Value} {off : Nat} (hc : RVs M cs cells.toList) (hd : RVs M ds vs.toList) (hr : off + ds.length ≤ cs.length) :
    RVs M (splice cs ds off) (vs.zipIdx.foldl (fun (cs : Array Value) (p : Value × Nat) => cs.setIfInBounds (off + p.2) p.1) cells).toList := by
  have hl := RVs_length hc
  have hl' := RVs_length hd
  rw [← Array.foldl_toList, Array.toList_zipIdx]
  refine RVs_of_get ?_ fun i c v hgc hgv => ?_
  · rw [splice_length hr, Array.length_toList, fold_size]
    simpa using hl
  · rw [splice_get hr] at hgc
    rw [Array.getElem?_toList, fold_set off vs.toList 0 cells i] at hgv
    simp only [Array.length_toList] at hl hl' hgv
    split at hgc
    · rename_i hin
      rw [if_pos (by omega)] at hgv
      obtain ⟨u, h1, h2⟩ := RVs_get hd _ c hgc
      rw [show off + 0 = off by omega] at hgv
      rw [h1] at hgv; cases hgv; exact h2
    · rename_i hin
      rw [if_neg (by omega)] at hgv
      obtain ⟨u, h1, h2⟩ := RVs_get hc _ c hgc
      rw [Array.getElem?_toList] at h1
      rw [h1] at hgv; cases hgv; exact h2
theorem fill_sound {ρL : X → LV} {ρ : Operand → Value} (hρ : ∀ x y, trX vv x = some y → RV M (ρL y) (ρ x)) (place : Nat → Option (Nat × Nat)) :
    ∀ (parts : List (Nat × Operand)) (parts' : List (Nat × Nat × X)) (cells : Array Value) (cs out : List LV), trParts vv place parts = some parts' → RVs M cs cells.toList → gParts ρL parts' → fillL cs (vParts ρL parts') = some out →
      ∃ cells', Instr.fill place cells (parts.map fun p => (p.1, ρ p.2)) = some cells' ∧ RVs M out cells'.toList ∧ out.length = cs.length ∧ ((∀ u ∈ cells.toList, u.oneCell' = true) → ∀ u ∈ cells'.toList, u.oneCell' = true)
  | [], parts', cells, cs, out, ht, hc, _, hf => by
    simp only [trParts, Option.some.injEq] at ht
    subst ht
    simp only [vParts, List.map_nil, fillL, Option.some.injEq] at hf
    subst hf
    exact ⟨cells, rfl, hc, rfl, fun h => h⟩
  | (i, x) :: r, parts', cells, cs, out, ht, hc, hg, hf => by
    simp only [trParts] at ht
    split at ht
    · rename_i o s y ys h1 h2 h3
      cases ht
      simp only [vParts, List.map_cons, fillL] at hf
      have hgy := hg (o, s, y) (by simp)
      have hv := strip (hρ x y h2) hgy
      split at hf
      · rename_i ds hds
        split at hf
        · rename_i hlen
          obtain ⟨hd, hone⟩ := cellsL_sound hv hds
          have hl' := RVs_length hd
          have hl := RVs_length hc
          simp only [Array.length_toList] at hl hl'
          obtain ⟨cells', f1, f2, f3, f4⟩ := fill_sound hρ place r ys _ _ out h3 (fold_splice hc hd hlen.2) (fun p hp => hg p (List.mem_cons_of_mem _ hp)) hf
          refine ⟨cells', ?_, f2, by rw [f3, splice_length hlen.2], fun h4 => f4 ?_⟩
          · simp only [List.map_cons, Instr.fill, h1]
            rw [if_neg (by simp; omega)]
            exact f1
          · intro u hu
            obtain ⟨j, hj⟩ := List.getElem?_of_mem hu
            rw [← Array.foldl_toList, Array.toList_zipIdx, Array.getElem?_toList, fold_set] at hj
            split at hj
            · exact hone u (List.mem_of_getElem? hj)
            · rw [← Array.getElem?_toList] at hj; exact h4 u (List.mem_of_getElem? hj)
        · cases hf
      · cases hf
    · cases ht
theorem zeroOf_sound {t : TypeId} {zs : List LV} (h : zeroOf P t = some zs) : ∃ i z, P.info? t = some i ∧ i.zero = some z ∧ RVs M zs z.cells.toList ∧ z.cells.size = i.size ∧ ∀ u ∈ z.cells.toList, u.oneCell' = true := by
  unfold zeroOf at h
  split at h
  · rename_i i hi
    split at h
    · rename_i z hz
      split at h
      · rename_i zs' hzs
        split at h
        · rename_i hsz
          cases h
          exact ⟨i, z, hi, hz, ofVals_sound hzs, hsz, ofVals_one hzs⟩
        · cases h
      · cases h
    · cases h
  · cases h
theorem sizeAt_info {t : TypeId} {s : Nat} (h : sizeAt P t = some s) : ∃ i, P.info? t = some i ∧ i.size = s := by
  simpa [sizeAt, Option.map_eq_some_iff] using h
theorem places_eq : ∀ (fs : List Field) (pl : List (Nat × Nat)), fs.mapM (fun f => (sizeAt P f.type).map fun s => (f.offset, s)) = some pl → fs.mapM (fun f => (P.info? f.type).map fun i => (f.offset, i.size)) = some pl := by
  intro fs pl h
  have : (fun f : Field => (sizeAt P f.type).map fun s => (f.offset, s)) = fun f => (P.info? f.type).map fun i => (f.offset, i.size) := by
    funext f
    simp [sizeAt, Function.comp_def]
  rw [this] at h
  exact h
theorem build_sound {t : TypeId} {parts : Array (Nat × Operand)} {lo : LOp} (ht : trOp vv P (.build t parts) = some lo) {ρL : X → LV} {ρ : Operand → Value} (hρ : ∀ x y, trX vv x = some y → RV M (ρL y) (ρ x)) {H : Heap} (ho : (q lo ρL H).1) :
    ∃ u, (Instr.build t (parts.map fun (i, x) => (i, ρ x))).run P w = .ok u w ∧ RV M (q lo ρL H).2 u := by
  have main : ∀ (place : Nat → Option (Nat × Nat)) (z : List LV) (zv : Value) (parts' : List (Nat × Nat × X)), trParts vv place parts.toList = some parts' → RVs M z zv.cells.toList → (∀ u ∈ zv.cells.toList, u.oneCell' = true) → lo = .build z parts' →
      (∀ cells, Instr.fill place zv.cells (parts.toList.map fun p => (p.1, ρ p.2)) = some cells → P.built t (parts.toList.map fun p => (p.1, ρ p.2)) = some cells) →
      ∃ u, (Instr.build t (parts.map fun (i, x) => (i, ρ x))).run P w = .ok u w ∧ RV M (q lo ρL H).2 u := by
    intro place z zv parts' h1 h2 h2' h3 h4
    subst h3
    simp only [q] at ho ⊢
    obtain ⟨hg, hs⟩ := ho
    obtain ⟨out, hout⟩ := Option.isSome_iff_exists.1 hs
    obtain ⟨cells', f1, f2, _, f4⟩ := fill_sound hρ place parts.toList parts' zv.cells z out h1 h2 hg hout
    refine ⟨.agg cells', run_build w t _ cells' (by simpa using h4 cells' f1), ?_⟩
    rw [hout]
    simp only [RV, Option.getD_some]
    exact ⟨cells'.toList, by simp, f2, f4 h2'⟩
  simp only [trOp] at ht
  split at ht
  · rename_i fs z hu hz
    obtain ⟨i, zv, hi, hzv, hrz, _, hz1⟩ := zeroOf_sound (M := M) hz
    split at ht
    · rename_i pl hpl
      simp only [Option.map_eq_some_iff] at ht
      obtain ⟨parts', hp, rfl⟩ := ht
      refine main _ z zv parts' hp hrz hz1 rfl fun cells hf => ?_
      simp only [Program.built, hi, hu, hzv, places_eq _ _ hpl]
      simpa using hf
    · cases ht
  · rename_i n e z hu hz
    obtain ⟨i, zv, hi, hzv, hrz, _, hz1⟩ := zeroOf_sound (M := M) hz
    split at ht
    · rename_i s hs
      obtain ⟨ie, hie, hse⟩ := sizeAt_info hs
      simp only [Option.map_eq_some_iff] at ht
      obtain ⟨parts', hp, rfl⟩ := ht
      refine main _ z zv parts' hp hrz hz1 rfl fun cells hf => ?_
      simp only [Program.built, hi, hu, hzv, hie, hse]
      exact hf
    · cases ht
  · cases ht
def valOf (g : Bool) (vs : List Value) : Value := if g then .agg vs.toArray else vs.headD undef
theorem run_part {t : TypeId} {g : Bool} {s : Nat} (hg : aggOf P t = some g) (hs : sizeAt P t = some s) (hgs : (g || s == 1) = true) {vs : List Value} {off : Nat} (hr : off + s ≤ vs.length) :
    (part t vs.toArray off).run P w = .ok (valOf g ((vs.drop off).take s)) w := by
  unfold part
  cases g with
  | true =>
    simp only [Sem.run_bind, run_isAgg hg, run_sizeAt hs, Result.andThen_ok, if_true, Sem.run_pure, valOf]
    congr 2
    rw [List.extract_toArray]
    simp [List.extract]
  | false =>
    have hs1 : s = 1 := by simpa using hgs
    subst hs1
    have : vs[off]? = some vs[off] := by simp
    simp only [Sem.run_bind, run_isAgg hg, Result.andThen_ok, List.getElem?_toArray, this]
    simp only [valOf, Bool.false_eq_true, if_false, Sem.run_pure]
    congr 1
    rw [List.drop_eq_getElem_cons (by omega)]
    rfl
theorem RVs_slice {cs : List LV} {vs : List Value} (h : RVs M cs vs) (o s : Nat) : RVs M ((cs.drop o).take s) ((vs.drop o).take s) := by
  have hl := RVs_length h
  refine RVs_of_get (by simp; omega) fun i c v hc hv => ?_
  rw [List.getElem?_take] at hc hv
  split at hc
  · rename_i hi
    rw [if_pos hi, List.getElem?_drop] at hv
    rw [List.getElem?_drop] at hc
    obtain ⟨u, h1, h2⟩ := RVs_get h _ c hc
    rw [h1] at hv; cases hv; exact h2
  · cases hc
theorem getD_slice {xs : List LV} {o s i : Nat} (hi : i < s) : ((xs.drop o).take s).getD i .any = xs.getD (o + i) .any := by
  simp only [List.getD_eq_getElem?_getD, List.getElem?_take, hi, if_true, List.getElem?_drop]
theorem leavesQ_shift {xs ys : List LV} {o s : Nat} : ∀ {a : List (Nat × Nat)}, a.all (fun p => p.1 < s) = true → leavesQ ((xs.drop o).take s) ((ys.drop o).take s) a = leavesQ xs ys (a.map (fun p => (o + p.1, p.2)))
  | [], _ => rfl
  | i :: r, h => by
    simp only [List.all_cons, Bool.and_eq_true, decide_eq_true_eq] at h
    simp only [leavesQ, List.map_cons, getD_slice h.1, leavesQ_shift h.2]
theorem leavesQ_append {xs ys : List LV} : ∀ {a b : List (Nat × Nat)}, leavesQ xs ys (a ++ b) = ((leavesQ xs ys a).1 ∧ (leavesQ xs ys b).1, (leavesQ xs ys a).2 && (leavesQ xs ys b).2)
  | [], b => by simp [leavesQ]
  | i :: a, b => by
    simp only [List.cons_append, leavesQ, leavesQ_append]
    simp [and_assoc, Bool.and_assoc]
theorem valOf_true (vs : List Value) : valOf true vs = .agg vs.toArray := rfl
theorem valOf_one (v : Value) : valOf false [v] = v := rfl
theorem leaf_sound {d : Nat} {t : TypeId} {k : Nat} (hk : (k = 0 ∧ P.underlying t = some .bool) ∨ (k = 1 ∧ ∃ ik, P.underlying t = some (.int ik)) ∨ (k = 2 ∧ P.underlying t = some .string)) {x y : LV} {v u : Value} (hx : RV M x v) (hy : RV M y u) (h : (leafQ k x y).1) :
    (Op.equalIn (d + 1) t v u).run P w = .ok (leafQ k x y).2 w := by
  unfold leafQ at h ⊢
  split at h
  · simp only [RV] at hx hy
    subst hx; subst hy
    obtain ⟨rfl, rfl⟩ := h
    rcases hk with ⟨h1, _⟩ | ⟨_, ik, h2⟩ | ⟨h1, _⟩
    · cases h1
    · exact run_equalIn_int w d t _ ik _ _ h2
    · cases h1
  · simp only [RV] at hx hy
    subst hx; subst hy
    simp only at h
    subst h
    rcases hk with ⟨h1, _⟩ | ⟨h1, _⟩ | ⟨_, h2⟩
    · cases h1
    · cases h1
    · rw [run_equalIn_string w d t _ _ h2]; simp
  · simp only [RV] at hx hy
    subst hx; subst hy
    simp only at h
    subst h
    rcases hk with ⟨_, h2⟩ | ⟨h1, _⟩ | ⟨h1, _⟩
    · exact equalIn_bool d h2 _ _
    · cases h1
    · cases h1
  · exact h.elim
theorem leaves_sound : ∀ (d : Nat) (t : TypeId) (ls : List (Nat × Nat)), leaves P d t = some ls → ∀ d', d ≤ d' → ∀ g s, aggOf P t = some g → sizeAt P t = some s → (g || s == 1) = true → ∀ (xs ys : List LV) (vs us : List Value), RVs M xs vs → RVs M ys us → xs.length = s → ys.length = s →
    (leavesQ xs ys ls).1 → (Op.equalIn d' t (valOf g vs) (valOf g us)).run P w = .ok (leavesQ xs ys ls).2 w
  | 0, t, ls, h, _, _, _, _, _, _, _, _, _, _, _, _, _, _, _, _ => by simp [leaves] at h
  | d + 1, t, ls, h, 0, hd, _, _, _, _, _, _, _, _, _, _, _, _, _, _ => by omega
  | d + 1, t, ls, h, d' + 1, hd, g, s, hg, hs, hgs, xs, ys, vs, us, hxs, hys, lx, ly, ho => by
    have scal : ∀ k, ls = [(0, k)] → ((k = 0 ∧ P.underlying t = some .bool) ∨ (k = 1 ∧ ∃ ik, P.underlying t = some (.int ik)) ∨ (k = 2 ∧ P.underlying t = some .string)) →
        (Op.equalIn (d' + 1) t (valOf g vs) (valOf g us)).run P w = .ok (leavesQ xs ys ls).2 w := by
      intro k hl hk
      subst hl
      have hgf : g = false := by
        unfold aggOf at hg
        rcases hk with ⟨_, h2⟩ | ⟨_, ik, h2⟩ | ⟨_, h2⟩ <;> rw [h2] at hg <;> simpa using hg.symm
      subst hgf
      have hs1 : s = 1 := by simpa using hgs
      subst hs1
      obtain ⟨x, rfl⟩ := List.length_eq_one_iff.1 lx
      obtain ⟨y, rfl⟩ := List.length_eq_one_iff.1 ly
      simp only [RVs] at hxs hys
      obtain ⟨v, _, rfl, hv, rfl⟩ := hxs
      obtain ⟨u, _, rfl, hu, rfl⟩ := hys
      simp only [leavesQ, List.getD_cons_zero, and_true, Bool.and_true] at ho ⊢
      rw [valOf_one, valOf_one]
      exact leaf_sound hk hv hu ho
    simp only [leaves] at h
    split at h
    · rename_i hu; cases h; exact scal 0 rfl (.inl ⟨rfl, hu⟩)
    · rename_i ik hu; cases h; exact scal 1 rfl (.inr (.inl ⟨rfl, ik, hu⟩))
    · rename_i hu; cases h; exact scal 2 rfl (.inr (.inr ⟨rfl, hu⟩))
    · rename_i fs hu
      rw [hs] at h
      dsimp only at h
      split at h
      · cases h
      · rename_i hstood
        simp only [Bool.or_eq_true, Bool.not_eq_true', not_or, Bool.not_eq_true, Bool.not_eq_false] at hstood
        obtain ⟨hst, hfits⟩ := hstood
        have hgt : g = true := by unfold aggOf at hg; rw [hu] at hg; simpa using hg.symm
        subst hgt
        have hfo : P.fieldsOf t = fs := by simp [Program.fieldsOf, hu]
        rw [valOf_true, valOf_true, run_equalIn_struct w d' t _ _ (by rw [hfo]; exact hu) hst, hfo]
        have key : ∀ (l : List Field) (ls : List (Nat × Nat)), (fitsIn P s l = true) → leavesF P (leaves P d) l = some ls → (leavesQ xs ys ls).1 → (Op.eqFields d' vs.toArray us.toArray l).run P w = .ok (leavesQ xs ys ls).2 w := by
          intro l
          induction l with
          | nil => intro ls _ h _; simp only [leavesF, Option.some.injEq] at h; subst h; simp [Op.eqFields, leavesQ]
          | cons f r ih =>
            intro ls hft h ho
            simp only [leavesF] at h
            split at h
            · cases h
            · rename_i hname
              split at h
              · rename_i a sf gf b h1 h2 h3 h4
                split at h
                · rename_i hc
                  cases h
                  simp only [Bool.and_eq_true] at hc
                  simp only [fitsIn, List.all_cons, Bool.and_eq_true] at hft
                  have hbound : f.offset + sf ≤ s := by have := hft.1; rw [h2] at this; simpa using this
                  rw [leavesQ_append] at ho ⊢
                  simp only at ho ⊢
                  have e1 := leavesQ_shift (xs := xs) (ys := ys) (o := f.offset) hc.1
                  have lxs := RVs_length hxs
                  have lys := RVs_length hys
                  have p1 := run_part (P := P) (w := w) (vs := vs) (off := f.offset) h3 h2 hc.2 (by omega)
                  have p2 := run_part (P := P) (w := w) (vs := us) (off := f.offset) h3 h2 hc.2 (by omega)
                  have hin := leaves_sound d f.type a h1 d' (by omega) gf sf h3 h2 hc.2 _ _ _ _ (RVs_slice hxs f.offset sf) (RVs_slice hys f.offset sf) (by simp; omega) (by simp; omega) (by rw [e1]; exact ho.1)
                  rw [e1] at hin
                  have hrest := ih b hft.2 h4 ho.2
                  simp only [Op.eqFields, ne_eq, hname, not_false_eq_true, if_true, Sem.run_bind, p1, p2, Result.andThen_ok, hin, Sem.run_ite, Sem.run_pure, hrest]
                  cases (leavesQ xs ys (a.map fun p => (f.offset + p.1, p.2))).2 <;> simp
                · cases h
              · cases h
        exact key fs.toList ls hfits h ho
    · cases h
theorem eqS_sound {op : BinOp} (hop : op = .eql ∨ op = .neq) {t : TypeId} {s : Nat} {ls : List (Nat × Nat)} (hag : aggOf P t = some true) (hs : sizeAt P t = some s) (hq : P.eqGuardType P.depth t = false) (hl : leaves P 30 t = some ls) {ox oy : Operand} {x y : LV} {a b : Value} (hx : RV M x a) (hy : RV M y b)
    (ho : (eqSQ (op == .neq) s ls x y).1) : ∃ u, (do eqGuard op t ox oy a b; binOp op t a b : Sem Value).run P w = .ok u w ∧ RV M (eqSQ (op == .neq) s ls x y).2 u := by
  unfold eqSQ at ho ⊢
  split at ho
  · rename_i xs ys
    simp only [RV] at hx hy
    obtain ⟨vs, rfl, hvs, _⟩ := hx
    obtain ⟨us, rfl, hus, _⟩ := hy
    obtain ⟨l1, l2, ho⟩ := ho
    have h := leaves_sound (M := M) (w := w) 30 t ls hl 10000 (by omega) true s hag hs rfl xs ys vs us hvs hus l1 l2 ho
    rw [valOf_true, valOf_true] at h
    rcases hop with rfl | rfl
    · refine ⟨.bool (leavesQ xs ys ls).2, ?_, by show RV M (.bool (if false then _ else _)) _; simp [RV]⟩
      simp only [Sem.run_bind, run_eqGuard_agg w _ t _ _ _ _ hq, Result.andThen_ok, run_eql_struct, h]
    · refine ⟨.bool (!(leavesQ xs ys ls).2), ?_, by show RV M (.bool (if true then _ else _)) _; simp [RV]⟩
      simp only [Sem.run_bind, run_eqGuard_agg w _ t _ _ _ _ hq, Result.andThen_ok, run_neq_struct, h]
  · exact ho.elim
theorem wrapV {s : Sem Value} {u : Value} (h : s.run P w = .ok u w) : (do pure (Next.value (← s)) : Sem Next).run P w = .ok (.value u) w := by
  simp [h]
theorem q_sound {gl : Glob} {w0 : World} {H HF : Heap} {n : Nat} {env tmp : Env} {a : Act} (hI : Inv gl w0 M (H ++ HF) w) (hF : Fr vv n env tmp M a) {o : Oper} {lo : LOp} (ht : trOp vv P o.op = some lo) (ho : (q lo (ev gl env tmp) H).1) :
    ∃ v, (execOp a.eval o).run P w = .ok (.value v) w ∧ RV M (q lo (ev gl env tmp) H).2 v := by
  have hρ : ∀ x y, trX vv x = some y → RV M (ev gl env tmp y) (a.eval x) := fun x y h => ev_sound hF hI.glob h
  obtain ⟨dst, op, ty, pos, after, guard⟩ := o
  simp only at ht
  cases op <;> simp only [trOp] at ht <;> try (cases ht; done)
  case move x =>
    simp only [Option.map_eq_some_iff] at ht
    obtain ⟨y, hy, rfl⟩ := ht
    exact ⟨_, rfl, strip (hρ x y hy) ho⟩
  case assign x =>
    simp only [Option.map_eq_some_iff] at ht
    obtain ⟨y, hy, rfl⟩ := ht
    exact ⟨_, rfl, strip (hρ x y hy) ho⟩
  case pick c x y =>
    split at ht
    · rename_i c' x' y' h1 h2 h3
      cases ht
      exact pick_sound (hρ _ _ h1) (hρ _ _ h2) (hρ _ _ h3) ho
    · cases ht
  case build t parts =>
    obtain ⟨u, h1, h2⟩ := build_sound (w := w) (t := t) (parts := parts) (by simpa only [trOp] using ht) hρ ho
    exact ⟨u, wrapV h1, h2⟩
  case load t x =>
    split at ht
    · rename_i g s x' h1 h2 h3
      split at ht
      · rename_i hgs
        cases ht
        obtain ⟨u, r1, r2⟩ := load_sound (P := P) hI h1 h2 hgs (strip (hρ _ _ h3) ho.1) ho.2
        exact ⟨u, wrapV r1, r2⟩
      · cases ht
    · cases ht
  case nilCheck x =>
    simp only [Option.map_eq_some_iff] at ht
    obtain ⟨y, hy, rfl⟩ := ht
    have := nilc_sound (P := P) (w := w) (strip (hρ x y hy) ho.1) ho.2 ⟨dst, .nilCheck x, ty, pos, after, guard⟩ a.eval x rfl rfl
    exact ⟨_, this.1, this.2⟩
  case binOp op t x y yt =>
    split at ht
    · rename_i x' y' h1 h2
      have fin : (∃ u, (do eqGuard op t x y (a.eval x) (a.eval y); binOp op t (a.eval x) (a.eval y) : Sem Value).run P w = .ok u w ∧ RV M (q lo (ev gl env tmp) H).2 u) →
          ∃ v, (execOp a.eval ⟨dst, .binOp op t x y yt, ty, pos, after, guard⟩).run P w = .ok (.value v) w ∧ RV M (q lo (ev gl env tmp) H).2 v := by
        rintro ⟨u, r1, r2⟩
        exact ⟨u, wrapV r1, r2⟩
      have plain : lo = .bin op x' y' → ∃ v, (execOp a.eval ⟨dst, .binOp op t x y yt, ty, pos, after, guard⟩).run P w = .ok (.value v) w ∧ RV M (q lo (ev gl env tmp) H).2 v := by
        intro hl
        subst hl
        exact fin (bin_sound (strip (hρ _ _ h1) ho.1) (strip (hρ _ _ h2) ho.2.1) ho.2.2)
      have eqc : (op = .eql ∨ op = .neq) → (match P.underlying t with
          | some (.int _) | some .string => some (LOp.bin op x' y')
          | some .bool => some (.eqB (op == .neq) x' y')
          | some (.pointer _) => some (.eqN (op == .neq) x' y')
          | some (.slice _) => if nilLit y' then some (.isNil (op == .neq) x') else none
          | some (.struct _) | some (.array _ _) =>
            if P.eqGuardType P.depth t then none
            else match leaves P 30 t, sizeAt P t with
              | some ls, some s => some (.eqS (op == .neq) s ls x' y')
              | _, _ => none
          | _ => none) = some lo → ∃ v, (execOp a.eval ⟨dst, .binOp op t x y yt, ty, pos, after, guard⟩).run P w = .ok (.value v) w ∧ RV M (q lo (ev gl env tmp) H).2 v := by
        intro hop h
        have str : (∃ fs, P.underlying t = some (.struct fs)) ∨ (∃ k e, P.underlying t = some (.array k e)) → (if P.eqGuardType P.depth t then none
            else match leaves P 30 t, sizeAt P t with
              | some ls, some s => some (LOp.eqS (op == .neq) s ls x' y')
              | _, _ => none) = some lo → ∃ v, (execOp a.eval ⟨dst, .binOp op t x y yt, ty, pos, after, guard⟩).run P w = .ok (.value v) w ∧ RV M (q lo (ev gl env tmp) H).2 v := by
          intro hty h
          have hag : aggOf P t = some true := by
            unfold aggOf
            rcases hty with ⟨fs, hu⟩ | ⟨k, e, hu⟩ <;> rw [hu]
          split at h
          · cases h
          · rename_i hq
            split at h
            · rename_i ls s hls hs
              cases h
              exact fin (eqS_sound hop hag hs (by simpa using hq) hls (strip (hρ _ _ h1) ho.1) (strip (hρ _ _ h2) ho.2.1) ho.2.2)
            · cases h
        split at h
        · cases h; exact plain rfl
        · cases h; exact plain rfl
        · rename_i hu; cases h
          exact fin (eqB_sound hop hu (strip (hρ _ _ h1) ho.1) (strip (hρ _ _ h2) ho.2.1) ho.2.2)
        · rename_i e hu; cases h
          exact fin (eqN_sound hop hu (strip (hρ _ _ h1) ho.1) (strip (hρ _ _ h2) ho.2.1) ho.2.2)
        · split at h
          · cases h; exact ho.elim
          · cases h
        · rename_i fs hu; exact str (.inl ⟨fs, hu⟩) h
        · rename_i k e hu; exact str (.inr ⟨k, e, hu⟩) h
        · cases h
      cases op <;> first
        | exact eqc (.inl rfl) ht
        | exact eqc (.inr rfl) ht
        | exact plain (Option.some.inj ht).symm
    · cases ht
  case unOp op t x =>
    simp only [Option.map_eq_some_iff] at ht
    obtain ⟨y, hy, rfl⟩ := ht
    obtain ⟨u, r1, r2⟩ := un_sound (P := P) (w := w) (strip (hρ _ _ hy) ho.1) ho.2
    exact ⟨u, wrapV r1, r2⟩
  case convert s d x =>
    split at ht
    · rename_i ds k x' h1 h2 h3
      cases ht
      obtain ⟨u, r1, r2⟩ := conv_sound (P := P) (w := w) h1 h2 (strip (hρ _ _ h3) ho.1) ho.2
      exact ⟨u, wrapV r1, r2⟩
    · rename_i x' h1 h2 h3
      cases ht
      obtain ⟨u, r1, r2⟩ := same_sound (P := P) (w := w) h1 h2 (strip (hρ _ _ h3) ho.1) ho.2
      exact ⟨u, wrapV r1, r2⟩
    · rename_i e x' h1 h2 h3
      split at ht
      · rename_i he
        cases ht
        obtain ⟨u, r1, r2⟩ := b2s_sound (P := P) hI h1 he h2 (strip (hρ _ _ h3) ho.1) ho.2
        exact ⟨u, wrapV r1, r2⟩
      · cases ht
    · rename_i e x' h1 h2 h3
      split at ht
      · cases ht; exact ho.elim
      · cases ht
    · split at ht
      · split at ht
        · cases ht; exact ho.elim
        · cases ht
      · cases ht
    · cases ht
  case slice t x l h m =>
    split at ht
    · rename_i x' l' h' hu h1 h2 h3 h4
      cases ht
      simp only [q] at ho ⊢
      split at ho
      · rename_i s hs
        have hx := strip (hρ _ _ h1) ho.1
        rw [hs] at hx
        simp only [RV] at hx
        have hm : m = none := by cases m with | none => rfl | some _ => simp [trO] at h4
        subst hm
        obtain ⟨u, r1, r2⟩ := slS_sound (P := P) (w := w) hu hρ h2 h3 ho.2.1 ho.2.2.1 ho.2.2.2
        refine ⟨u, wrapV ?_, r2⟩
        rw [hx]; exact r1
      · exact ho.elim
    · rename_i e x' l' h' m' hu h1 h2 h3 h4
      simp only [Option.map_eq_some_iff] at ht
      obtain ⟨s, hs, rfl⟩ := ht
      obtain ⟨u, r1, r2⟩ := slL_sound (P := P) (w := w) hu hs hρ h2 h3 h4 (strip (hρ _ _ h1) ho.1) ho.2
      exact ⟨u, wrapV r1, r2⟩
    · rename_i k e x' l' h' m' hu h1 h2 h3 h4
      simp only [Option.map_eq_some_iff] at ht
      obtain ⟨s, hs, rfl⟩ := ht
      obtain ⟨u, r1, r2⟩ := slA_sound (P := P) (w := w) hu hs hρ h2 h3 h4 (strip (hρ _ _ h1) ho.1) ho.2
      exact ⟨u, wrapV r1, r2⟩
    · cases ht
  case fieldAddr t x f =>
    split at ht
    · rename_i fs x' hu h1
      split at ht
      · rename_i fd hf
        split at ht
        · rename_i s hs
          split at ht
          · cases ht
          · rename_i h0
            cases ht
            obtain ⟨u, r1, r2⟩ := faddr_sound (P := P) (w := w) hu hf hs h0 (strip (hρ _ _ h1) ho.1) ho.2
            exact ⟨u, wrapV r1, r2⟩
        · cases ht
      · cases ht
    · cases ht
  case field t x f =>
    split at ht
    · rename_i fs x' hu h1
      split at ht
      · rename_i fd hf
        split at ht
        · rename_i g s hg hs
          split at ht
          · rename_i hgs
            cases ht
            obtain ⟨u, r1, r2⟩ := fld_sound (P := P) (w := w) hu hf hg hs hgs (strip (hρ _ _ h1) ho.1) ho.2
            exact ⟨u, wrapV r1, r2⟩
          · cases ht
        · cases ht
      · cases ht
    · cases ht
  case indexAddr t x i =>
    split at ht
    · rename_i e x' i' hu h1 h2
      simp only [Option.map_eq_some_iff] at ht
      obtain ⟨s, hs, rfl⟩ := ht
      obtain ⟨u, r1, r2⟩ := iaS_sound (P := P) (w := w) hu hs (strip (hρ _ _ h1) ho.1) (strip (hρ _ _ h2) ho.2.1) ho.2.2
      exact ⟨u, wrapV r1, r2⟩
    · rename_i k e x' i' hu h1 h2
      simp only [Option.map_eq_some_iff] at ht
      obtain ⟨s, hs, rfl⟩ := ht
      obtain ⟨u, r1, r2⟩ := iaA_sound (P := P) (w := w) hu hs (strip (hρ _ _ h1) ho.1) (strip (hρ _ _ h2) ho.2.1) ho.2.2
      exact ⟨u, wrapV r1, r2⟩
    · cases ht
  case index t x i =>
    split at ht
    · rename_i x' i' hu h1 h2
      cases ht
      obtain ⟨u, r1, r2⟩ := ixS_sound (P := P) (w := w) hu (strip (hρ _ _ h1) ho.1) (strip (hρ _ _ h2) ho.2.1) ho.2.2
      exact ⟨u, wrapV r1, r2⟩
    · rename_i k e x' i' hu h1 h2
      split at ht
      · rename_i g s hg hs
        split at ht
        · rename_i hgs
          cases ht
          obtain ⟨u, r1, r2⟩ := ixA_sound (P := P) (w := w) hu hg hs hgs (strip (hρ _ _ h1) ho.1) (strip (hρ _ _ h2) ho.2.1) ho.2.2
          exact ⟨u, wrapV r1, r2⟩
        · cases ht
      · cases ht
    · cases ht
  case extract x i =>
    simp only [Option.map_eq_some_iff] at ht
    obtain ⟨y, hy, rfl⟩ := ht
    obtain ⟨u, r1, r2⟩ := ext_sound (P := P) (w := w) (strip (hρ _ _ hy) ho.1) ho.2
    exact ⟨u, wrapV r1, r2⟩
  case makeFunc fn first captured =>
    cases fn with
    | func f =>
      simp only at ht
      split at ht
      · rename_i hf
        simp only [Option.map_eq_some_iff] at ht
        obtain ⟨caps, hc, rfl⟩ := ht
        have hfe : first = #[] := by simpa using hf
        subst hfe
        have hvs : ∀ (l : List Operand) (xs : List X), trXs vv l = some xs → (∀ x ∈ xs, (ev gl env tmp x).g) → RVs M (xs.map fun x => (ev gl env tmp x).v) (l.map a.eval) := by
          intro l
          induction l with
          | nil => intro xs h _; simp only [trXs, Option.some.injEq] at h; subst h; simp [RVs]
          | cons o l ih =>
            intro xs h hg
            simp only [trXs] at h
            split at h
            · rename_i y ys h1 h2
              cases h
              simp only [List.map_cons, RVs]
              exact ⟨_, _, rfl, strip (hρ _ _ h1) (hg y (by simp)), ih ys h2 fun x hx => hg x (List.mem_cons_of_mem _ hx)⟩
            · cases h
        refine ⟨.func (.func f) #[] (captured.map a.eval), wrapV (by simp only [Instr.makeFunc, Sem.run_pure]; simp), ?_⟩
        simp only [q, RV]
        exact ⟨captured.toList.map a.eval, by rw [show Array.map a.eval captured = (List.map a.eval captured.toList).toArray from Array.toList_inj.1 (by simp)], hvs _ _ hc ho⟩
      · cases ht
    | _ => simp at ht
  case box t x => simp only [Option.map_eq_some_iff] at ht; obtain ⟨y, _, rfl⟩ := ht; exact ho.elim
  case alloc t => simp only [Option.map_eq_some_iff] at ht; obtain ⟨y, _, rfl⟩ := ht; exact ho.elim
  case buildSlice t k parts => 
    split at ht
    · split at ht
      · split at ht
        · cases ht
        · simp only [Option.map_eq_some_iff] at ht; obtain ⟨y, _, rfl⟩ := ht; revert ho; split <;> exact fun ho => ho.elim
      · cases ht
    · cases ht
  case makeSlice t l c =>
    split at ht
    · split at ht
      · cases ht; exact ho.elim
      · cases ht
    · cases ht
  case store t x y =>
    split at ht
    · cases ht; exact ho.elim
    · cases ht
  case makeMap t r => split at ht <;> first | (cases ht; exact ho.elim) | cases ht
  case lookup t x i ok =>
    split at ht
    · split at ht
      · cases ht; exact ho.elim
      · cases ht
    · cases ht
  case mapUpdate t x i v =>
    split at ht
    · cases ht; exact ho.elim
    · cases ht
  case call c =>
    obtain ⟨callee, args, argTypes⟩ := c
    cases callee with
    | value f =>
      cases f with
      | func f =>
        simp only at ht
        split at ht
        · split at ht
          · cases ht
          · simp only [Option.map_eq_some_iff] at ht; obtain ⟨y, _, rfl⟩ := ht; exact ho.elim
        · cases ht
      | _ =>
        simp only at ht
        split at ht
        · cases ht; exact ho.elim
        · cases ht
    | invoke r m => simp at ht
    | builtin b =>
      simp only at ht
      split at ht
      · -- len
        rename_i x t e1 e2
        have ea : args = #[x] := Array.toList_inj.1 (by simpa using e1)
        have et : argTypes = #[t] := Array.toList_inj.1 (by simpa using e2)
        subst ea; subst et
        have run : ∀ u, (Builtin.len_ #[t] ty #[a.eval x]).run P w = .ok u w → (execOp a.eval ⟨dst, .call ⟨.builtin .len, #[x], #[t]⟩, ty, pos, after, guard⟩).run P w = .ok (.value u) w := by
          intro u hu
          simp only [execOp, resolve, invoke, builtin, Sem.run_bind, Sem.run_pure, Result.andThen_ok]
          simpa using by rw [hu]; rfl
        split at ht
        · rename_i x' hu h1
          cases ht
          obtain ⟨u, r1, r2⟩ := len_sound (P := P) (w := w) (ty := ty) hu (strip (hρ _ _ h1) ho.1) ho.2
          exact ⟨u, run u r1, r2⟩
        · rename_i e x' hu h1
          cases ht
          obtain ⟨u, r1, r2⟩ := lenL_sound (P := P) (w := w) (ty := ty) hu (strip (hρ _ _ h1) ho.1) ho.2
          exact ⟨u, run u r1, r2⟩
        · rename_i k e x' hu h1
          cases ht
          refine ⟨.int .i64 k, run _ ?_, rfl⟩
          simp [Builtin.len_, run_underlying hu, goInt]
        · cases ht
      · -- cap
        rename_i x t e1 e2
        have ea : args = #[x] := Array.toList_inj.1 (by simpa using e1)
        have et : argTypes = #[t] := Array.toList_inj.1 (by simpa using e2)
        subst ea; subst et
        split at ht
        · rename_i e x' hu h1
          cases ht
          obtain ⟨u, r1, r2⟩ := cap_sound (P := P) (w := w) (ty := ty) hu (strip (hρ _ _ h1) ho.1) ho.2
          refine ⟨u, ?_, r2⟩
          simp only [execOp, resolve, invoke, builtin, Sem.run_bind, Sem.run_pure, Result.andThen_ok]
          simpa using by rw [r1]; rfl
        · cases ht
      · -- clear
        split at ht
        · split at ht
          · split at ht
            · cases ht; exact ho.elim
            · cases ht
          · cases ht
        · cases ht
      · -- append
        split at ht
        · split at ht
          · split at ht
            · cases ht
            · cases ht; (revert ho; split <;> exact fun ho => ho.elim)
          · cases ht
        · split at ht
          · split at ht
            · cases ht
            · cases ht; exact ho.elim
          · cases ht
        · split at ht
          · split at ht
            · cases ht
            · cases ht; exact ho.elim
          · cases ht
        · cases ht
      · -- copy
        split at ht
        · simp only [Option.map_eq_some_iff] at ht; obtain ⟨y, _, rfl⟩ := ht; exact ho.elim
        · cases ht
      · -- min
        rename_i x r e1
        split at ht
        · rename_i x' r' h1 h2
          cases ht
          obtain ⟨u, r1, r2⟩ := mm_sound (P := P) (w := w) (ev gl env tmp) a.eval hρ false r r' _ _ h2 (strip (hρ _ _ h1) ho.1) ho.2
          refine ⟨u, ?_, r2⟩
          simp only [execOp, resolve, invoke, builtin, Sem.run_bind, Sem.run_pure, Result.andThen_ok, Builtin.min_, Array.toList_map, e1, List.map_cons]
          simp only [Bool.false_eq_true, if_false] at r1
          rw [r1]; rfl
        · cases ht
      · -- max
        rename_i x r e1
        split at ht
        · rename_i x' r' h1 h2
          cases ht
          obtain ⟨u, r1, r2⟩ := mm_sound (P := P) (w := w) (ev gl env tmp) a.eval hρ true r r' _ _ h2 (strip (hρ _ _ h1) ho.1) ho.2
          refine ⟨u, ?_, r2⟩
          simp only [execOp, resolve, invoke, builtin, Sem.run_bind, Sem.run_pure, Result.andThen_ok, Builtin.max_, Array.toList_map, e1, List.map_cons]
          simp only [if_true] at r1
          rw [r1]; rfl
        · cases ht
      · cases ht
end
end Go.Lx
