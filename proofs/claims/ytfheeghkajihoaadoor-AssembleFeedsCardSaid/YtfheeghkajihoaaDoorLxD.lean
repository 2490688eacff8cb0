/- The quiet operations do what 'q' says. -/
import Derived.Test.YtfheeghkajihoaaDoorLxC
namespace Go.Lx
set_option linter.unusedSimpArgs false
set_option linter.unusedVariables false
open RowKit

section
variable {P : Program} {M : Imm} {w : World}

theorem run_isAgg {t : TypeId} {g : Bool} (h : aggOf P t = some g) : (isAgg t).run P w = .ok g w := by
  unfold aggOf at h
  unfold isAgg
  split at h <;> rename_i d hd
  · cases h; simp [run_underlying hd]
  · cases h; simp [run_underlying hd]
  · cases h
    simp only [Sem.run_bind, run_underlying hd, Result.andThen_ok]
    rfl
  · cases h

theorem run_sizeAt {t : TypeId} {s : Nat} (h : sizeAt P t = some s) : (sizeOf t).run P w = .ok s w := by
  simp only [sizeAt, Option.map_eq_some_iff] at h
  obtain ⟨i, hi, rfl⟩ := h
  simp [sizeOf, run_typeInfo w hi]

theorem take_drop_length {α : Type} {cs : List α} {o s : Nat} (h : o + s ≤ cs.length) : ((cs.drop o).take s).length = s := by
  simp; omega

theorem getD_eq {cs : List LV} {i : Nat} (h : i < cs.length) : cs[i]? = some (cs.getD i .any) := by
  rw [List.getElem?_eq_getElem h]; simp [List.getD, h]

/-- cells of memory, with their logical values -/
def Holds (M : Imm) (w : World) (b o : Nat) (cs : List LV) : Prop := ∀ (i : Nat) (c : LV), cs[i]? = some c → ∃ u, w.cell? ⟨b, o + i, none⟩ = some u ∧ RV M c u ∧ u.oneCell' = true

theorem Holds.of_imm {gl : Glob} {w0 : World} {H : Heap} (hI : Inv gl w0 M H w) {b o : Nat} {cs : List LV} (h : RCs M b o cs) : Holds M w b o cs := by
  intro i c hc
  obtain ⟨v, h1, h2⟩ := RCs_get h i c hc
  exact ⟨v, (hI.imm _ _ _ h1).1, h2, (hI.imm _ _ _ h1).2⟩

theorem Holds.of_own {gl : Glob} {w0 : World} {H : Heap} (hI : Inv gl w0 M H w) {id b : Nat} {cs : List LV} (h : (id, Ent.blk b cs) ∈ H) : Holds M w b 0 cs := by
  intro i c hc
  have h3 := (hI.own _ h).2
  simp only [entOK] at h3
  obtain ⟨u, a1, _, a3, a4⟩ := h3 i c hc
  exact ⟨u, by simpa using a1, a3, a4⟩

theorem Holds.drop {b o : Nat} {cs : List LV} (h : Holds M w b o cs) (k : Nat) : Holds M w b (o + k) (cs.drop k) := by
  intro i c hc
  rw [List.getElem?_drop] at hc
  obtain ⟨u, h1, h2⟩ := h (k + i) c hc
  exact ⟨u, by rw [show o + k + i = o + (k + i) by omega]; exact h1, h2⟩

theorem Holds.take {b o : Nat} {cs : List LV} (h : Holds M w b o cs) (k : Nat) : Holds M w b o (cs.take k) := by
  intro i c hc
  rw [List.getElem?_take] at hc
  split at hc
  · exact h i c hc
  · cases hc

theorem Holds.vals {b o : Nat} {cs : List LV} (h : Holds M w b o cs) : ∃ vs : List Value, RVs M cs vs ∧ (∀ v ∈ vs, v.oneCell' = true) ∧ ∀ i v, vs[i]? = some v → w.cell? ⟨b, o + i, none⟩ = some v := by
  induction cs generalizing o with
  | nil => exact ⟨[], by simp [RVs], by simp, by simp⟩
  | cons c cs ih =>
    obtain ⟨u, hu, hv, h1⟩ := h 0 c (by simp)
    obtain ⟨us, a1, a2, a3⟩ := ih (o := o + 1) (fun i c' hc => by
      rw [show o + 1 + i = o + (i + 1) by omega]; exact h (i + 1) c' (by simpa using hc))
    refine ⟨u :: us, by simp only [RVs]; exact ⟨u, us, rfl, hv, a1⟩, fun v hv' => ?_, fun i v hi => ?_⟩
    · rcases List.mem_cons.1 hv' with rfl | hv'
      · exact h1
      · exact a2 v hv'
    · cases i with
      | zero => simp at hi; subst hi; simpa using hu
      | succ i => rw [show o + (i + 1) = o + 1 + i by omega]; exact a3 i v (by simpa using hi)

theorem Holds.load {b o : Nat} {cs : List LV} (h : Holds M w b o cs) : ∃ vs : List Value, (loadCells ⟨b, o, none⟩ cs.length).run P w = .ok vs.toArray w ∧ RVs M cs vs ∧ ∀ v ∈ vs, v.oneCell' = true := by
  obtain ⟨vs, h1, h2, h3⟩ := h.vals
  refine ⟨vs, ?_, h1, h2⟩
  rw [← RVs_length h1]
  exact run_loadCells_at b o vs h3

/-- A load of a whole variable. -/
theorem load_part {t : TypeId} {g : Bool} {s : Nat} (hg : aggOf P t = some g) (hs : sizeAt P t = some s) (hgs : (g || s == 1) = true) {b o off : Nat} {cs : List LV} (h : Holds M w b o cs) (hr : off + s ≤ cs.length) :
    ∃ u, (loadVar t ⟨b, o + off, none⟩).run P w = .ok u w ∧ RV M (partL g s off cs) u := by
  unfold loadVar
  cases g with
  | true =>
    obtain ⟨vs, h1, h2, h3⟩ := ((h.drop off).take s).load (P := P)
    rw [take_drop_length hr] at h1
    refine ⟨.agg vs.toArray, ?_, ?_⟩
    · simp [run_isAgg hg, run_sizeAt hs, h1]
    · simp only [partL, if_true, RV]; exact ⟨vs, rfl, h2, h3⟩
  | false =>
    have hs1 : s = 1 := by simpa using hgs
    obtain ⟨u, h1, h2, _⟩ := h off (cs.getD off .any) (getD_eq (by omega))
    refine ⟨u, ?_, by simpa [partL] using h2⟩
    simp [run_isAgg hg, h1]

theorem load_sound {gl : Glob} {w0 : World} {H HF : Heap} (hI : Inv gl w0 M (H ++ HF) w) {t : TypeId} {g : Bool} {s : Nat} (hg : aggOf P t = some g) (hs : sizeAt P t = some s) (hgs : (g || s == 1) = true) {x : LV} {v : Value} (hx : RV M x v)
    (ho : (loadQ g s x H).1) : ∃ u, (Instr.loadAt t v).run P w = .ok u w ∧ RV M (loadQ g s x H).2 u := by
  unfold loadQ at ho ⊢
  split at ho
  · rename_i cs off
    simp only [RV] at hx
    obtain ⟨b, o, rfl, hc⟩ := hx
    obtain ⟨u, h1, h2⟩ := load_part (P := P) hg hs hgs (Holds.of_imm hI hc) ho
    exact ⟨u, by simp [Instr.loadAt, Instr.sureAddr, h1], h2⟩
  · rename_i id b off
    simp only [RV] at hx
    subst hx
    split at ho
    · rename_i b' cs hH
      obtain ⟨rfl, ho⟩ := ho
      obtain ⟨u, h1, h2⟩ := load_part (P := P) (off := off) hg hs hgs (Holds.of_own hI (List.mem_append_left _ (getH_mem hH))) ho
      refine ⟨u, ?_, h2⟩
      simp only [Nat.zero_add] at h1
      simp [Instr.loadAt, Instr.sureAddr, h1]
    · exact ho.elim
  · exact ho.elim

/-- A part of a value. -/
theorem part_sound {t : TypeId} {g : Bool} {s : Nat} (hg : aggOf P t = some g) (hs : sizeAt P t = some s) (hgs : (g || s == 1) = true) {cs : List LV} {vs : List Value} {off : Nat} (h : RVs M cs vs) (hone : ∀ u ∈ vs, u.oneCell' = true) (hr : off + s ≤ cs.length) :
    ∃ u, (part t vs.toArray off).run P w = .ok u w ∧ RV M (partL g s off cs) u := by
  have hl := RVs_length h
  unfold part
  cases g with
  | true =>
    refine ⟨.agg ((vs.drop off).take s).toArray, ?_, ?_⟩
    · simp only [Sem.run_bind, run_isAgg hg, run_sizeAt hs, Result.andThen_ok, if_true, Sem.run_pure]
      congr 2
      rw [List.extract_toArray]
      simp [List.extract]
    · simp only [partL, if_true, RV]
      refine ⟨_, rfl, RVs_of_get (by simp; omega) fun i c v hc hv => ?_, fun u hu => hone u (List.mem_of_mem_drop (List.mem_of_mem_take hu))⟩
      rw [List.getElem?_take] at hc hv
      split at hc
      · rename_i hi
        rw [if_pos hi, List.getElem?_drop] at hv
        rw [List.getElem?_drop] at hc
        obtain ⟨u, h1, h2⟩ := RVs_get h _ c hc
        rw [h1] at hv; cases hv; exact h2
      · cases hc
  | false =>
    have hs1 : s = 1 := by simpa using hgs
    obtain ⟨u, h1, h2⟩ := RVs_get h off (cs.getD off .any) (getD_eq (by omega))
    refine ⟨u, ?_, by simpa [partL] using h2⟩
    simp [run_isAgg hg, h1]

theorem faddr_sound {t : TypeId} {fs : Array Field} {f : Nat} {fd : Field} {s : Nat} (hu : P.underlying t = some (.struct fs)) (hf : fs[f]? = some fd) (hs : sizeAt P fd.type = some s) (h0 : s ≠ 0) {x : LV} {v : Value} (hx : RV M x v)
    (ho : (faddrQ fd.offset x).1) : ∃ u, (Instr.fieldAt t v f).run P w = .ok u w ∧ RV M (faddrQ fd.offset x).2 u := by
  unfold faddrQ at ho ⊢
  have key : ∀ b o, (Instr.fieldAt t (.pointer (some ⟨b, o, none⟩)) f).run P w = .ok (.pointer (some ⟨b, o + fd.offset, none⟩)) w := by
    intro b o
    simp [Instr.fieldAt, run_underlying hu, hf, Instr.sureAddr, fieldPlace, run_sizeAt hs, h0, addr_add]
  split at ho
  · simp only [RV] at hx ⊢
    obtain ⟨b, o, rfl, hc⟩ := hx
    exact ⟨_, key _ _, b, o, by rw [Nat.add_assoc], hc⟩
  · simp only [RV] at hx ⊢
    subst hx
    exact ⟨_, key _ _, rfl⟩
  · exact ho.elim

theorem run_eqGuard_skip {op : BinOp} (h : (op matches .eql | .neq) = false) (t : TypeId) (x y : Operand) (a b : Value) : (eqGuard op t x y a b).run P w = .ok () w := by
  unfold eqGuard
  cases op <;> simp_all

theorem run_eqGuard_one {op : BinOp} {t : TypeId} {x y : Operand} {a b : Value} (h : (∀ cs, a ≠ .agg cs)) (h' : a ≠ .nilIface) : (eqGuard op t x y a b).run P w = .ok () w := by
  unfold eqGuard
  cases op <;> cases a <;> first | rfl | simp_all

theorem bin_sound {op : BinOp} {t : TypeId} {ox oy : Operand} {x y : LV} {a b : Value} (hx : RV M x a) (hy : RV M y b) (ho : (binQ op x y).1) :
    ∃ u, (do eqGuard op t ox oy a b; binOp op t a b : Sem Value).run P w = .ok u w ∧ RV M (binQ op x y).2 u := by
  unfold binQ at ho ⊢
  split at ho
  · rename_i k n k' m
    simp only [RV] at hx hy
    subst hx; subst hy
    have hg : (eqGuard op t ox oy (.int k n) (.int k' m)).run P w = .ok () w := run_eqGuard_one (by simp) (by simp)
    simp only [Sem.run_bind, hg, Result.andThen_ok]
    cases op <;> simp only at ho <;> first
      | (subst ho; refine ⟨_, ?_, rfl⟩; simp [binOp, Op.intArith]; done)
      | (subst ho; refine ⟨_, ?_, rfl⟩; simp [binOp, Op.intBits]; done)
      | (subst ho; refine ⟨_, ?_, rfl⟩; simp [binOp, Op.intCmp]; done)
      | (obtain ⟨rfl, h0⟩ := ho; refine ⟨_, ?_, rfl⟩; simp [binOp, Op.intDiv, h0]; done)
      | (refine ⟨_, ?_, rfl⟩; simp [binOp, Op.shift, show ¬ m < 0 by omega]; done)
  · rename_i s r
    simp only [RV] at hx hy
    subst hx; subst hy
    have hg : (eqGuard op t ox oy (.string ⟨s.toArray⟩) (.string ⟨r.toArray⟩)).run P w = .ok () w := run_eqGuard_one (by simp) (by simp)
    simp only [Sem.run_bind, hg, Result.andThen_ok]
    cases op <;> simp only at ho <;> first
      | exact ho.elim
      | (refine ⟨_, ?_, rfl⟩; simp [binOp, Op.stringOp]; done)
      | skip
    refine ⟨.string (⟨s.toArray⟩ ++ ⟨r.toArray⟩), ?_, ?_⟩
    · have hsz : ∀ l : List UInt8, (ByteArray.mk l.toArray).size = l.length := fun l => by simp [ByteArray.size]
      simp only [binOp, Op.stringOp, hsz]
      rw [if_neg (by simp only [IntKind.max, IntKind.signed, IntKind.bits]; omega)]
      rfl
    · simp only [RV]
      congr 1
  · exact ho.elim

theorem un_sound {op : UnOp} {x : LV} {a : Value} (hx : RV M x a) (ho : (unQ op x).1) : ∃ u, (Op.unary op a).run P w = .ok u w ∧ RV M (unQ op x).2 u := by
  unfold unQ at ho ⊢
  split at ho
  · simp only [RV] at hx; subst hx; exact ⟨_, rfl, rfl⟩
  · simp only [RV] at hx; subst hx; exact ⟨_, rfl, rfl⟩
  · simp only [RV] at hx; subst hx; exact ⟨_, rfl, rfl⟩
  · exact ho.elim

theorem pick_sound {c a b : LV} {vc va vb : Value} (hc : RV M c vc) (ha : RV M a va) (hb : RV M b vb) (ho : (pickQ c a b).1) :
    ∃ u, (do pure (Next.value (if ← asBool vc then va else vb)) : Sem Next).run P w = .ok (.value u) w ∧ RV M (pickQ c a b).2 u := by
  unfold pickQ at ho ⊢
  split at ho
  · rename_i c' a' b' h1 h2 h3
    obtain ⟨g1, g2, g3⟩ := ho
    have e1 := strip hc g1
    rw [h1] at e1
    simp only [RV] at e1
    subst e1
    cases c' with
    | true =>
      have e2 := strip ha (g2 rfl)
      rw [h2] at e2
      simp only [RV] at e2
      exact ⟨va, by simp [asBool], by simp [RV, e2]⟩
    | false =>
      have e2 := strip hb (g3 rfl)
      rw [h3] at e2
      simp only [RV] at e2
      exact ⟨vb, by simp [asBool], by simp [RV, e2]⟩
  · rename_i c' b' h1 h2 h3
    obtain ⟨g1, rfl, g3⟩ := ho
    have e1 := strip hc g1
    rw [h1] at e1
    simp only [RV] at e1
    subst e1
    have e2 := strip hb g3
    rw [h3] at e2
    simp only [RV] at e2
    exact ⟨vb, by simp [asBool], by simp [RV, e2]⟩
  · rename_i c' a' h1 h2 h3
    obtain ⟨g1, rfl, g3⟩ := ho
    have e1 := strip hc g1
    rw [h1] at e1
    simp only [RV] at e1
    subst e1
    have e2 := strip ha g3
    rw [h2] at e2
    simp only [RV] at e2
    exact ⟨va, by simp [asBool], by simp [RV, e2]⟩
  · exact ho.elim

theorem equalIn_bool (d : Nat) {t : TypeId} (hu : P.underlying t = some .bool) (a b : Bool) : (Op.equalIn (d + 1) t (.bool a) (.bool b)).run P w = .ok (a == b) w := by
  simp only [Op.equalIn, Sem.run_bind, run_underlying hu, Result.andThen_ok, Sem.run_pure]
theorem equalIn_nil (d : Nat) {t e : TypeId} (hu : P.underlying t = some (.pointer e)) (p : Option Addr) : (Op.equalIn (d + 1) t (.pointer none) (.pointer p)).run P w = .ok p.isNone w := by
  simp only [Op.equalIn, Sem.run_bind, run_underlying hu, Result.andThen_ok, Sem.run_pure]
theorem equalIn_nil' (d : Nat) {t e : TypeId} (hu : P.underlying t = some (.pointer e)) (p : Option Addr) : (Op.equalIn (d + 1) t (.pointer p) (.pointer none)).run P w = .ok p.isNone w := by
  cases p <;> simp only [Op.equalIn, Sem.run_bind, run_underlying hu, Result.andThen_ok, Sem.run_pure] <;> rfl

theorem eqB_sound {op : BinOp} (hop : op = .eql ∨ op = .neq) {t : TypeId} (hu : P.underlying t = some .bool) {ox oy : Operand} {x y : LV} {a b : Value} (hx : RV M x a) (hy : RV M y b) (ho : (eqBQ (op == .neq) x y).1) :
    ∃ u, (do eqGuard op t ox oy a b; binOp op t a b : Sem Value).run P w = .ok u w ∧ RV M (eqBQ (op == .neq) x y).2 u := by
  unfold eqBQ at ho ⊢
  split at ho
  · rename_i a' b'
    simp only [RV] at hx hy
    subst hx; subst hy
    have hg : (eqGuard op t ox oy (.bool a') (.bool b')).run P w = .ok () w := run_eqGuard_one (by simp) (by simp)
    have heq : (Op.equal t (.bool a') (.bool b')).run P w = .ok (a' == b') w := equalIn_bool 9999 hu a' b'
    simp only [Sem.run_bind, hg, Result.andThen_ok]
    rcases hop with rfl | rfl
    · exact ⟨.bool (a' == b'), by simp only [binOp, Sem.run_bind, heq, Result.andThen_ok, Sem.run_pure], by simp [RV]⟩
    · exact ⟨.bool (!(a' == b')), by simp only [binOp, Sem.run_bind, heq, Result.andThen_ok, Sem.run_pure], by simp [RV]⟩
  · exact ho.elim

theorem eqN_sound {op : BinOp} (hop : op = .eql ∨ op = .neq) {t e : TypeId} (hu : P.underlying t = some (.pointer e)) {ox oy : Operand} {x y : LV} {a b : Value} (hx : RV M x a) (hy : RV M y b) (ho : (eqNQ (op == .neq) x y).1) :
    ∃ u, (do eqGuard op t ox oy a b; binOp op t a b : Sem Value).run P w = .ok u w ∧ RV M (eqNQ (op == .neq) x y).2 u := by
  have key : ∀ p p' r, ((p = none ∧ r = p'.isNone) ∨ (p' = none ∧ r = p.isNone)) → (Op.equal t (.pointer p) (.pointer p')).run P w = .ok r w := by
    intro p p' r h
    rcases h with ⟨rfl, rfl⟩ | ⟨rfl, rfl⟩
    · exact equalIn_nil 9999 hu p'
    · exact equalIn_nil' 9999 hu p
  have hg : ∀ p p', (eqGuard op t ox oy (.pointer p) (.pointer p')).run P w = .ok () w := fun p p' => run_eqGuard_one (by simp) (by simp)
  have fin : ∀ p p' (r : Bool), ((p = none ∧ r = p'.isNone) ∨ (p' = none ∧ r = p.isNone)) → ∃ u, (do eqGuard op t ox oy (.pointer p) (.pointer p'); binOp op t (.pointer p) (.pointer p') : Sem Value).run P w = .ok u w ∧ RV M (.bool (r != (op == .neq))) u := by
    intro p p' r h
    simp only [Sem.run_bind, hg, Result.andThen_ok]
    rcases hop with rfl | rfl
    · refine ⟨.bool r, ?_, by show RV M (.bool (r != false)) _; simp [RV]⟩
      cases p <;> cases p' <;> simp only [binOp, Sem.run_bind, key _ _ r h, Result.andThen_ok, Sem.run_pure]
    · refine ⟨.bool (!r), ?_, by show RV M (.bool (r != true)) _; simp [RV]⟩
      cases p <;> cases p' <;> simp only [binOp, Sem.run_bind, key _ _ r h, Result.andThen_ok, Sem.run_pure]
  unfold eqNQ at ho ⊢
  split at ho
  case h_6 => exact ho.elim
  all_goals simp only [RV] at hx hy
  · subst hx; subst hy
    obtain ⟨u, h1, h2⟩ := fin none none true (.inl ⟨rfl, rfl⟩)
    exact ⟨u, h1, by simpa using h2⟩
  · subst hx; subst hy
    obtain ⟨u, h1, h2⟩ := fin none (some _) false (.inl ⟨rfl, rfl⟩)
    exact ⟨u, h1, by simpa using h2⟩
  · subst hx
    obtain ⟨b, o, rfl, _⟩ := hy
    obtain ⟨u, h1, h2⟩ := fin none (some _) false (.inl ⟨rfl, rfl⟩)
    exact ⟨u, h1, by simpa using h2⟩
  · subst hx; subst hy
    obtain ⟨u, h1, h2⟩ := fin (some _) none false (.inr ⟨rfl, rfl⟩)
    exact ⟨u, h1, by simpa using h2⟩
  · subst hy
    obtain ⟨b, o, rfl, _⟩ := hx
    obtain ⟨u, h1, h2⟩ := fin (some _) none false (.inr ⟨rfl, rfl⟩)
    exact ⟨u, h1, by simpa using h2⟩

end
end Go.Lx
