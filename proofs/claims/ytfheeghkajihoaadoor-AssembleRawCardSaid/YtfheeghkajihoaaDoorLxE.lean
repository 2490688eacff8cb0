/- The quiet operations do what 'q' says: slices, indices, aggregates, and all together. -/
import Derived.Test.YtfheeghkajihoaaDoorLxD
namespace Go.Lx
set_option linter.unusedSimpArgs false
set_option linter.unusedVariables false
open RowKit

section
variable {vv : Nat → Bool} {P : Program} {M : Imm} {w : World}

theorem idx_sound {i : LV} {v : Value} (hi : RV M i v) (h : (idxI i).1) : ∃ k, v = .int k (idxI i).2 := by
  unfold idxI at h ⊢
  split at h
  · simp only [RV] at hi; exact ⟨_, hi⟩
  · exact h.elim

theorem iaA_sound {t e : TypeId} {n s : Nat} (hu : P.underlying t = some (.array n e)) (hs : sizeAt P e = some s) {x i : LV} {v vi : Value} (hx : RV M x v) (hi : RV M i vi) (ho : (iaAQ n s x i).1) :
    ∃ u, (Instr.indexAt t v vi).run P w = .ok u w ∧ RV M (iaAQ n s x i).2 u := by
  have key : ∀ b o, (idxI i).1 → 0 ≤ (idxI i).2 → (idxI i).2 < n → (Instr.indexAt t (.pointer (some ⟨b, o, none⟩)) vi).run P w = .ok (.pointer (some ⟨b, o + (idxI i).2.toNat * s, none⟩)) w := by
    intro b o h1 h2 h3
    obtain ⟨k, rfl⟩ := idx_sound hi h1
    simp [Instr.indexAt, asIntOf, run_underlying hu, Instr.sureAddr, h2, h3, run_sizeAt hs, addr_add]
  unfold iaAQ at ho ⊢
  dsimp only at ho ⊢
  split at ho
  · simp only [RV] at hx ⊢
    obtain ⟨b, o, rfl, hc⟩ := hx
    exact ⟨_, key _ _ ho.1 ho.2.1 ho.2.2, b, o, by rw [Nat.add_assoc], hc⟩
  · simp only [RV] at hx ⊢
    subst hx
    exact ⟨_, key _ _ ho.1 ho.2.1 ho.2.2, rfl⟩
  · exact ho.elim

theorem iaS_sound {t e : TypeId} {s : Nat} (hu : P.underlying t = some (.slice e)) (hs : sizeAt P e = some s) {x i : LV} {v vi : Value} (hx : RV M x v) (hi : RV M i vi) (ho : (iaSQ s x i).1) :
    ∃ u, (Instr.indexAt t v vi).run P w = .ok u w ∧ RV M (iaSQ s x i).2 u := by
  have key : ∀ (b o n cap : Nat), (idxI i).1 → 0 ≤ (idxI i).2 → (idxI i).2 < n → (Instr.indexAt t (.slice (some ⟨b, o, none⟩) n cap) vi).run P w = .ok (.pointer (some ⟨b, o + (idxI i).2.toNat * s, none⟩)) w := by
    intro b o n cap h1 h2 h3
    obtain ⟨k, rfl⟩ := idx_sound hi h1
    simp [Instr.indexAt, asIntOf, run_underlying hu, h2, h3, run_sizeAt hs, addr_add]
  unfold iaSQ at ho ⊢
  dsimp only at ho ⊢
  split at ho
  · simp only [RV] at hx ⊢
    obtain ⟨hl, ⟨b, o, cap, rfl, hle, hc⟩ | ⟨a, cap, rfl, rfl⟩⟩ := hx
    · exact ⟨_, key _ _ _ _ ho.1 ho.2.2.1 ho.2.2.2, b, o, rfl, hc⟩
    · obtain ⟨_, _, h1, h2⟩ := ho; omega
  · simp only [RV] at hx ⊢
    obtain ⟨hl, ⟨b, o, rfl, hc⟩ | ⟨a, rfl, rfl⟩⟩ := hx
    · exact ⟨_, key _ _ _ _ ho.1 ho.2.2.1 ho.2.2.2, b, o, rfl, hc⟩
    · obtain ⟨_, _, h1, h2⟩ := ho; omega
  · simp only [RV] at hx ⊢
    obtain ⟨hl, ⟨b, o, cap, rfl, hle, hc, _⟩ | ⟨a, rfl, rfl⟩⟩ := hx
    · exact ⟨_, key _ _ _ _ ho.1 ho.2.2.1 ho.2.2.2, b, o, rfl, hc⟩
    · obtain ⟨_, _, h1, h2⟩ := ho; omega
  · simp only [RV] at hx ⊢
    rcases hx with rfl | ⟨rfl, rfl, a, rfl⟩
    · exact ⟨_, key _ _ _ _ ho.1 ho.2.2.1 ho.2.2.2, rfl⟩
    · obtain ⟨_, _, h1, h2⟩ := ho; omega
  · exact ho.elim

theorem ixS_sound {t : TypeId} (hu : P.underlying t = some .string) {x i : LV} {v vi : Value} (hx : RV M x v) (hi : RV M i vi) (ho : (ixSQ x i).1) :
    ∃ u, (Instr.index t v vi).run P w = .ok u w ∧ RV M (ixSQ x i).2 u := by
  unfold ixSQ at ho ⊢
  dsimp only at ho ⊢
  split at ho
  · rename_i s
    simp only [RV] at hx ⊢
    subst hx
    obtain ⟨h1, h2, h3⟩ := ho
    obtain ⟨k, rfl⟩ := idx_sound hi h1
    have hlt : (idxI i).2.toNat < s.length := by omega
    refine ⟨_, ?_, rfl⟩
    have hb : (ByteArray.mk s.toArray)[(idxI i).2.toNat]? = some (s.getD (idxI i).2.toNat 0) := by
      rw [getElem?_pos _ _ (by simpa [ByteArray.size] using hlt)]
      congr 1
      show s.toArray[(idxI i).2.toNat]'(by simpa using hlt) = _
      simp [List.getD, hlt]
    simp [Instr.index, asIntOf, run_underlying hu, h2, hb]
  · exact ho.elim

theorem ixA_sound {t e : TypeId} {g : Bool} {n s : Nat} (hu : P.underlying t = some (.array n e)) (hg : aggOf P e = some g) (hs : sizeAt P e = some s) (hgs : (g || s == 1) = true) {x i : LV} {v vi : Value} (hx : RV M x v) (hi : RV M i vi) (ho : (ixAQ g n s x i).1) :
    ∃ u, (Instr.index t v vi).run P w = .ok u w ∧ RV M (ixAQ g n s x i).2 u := by
  unfold ixAQ at ho ⊢
  dsimp only at ho ⊢
  split at ho
  · rename_i cs
    simp only [RV] at hx
    obtain ⟨vs, rfl, hvs, hone⟩ := hx
    obtain ⟨h1, h2, h3, h4⟩ := ho
    obtain ⟨k, rfl⟩ := idx_sound hi h1
    have hr : (idxI i).2.toNat * s + s ≤ cs.length := by
      rw [h4]
      have : (idxI i).2.toNat + 1 ≤ n := by omega
      calc (idxI i).2.toNat * s + s = ((idxI i).2.toNat + 1) * s := by rw [Nat.add_mul]; omega
        _ ≤ n * s := Nat.mul_le_mul_right _ this
    obtain ⟨u, a1, a2⟩ := part_sound (P := P) (w := w) hg hs hgs hvs hone hr
    exact ⟨u, by simp [Instr.index, asIntOf, run_underlying hu, h2, h3, run_sizeAt hs, a1], a2⟩
  · exact ho.elim

theorem fld_sound {t : TypeId} {fs : Array Field} {f : Nat} {fd : Field} {g : Bool} {s : Nat} (hu : P.underlying t = some (.struct fs)) (hf : fs[f]? = some fd) (hg : aggOf P fd.type = some g) (hs : sizeAt P fd.type = some s) (hgs : (g || s == 1) = true)
    {x : LV} {v : Value} (hx : RV M x v) (ho : (fldQ g s fd.offset x).1) : ∃ u, (Instr.field t v f).run P w = .ok u w ∧ RV M (fldQ g s fd.offset x).2 u := by
  unfold fldQ at ho ⊢
  split at ho
  · simp only [RV] at hx
    obtain ⟨vs, rfl, hvs, hone⟩ := hx
    obtain ⟨u, a1, a2⟩ := part_sound (P := P) (w := w) hg hs hgs hvs hone ho
    exact ⟨u, by simp [Instr.field, run_underlying hu, hf, asAgg, a1], a2⟩
  · exact ho.elim

theorem ext_sound {x : LV} {v : Value} {i : Nat} (hx : RV M x v) (ho : (extQ x i).1) : ∃ u, (Instr.extract v i).run P w = .ok u w ∧ RV M (extQ x i).2 u := by
  unfold extQ at ho ⊢
  split at ho
  · simp only [RV] at hx
    obtain ⟨vs, rfl, hvs⟩ := hx
    obtain ⟨u, h1, h2⟩ := RVs_get hvs i _ (getD_eq ho)
    exact ⟨u, by simp [Instr.extract, h1], h2⟩
  · exact ho.elim

theorem len_sound {t : TypeId} {ty : TypeId} (hu : P.underlying t = some .string) {x : LV} {v : Value} (hx : RV M x v) (ho : (lenQ x).1) :
    ∃ u, (Builtin.len_ #[t] ty #[v]).run P w = .ok u w ∧ RV M (lenQ x).2 u := by
  unfold lenQ at ho ⊢
  split at ho
  · rename_i s
    simp only [RV] at hx ⊢
    subst hx
    have hsz : (ByteArray.mk s.toArray).size = s.length := by simp [ByteArray.size]
    exact ⟨_, by simp [Builtin.len_, run_underlying hu, goInt, hsz], rfl⟩
  · exact ho.elim

theorem lenL_sound {t e : TypeId} {ty : TypeId} (hu : P.underlying t = some (.slice e)) {x : LV} {v : Value} (hx : RV M x v) (ho : (lenLQ x).1) :
    ∃ u, (Builtin.len_ #[t] ty #[v]).run P w = .ok u w ∧ RV M (lenLQ x).2 u := by
  unfold lenLQ at ho ⊢
  have key : ∀ a n c, (Builtin.len_ #[t] ty #[.slice a n c]).run P w = .ok (.int .i64 n) w := by
    intro a n c
    simp [Builtin.len_, run_underlying hu, goInt]
  split at ho
  · simp only [RV] at hx ⊢
    obtain ⟨hl, ⟨b, o, cap, rfl, hle, hc⟩ | ⟨a, cap, rfl, rfl⟩⟩ := hx
    · exact ⟨_, key _ _ _, rfl⟩
    · exact ⟨_, key _ _ _, rfl⟩
  · simp only [RV] at hx ⊢
    obtain ⟨hl, ⟨b, o, cap, rfl, hle, hc⟩ | ⟨a, rfl, rfl⟩⟩ := hx
    · exact ⟨_, key _ _ _, rfl⟩
    · exact ⟨_, key _ _ _, rfl⟩
  · simp only [RV] at hx ⊢
    obtain ⟨hl, ⟨b, o, rfl, hc⟩ | ⟨a, rfl, rfl⟩⟩ := hx
    · exact ⟨_, key _ _ _, rfl⟩
    · exact ⟨_, key _ _ _, rfl⟩
  · simp only [RV] at hx ⊢
    rcases hx with rfl | ⟨rfl, rfl, a, rfl⟩
    · exact ⟨_, key _ _ _, rfl⟩
    · exact ⟨_, key _ _ _, rfl⟩
  · exact ho.elim

theorem cap_sound {t e : TypeId} {ty : TypeId} (hu : P.underlying t = some (.slice e)) {x : LV} {v : Value} (hx : RV M x v) (ho : (capQ x).1) :
    ∃ u, (Builtin.cap_ #[t] ty #[v]).run P w = .ok u w ∧ RV M (capQ x).2 u := by
  unfold capQ at ho ⊢
  have key : ∀ a n c, (Builtin.cap_ #[t] ty #[.slice a n c]).run P w = .ok (.int .i64 c) w := by
    intro a n c
    simp [Builtin.cap_, run_underlying hu, goInt]
  split at ho
  · simp only [RV] at hx ⊢
    obtain ⟨hl, ⟨b, o, rfl, hc⟩ | ⟨a, rfl, rfl⟩⟩ := hx
    · exact ⟨_, key _ _ _, rfl⟩
    · exact ⟨_, key _ _ _, rfl⟩
  · simp only [RV] at hx ⊢
    rcases hx with rfl | ⟨rfl, rfl, a, rfl⟩
    · exact ⟨_, key _ _ _, rfl⟩
    · exact ⟨_, key _ _ _, rfl⟩
  · exact ho.elim

theorem nilc_sound {x : LV} {v : Value} (hx : RV M x v) (ho : (nilcQ x).1) : ∀ o : Oper, ∀ ρ : Operand → Value, ∀ y : Operand, o.op = .nilCheck y → ρ y = v → (execOp ρ o).run P w = .ok (.value v) w ∧ RV M (nilcQ x).2 v := by
  intro o ρ y hop hy
  have key : (∀ a b c, v ≠ .func (.method a) b c) → v ≠ .pointer none → v ≠ .nilIface → v ≠ .nilFunc → (execOp ρ o).run P w = .ok (.value v) w := by
    intro h1 h2 h3 h4
    simp only [execOp, hop, hy]
    rfl
  unfold nilcQ at ho ⊢
  split at ho
  all_goals first
    | exact ho.elim
    | (refine ⟨key ?_ ?_ ?_ ?_, hx⟩ <;> simp only [RV] at hx <;> first
        | (subst hx; simp; done)
        | (rcases hx with rfl | ⟨_, _, a, rfl⟩ <;> simp; done)
        | (obtain ⟨b, o, rfl, _⟩ := hx; simp; done)
        | (obtain ⟨vs, rfl, _⟩ := hx; simp; done)
        | (obtain ⟨_, ⟨b, o, cap, rfl, _⟩ | ⟨a, cap, rfl, _⟩⟩ := hx <;> simp; done)
        | (obtain ⟨_, ⟨b, o, cap, rfl, _⟩ | ⟨a, rfl, _⟩⟩ := hx <;> simp; done)
        | (obtain ⟨_, ⟨b, o, rfl, _⟩ | ⟨a, rfl, _⟩⟩ := hx <;> simp; done))

theorem conv_sound {s d : TypeId} {k : IntKind} {ds : TypeDesc} (hs : P.underlying s = some ds) (hd : P.underlying d = some (.int k)) {x : LV} {v : Value} (hx : RV M x v) (ho : (convQ k x).1) :
    ∃ u, (convert s d v).run P w = .ok u w ∧ RV M (convQ k x).2 u := by
  unfold convQ at ho ⊢
  split at ho
  · simp only [RV] at hx ⊢
    subst hx
    exact ⟨_, by simp [convert, run_underlying hs, run_underlying hd, Conv.intToInt], rfl⟩
  · exact ho.elim

theorem same_sound {s d : TypeId} (hs : P.underlying s = some .string) (hd : P.underlying d = some .string) {x : LV} {v : Value} (hx : RV M x v) (ho : (sameQ x).1) :
    ∃ u, (convert s d v).run P w = .ok u w ∧ RV M (sameQ x).2 u := by
  unfold sameQ at ho ⊢
  split at ho
  · simp only [RV] at hx ⊢
    subst hx
    exact ⟨_, by simp [convert, run_underlying hs, run_underlying hd], rfl⟩
  · exact ho.elim

theorem mm_sound (ρL : X → LV) (ρ : Operand → Value) (hρ : ∀ x y, trX vv x = some y → RV M (ρL y) (ρ x)) (mx : Bool) : ∀ (xs : List Operand) (ys : List X) (x : LV) (v : Value), trXs vv xs = some ys → RV M x v → (mmQ mx ρL x ys).1 →
    ∃ u, ((xs.map ρ).foldlM (if mx then Builtin.max2 else Builtin.min2) v : Sem Value).run P w = .ok u w ∧ RV M (mmQ mx ρL x ys).2 u
  | [], ys, x, v, ht, hx, ho => by
    simp only [trXs, Option.some.injEq] at ht
    subst ht
    exact ⟨v, by simp, by simpa [mmQ] using hx⟩
  | z :: r, ys, x, v, ht, hx, ho => by
    simp only [trXs] at ht
    split at ht
    · rename_i y ys' h1 h2
      cases ht
      simp only [mmQ] at ho ⊢
      obtain ⟨g1, g2, g3⟩ := ho
      have hz := strip (hρ z y h1) g1
      have step : ∃ u, ((if mx then Builtin.max2 else Builtin.min2) v (ρ z) : Sem Value).run P w = .ok u w ∧ RV M (mm2 mx x (ρL y).v).2 u := by
        generalize (ρL y).v = y' at *
        unfold mm2 at g2 ⊢
        split at g2
        · simp only [RV] at hx hz ⊢
          subst hx
          subst g2
          rw [hz]
          cases mx
          · exact ⟨_, by simp [Builtin.min2], rfl⟩
          · refine ⟨_, ?_, rfl⟩
            simp [Builtin.max2]
        · exact g2.elim
      obtain ⟨u, h3, h4⟩ := step
      obtain ⟨u', h5, h6⟩ := mm_sound ρL ρ hρ mx r ys' _ u h2 h4 g3
      exact ⟨u', by simp [List.foldlM_cons, h3, h5], h6⟩
    · cases ht

/-! ### Slices -/
theorem optI_sound {ρL : X → LV} {ρ : Operand → Value} (hρ : ∀ x y, trX vv x = some y → RV M (ρL y) (ρ x)) {d : Int} {o : Option Operand} {y : Option X} (h : trO vv o = some y) (hg : (optI ρL d y).1) :
    (o = none ∧ y = none ∧ (optI ρL d y).2 = d) ∨ ∃ x k, o = some x ∧ y.isSome = true ∧ ρ x = .int k (optI ρL d y).2 := by
  cases o with
  | none => simp only [trO, Option.some.injEq] at h; subst h; exact .inl ⟨rfl, rfl, rfl⟩
  | some x =>
    simp only [trO, Option.map_eq_some_iff] at h
    obtain ⟨y', h1, rfl⟩ := h
    right
    unfold optI at hg ⊢
    dsimp only at hg ⊢
    split at hg
    · rename_i k i hi
      have := strip (hρ x y' h1) hg
      rw [hi] at this
      simp only [RV] at this
      exact ⟨x, k, rfl, rfl, this⟩
    · exact hg.elim

theorem run_sliceBound {k : IntKind} {i : Int} {y : Nat} {code : BoundsCode} (h0 : 0 ≤ i) (h1 : i ≤ y) : (Instr.sliceBound (.int k i) y code).run P w = .ok i.toNat w := by
  simp [Instr.sliceBound, asIntOf, h0, h1]

/-- The bounds of a slice expression without a third index. -/
theorem run_bounds2 {ρL : X → LV} {ρ : Operand → Value} (hρ : ∀ x y, trX vv x = some y → RV M (ρL y) (ρ x)) {lo hi : Option Operand} {lo' hi' : Option X} (hlo : trO vv lo = some lo') (hhi : trO vv hi = some hi') {isS : Bool} {n cap : Nat}
    (g1 : (optI ρL 0 lo').1) (g2 : (optI ρL n hi').1) (h0 : 0 ≤ (optI ρL 0 lo').2) (h1 : (optI ρL 0 lo').2 ≤ (optI ρL n hi').2) (h2 : (optI ρL n hi').2 ≤ cap) :
    (Instr.sliceBounds isS n cap (lo.map ρ) (hi.map ρ) none).run P w = .ok ((optI ρL 0 lo').2.toNat, (optI ρL n hi').2.toNat, cap) w := by
  unfold Instr.sliceBounds
  rcases optI_sound hρ hhi g2 with ⟨rfl, rfl, e2⟩ | ⟨xh, kh, rfl, hs, eh⟩
  · rw [e2] at h1 h2 ⊢
    rcases optI_sound hρ hlo g1 with ⟨rfl, rfl, e1⟩ | ⟨xl, kl, rfl, hs', el⟩
    · rw [e1]; simp
    · simp only [Option.map_none, Option.map_some, Sem.run_bind, Sem.run_pure, Result.andThen_ok, el]
      rw [run_sliceBound h0 (by omega)]
      simp
  · simp only [Option.map_some, Sem.run_bind, Sem.run_pure, Result.andThen_ok, eh]
    rw [run_sliceBound (by omega) h2]
    rcases optI_sound hρ hlo g1 with ⟨rfl, rfl, e1⟩ | ⟨xl, kl, rfl, hs', el⟩
    · rw [e1]; simp
    · simp only [Option.map_some, Sem.run_bind, Sem.run_pure, Result.andThen_ok, el]
      rw [run_sliceBound h0 (by omega)]
      simp

/-- The bounds of a slice expression with three indices. -/
theorem run_bounds3 {ρL : X → LV} {ρ : Operand → Value} (hρ : ∀ x y, trX vv x = some y → RV M (ρL y) (ρ x)) {lo hi mx : Option Operand} {lo' hi' mx' : Option X} (hlo : trO vv lo = some lo') (hhi : trO vv hi = some hi') (hmx : trO vv mx = some mx')
    (hs : hi'.isSome = true) (ms : mx'.isSome = true) {isS : Bool} {n cap : Nat} {d d' : Int}
    (g1 : (optI ρL 0 lo').1) (g2 : (optI ρL d hi').1) (g3 : (optI ρL d' mx').1) (h0 : 0 ≤ (optI ρL 0 lo').2) (h1 : (optI ρL 0 lo').2 ≤ (optI ρL d hi').2) (h2 : (optI ρL d hi').2 ≤ (optI ρL d' mx').2) (h3 : (optI ρL d' mx').2 ≤ cap) :
    (Instr.sliceBounds isS n cap (lo.map ρ) (hi.map ρ) (mx.map ρ)).run P w = .ok ((optI ρL 0 lo').2.toNat, (optI ρL d hi').2.toNat, (optI ρL d' mx').2.toNat) w := by
  unfold Instr.sliceBounds
  rcases optI_sound hρ hhi g2 with ⟨rfl, rfl, e2⟩ | ⟨xh, kh, rfl, hs, eh⟩
  · simp at hs
  rcases optI_sound hρ hmx g3 with ⟨rfl, rfl, e2⟩ | ⟨xm, km, rfl, hs, em⟩
  · simp at ms
  simp only [Option.map_some, Sem.run_bind, em, eh]
  rw [run_sliceBound (by omega) h3]
  simp only [Result.andThen_ok]
  rw [run_sliceBound (by omega) (by omega)]
  simp only [Result.andThen_ok]
  rcases optI_sound hρ hlo g1 with ⟨rfl, rfl, e1⟩ | ⟨xl, kl, rfl, hs', el⟩
  · rw [e1]; simp
  · simp only [Option.map_some, Sem.run_bind, Sem.run_pure, el]
    rw [run_sliceBound h0 (by omega)]
    simp

theorem slS_sound {t : TypeId} (hu : P.underlying t = some .string) {ρL : X → LV} {ρ : Operand → Value} (hρ : ∀ x y, trX vv x = some y → RV M (ρL y) (ρ x)) {lo hi : Option Operand} {lo' hi' : Option X} (hlo : trO vv lo = some lo') (hhi : trO vv hi = some hi')
    {s : List UInt8} (g1 : (optI ρL 0 lo').1) (g2 : (optI ρL s.length hi').1) (ho : (slSQ s (optI ρL 0 lo').2 (optI ρL s.length hi').2).1) :
    ∃ u, (Instr.sliceAt t (.string ⟨s.toArray⟩) (lo.map ρ) (hi.map ρ) none).run P w = .ok u w ∧ RV M (slSQ s (optI ρL 0 lo').2 (optI ρL s.length hi').2).2 u := by
  unfold slSQ at ho ⊢
  obtain ⟨h0, h1, h2⟩ := ho
  have hb := run_bounds2 (P := P) (w := w) hρ hlo hhi (isS := false) g1 g2 h0 h1 h2
  refine ⟨.string ⟨((s.drop (optI ρL 0 lo').2.toNat).take ((optI ρL s.length hi').2.toNat - (optI ρL 0 lo').2.toNat)).toArray⟩, ?_, by simp only [RV]⟩
  have hsz : (ByteArray.mk s.toArray).size = s.length := by simp [ByteArray.size]
  simp only [Instr.sliceAt, Sem.run_bind, run_underlying hu, Result.andThen_ok, Instr.slice]
  simp only [hsz, hb, Result.andThen_ok, Option.isSome_none, Bool.false_eq_true, if_false, Sem.run_bind, Sem.run_pure]
  congr 2
  apply ByteArray.ext
  apply Array.ext'
  simp [ByteArray.data_extract, List.extract_toArray, List.extract]

theorem sub_mul_le {n h l sz : Nat} (h1 : h ≤ n) : l * sz + (h - l) * sz ≤ n * sz ∨ h < l := by
  rcases Nat.lt_or_ge h l with hl | hl
  · exact .inr hl
  · left
    rw [← Nat.add_mul]
    exact Nat.mul_le_mul_right _ (by omega)

theorem slice_len {cs : List LV} {n sz l h : Nat} (hc : cs.length = n * sz) (hlh : l ≤ h) (hn : h ≤ n) : ((cs.drop (l * sz)).take ((h - l) * sz)).length = (h - l) * sz := by
  have := sub_mul_le (l := l) (sz := sz) hn
  simp; omega

theorem drop_len {cs : List LV} {n sz l : Nat} (hc : cs.length = n * sz) : (cs.drop (l * sz)).length = (n - l) * sz := by
  simp [hc, Nat.sub_mul]

theorem run_slice_slice {t e : TypeId} {sz : Nat} (hu : P.underlying t = some (.slice e)) (hs : sizeAt P e = some sz) {a : Option Addr} {n cap l h m : Nat} {lo hi mx : Option Value}
    (hb : (Instr.sliceBounds true n cap lo hi mx).run P w = .ok (l, h, m) w) :
    (Instr.sliceAt t (.slice a n cap) lo hi mx).run P w = .ok (.slice (if m = l then a else a.map (·.add (l * sz))) (h - l) (m - l)) w := by
  simp only [Instr.sliceAt, Sem.run_bind, run_underlying hu, Result.andThen_ok, Instr.slice, hb, run_sizeAt hs, Sem.run_pure]

theorem slL_sound {t e : TypeId} {sz : Nat} (hu : P.underlying t = some (.slice e)) (hs : sizeAt P e = some sz) {ρL : X → LV} {ρ : Operand → Value} (hρ : ∀ x y, trX vv x = some y → RV M (ρL y) (ρ x)) {lo hi mx : Option Operand} {lo' hi' mx' : Option X}
    (hlo : trO vv lo = some lo') (hhi : trO vv hi = some hi') (hmx : trO vv mx = some mx') {x : LV} {v : Value} (hx : RV M x v) (ho : (slLQ sz x lo' hi' mx' ρL).1) :
    ∃ u, (Instr.sliceAt t v (lo.map ρ) (hi.map ρ) (mx.map ρ)).run P w = .ok u w ∧ RV M (slLQ sz x lo' hi' mx' ρL).2 u := by
  -- two indices, any slice of which the cells are immutable
  have two : ∀ (n cap : Nat) (cs : List LV) (b o : Nat), mx' = none → cs.length = n * sz → n ≤ cap → RCs M b o cs →
      (optI ρL 0 lo').1 → (optI ρL n hi').1 → 0 ≤ (optI ρL 0 lo').2 → (optI ρL 0 lo').2 ≤ (optI ρL n hi').2 → (optI ρL n hi').2 ≤ n →
      ∃ o', (Instr.sliceAt t (.slice (some ⟨b, o, none⟩) n cap) (lo.map ρ) (hi.map ρ) (mx.map ρ)).run P w = .ok (.slice (some ⟨b, o', none⟩) ((optI ρL n hi').2.toNat - (optI ρL 0 lo').2.toNat) (cap - (optI ρL 0 lo').2.toNat)) w ∧
        RCs M b o' ((cs.drop ((optI ρL 0 lo').2.toNat * sz)).take (((optI ρL n hi').2.toNat - (optI ρL 0 lo').2.toNat) * sz)) ∧ (o' = o + (optI ρL 0 lo').2.toNat * sz ∨ cap - (optI ρL 0 lo').2.toNat = 0) := by
    intro n cap cs b o hm hc hle hr g1 g2 h0 h1 h2
    subst hm
    have hmn : mx = none := by cases mx with | none => rfl | some _ => simp [trO] at hmx
    subst hmn
    have hb := run_bounds2 (P := P) (w := w) hρ hlo hhi (isS := true) (n := n) (cap := cap) g1 g2 h0 h1 (by omega)
    have hrun := run_slice_slice (P := P) (a := some ⟨b, o, none⟩) hu hs hb
    by_cases hcap : cap = (optI ρL 0 lo').2.toNat
    · refine ⟨o, ?_, ?_, .inr (by omega)⟩
      · simpa [hcap] using hrun
      · have : (optI ρL n hi').2.toNat - (optI ρL 0 lo').2.toNat = 0 := by omega
        rw [this]; simp [RCs]
    · refine ⟨o + (optI ρL 0 lo').2.toNat * sz, ?_, RCs_take _ (RCs_drop _ hr), .inl rfl⟩
      simpa [hcap, addr_add] using hrun
  -- two indices, no element
  have nil2 : ∀ (a : Option Addr) (cap : Nat), mx' = none → (optI ρL 0 lo').1 → (optI ρL ((0 : Nat) : Int) hi').1 → 0 ≤ (optI ρL 0 lo').2 → (optI ρL 0 lo').2 ≤ (optI ρL ((0 : Nat) : Int) hi').2 → (optI ρL ((0 : Nat) : Int) hi').2 ≤ ((0 : Nat) : Int) →
      ∃ a', (Instr.sliceAt t (.slice a 0 cap) (lo.map ρ) (hi.map ρ) (mx.map ρ)).run P w = .ok (.slice a' 0 cap) w := by
    intro a cap hm g1 g2 h0 h1 h2
    subst hm
    have hmn : mx = none := by cases mx with | none => rfl | some _ => simp [trO] at hmx
    subst hmn
    have hb := run_bounds2 (P := P) (w := w) hρ hlo hhi (isS := true) (n := 0) (cap := cap) g1 g2 h0 h1 (by omega)
    have hrun := run_slice_slice (P := P) (a := a) hu hs hb
    rw [show (Instr.sliceAt t (.slice a 0 cap) (lo.map ρ) (hi.map ρ) (Option.map ρ none)) = (Instr.sliceAt t (.slice a 0 cap) (lo.map ρ) (hi.map ρ) none) from rfl, hrun]
    have e1 : (optI ρL ((0 : Nat) : Int) hi').2.toNat = 0 := by omega
    have e2 : (optI ρL 0 lo').2.toNat = 0 := by omega
    rw [e1, e2]
    exact ⟨_, rfl⟩
  -- three indices
  have three : ∀ (n cap : Nat) (cs : List LV) (a : Option Addr), mx'.isSome = true → hi'.isSome = true → cs.length = n * sz → n ≤ cap → ((∃ b o, a = some ⟨b, o, none⟩ ∧ RCs M b o cs) ∨ n = 0) →
      (optI ρL 0 lo').1 → (optI ρL n hi').1 → (optI ρL n mx').1 → 0 ≤ (optI ρL 0 lo').2 → (optI ρL 0 lo').2 ≤ (optI ρL n hi').2 → (optI ρL n hi').2 = (optI ρL n mx').2 → (optI ρL n hi').2 ≤ n →
      ∃ u, (Instr.sliceAt t (.slice a n cap) (lo.map ρ) (hi.map ρ) (mx.map ρ)).run P w = .ok u w ∧
        RV M (.fsl sz ((optI ρL n hi').2.toNat - (optI ρL 0 lo').2.toNat) ((cs.drop ((optI ρL 0 lo').2.toNat * sz)).take (((optI ρL n hi').2.toNat - (optI ρL 0 lo').2.toNat) * sz))) u := by
    intro n cap cs a hm hh hc hle hr g1 g2 g3 h0 h1 h2 h3
    have hb := run_bounds3 (P := P) (w := w) hρ hlo hhi hmx hh hm (isS := true) (n := n) (cap := cap) (d := n) (d' := n) g1 g2 g3 h0 h1 (by omega) (by omega)
    have hrun := run_slice_slice (P := P) (a := a) hu hs hb
    refine ⟨_, hrun, ?_⟩
    simp only [RV]
    refine ⟨slice_len hc (by omega) (by omega), ?_⟩
    rcases hr with ⟨b, o, rfl, hr⟩ | rfl
    · left
      rw [← h2]
      by_cases hcap : (optI ρL n hi').2.toNat = (optI ρL 0 lo').2.toNat
      · refine ⟨b, o, by simp [hcap], ?_⟩
        rw [hcap]; simp [RCs]
      · refine ⟨b, o + (optI ρL 0 lo').2.toNat * sz, by simp [hcap, addr_add], RCs_take _ (RCs_drop _ hr)⟩
    · right
      rw [← h2]
      have e1 : (optI ρL ((0 : Nat) : Int) hi').2.toNat = 0 := by omega
      have e2 : (optI ρL 0 lo').2.toNat = 0 := by omega
      rw [e1, e2]
      exact ⟨_, rfl, rfl⟩
  unfold slLQ at ho ⊢
  dsimp only at ho ⊢
  split at ho
  · -- sl
    rename_i sz' n cs
    simp only [RV] at hx
    obtain ⟨hc, hv⟩ := hx
    cases mx' with
    | none =>
      dsimp only at ho ⊢
      obtain ⟨g1, g2, rfl, h0, h1, h2⟩ := ho
      rcases hv with ⟨b, o, cap, rfl, hle, hr⟩ | ⟨a, cap, rfl, rfl⟩
      · obtain ⟨o', r1, r2, _⟩ := two n cap cs b o rfl hc hle hr g1 g2 h0 h1 h2
        exact ⟨_, r1, by simp only [RV]; exact ⟨slice_len hc (by omega) (by omega), .inl ⟨b, o', _, rfl, by omega, r2⟩⟩⟩
      · obtain ⟨a', hr⟩ := nil2 a cap rfl g1 g2 h0 h1 h2
        refine ⟨_, hr, ?_⟩
        simp only [RV]
        exact ⟨slice_len hc (by omega) (by omega), .inr ⟨a', cap, rfl, by omega⟩⟩
    | some m =>
      dsimp only at ho ⊢
      obtain ⟨g1, g2, g3, hh, rfl, h0, h1, h2, h3⟩ := ho
      rcases hv with ⟨b, o, cap, rfl, hle, hr⟩ | ⟨a, cap, rfl, rfl⟩
      · exact three n cap cs _ rfl hh hc hle (.inl ⟨b, o, rfl, hr⟩) g1 g2 g3 h0 h1 h2 h3
      · exact three 0 cap cs a rfl hh hc (Nat.zero_le _) (.inr rfl) g1 g2 g3 h0 h1 h2 h3
  · -- fsl
    rename_i sz' n cs
    simp only [RV] at hx
    obtain ⟨hc, hv⟩ := hx
    cases mx' with
    | none =>
      cases hi' with
      | none =>
        dsimp only at ho ⊢
        obtain ⟨g1, rfl, h0, h1⟩ := ho
        have e : (optI ρL (n : Int) none).2 = n := rfl
        rcases hv with ⟨b, o, rfl, hr⟩ | ⟨a, rfl, rfl⟩
        · obtain ⟨o', r1, r2, _⟩ := two n n cs b o rfl hc (Nat.le_refl _) hr g1 trivial h0 h1 (by rw [e]; exact Int.le_refl _)
          refine ⟨_, r1, ?_⟩
          simp only [e, Int.toNat_natCast] at r2 ⊢
          simp only [RV]
          refine ⟨drop_len hc, .inl ⟨b, o', rfl, ?_⟩⟩
          rwa [List.take_of_length_le (by rw [drop_len hc]; exact Nat.le_refl _)] at r2
        · obtain ⟨a', hr⟩ := nil2 a 0 rfl g1 trivial h0 h1 (Int.le_refl _)
          refine ⟨_, hr, ?_⟩
          simp only [RV]
          exact ⟨drop_len hc, .inr ⟨a', rfl, by simp⟩⟩
      | some h =>
        dsimp only at ho ⊢
        obtain ⟨g1, g2, rfl, h0, h1, h2⟩ := ho
        rcases hv with ⟨b, o, rfl, hr⟩ | ⟨a, rfl, rfl⟩
        · obtain ⟨o', r1, r2, _⟩ := two n n cs b o rfl hc (Nat.le_refl _) hr g1 g2 h0 h1 h2
          exact ⟨_, r1, by simp only [RV]; exact ⟨slice_len hc (by omega) (by omega), .inl ⟨b, o', _, rfl, by omega, r2⟩⟩⟩
        · obtain ⟨a', hr⟩ := nil2 a 0 rfl g1 g2 h0 h1 h2
          refine ⟨_, hr, ?_⟩
          simp only [RV]
          exact ⟨slice_len hc (by omega) (by omega), .inr ⟨a', 0, rfl, by omega⟩⟩
    | some m =>
      have ho' : (optI ρL 0 lo').1 ∧ (optI ρL n hi').1 ∧ (optI ρL n (some m)).1 ∧ hi'.isSome ∧ sz' = sz ∧ 0 ≤ (optI ρL 0 lo').2 ∧ (optI ρL 0 lo').2 ≤ (optI ρL n hi').2 ∧ (optI ρL n hi').2 = (optI ρL n (some m)).2 ∧ (optI ρL n hi').2 ≤ n := by
        cases hi' <;> exact ho
      obtain ⟨g1, g2, g3, hh, rfl, h0, h1, h2, h3⟩ := ho'
      have fin : ∃ u, (Instr.sliceAt t v (lo.map ρ) (hi.map ρ) (mx.map ρ)).run P w = .ok u w ∧
          RV M (.fsl sz' ((optI ρL n hi').2.toNat - (optI ρL 0 lo').2.toNat) ((cs.drop ((optI ρL 0 lo').2.toNat * sz')).take (((optI ρL n hi').2.toNat - (optI ρL 0 lo').2.toNat) * sz'))) u := by
        rcases hv with ⟨b, o, rfl, hr⟩ | ⟨a, rfl, rfl⟩
        · exact three n n cs _ rfl hh hc (Nat.le_refl _) (.inl ⟨b, o, rfl, hr⟩) g1 g2 g3 h0 h1 h2 h3
        · exact three 0 0 cs a rfl hh hc (Nat.le_refl _) (.inr rfl) g1 g2 g3 h0 h1 h2 h3
      cases hi' <;> exact fin
  · -- osl
    rename_i id τ sz' n cs
    simp only [RV] at hx
    obtain ⟨hc, hv⟩ := hx
    cases mx' with
    | none =>
      cases hi' with
      | none =>
        dsimp only at ho ⊢
        obtain ⟨g1, rfl, h0, h1⟩ := ho
        have e : (optI ρL (n : Int) none).2 = n := rfl
        rcases hv with ⟨b, o, cap, rfl, hle, hr, hτ⟩ | ⟨a, rfl, rfl⟩
        · obtain ⟨o', r1, r2, r3⟩ := two n cap cs b o rfl hc hle hr g1 trivial h0 h1 (by rw [e]; exact Int.le_refl _)
          refine ⟨_, r1, ?_⟩
          simp only [e, Int.toNat_natCast] at r2 ⊢
          simp only [RV]
          refine ⟨drop_len hc, .inl ⟨b, o', _, rfl, by omega, ?_, ?_⟩⟩
          · rwa [List.take_of_length_le (by rw [drop_len hc]; exact Nat.le_refl _)] at r2
          · rcases r3 with r3 | r3
            · rcases hτ with hτ | ⟨t1, t2, t3⟩
              · left; omega
              · right
                refine ⟨t1, ?_, ?_⟩
                · rw [t2, r3, Nat.add_assoc, ← Nat.add_mul]; congr 2; omega
                · rw [t3, r3, Nat.add_assoc, ← Nat.add_mul]; congr 2; omega
            · left; omega
        · obtain ⟨a', hr⟩ := nil2 a 0 rfl g1 trivial h0 h1 (Int.le_refl _)
          refine ⟨_, hr, ?_⟩
          simp only [RV]
          exact ⟨drop_len hc, .inr ⟨a', rfl, by simp⟩⟩
      | some h =>
        dsimp only at ho ⊢
        obtain ⟨g1, g2, rfl, h0, h1, h2⟩ := ho
        rcases hv with ⟨b, o, cap, rfl, hle, hr, _⟩ | ⟨a, rfl, rfl⟩
        · obtain ⟨o', r1, r2, _⟩ := two n cap cs b o rfl hc hle hr g1 g2 h0 h1 h2
          exact ⟨_, r1, by simp only [RV]; exact ⟨slice_len hc (by omega) (by omega), .inl ⟨b, o', _, rfl, by omega, r2⟩⟩⟩
        · obtain ⟨a', hr⟩ := nil2 a 0 rfl g1 g2 h0 h1 h2
          refine ⟨_, hr, ?_⟩
          simp only [RV]
          exact ⟨slice_len hc (by omega) (by omega), .inr ⟨a', 0, rfl, by omega⟩⟩
    | some m =>
      have ho' : (optI ρL 0 lo').1 ∧ (optI ρL n hi').1 ∧ (optI ρL n (some m)).1 ∧ hi'.isSome ∧ sz' = sz ∧ 0 ≤ (optI ρL 0 lo').2 ∧ (optI ρL 0 lo').2 ≤ (optI ρL n hi').2 ∧ (optI ρL n hi').2 = (optI ρL n (some m)).2 ∧ (optI ρL n hi').2 ≤ n := by
        cases hi' <;> exact ho
      obtain ⟨g1, g2, g3, hh, rfl, h0, h1, h2, h3⟩ := ho'
      have fin : ∃ u, (Instr.sliceAt t v (lo.map ρ) (hi.map ρ) (mx.map ρ)).run P w = .ok u w ∧
          RV M (.fsl sz' ((optI ρL n hi').2.toNat - (optI ρL 0 lo').2.toNat) ((cs.drop ((optI ρL 0 lo').2.toNat * sz')).take (((optI ρL n hi').2.toNat - (optI ρL 0 lo').2.toNat) * sz'))) u := by
        rcases hv with ⟨b, o, cap, rfl, hle, hr, _⟩ | ⟨a, rfl, rfl⟩
        · exact three n cap cs _ rfl hh hc hle (.inl ⟨b, o, rfl, hr⟩) g1 g2 g3 h0 h1 h2 h3
        · exact three 0 0 cs a rfl hh hc (Nat.le_refl _) (.inr rfl) g1 g2 g3 h0 h1 h2 h3
      cases hi' <;> exact fin
  · -- msl
    rename_i id sz' b off len cap
    simp only [RV] at hx
    rcases hx with rfl | ⟨rfl, rfl, a, rfl⟩
    rotate_left
    · cases mx' with
      | none =>
        dsimp only at ho ⊢
        obtain ⟨g1, g2, rfl, h0, h1, h2⟩ := ho
        have hmn : mx = none := by cases mx with | none => rfl | some _ => simp [trO] at hmx
        subst hmn
        have hb := run_bounds2 (P := P) (w := w) hρ hlo hhi (isS := true) (n := 0) (cap := 0) g1 g2 h0 h1 h2
        have hrun := run_slice_slice (P := P) (a := a) hu hs hb
        refine ⟨_, hrun, ?_⟩
        have e1 : (optI ρL ((0 : Nat) : Int) hi').2.toNat = 0 := by omega
        simp only [RV, e1, Nat.zero_sub]
        exact .inr ⟨trivial, trivial, _, rfl⟩
      | some m =>
        dsimp only at ho ⊢
        obtain ⟨g1, g2, g3, hh, rfl, h0, h1, h2, h3⟩ := ho
        have hb := run_bounds3 (P := P) (w := w) hρ hlo hhi hmx hh rfl (isS := true) (n := 0) (cap := 0) (d := ((0 : Nat) : Int)) (d' := ((0 : Nat) : Int)) g1 g2 g3 h0 h1 h2 h3
        have hrun := run_slice_slice (P := P) (a := a) hu hs hb
        refine ⟨_, hrun, ?_⟩
        have hm : (optI ρL ((0 : Nat) : Int) (some m)).2 = (optI ρL 0 lo').2 := by omega
        rw [if_pos hm, if_pos (by rw [hm])]
        have e : (optI ρL ((0 : Nat) : Int) hi').2.toNat - (optI ρL 0 lo').2.toNat = 0 := by omega
        simp only [RV, e, hm, Nat.sub_self]
        exact ⟨by simp, .inr ⟨_, rfl, by simp⟩⟩
    cases mx' with
    | none =>
      dsimp only at ho ⊢
      obtain ⟨g1, g2, rfl, h0, h1, h2⟩ := ho
      have hmn : mx = none := by cases mx with | none => rfl | some _ => simp [trO] at hmx
      subst hmn
      have hb := run_bounds2 (P := P) (w := w) hρ hlo hhi (isS := true) (n := len) (cap := cap) g1 g2 h0 h1 h2
      have hrun := run_slice_slice (P := P) (a := some ⟨b, off, none⟩) hu hs hb
      refine ⟨_, hrun, ?_⟩
      simp only [RV]
      split <;> simp [addr_add]
    | some m =>
      dsimp only at ho ⊢
      obtain ⟨g1, g2, g3, hh, rfl, h0, h1, h2, h3⟩ := ho
      have hb := run_bounds3 (P := P) (w := w) hρ hlo hhi hmx hh rfl (isS := true) (n := len) (cap := cap) (d := len) (d' := len) g1 g2 g3 h0 h1 h2 h3
      have hrun := run_slice_slice (P := P) (a := some ⟨b, off, none⟩) hu hs hb
      refine ⟨_, hrun, ?_⟩
      by_cases hm : (optI ρL (len : Int) (some m)).2 = (optI ρL 0 lo').2
      · rw [if_pos hm, if_pos (by rw [hm])]
        have e : (optI ρL (len : Int) hi').2.toNat - (optI ρL 0 lo').2.toNat = 0 := by omega
        simp only [RV, e, hm, Nat.sub_self]
        exact ⟨by simp, .inr ⟨_, rfl, by simp⟩⟩
      · rw [if_neg hm, if_neg (by omega)]
        simp only [RV, Option.map_some, addr_add]
        exact .inl trivial
  · exact ho.elim

theorem slA_sound {t e : TypeId} {n sz : Nat} (hu : P.underlying t = some (.array n e)) (hs : sizeAt P e = some sz) {ρL : X → LV} {ρ : Operand → Value} (hρ : ∀ x y, trX vv x = some y → RV M (ρL y) (ρ x)) {lo hi mx : Option Operand} {lo' hi' mx' : Option X}
    (hlo : trO vv lo = some lo') (hhi : trO vv hi = some hi') (hmx : trO vv mx = some mx') {x : LV} {v : Value} (hx : RV M x v) (ho : (slAQ n sz x lo' hi' mx' ρL).1) :
    ∃ u, (Instr.sliceAt t v (lo.map ρ) (hi.map ρ) (mx.map ρ)).run P w = .ok u w ∧ RV M (slAQ n sz x lo' hi' mx' ρL).2 u := by
  unfold slAQ at ho ⊢
  dsimp only at ho ⊢
  have key : ∀ b o, mx' = none → (optI ρL 0 lo').1 → (optI ρL n hi').1 → 0 ≤ (optI ρL 0 lo').2 → (optI ρL 0 lo').2 ≤ (optI ρL n hi').2 → (optI ρL n hi').2 ≤ n → (optI ρL 0 lo').2 < n →
      (Instr.sliceAt t (.pointer (some ⟨b, o, none⟩)) (lo.map ρ) (hi.map ρ) (mx.map ρ)).run P w = .ok (.slice (some ⟨b, o + (optI ρL 0 lo').2.toNat * sz, none⟩) ((optI ρL n hi').2.toNat - (optI ρL 0 lo').2.toNat) (n - (optI ρL 0 lo').2.toNat)) w := by
    intro b o hm g1 g2 h0 h1 h2 h3
    subst hm
    have hmn : mx = none := by cases mx with | none => rfl | some _ => simp [trO] at hmx
    subst hmn
    have hb := run_bounds2 (P := P) (w := w) hρ hlo hhi (isS := false) (n := n) (cap := n) g1 g2 h0 h1 h2
    have hcap : n ≠ (optI ρL 0 lo').2.toNat := by omega
    simp only [Instr.sliceAt, Sem.run_bind, run_underlying hu, Result.andThen_ok, Instr.sureAddr, Sem.run_pure, Option.map_none, hb, run_sizeAt hs, hcap, if_false, addr_add]
  split at ho
  · simp only [RV] at hx ⊢
    subst hx
    obtain ⟨g1, g2, h0, h1, h2, h3⟩ := ho
    exact ⟨_, key _ _ rfl g1 g2 h0 h1 h2 h3, .inl rfl⟩
  · rename_i cs off
    simp only [RV] at hx ⊢
    obtain ⟨b, o, rfl, hr⟩ := hx
    obtain ⟨g1, g2, h0, h1, h2, h3, h4⟩ := ho
    refine ⟨_, key _ _ rfl g1 g2 h0 h1 h2 h3, ?_, .inl ⟨b, _, _, rfl, by omega, ?_⟩⟩
    · have := sub_mul_le (n := n) (h := (optI ρL n hi').2.toNat) (l := (optI ρL 0 lo').2.toNat) (sz := sz) (by omega)
      simp; omega
    · rw [Nat.add_assoc]
      exact RCs_take _ (RCs_drop _ hr)
  · exact ho.elim

/-! ### Bytes to a string -/
theorem run_b2s {b o cap : Nat} {cs : List LV} (h : Holds M w b o cs) (hb : ∀ c ∈ cs, isByte c = true) :
    (Conv.bytesToString (.slice (some ⟨b, o, none⟩) cs.length cap)).run P w = .ok (.string ⟨(cs.map toByte).toArray⟩) w := by
  obtain ⟨vs, h1, h2, _⟩ := h.load (P := P)
  simp only [Conv.bytesToString, Sem.run_bind, h1, Result.andThen_ok]
  have key : ∀ (f : Value → ByteArray → Sem (ForInStep ByteArray)), (∀ n r, f (.int .u8 n) r = pure (ForInStep.yield (r.push (UInt8.ofNat n.toNat)))) → ∀ (cs : List LV) (vs : List Value) (s : ByteArray), (∀ c ∈ cs, isByte c = true) → RVs M cs vs →
      (forIn vs.toArray s f : Sem ByteArray).run P w = .ok (s ++ ⟨(cs.map toByte).toArray⟩) w := by
    intro f hf cs
    induction cs with
    | nil =>
      intro vs s _ hr
      simp only [RVs] at hr
      subst hr
      simp only [List.forIn_toArray, List.forIn_nil, Sem.run_pure, List.map_nil]
      congr 1
      apply ByteArray.ext
      simp
    | cons c cs ih =>
      intro vs s hb hr
      simp only [RVs] at hr
      obtain ⟨u, us, rfl, hu, hs⟩ := hr
      have hc := hb c (by simp)
      cases c with
      | int k n =>
        cases k <;> simp only [isByte, Bool.false_eq_true] at hc
        simp only [RV] at hu
        subst hu
        have := ih us (s.push (UInt8.ofNat n.toNat)) (fun c hc => hb c (List.mem_cons_of_mem _ hc)) hs
        simp only [List.forIn_toArray, List.forIn_cons, Sem.run_bind, hf, Sem.run_pure, Result.andThen_ok] at this ⊢
        rw [this]
        congr 1
        apply ByteArray.ext
        simp [toByte]
      | _ => simp [isByte] at hc
  rw [key _ (fun n r => rfl) cs vs ByteArray.empty hb h2]
  simp only [Result.andThen_ok, Sem.run_pure]
  congr 2

end
end Go.Lx
