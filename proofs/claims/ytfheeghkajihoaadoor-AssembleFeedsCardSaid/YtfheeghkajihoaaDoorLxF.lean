/- The quiet operations do what 'q' says: building, comparing structs, and the theorem for all of them. -/
import Derived.Test.YtfheeghkajihoaaDoorLxE
namespace Go.Lx
set_option linter.unusedSimpArgs false
set_option linter.unusedVariables false
open RowKit

section
variable {vv : Nat → Bool} {P : Program} {M : Imm} {w : World}

theorem b2s_sound {gl : Glob} {w0 : World} {H HF : Heap} (hI : Inv gl w0 M (H ++ HF) w) {s d e : TypeId} (hs : P.underlying s = some (.slice e)) (he : P.underlying e = some (.int .u8)) (hd : P.underlying d = some .string) {x : LV} {v : Value} (hx : RV M x v) (ho : (b2sQ x H).1) :
    ∃ u, (convert s d v).run P w = .ok u w ∧ RV M (b2sQ x H).2 u := by
  have conv : ∀ a l c, (convert s d (.slice a l c)).run P w = (Conv.bytesToString (.slice a l c)).run P w := by
    intro a l c
    simp [convert, run_underlying hs, run_underlying hd, run_underlying he]
  have im : ∀ (n : Nat) (cs : List LV), cs.length = n * 1 → (∀ c ∈ cs, isByte c = true) → ((∃ b o cap, v = .slice (some ⟨b, o, none⟩) n cap ∧ RCs M b o cs) ∨ (∃ a cap, v = .slice a 0 cap ∧ n = 0)) → (convert s d v).run P w = .ok (.string ⟨(cs.map toByte).toArray⟩) w := by
    intro n cs hc hb hv
    rcases hv with ⟨b, o, cap, rfl, hr⟩ | ⟨a, cap, rfl, rfl⟩
    · rw [conv]
      have := run_b2s (P := P) (cap := cap) (Holds.of_imm hI hr) hb
      rwa [hc, Nat.mul_one] at this
    · rw [conv]
      have : cs = [] := by simpa using hc
      subst this
      cases a with
      | none => simp [Conv.bytesToString]; rfl
      | some a =>
        have : (loadCells a 0).run P w = .ok #[] w := by simpa using run_loadCells_list (P := P) (w := w) a [] (by simp)
        simp [Conv.bytesToString, this]
        rfl
  unfold b2sQ at ho ⊢
  split at ho
  · simp only [RV] at hx ⊢
    refine ⟨_, im _ _ hx.1 ho ?_, rfl⟩
    rcases hx.2 with ⟨b, o, cap, h1, _, h2⟩ | h
    · exact .inl ⟨b, o, cap, h1, h2⟩
    · exact .inr h
  · simp only [RV] at hx ⊢
    refine ⟨_, im _ _ hx.1 ho ?_, rfl⟩
    rcases hx.2 with ⟨b, o, h1, h2⟩ | ⟨a, h⟩
    · exact .inl ⟨b, o, _, h1, h2⟩
    · exact .inr ⟨a, 0, h⟩
  · simp only [RV] at hx ⊢
    refine ⟨_, im _ _ hx.1 ho ?_, rfl⟩
    rcases hx.2 with ⟨b, o, cap, h1, _, h2, _⟩ | ⟨a, h⟩
    · exact .inl ⟨b, o, cap, h1, h2⟩
    · exact .inr ⟨a, 0, h⟩
  · rename_i id b off len cap
    simp only [RV] at hx
    rcases hx with rfl | ⟨rfl, rfl, a, rfl⟩
    rotate_left
    · split at ho
      · rename_i b' cs hH
        refine ⟨_, im 0 [] (by simp) (by simp) (.inr ⟨a, 0, rfl, rfl⟩), ?_⟩
        simp [RV]
      · exact ho.elim
    split at ho
    · rename_i b' cs hH
      obtain ⟨rfl, h1, h2⟩ := ho
      refine ⟨.string ⟨(((cs.drop off).take len).map toByte).toArray⟩, ?_, by simp only [RV]⟩
      rw [conv]
      have := run_b2s (P := P) (cap := cap) (((Holds.of_own hI (List.mem_append_left _ (getH_mem hH))).drop off).take len) h2
      rw [take_drop_length h1, Nat.zero_add] at this
      exact this
    · exact ho.elim
  · exact ho.elim

/-! ### Building a struct or an array -/
theorem fold_set (off : Nat) : ∀ (l : List Value) (k : Nat) (cells : Array Value) (i : Nat),
    ((l.zipIdx k).foldl (fun (cs : Array Value) (p : Value × Nat) => cs.setIfInBounds (off + p.2) p.1) cells)[i]? = if off + k ≤ i ∧ i < off + k + l.length ∧ i < cells.size then l[i - (off + k)]? else cells[i]?
  | [], k, cells, i => by simp; omega
  | v :: l, k, cells, i => by
    simp only [List.zipIdx_cons, List.foldl_cons]
    rw [fold_set off l (k + 1)]
    simp only [Array.size_setIfInBounds, List.length_cons]
    by_cases h1 : off + k = i
    · subst h1
      rw [if_neg (by omega)]
      by_cases h2 : off + k < cells.size
      · rw [if_pos ⟨by omega, by omega, h2⟩]
        simp [h2]
      · rw [if_neg (by omega)]
        simp [Array.setIfInBounds, h2]
    · by_cases h2 : off + (k + 1) ≤ i ∧ i < off + (k + 1) + l.length ∧ i < cells.size
      · rw [if_pos h2, if_pos (by omega)]
        rw [show i - (off + k) = (i - (off + (k + 1))) + 1 by omega]
        simp
      · rw [if_neg h2, if_neg (by omega)]
        rw [Array.getElem?_setIfInBounds_ne h1]

theorem fold_size (off : Nat) : ∀ (l : List (Value × Nat)) (cells : Array Value), (l.foldl (fun (cs : Array Value) (p : Value × Nat) => cs.setIfInBounds (off + p.2) p.1) cells).size = cells.size
  | [], cells => rfl
  | p :: l, cells => by rw [List.foldl_cons, fold_size off l]; simp

theorem fold_splice {cs ds : List LV} {cells vs : Array Value} {off : Nat} (hc : RVs M cs cells.toList) (hd : RVs M ds vs.toList) (hr : off + ds.length ≤ cs.length) :
    RVs M (splice cs ds off) (vs.zipIdx.foldl (fun (cs : Array Value) (p : Value × Nat) => cs.setIfInBounds (off + p.2) p.1) cells).toList := by
  have hl := RVs_length hc
  have hl' := RVs_length hd
  rw [← Array.foldl_toList, Array.toList_zipIdx]
  refine RVs_of_get ?_ fun i c v hgc hgv => ?_
  · rw [splice_length hr, Array.length_toList, fold_size]
    simpa using hl
  · rw [splice_get hr] at hgc
    rw [Array.getElem?_toList, fold_set off vs.toList 0 cells i] at hgv
    simp only [Array.length_toList] at hl hl' hgv
    split at hgc
    · rename_i hin
      rw [if_pos (by omega)] at hgv
      obtain ⟨u, h1, h2⟩ := RVs_get hd _ c hgc
      rw [show off + 0 = off by omega] at hgv
      rw [h1] at hgv; cases hgv; exact h2
    · rename_i hin
      rw [if_neg (by omega)] at hgv
      obtain ⟨u, h1, h2⟩ := RVs_get hc _ c hgc
      rw [Array.getElem?_toList] at h1
      rw [h1] at hgv; cases hgv; exact h2

theorem fill_sound {ρL : X → LV} {ρ : Operand → Value} (hρ : ∀ x y, trX vv x = some y → RV M (ρL y) (ρ x)) (place : Nat → Option (Nat × Nat)) :
    ∀ (parts : List (Nat × Operand)) (parts' : List (Nat × Nat × X)) (cells : Array Value) (cs out : List LV), trParts vv place parts = some parts' → RVs M cs cells.toList → gParts ρL parts' → fillL cs (vParts ρL parts') = some out →
      ∃ cells', Instr.fill place cells (parts.map fun p => (p.1, ρ p.2)) = some cells' ∧ RVs M out cells'.toList ∧ out.length = cs.length ∧ ((∀ u ∈ cells.toList, u.oneCell' = true) → ∀ u ∈ cells'.toList, u.oneCell' = true)
  | [], parts', cells, cs, out, ht, hc, _, hf => by
    simp only [trParts, Option.some.injEq] at ht
    subst ht
    simp only [vParts, List.map_nil, fillL, Option.some.injEq] at hf
    subst hf
    exact ⟨cells, rfl, hc, rfl, fun h => h⟩
  | (i, x) :: r, parts', cells, cs, out, ht, hc, hg, hf => by
    simp only [trParts] at ht
    split at ht
    · rename_i o s y ys h1 h2 h3
      cases ht
      simp only [vParts, List.map_cons, fillL] at hf
      have hgy := hg (o, s, y) (by simp)
      have hv := strip (hρ x y h2) hgy
      split at hf
      · rename_i ds hds
        split at hf
        · rename_i hlen
          obtain ⟨hd, hone⟩ := cellsL_sound hv hds
          have hl' := RVs_length hd
          have hl := RVs_length hc
          simp only [Array.length_toList] at hl hl'
          obtain ⟨cells', f1, f2, f3, f4⟩ := fill_sound hρ place r ys _ _ out h3 (fold_splice hc hd hlen.2) (fun p hp => hg p (List.mem_cons_of_mem _ hp)) hf
          refine ⟨cells', ?_, f2, by rw [f3, splice_length hlen.2], fun h4 => f4 ?_⟩
          · simp only [List.map_cons, Instr.fill, h1]
            rw [if_neg (by simp; omega)]
            exact f1
          · intro u hu
            obtain ⟨j, hj⟩ := List.getElem?_of_mem hu
            rw [← Array.foldl_toList, Array.toList_zipIdx, Array.getElem?_toList, fold_set] at hj
            split at hj
            · exact hone u (List.mem_of_getElem? hj)
            · rw [← Array.getElem?_toList] at hj; exact h4 u (List.mem_of_getElem? hj)
        · cases hf
      · cases hf
    · cases ht

theorem zeroOf_sound {t : TypeId} {zs : List LV} (h : zeroOf P t = some zs) : ∃ i z, P.info? t = some i ∧ i.zero = some z ∧ RVs M zs z.cells.toList ∧ z.cells.size = i.size ∧ ∀ u ∈ z.cells.toList, u.oneCell' = true := by
  unfold zeroOf at h
  split at h
  · rename_i i hi
    split at h
    · rename_i z hz
      split at h
      · rename_i zs' hzs
        split at h
        · rename_i hsz
          cases h
          exact ⟨i, z, hi, hz, ofVals_sound hzs, hsz, ofVals_one hzs⟩
        · cases h
      · cases h
    · cases h
  · cases h

theorem sizeAt_info {t : TypeId} {s : Nat} (h : sizeAt P t = some s) : ∃ i, P.info? t = some i ∧ i.size = s := by
  simpa [sizeAt, Option.map_eq_some_iff] using h

theorem places_eq : ∀ (fs : List Field) (pl : List (Nat × Nat)), fs.mapM (fun f => (sizeAt P f.type).map fun s => (f.offset, s)) = some pl → fs.mapM (fun f => (P.info? f.type).map fun i => (f.offset, i.size)) = some pl := by
  intro fs pl h
  have : (fun f : Field => (sizeAt P f.type).map fun s => (f.offset, s)) = fun f => (P.info? f.type).map fun i => (f.offset, i.size) := by
    funext f
    simp [sizeAt, Function.comp_def]
  rw [this] at h
  exact h

theorem build_sound {t : TypeId} {parts : Array (Nat × Operand)} {lo : LOp} (ht : trOp vv P (.build t parts) = some lo) {ρL : X → LV} {ρ : Operand → Value} (hρ : ∀ x y, trX vv x = some y → RV M (ρL y) (ρ x)) {H : Heap} (ho : (q lo ρL H).1) :
    ∃ u, (Instr.build t (parts.map fun (i, x) => (i, ρ x))).run P w = .ok u w ∧ RV M (q lo ρL H).2 u := by
  have main : ∀ (place : Nat → Option (Nat × Nat)) (z : List LV) (zv : Value) (parts' : List (Nat × Nat × X)), trParts vv place parts.toList = some parts' → RVs M z zv.cells.toList → (∀ u ∈ zv.cells.toList, u.oneCell' = true) → lo = .build z parts' →
      (∀ cells, Instr.fill place zv.cells (parts.toList.map fun p => (p.1, ρ p.2)) = some cells → P.built t (parts.toList.map fun p => (p.1, ρ p.2)) = some cells) →
      ∃ u, (Instr.build t (parts.map fun (i, x) => (i, ρ x))).run P w = .ok u w ∧ RV M (q lo ρL H).2 u := by
    intro place z zv parts' h1 h2 h2' h3 h4
    subst h3
    simp only [q] at ho ⊢
    obtain ⟨hg, hs⟩ := ho
    obtain ⟨out, hout⟩ := Option.isSome_iff_exists.1 hs
    obtain ⟨cells', f1, f2, _, f4⟩ := fill_sound hρ place parts.toList parts' zv.cells z out h1 h2 hg hout
    refine ⟨.agg cells', run_build w t _ cells' (by simpa using h4 cells' f1), ?_⟩
    rw [hout]
    simp only [RV, Option.getD_some]
    exact ⟨cells'.toList, by simp, f2, f4 h2'⟩
  simp only [trOp] at ht
  split at ht
  · rename_i fs z hu hz
    obtain ⟨i, zv, hi, hzv, hrz, _, hz1⟩ := zeroOf_sound (M := M) hz
    split at ht
    · rename_i pl hpl
      simp only [Option.map_eq_some_iff] at ht
      obtain ⟨parts', hp, rfl⟩ := ht
      refine main _ z zv parts' hp hrz hz1 rfl fun cells hf => ?_
      simp only [Program.built, hi, hu, hzv, places_eq _ _ hpl]
      simpa using hf
    · cases ht
  · rename_i n e z hu hz
    obtain ⟨i, zv, hi, hzv, hrz, _, hz1⟩ := zeroOf_sound (M := M) hz
    split at ht
    · rename_i s hs
      obtain ⟨ie, hie, hse⟩ := sizeAt_info hs
      simp only [Option.map_eq_some_iff] at ht
      obtain ⟨parts', hp, rfl⟩ := ht
      refine main _ z zv parts' hp hrz hz1 rfl fun cells hf => ?_
      simp only [Program.built, hi, hu, hzv, hie, hse]
      exact hf
    · cases ht
  · cases ht

/-! ### Comparing structs -/
def valOf (g : Bool) (vs : List Value) : Value := if g then .agg vs.toArray else vs.headD undef

theorem run_part {t : TypeId} {g : Bool} {s : Nat} (hg : aggOf P t = some g) (hs : sizeAt P t = some s) (hgs : (g || s == 1) = true) {vs : List Value} {off : Nat} (hr : off + s ≤ vs.length) :
    (part t vs.toArray off).run P w = .ok (valOf g ((vs.drop off).take s)) w := by
  unfold part
  cases g with
  | true =>
    simp only [Sem.run_bind, run_isAgg hg, run_sizeAt hs, Result.andThen_ok, if_true, Sem.run_pure, valOf]
    congr 2
    rw [List.extract_toArray]
    simp [List.extract]
  | false =>
    have hs1 : s = 1 := by simpa using hgs
    subst hs1
    have : vs[off]? = some vs[off] := by simp
    simp only [Sem.run_bind, run_isAgg hg, Result.andThen_ok, List.getElem?_toArray, this]
    simp only [valOf, Bool.false_eq_true, if_false, Sem.run_pure]
    congr 1
    rw [List.drop_eq_getElem_cons (by omega)]
    rfl

theorem RVs_slice {cs : List LV} {vs : List Value} (h : RVs M cs vs) (o s : Nat) : RVs M ((cs.drop o).take s) ((vs.drop o).take s) := by
  have hl := RVs_length h
  refine RVs_of_get (by simp; omega) fun i c v hc hv => ?_
  rw [List.getElem?_take] at hc hv
  split at hc
  · rename_i hi
    rw [if_pos hi, List.getElem?_drop] at hv
    rw [List.getElem?_drop] at hc
    obtain ⟨u, h1, h2⟩ := RVs_get h _ c hc
    rw [h1] at hv; cases hv; exact h2
  · cases hc

theorem getD_slice {xs : List LV} {o s i : Nat} (hi : i < s) : ((xs.drop o).take s).getD i .any = xs.getD (o + i) .any := by
  simp only [List.getD_eq_getElem?_getD, List.getElem?_take, hi, if_true, List.getElem?_drop]

theorem leavesQ_shift {xs ys : List LV} {o s : Nat} : ∀ {a : List (Nat × Nat)}, a.all (fun p => p.1 < s) = true → leavesQ ((xs.drop o).take s) ((ys.drop o).take s) a = leavesQ xs ys (a.map (fun p => (o + p.1, p.2)))
  | [], _ => rfl
  | i :: r, h => by
    simp only [List.all_cons, Bool.and_eq_true, decide_eq_true_eq] at h
    simp only [leavesQ, List.map_cons, getD_slice h.1, leavesQ_shift h.2]

theorem leavesQ_append {xs ys : List LV} : ∀ {a b : List (Nat × Nat)}, leavesQ xs ys (a ++ b) = ((leavesQ xs ys a).1 ∧ (leavesQ xs ys b).1, (leavesQ xs ys a).2 && (leavesQ xs ys b).2)
  | [], b => by simp [leavesQ]
  | i :: a, b => by
    simp only [List.cons_append, leavesQ, leavesQ_append]
    simp [and_assoc, Bool.and_assoc]

theorem valOf_true (vs : List Value) : valOf true vs = .agg vs.toArray := rfl
theorem valOf_one (v : Value) : valOf false [v] = v := rfl

theorem leaf_sound {d : Nat} {t : TypeId} {k : Nat} (hk : (k = 0 ∧ P.underlying t = some .bool) ∨ (k = 1 ∧ ∃ ik, P.underlying t = some (.int ik)) ∨ (k = 2 ∧ P.underlying t = some .string)) {x y : LV} {v u : Value} (hx : RV M x v) (hy : RV M y u) (h : (leafQ k x y).1) :
    (Op.equalIn (d + 1) t v u).run P w = .ok (leafQ k x y).2 w := by
  unfold leafQ at h ⊢
  split at h
  · simp only [RV] at hx hy
    subst hx; subst hy
    obtain ⟨rfl, rfl⟩ := h
    rcases hk with ⟨h1, _⟩ | ⟨_, ik, h2⟩ | ⟨h1, _⟩
    · cases h1
    · exact run_equalIn_int w d t _ ik _ _ h2
    · cases h1
  · simp only [RV] at hx hy
    subst hx; subst hy
    simp only at h
    subst h
    rcases hk with ⟨h1, _⟩ | ⟨h1, _⟩ | ⟨_, h2⟩
    · cases h1
    · cases h1
    · rw [run_equalIn_string w d t _ _ h2]; simp
  · simp only [RV] at hx hy
    subst hx; subst hy
    simp only at h
    subst h
    rcases hk with ⟨_, h2⟩ | ⟨h1, _⟩ | ⟨h1, _⟩
    · exact equalIn_bool d h2 _ _
    · cases h1
    · cases h1
  · exact h.elim

theorem leaves_sound : ∀ (d : Nat) (t : TypeId) (ls : List (Nat × Nat)), leaves P d t = some ls → ∀ d', d ≤ d' → ∀ g s, aggOf P t = some g → sizeAt P t = some s → (g || s == 1) = true → ∀ (xs ys : List LV) (vs us : List Value), RVs M xs vs → RVs M ys us → xs.length = s → ys.length = s →
    (leavesQ xs ys ls).1 → (Op.equalIn d' t (valOf g vs) (valOf g us)).run P w = .ok (leavesQ xs ys ls).2 w
  | 0, t, ls, h, _, _, _, _, _, _, _, _, _, _, _, _, _, _, _, _ => by simp [leaves] at h
  | d + 1, t, ls, h, 0, hd, _, _, _, _, _, _, _, _, _, _, _, _, _, _ => by omega
  | d + 1, t, ls, h, d' + 1, hd, g, s, hg, hs, hgs, xs, ys, vs, us, hxs, hys, lx, ly, ho => by
    have scal : ∀ k, ls = [(0, k)] → ((k = 0 ∧ P.underlying t = some .bool) ∨ (k = 1 ∧ ∃ ik, P.underlying t = some (.int ik)) ∨ (k = 2 ∧ P.underlying t = some .string)) →
        (Op.equalIn (d' + 1) t (valOf g vs) (valOf g us)).run P w = .ok (leavesQ xs ys ls).2 w := by
      intro k hl hk
      subst hl
      have hgf : g = false := by
        unfold aggOf at hg
        rcases hk with ⟨_, h2⟩ | ⟨_, ik, h2⟩ | ⟨_, h2⟩ <;> rw [h2] at hg <;> simpa using hg.symm
      subst hgf
      have hs1 : s = 1 := by simpa using hgs
      subst hs1
      obtain ⟨x, rfl⟩ := List.length_eq_one_iff.1 lx
      obtain ⟨y, rfl⟩ := List.length_eq_one_iff.1 ly
      simp only [RVs] at hxs hys
      obtain ⟨v, _, rfl, hv, rfl⟩ := hxs
      obtain ⟨u, _, rfl, hu, rfl⟩ := hys
      simp only [leavesQ, List.getD_cons_zero, and_true, Bool.and_true] at ho ⊢
      rw [valOf_one, valOf_one]
      exact leaf_sound hk hv hu ho
    simp only [leaves] at h
    split at h
    · rename_i hu; cases h; exact scal 0 rfl (.inl ⟨rfl, hu⟩)
    · rename_i ik hu; cases h; exact scal 1 rfl (.inr (.inl ⟨rfl, ik, hu⟩))
    · rename_i hu; cases h; exact scal 2 rfl (.inr (.inr ⟨rfl, hu⟩))
    · rename_i fs hu
      rw [hs] at h
      dsimp only at h
      split at h
      · cases h
      · rename_i hstood
        simp only [Bool.or_eq_true, Bool.not_eq_true', not_or, Bool.not_eq_true, Bool.not_eq_false] at hstood
        obtain ⟨hst, hfits⟩ := hstood
        have hgt : g = true := by unfold aggOf at hg; rw [hu] at hg; simpa using hg.symm
        subst hgt
        have hfo : P.fieldsOf t = fs := by simp [Program.fieldsOf, hu]
        rw [valOf_true, valOf_true, run_equalIn_struct w d' t _ _ (by rw [hfo]; exact hu) hst, hfo]
        have key : ∀ (l : List Field) (ls : List (Nat × Nat)), (fitsIn P s l = true) → leavesF P (leaves P d) l = some ls → (leavesQ xs ys ls).1 → (Op.eqFields d' vs.toArray us.toArray l).run P w = .ok (leavesQ xs ys ls).2 w := by
          intro l
          induction l with
          | nil => intro ls _ h _; simp only [leavesF, Option.some.injEq] at h; subst h; simp [Op.eqFields, leavesQ]
          | cons f r ih =>
            intro ls hft h ho
            simp only [leavesF] at h
            split at h
            · cases h
            · rename_i hname
              split at h
              · rename_i a sf gf b h1 h2 h3 h4
                split at h
                · rename_i hc
                  cases h
                  simp only [Bool.and_eq_true] at hc
                  simp only [fitsIn, List.all_cons, Bool.and_eq_true] at hft
                  have hbound : f.offset + sf ≤ s := by have := hft.1; rw [h2] at this; simpa using this
                  rw [leavesQ_append] at ho ⊢
                  simp only at ho ⊢
                  have e1 := leavesQ_shift (xs := xs) (ys := ys) (o := f.offset) hc.1
                  have lxs := RVs_length hxs
                  have lys := RVs_length hys
                  have p1 := run_part (P := P) (w := w) (vs := vs) (off := f.offset) h3 h2 hc.2 (by omega)
                  have p2 := run_part (P := P) (w := w) (vs := us) (off := f.offset) h3 h2 hc.2 (by omega)
                  have hin := leaves_sound d f.type a h1 d' (by omega) gf sf h3 h2 hc.2 _ _ _ _ (RVs_slice hxs f.offset sf) (RVs_slice hys f.offset sf) (by simp; omega) (by simp; omega) (by rw [e1]; exact ho.1)
                  rw [e1] at hin
                  have hrest := ih b hft.2 h4 ho.2
                  simp only [Op.eqFields, ne_eq, hname, not_false_eq_true, if_true, Sem.run_bind, p1, p2, Result.andThen_ok, hin, Sem.run_ite, Sem.run_pure, hrest]
                  cases (leavesQ xs ys (a.map fun p => (f.offset + p.1, p.2))).2 <;> simp
                · cases h
              · cases h
        exact key fs.toList ls hfits h ho
    · cases h

theorem eqS_sound {op : BinOp} (hop : op = .eql ∨ op = .neq) {t : TypeId} {s : Nat} {ls : List (Nat × Nat)} (hag : aggOf P t = some true) (hs : sizeAt P t = some s) (hq : P.eqGuardType P.depth t = false) (hl : leaves P 30 t = some ls) {ox oy : Operand} {x y : LV} {a b : Value} (hx : RV M x a) (hy : RV M y b)
    (ho : (eqSQ (op == .neq) s ls x y).1) : ∃ u, (do eqGuard op t ox oy a b; binOp op t a b : Sem Value).run P w = .ok u w ∧ RV M (eqSQ (op == .neq) s ls x y).2 u := by
  unfold eqSQ at ho ⊢
  split at ho
  · rename_i xs ys
    simp only [RV] at hx hy
    obtain ⟨vs, rfl, hvs, _⟩ := hx
    obtain ⟨us, rfl, hus, _⟩ := hy
    obtain ⟨l1, l2, ho⟩ := ho
    have h := leaves_sound (M := M) (w := w) 30 t ls hl 10000 (by omega) true s hag hs rfl xs ys vs us hvs hus l1 l2 ho
    rw [valOf_true, valOf_true] at h
    rcases hop with rfl | rfl
    · refine ⟨.bool (leavesQ xs ys ls).2, ?_, by show RV M (.bool (if false then _ else _)) _; simp [RV]⟩
      simp only [Sem.run_bind, run_eqGuard_agg w _ t _ _ _ _ hq, Result.andThen_ok, run_eql_struct, h]
    · refine ⟨.bool (!(leavesQ xs ys ls).2), ?_, by show RV M (.bool (if true then _ else _)) _; simp [RV]⟩
      simp only [Sem.run_bind, run_eqGuard_agg w _ t _ _ _ _ hq, Result.andThen_ok, run_neq_struct, h]
  · exact ho.elim

/-! ### All quiet operations -/
theorem wrapV {s : Sem Value} {u : Value} (h : s.run P w = .ok u w) : (do pure (Next.value (← s)) : Sem Next).run P w = .ok (.value u) w := by
  simp [h]

theorem q_sound {gl : Glob} {w0 : World} {H HF : Heap} {n : Nat} {env tmp : Env} {a : Act} (hI : Inv gl w0 M (H ++ HF) w) (hF : Fr vv n env tmp M a) {o : Oper} {lo : LOp} (ht : trOp vv P o.op = some lo) (ho : (q lo (ev gl env tmp) H).1) :
    ∃ v, (execOp a.eval o).run P w = .ok (.value v) w ∧ RV M (q lo (ev gl env tmp) H).2 v := by
  have hρ : ∀ x y, trX vv x = some y → RV M (ev gl env tmp y) (a.eval x) := fun x y h => ev_sound hF hI.glob h
  obtain ⟨dst, op, ty, pos, after, guard⟩ := o
  simp only at ht
  cases op <;> simp only [trOp] at ht <;> try (cases ht; done)
  case move x =>
    simp only [Option.map_eq_some_iff] at ht
    obtain ⟨y, hy, rfl⟩ := ht
    exact ⟨_, rfl, strip (hρ x y hy) ho⟩
  case assign x =>
    simp only [Option.map_eq_some_iff] at ht
    obtain ⟨y, hy, rfl⟩ := ht
    exact ⟨_, rfl, strip (hρ x y hy) ho⟩
  case pick c x y =>
    split at ht
    · rename_i c' x' y' h1 h2 h3
      cases ht
      exact pick_sound (hρ _ _ h1) (hρ _ _ h2) (hρ _ _ h3) ho
    · cases ht
  case build t parts =>
    obtain ⟨u, h1, h2⟩ := build_sound (w := w) (t := t) (parts := parts) (by simpa only [trOp] using ht) hρ ho
    exact ⟨u, wrapV h1, h2⟩
  case load t x =>
    split at ht
    · rename_i g s x' h1 h2 h3
      split at ht
      · rename_i hgs
        cases ht
        obtain ⟨u, r1, r2⟩ := load_sound (P := P) hI h1 h2 hgs (strip (hρ _ _ h3) ho.1) ho.2
        exact ⟨u, wrapV r1, r2⟩
      · cases ht
    · cases ht
  case nilCheck x =>
    simp only [Option.map_eq_some_iff] at ht
    obtain ⟨y, hy, rfl⟩ := ht
    have := nilc_sound (P := P) (w := w) (strip (hρ x y hy) ho.1) ho.2 ⟨dst, .nilCheck x, ty, pos, after, guard⟩ a.eval x rfl rfl
    exact ⟨_, this.1, this.2⟩
  case binOp op t x y yt =>
    split at ht
    · rename_i x' y' h1 h2
      have fin : (∃ u, (do eqGuard op t x y (a.eval x) (a.eval y); binOp op t (a.eval x) (a.eval y) : Sem Value).run P w = .ok u w ∧ RV M (q lo (ev gl env tmp) H).2 u) →
          ∃ v, (execOp a.eval ⟨dst, .binOp op t x y yt, ty, pos, after, guard⟩).run P w = .ok (.value v) w ∧ RV M (q lo (ev gl env tmp) H).2 v := by
        rintro ⟨u, r1, r2⟩
        exact ⟨u, wrapV r1, r2⟩
      have plain : lo = .bin op x' y' → ∃ v, (execOp a.eval ⟨dst, .binOp op t x y yt, ty, pos, after, guard⟩).run P w = .ok (.value v) w ∧ RV M (q lo (ev gl env tmp) H).2 v := by
        intro hl
        subst hl
        exact fin (bin_sound (strip (hρ _ _ h1) ho.1) (strip (hρ _ _ h2) ho.2.1) ho.2.2)
      have eqc : (op = .eql ∨ op = .neq) → (match P.underlying t with
          | some (.int _) | some .string => some (LOp.bin op x' y')
          | some .bool => some (.eqB (op == .neq) x' y')
          | some (.pointer _) => some (.eqN (op == .neq) x' y')
          | some (.slice _) => if nilLit y' then some (.isNil (op == .neq) x') else none
          | some (.struct _) | some (.array _ _) =>
            if P.eqGuardType P.depth t then none
            else match leaves P 30 t, sizeAt P t with
              | some ls, some s => some (.eqS (op == .neq) s ls x' y')
              | _, _ => none
          | _ => none) = some lo → ∃ v, (execOp a.eval ⟨dst, .binOp op t x y yt, ty, pos, after, guard⟩).run P w = .ok (.value v) w ∧ RV M (q lo (ev gl env tmp) H).2 v := by
        intro hop h
        have str : (∃ fs, P.underlying t = some (.struct fs)) ∨ (∃ k e, P.underlying t = some (.array k e)) → (if P.eqGuardType P.depth t then none
            else match leaves P 30 t, sizeAt P t with
              | some ls, some s => some (LOp.eqS (op == .neq) s ls x' y')
              | _, _ => none) = some lo → ∃ v, (execOp a.eval ⟨dst, .binOp op t x y yt, ty, pos, after, guard⟩).run P w = .ok (.value v) w ∧ RV M (q lo (ev gl env tmp) H).2 v := by
          intro hty h
          have hag : aggOf P t = some true := by
            unfold aggOf
            rcases hty with ⟨fs, hu⟩ | ⟨k, e, hu⟩ <;> rw [hu]
          split at h
          · cases h
          · rename_i hq
            split at h
            · rename_i ls s hls hs
              cases h
              exact fin (eqS_sound hop hag hs (by simpa using hq) hls (strip (hρ _ _ h1) ho.1) (strip (hρ _ _ h2) ho.2.1) ho.2.2)
            · cases h
        split at h
        · cases h; exact plain rfl
        · cases h; exact plain rfl
        · rename_i hu; cases h
          exact fin (eqB_sound hop hu (strip (hρ _ _ h1) ho.1) (strip (hρ _ _ h2) ho.2.1) ho.2.2)
        · rename_i e hu; cases h
          exact fin (eqN_sound hop hu (strip (hρ _ _ h1) ho.1) (strip (hρ _ _ h2) ho.2.1) ho.2.2)
        · split at h
          · cases h; exact ho.elim
          · cases h
        · rename_i fs hu; exact str (.inl ⟨fs, hu⟩) h
        · rename_i k e hu; exact str (.inr ⟨k, e, hu⟩) h
        · cases h
      cases op <;> first
        | exact eqc (.inl rfl) ht
        | exact eqc (.inr rfl) ht
        | exact plain (Option.some.inj ht).symm
    · cases ht
  case unOp op t x =>
    simp only [Option.map_eq_some_iff] at ht
    obtain ⟨y, hy, rfl⟩ := ht
    obtain ⟨u, r1, r2⟩ := un_sound (P := P) (w := w) (strip (hρ _ _ hy) ho.1) ho.2
    exact ⟨u, wrapV r1, r2⟩
  case convert s d x =>
    split at ht
    · rename_i ds k x' h1 h2 h3
      cases ht
      obtain ⟨u, r1, r2⟩ := conv_sound (P := P) (w := w) h1 h2 (strip (hρ _ _ h3) ho.1) ho.2
      exact ⟨u, wrapV r1, r2⟩
    · rename_i x' h1 h2 h3
      cases ht
      obtain ⟨u, r1, r2⟩ := same_sound (P := P) (w := w) h1 h2 (strip (hρ _ _ h3) ho.1) ho.2
      exact ⟨u, wrapV r1, r2⟩
    · rename_i e x' h1 h2 h3
      split at ht
      · rename_i he
        cases ht
        obtain ⟨u, r1, r2⟩ := b2s_sound (P := P) hI h1 he h2 (strip (hρ _ _ h3) ho.1) ho.2
        exact ⟨u, wrapV r1, r2⟩
      · cases ht
    · rename_i e x' h1 h2 h3
      split at ht
      · cases ht; exact ho.elim
      · cases ht
    · split at ht
      · split at ht
        · cases ht; exact ho.elim
        · cases ht
      · cases ht
    · cases ht
  case slice t x l h m =>
    split at ht
    · rename_i x' l' h' hu h1 h2 h3 h4
      cases ht
      simp only [q] at ho ⊢
      split at ho
      · rename_i s hs
        have hx := strip (hρ _ _ h1) ho.1
        rw [hs] at hx
        simp only [RV] at hx
        have hm : m = none := by cases m with | none => rfl | some _ => simp [trO] at h4
        subst hm
        obtain ⟨u, r1, r2⟩ := slS_sound (P := P) (w := w) hu hρ h2 h3 ho.2.1 ho.2.2.1 ho.2.2.2
        refine ⟨u, wrapV ?_, r2⟩
        rw [hx]; exact r1
      · exact ho.elim
    · rename_i e x' l' h' m' hu h1 h2 h3 h4
      simp only [Option.map_eq_some_iff] at ht
      obtain ⟨s, hs, rfl⟩ := ht
      obtain ⟨u, r1, r2⟩ := slL_sound (P := P) (w := w) hu hs hρ h2 h3 h4 (strip (hρ _ _ h1) ho.1) ho.2
      exact ⟨u, wrapV r1, r2⟩
    · rename_i k e x' l' h' m' hu h1 h2 h3 h4
      simp only [Option.map_eq_some_iff] at ht
      obtain ⟨s, hs, rfl⟩ := ht
      obtain ⟨u, r1, r2⟩ := slA_sound (P := P) (w := w) hu hs hρ h2 h3 h4 (strip (hρ _ _ h1) ho.1) ho.2
      exact ⟨u, wrapV r1, r2⟩
    · cases ht
  case fieldAddr t x f =>
    split at ht
    · rename_i fs x' hu h1
      split at ht
      · rename_i fd hf
        split at ht
        · rename_i s hs
          split at ht
          · cases ht
          · rename_i h0
            cases ht
            obtain ⟨u, r1, r2⟩ := faddr_sound (P := P) (w := w) hu hf hs h0 (strip (hρ _ _ h1) ho.1) ho.2
            exact ⟨u, wrapV r1, r2⟩
        · cases ht
      · cases ht
    · cases ht
  case field t x f =>
    split at ht
    · rename_i fs x' hu h1
      split at ht
      · rename_i fd hf
        split at ht
        · rename_i g s hg hs
          split at ht
          · rename_i hgs
            cases ht
            obtain ⟨u, r1, r2⟩ := fld_sound (P := P) (w := w) hu hf hg hs hgs (strip (hρ _ _ h1) ho.1) ho.2
            exact ⟨u, wrapV r1, r2⟩
          · cases ht
        · cases ht
      · cases ht
    · cases ht
  case indexAddr t x i =>
    split at ht
    · rename_i e x' i' hu h1 h2
      simp only [Option.map_eq_some_iff] at ht
      obtain ⟨s, hs, rfl⟩ := ht
      obtain ⟨u, r1, r2⟩ := iaS_sound (P := P) (w := w) hu hs (strip (hρ _ _ h1) ho.1) (strip (hρ _ _ h2) ho.2.1) ho.2.2
      exact ⟨u, wrapV r1, r2⟩
    · rename_i k e x' i' hu h1 h2
      simp only [Option.map_eq_some_iff] at ht
      obtain ⟨s, hs, rfl⟩ := ht
      obtain ⟨u, r1, r2⟩ := iaA_sound (P := P) (w := w) hu hs (strip (hρ _ _ h1) ho.1) (strip (hρ _ _ h2) ho.2.1) ho.2.2
      exact ⟨u, wrapV r1, r2⟩
    · cases ht
  case index t x i =>
    split at ht
    · rename_i x' i' hu h1 h2
      cases ht
      obtain ⟨u, r1, r2⟩ := ixS_sound (P := P) (w := w) hu (strip (hρ _ _ h1) ho.1) (strip (hρ _ _ h2) ho.2.1) ho.2.2
      exact ⟨u, wrapV r1, r2⟩
    · rename_i k e x' i' hu h1 h2
      split at ht
      · rename_i g s hg hs
        split at ht
        · rename_i hgs
          cases ht
          obtain ⟨u, r1, r2⟩ := ixA_sound (P := P) (w := w) hu hg hs hgs (strip (hρ _ _ h1) ho.1) (strip (hρ _ _ h2) ho.2.1) ho.2.2
          exact ⟨u, wrapV r1, r2⟩
        · cases ht
      · cases ht
    · cases ht
  case extract x i =>
    simp only [Option.map_eq_some_iff] at ht
    obtain ⟨y, hy, rfl⟩ := ht
    obtain ⟨u, r1, r2⟩ := ext_sound (P := P) (w := w) (strip (hρ _ _ hy) ho.1) ho.2
    exact ⟨u, wrapV r1, r2⟩
  case makeFunc fn first captured =>
    cases fn with
    | func f =>
      simp only at ht
      split at ht
      · rename_i hf
        simp only [Option.map_eq_some_iff] at ht
        obtain ⟨caps, hc, rfl⟩ := ht
        have hfe : first = #[] := by simpa using hf
        subst hfe
        have hvs : ∀ (l : List Operand) (xs : List X), trXs vv l = some xs → (∀ x ∈ xs, (ev gl env tmp x).g) → RVs M (xs.map fun x => (ev gl env tmp x).v) (l.map a.eval) := by
          intro l
          induction l with
          | nil => intro xs h _; simp only [trXs, Option.some.injEq] at h; subst h; simp [RVs]
          | cons o l ih =>
            intro xs h hg
            simp only [trXs] at h
            split at h
            · rename_i y ys h1 h2
              cases h
              simp only [List.map_cons, RVs]
              exact ⟨_, _, rfl, strip (hρ _ _ h1) (hg y (by simp)), ih ys h2 fun x hx => hg x (List.mem_cons_of_mem _ hx)⟩
            · cases h
        refine ⟨.func (.func f) #[] (captured.map a.eval), wrapV (by simp only [Instr.makeFunc, Sem.run_pure]; simp), ?_⟩
        simp only [q, RV]
        exact ⟨captured.toList.map a.eval, by rw [show Array.map a.eval captured = (List.map a.eval captured.toList).toArray from Array.toList_inj.1 (by simp)], hvs _ _ hc ho⟩
      · cases ht
    | _ => simp at ht
  case box t x => simp only [Option.map_eq_some_iff] at ht; obtain ⟨y, _, rfl⟩ := ht; exact ho.elim
  case alloc t => simp only [Option.map_eq_some_iff] at ht; obtain ⟨y, _, rfl⟩ := ht; exact ho.elim
  case buildSlice t k parts => 
    split at ht
    · split at ht
      · split at ht
        · cases ht
        · simp only [Option.map_eq_some_iff] at ht; obtain ⟨y, _, rfl⟩ := ht; revert ho; split <;> exact fun ho => ho.elim
      · cases ht
    · cases ht
  case makeSlice t l c =>
    split at ht
    · split at ht
      · cases ht; exact ho.elim
      · cases ht
    · cases ht
  case store t x y =>
    split at ht
    · cases ht; exact ho.elim
    · cases ht
  case makeMap t r => split at ht <;> first | (cases ht; exact ho.elim) | cases ht
  case lookup t x i ok =>
    split at ht
    · split at ht
      · cases ht; exact ho.elim
      · cases ht
    · cases ht
  case mapUpdate t x i v =>
    split at ht
    · cases ht; exact ho.elim
    · cases ht
  case call c =>
    obtain ⟨callee, args, argTypes⟩ := c
    cases callee with
    | value f =>
      cases f with
      | func f =>
        simp only at ht
        split at ht
        · split at ht
          · cases ht
          · simp only [Option.map_eq_some_iff] at ht; obtain ⟨y, _, rfl⟩ := ht; exact ho.elim
        · cases ht
      | _ =>
        simp only at ht
        split at ht
        · cases ht; exact ho.elim
        · cases ht
    | invoke r m => simp at ht
    | builtin b =>
      simp only at ht
      split at ht
      · -- len
        rename_i x t e1 e2
        have ea : args = #[x] := Array.toList_inj.1 (by simpa using e1)
        have et : argTypes = #[t] := Array.toList_inj.1 (by simpa using e2)
        subst ea; subst et
        have run : ∀ u, (Builtin.len_ #[t] ty #[a.eval x]).run P w = .ok u w → (execOp a.eval ⟨dst, .call ⟨.builtin .len, #[x], #[t]⟩, ty, pos, after, guard⟩).run P w = .ok (.value u) w := by
          intro u hu
          simp only [execOp, resolve, invoke, builtin, Sem.run_bind, Sem.run_pure, Result.andThen_ok]
          simpa using by rw [hu]; rfl
        split at ht
        · rename_i x' hu h1
          cases ht
          obtain ⟨u, r1, r2⟩ := len_sound (P := P) (w := w) (ty := ty) hu (strip (hρ _ _ h1) ho.1) ho.2
          exact ⟨u, run u r1, r2⟩
        · rename_i e x' hu h1
          cases ht
          obtain ⟨u, r1, r2⟩ := lenL_sound (P := P) (w := w) (ty := ty) hu (strip (hρ _ _ h1) ho.1) ho.2
          exact ⟨u, run u r1, r2⟩
        · rename_i k e x' hu h1
          cases ht
          refine ⟨.int .i64 k, run _ ?_, rfl⟩
          simp [Builtin.len_, run_underlying hu, goInt]
        · cases ht
      · -- cap
        rename_i x t e1 e2
        have ea : args = #[x] := Array.toList_inj.1 (by simpa using e1)
        have et : argTypes = #[t] := Array.toList_inj.1 (by simpa using e2)
        subst ea; subst et
        split at ht
        · rename_i e x' hu h1
          cases ht
          obtain ⟨u, r1, r2⟩ := cap_sound (P := P) (w := w) (ty := ty) hu (strip (hρ _ _ h1) ho.1) ho.2
          refine ⟨u, ?_, r2⟩
          simp only [execOp, resolve, invoke, builtin, Sem.run_bind, Sem.run_pure, Result.andThen_ok]
          simpa using by rw [r1]; rfl
        · cases ht
      · -- clear
        split at ht
        · split at ht
          · split at ht
            · cases ht; exact ho.elim
            · cases ht
          · cases ht
        · cases ht
      · -- append
        split at ht
        · split at ht
          · split at ht
            · cases ht
            · cases ht; (revert ho; split <;> exact fun ho => ho.elim)
          · cases ht
        · split at ht
          · split at ht
            · cases ht
            · cases ht; exact ho.elim
          · cases ht
        · split at ht
          · split at ht
            · cases ht
            · cases ht; exact ho.elim
          · cases ht
        · cases ht
      · -- copy
        split at ht
        · simp only [Option.map_eq_some_iff] at ht; obtain ⟨y, _, rfl⟩ := ht; exact ho.elim
        · cases ht
      · -- min
        rename_i x r e1
        split at ht
        · rename_i x' r' h1 h2
          cases ht
          obtain ⟨u, r1, r2⟩ := mm_sound (P := P) (w := w) (ev gl env tmp) a.eval hρ false r r' _ _ h2 (strip (hρ _ _ h1) ho.1) ho.2
          refine ⟨u, ?_, r2⟩
          simp only [execOp, resolve, invoke, builtin, Sem.run_bind, Sem.run_pure, Result.andThen_ok, Builtin.min_, Array.toList_map, e1, List.map_cons]
          simp only [Bool.false_eq_true, if_false] at r1
          rw [r1]; rfl
        · cases ht
      · -- max
        rename_i x r e1
        split at ht
        · rename_i x' r' h1 h2
          cases ht
          obtain ⟨u, r1, r2⟩ := mm_sound (P := P) (w := w) (ev gl env tmp) a.eval hρ true r r' _ _ h2 (strip (hρ _ _ h1) ho.1) ho.2
          refine ⟨u, ?_, r2⟩
          simp only [execOp, resolve, invoke, builtin, Sem.run_bind, Sem.run_pure, Result.andThen_ok, Builtin.max_, Array.toList_map, e1, List.map_cons]
          simp only [if_true] at r1
          rw [r1]; rfl
        · cases ht
      · cases ht

end
end Go.Lx
