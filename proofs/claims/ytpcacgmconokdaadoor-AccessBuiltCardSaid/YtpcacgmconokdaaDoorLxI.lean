/- Every operation does what 'step' says: append, make, bytes of a string; then all of them. -/
import Derived.Test.YtpcacgmconokdaaDoorLxH
namespace Go.Lx
open RowKit

section
variable {vv : Nat → Bool} {P : Program} {gl : Glob} {w0 : World} {M : Imm} {w : World}

theorem app_sound {HF H : Heap} {o : Oper} {a : Act} {K : LV → Heap → Prop} {ox oy : Operand} {t u e : TypeId} (hop : o.op = .call ⟨.builtin .append, #[ox, oy], #[t, u]⟩) {sz bytes : Nat} (hu : P.underlying t = some (.slice e)) (huy : P.underlying u = some .string ∨ ∃ e', P.underlying u = some (.slice e'))
    (hs : sizeAt P e = some sz) (hb : bytesAt P e = some bytes) {zl : List LV} (hz : zeroOf P e = some zl) (hb0 : bytes ≠ 0) (hs0 : sz ≠ 0) {x y : LV} (hI : Inv gl w0 M (H ++ HF) w) (hx : RV M x (a.eval ox)) (hy : RV M y (a.eval oy)) {id : Nat} (ho : (appQ id sz bytes x y H).1) (hk : ∀ τ, K (.osl (appQ id sz bytes x y H).2.1 τ sz (appQ id sz bytes x y H).2.2.1 (appQ id sz bytes x y H).2.2.2.1) (((appQ id sz bytes x y H).2.1, .tok τ) :: (appQ id sz bytes x y H).2.2.2.2)) :
    After P gl w0 M HF o a w K := by
  have run : ∀ v w', (Builtin.append_ #[t, u] o.type #[a.eval ox, a.eval oy]).run P w = .ok v w' → (execOp a.eval o).run P w = .ok (.value v) w' := by
    intro v w' h
    simp only [execOp, hop, resolve, invoke, builtin, Sem.run_bind, Sem.run_pure, Result.andThen_ok]
    simpa using by rw [h]; rfl
  unfold appQ at ho hk
  split at ho
  · -- a slice without spare cells
    rename_i s n cs
    obtain ⟨hsz, he, hroom⟩ := ho
    simp only [RV] at hx
    have hcl : cs.length = n * sz := by
      rcases hsz with rfl | rfl
      · exact hx.1
      · simpa using hx.1
    -- a dummy token stands for the spare cells that are not there
    have hI' : Inv gl w0 M ((H ++ [(id, .tok ⟨0, 0, 0⟩)]) ++ HF) w := (hI.dummy id 0).perm (by
      rw [List.append_assoc]
      exact (List.perm_middle (a := (id, Ent.tok ⟨0, 0, 0⟩)) (l₁ := H) (l₂ := HF)).symm)
    have hget : ∀ i e, getH H i = some e → getH (H ++ [(id, .tok ⟨0, 0, 0⟩)]) i = some e := by
      intro i e
      induction H with
      | nil => intro h; simp [getH] at h
      | cons p H ih =>
        intro h
        simp only [List.cons_append, getH] at h ⊢
        split
        · rename_i hp; simpa [hp] using h
        · rename_i hp
          rw [if_neg hp] at h
          have : ∀ {H : Heap}, getH H i = some e → getH (H ++ [(id, Ent.tok ⟨0, 0, 0⟩)]) i = some e := by
            intro H
            induction H with
            | nil => intro h; simp [getH] at h
            | cons p H ih2 =>
              intro h
              simp only [List.cons_append, getH] at h ⊢
              split
              · rename_i hp; simpa [hp] using h
              · rename_i hp; rw [if_neg hp] at h; exact ih2 h
          exact this h
    have heq : (elems sz y (H ++ [(id, .tok ⟨0, 0, 0⟩)])) = elems sz y H := by
      cases y <;> try rfl
      rename_i i b off len cap
      simp only [elems] at he ⊢
      split at he
      · rename_i b' cs' hH; rw [hget _ _ hH]
      · exact he.elim
    obtain ⟨v, w', M', τ, r1, r2, r3, r4⟩ := append_run (P := P) (ty := o.type) (id := id) (tk := ⟨0, 0, 0⟩) (H1 := H) (n := n) (cs := cs) hI' hu huy hs hb hz hb0 hs0
      ((List.perm_middle (a := (id, Ent.tok ⟨0, 0, 0⟩)) (l₁ := H) (l₂ := [])).trans (by simp)) hcl (by
        rcases hx.2 with ⟨b, o, h1, h2⟩ | h
        · exact .inl ⟨b, o, n, h1, Nat.le_refl _, h2, .inl rfl⟩
        · exact .inr h) hy (by rw [heq]; exact he) (by rw [heq]; exact hroom)
    rw [heq] at r3
    exact After.value (run v w' r1) r2 r3 (H' := (id, .tok τ) :: H) r4 (hk τ)
  · rename_i id' tk s n cs
    split at ho
    · rename_i t' hH
      simp only [hH] at hk
      obtain ⟨rfl, rfl, he, hroom⟩ := ho
      simp only [RV] at hx
      have hcl := hx.1
      obtain ⟨p1, _⟩ := getH_perm hH
      obtain ⟨v, w', M', τ, r1, r2, r3, r4⟩ := append_run (P := P) (ty := o.type) (id := id') (tk := t') (H1 := delH H id') (n := n) (cs := cs) hI hu huy hs hb hz hb0 hs0 p1 hcl (by
        rcases hx.2 with ⟨b, o, cap, h1, h2, h3, h4⟩ | h
        · exact .inl ⟨b, o, cap, h1, h2, h3, h4⟩
        · exact .inr h) hy he hroom
      exact After.value (run v w' r1) r2 r3 (H' := (id', .tok τ) :: delH H id') r4 (hk τ)
    · exact ho.elim
  · exact ho.elim

theorem RVs_bytes (l : List UInt8) : RVs M (l.map fun u => LV.int .u8 u.toNat) (l.map fun u => Value.int .u8 u.toNat) := by
  induction l with
  | nil => simp [RVs]
  | cons x r ih => simp only [List.map_cons, RVs]; exact ⟨_, _, rfl, by simp [RV], ih⟩

theorem RVs_replicate {x : LV} {v : Value} (h : RV M x v) (k : Nat) : RVs M (List.replicate k x) (List.replicate k v) := by
  induction k with
  | zero => simp [RVs]
  | succ k ih => simp only [List.replicate_succ, RVs]; exact ⟨_, _, rfl, h, ih⟩

theorem s2b_sound {HF H : Heap} {o : Oper} {a : Act} {K : LV → Heap → Prop} {s d e : TypeId} {ox : Operand} (hop : o.op = .convert s d ox) (hs : P.underlying s = some .string) (hd : P.underlying d = some (.slice e)) (he : P.underlying e = some (.int .u8)) {x : LV} (hI : Inv gl w0 M (H ++ HF) w) (hx : RV M x (a.eval ox)) {id : Nat} (h0 : (strQ x).1) (ho : s2bE id (strQ x).2 H K) :
    After P gl w0 M HF o a w K := by
  unfold strQ at h0 ho
  split at h0
  · rename_i l
    unfold s2bE at ho
    simp only [RV] at hx
    let k := (w.tape w.drawn (Question.appendCap l.length 0 e)) % (2 ^ 63 - l.length)
    let vs : List Value := (l.map fun u => Value.int .u8 u.toNat) ++ List.replicate k (.int .u8 0)
    have hrun : (execOp a.eval o).run P w = .ok (.value (.slice (some ⟨w.heap.size, 0, none⟩) l.length (l.length + k))) { w with drawn := w.drawn + 1, heap := w.heap.push (.cells vs.toArray e (vs.length, vs.length + 1)) } := by
      have hsz : (ByteArray.mk l.toArray).size = l.length := by simp [ByteArray.size]
      simp only [execOp, hop, hx, convert, Sem.run_bind, run_underlying hs, run_underlying hd, run_underlying he, Result.andThen_ok, Conv.stringToBytes, run_choose, Question.forced, Question.cut, hsz, Bool.false_eq_true, if_false, run_newRow, markStringish, run_shape, Sem.run_pure]
      have e1 : (l.length + w.tape w.drawn (Question.appendCap l.length 0 e) % (2 ^ 63 - l.length) - l.length) = k := by simp only [k]; omega
      simp only [World.shape?, Array.getElem?_push_size, Result.andThen_ok, run_freeze, e1]
      congr 1
      simp only [World.freeze]
      simp only [Nat.succ_ne_zero, if_false]
      congr 1
      apply Array.ext_getElem?
      intro i
      rw [Array.getElem?_modify, Array.getElem?_push, Array.getElem?_push]
      by_cases hi : i = w.heap.size
      · subst hi
        simp only [if_true, Option.map_some, Option.some.injEq]
        have e2 : ((l.toArray.map fun b => Value.int .u8 (b.toNat : Int)) ++ Array.replicate k (Value.int .u8 0)) = vs.toArray := by
          apply Array.toList_inj.1
          simp [vs]
        rw [e2]
        simp
      · simp only [hi, if_false]
        rw [if_neg (fun h => hi h.symm)]
    have hv : RVs M ((l.map fun u => LV.int .u8 u.toNat) ++ List.replicate k (.int .u8 0)) vs := RVs_append (RVs_bytes l) (RVs_replicate (by simp [RV]) k)
    have h1 : ∀ v ∈ vs, v.oneCell' = true := by
      intro v hv
      rcases List.mem_append.1 hv with h | h
      · obtain ⟨u, _, rfl⟩ := List.mem_map.1 h; rfl
      · rw [(List.mem_replicate.1 h).2]; rfl
    have hI3 := (hI.drew (w.drawn + 1)).push_own id vs _ e hv h1 (vs.length, vs.length + 1) (fun o ho => by simp; omega)
    rcases ho.2 with ho | ho
    · obtain ⟨M', hM, hI4, hc⟩ := hI3.split_own (id' := id)
      refine After.value hrun hM (r := .osl id _ 1 l.length _) ?_ (H' := (id, .tok _) :: H) hI4 (ho _)
      simp only [RV]
      refine ⟨by simp, .inl ⟨w.heap.size, 0, l.length + k, rfl, by omega, hc, .inr ⟨rfl, by simp, by simp⟩⟩⟩
    · exact After.value hrun (MLe.refl M) (r := .msl id w.heap.size 0 l.length (l.length + k)) (by simp [RV]) (H' := (id, .blk w.heap.size _) :: H) hI3 (ho _ _)
  · exact h0.elim

theorem zeros_add (z : List LV) (a b : Nat) (h : z.length ∣ a) : zeros z (a + b) = zeros z a ++ zeros z b := by
  unfold zeros
  rw [List.range_add, List.map_append, List.map_map]
  congr 1
  apply List.map_congr_left
  intro i _
  simp only [Function.comp]
  obtain ⟨c, rfl⟩ := h
  rw [Nat.mul_add_mod]

theorem make_sound {HF H : Heap} {o : Oper} {a : Act} {K : LV → Heap → Prop} {t e : TypeId} {ol oc : Operand} (hop : o.op = .makeSlice t ol oc) (hu : P.underlying t = some (.slice e)) {sz bytes : Nat} (hs : sizeAt P e = some sz) (hb : bytesAt P e = some bytes) {z : List LV} (hz : zeroOf P e = some z) {x y : LV} (hI : Inv gl w0 M (H ++ HF) w)
    (hx : RV M x (a.eval ol)) (hy : RV M y (a.eval oc)) {id : Nat} (hm : (makeQ sz bytes z x y).1) (ho : makeE id sz z (makeQ sz bytes z x y).2.1 (makeQ sz bytes z x y).2.2 H K) : After P gl w0 M HF o a w K := by
  unfold makeQ at hm ho
  split at hm
  · rename_i l c
    unfold makeE at ho
    simp only [RV] at hx hy
    obtain ⟨h0, h1, h63, h48, hzl⟩ := hm
    obtain ⟨i, zv, hi, hzv, hrz, hzs, hz1⟩ := zeroOf_sound (M := M) hz
    obtain ⟨i', hi', hse⟩ := sizeAt_info hs
    rw [hi] at hi'; cases hi'
    obtain ⟨i'', hi'', hbe⟩ : ∃ i, P.info? e = some i ∧ i.bytes = bytes := by simpa [bytesAt, Option.map_eq_some_iff] using hb
    rw [hi] at hi''; cases hi''
    have wl : IntKind.i64.wrap l = l := by simp only [IntKind.wrap, IntKind.bits, IntKind.signed]; simp; omega
    have wc : IntKind.i64.wrap c = c := by simp only [IntKind.wrap, IntKind.bits, IntKind.signed]; simp; omega
    have hl := RVs_length hrz
    simp only [Array.length_toList] at hl
    obtain ⟨vs, hrun, hrv, hone⟩ : ∃ vs : List Value, (execOp a.eval o).run P w = .ok (.value (.slice (some ⟨w.heap.size, 0, none⟩) l.toNat c.toNat)) { w with heap := w.heap.push (.cells vs.toArray e) } ∧ RVs M (zeros z (c.toNat * sz)) vs ∧ ∀ v ∈ vs, v.oneCell' = true := by
      have hc0 : ¬ c < 0 := by omega
      have hl0 : ¬ l < 0 := by omega
      have hlc : ¬ c < l := by omega
      have hcb : ¬ (281474976710656 : Int) < (i.bytes : Int) * c := by rw [hbe, Int.mul_comm]; omega
      by_cases hz0 : c.toNat * sz = 0
      · refine ⟨[], ?_, by simp [hz0, zeros, RVs], by simp⟩
        simp [execOp, hop, Instr.makeSlice, hx, hy, run_underlying hu, asInt, asIntOf, typeInfo, hi, wl, wc, hc0, hl0, hlc, hcb, sizeOf, hse, hz0, newRow]
        congr 2
        apply Array.toList_inj.1
        simp
      · refine ⟨((Array.range (c.toNat * sz)).map (fun j => zv.cells[j % zv.cells.size]!)).toList, ?_, ?_, ?_⟩
        · simp [execOp, hop, Instr.makeSlice, hx, hy, run_underlying hu, asInt, asIntOf, typeInfo, hi, wl, wc, hc0, hl0, hlc, hcb, sizeOf, hse, hz0, newRow, zeroValue, hzv]
          congr 2
          apply Array.toList_inj.1
          simp
        · exact RVs_zeros hrz (by intro hzz; subst hzz; simp at hzl; subst hzl; simp at hz0) _
        · refine one_zeros hz1 ?_ _
          rw [hl, hzl]
          exact Nat.pos_of_ne_zero (fun h => hz0 (by rw [h, Nat.mul_zero]))
    have hI3 := hI.push_own id vs _ e hrv hone (0, 0) (fun _ _ => by simp)
    rcases ho.2 with ho | ho
    · have hsplit : zeros z (c.toNat * sz) = zeros z (l.toNat * sz) ++ zeros z ((c.toNat - l.toNat) * sz) := by
        rw [← zeros_add _ _ _ (by rw [hzl]; exact Nat.dvd_mul_left _ _), ← Nat.add_mul]
        congr 2; omega
      rw [hsplit] at hI3
      obtain ⟨M', hM, hI4, hc⟩ := hI3.split_own (id' := id)
      refine After.value hrun hM (r := .osl id _ sz l.toNat _) ?_ (H' := (id, .tok _) :: H) hI4 (ho _)
      simp only [RV]
      have zl : ∀ k, (zeros z k).length = k := fun k => by simp [zeros]
      refine ⟨zl _, .inl ⟨w.heap.size, 0, c.toNat, rfl, by omega, hc, .inr ⟨rfl, by simp [zl], ?_⟩⟩⟩
      simp only [zl, Nat.zero_add]
      rw [← Nat.add_mul]; congr 1; omega
    · exact After.value hrun (MLe.refl M) (r := .msl id w.heap.size 0 l.toNat c.toNat) (by simp [RV]) (H' := (id, .blk w.heap.size _) :: H) hI3 (ho _)
  · exact hm.elim

/-- EVERY OPERATION. -/
theorem step_sound {HF H : Heap} {n : Nat} {env tmp : Env} {a : Act} (hI : Inv gl w0 M (H ++ HF) w) (hF : Fr vv n env tmp M a) {o : Oper} {lo : LOp} (ht : trOp vv P o.op = some lo) {id : Nat} {K : LV → Heap → Prop} (ho : step P gl id lo (ev gl env tmp) H K) : After P gl w0 M HF o a w K := by
  have hρ : ∀ x y, trX vv x = some y → RV M (ev gl env tmp y) (a.eval x) := fun x y h => ev_sound hF hI.glob h
  have quiet : (q lo (ev gl env tmp) H).1 ∧ K (q lo (ev gl env tmp) H).2 H → After P gl w0 M HF o a w K := by
    rintro ⟨h1, h2⟩
    obtain ⟨v, r1, r2⟩ := q_sound hI hF ht h1
    exact After.value r1 (MLe.refl M) r2 hI h2
  cases hop : o.op with
  | box t x =>
    rw [hop] at ht
    simp only [trOp, Option.map_eq_some_iff] at ht
    obtain ⟨y, hy, rfl⟩ := ht
    exact box_sound hop hI (strip (hρ _ _ hy) ho.1.1) ho.1.2 ho.2
  | alloc t =>
    rw [hop] at ht
    simp only [trOp, Option.map_eq_some_iff] at ht
    obtain ⟨cs, hz, rfl⟩ := ht
    exact zero_sound hop hz hI ho
  | buildSlice t k parts =>
    rw [hop] at ht
    simp only [trOp] at ht
    split at ht
    · rename_i e hu
      split at ht
      · rename_i s z hs hz
        split at ht
        · cases ht
        · rename_i hr
          simp only [Option.map_eq_some_iff] at ht
          obtain ⟨parts', hp, rfl⟩ := ht
          obtain ⟨⟨g1, g2, g3⟩, g4⟩ := ho
          exact mkS_sound hop hu hs hz hr hp hρ hI g1 g2 g3 g4
      · cases ht
    · cases ht
  | makeSlice t l c =>
    rw [hop] at ht
    simp only [trOp] at ht
    split at ht
    · rename_i e l' c' hu h1 h2
      split at ht
      · rename_i s b z hs hb hz
        cases ht
        exact make_sound hop hu hs hb hz hI (strip (hρ _ _ h1) ho.1.1) (strip (hρ _ _ h2) ho.1.2.1) ho.1.2.2 ho.2
      · cases ht
    · cases ht
  | store t x y =>
    rw [hop] at ht
    simp only [trOp] at ht
    split at ht
    · rename_i s x' y' hs h1 h2
      cases ht
      exact store_sound hop hs hI (strip (hρ _ _ h1) ho.1.1) (strip (hρ _ _ h2) ho.1.2.1) ho.1.2.2 ho.2
    · cases ht
  | convert s d x =>
    rw [hop] at ht
    simp only [trOp] at ht
    split at ht
    · cases ht; exact quiet ho
    · cases ht; exact quiet ho
    · split at ht
      · cases ht; exact quiet ho
      · cases ht
    · rename_i e x' h1 h2 h3
      split at ht
      · rename_i he
        cases ht
        exact s2b_sound hop h1 h2 he hI (strip (hρ _ _ h3) ho.1.1) ho.1.2 ho.2
      · cases ht
    · cases ht
  | call c =>
    obtain ⟨callee, args, argTypes⟩ := c
    cases callee with
    | value f =>
      cases f with
      | func f =>
        rw [hop] at ht
        simp only [trOp] at ht
        split at ht
        · rename_i fn hf
          split at ht
          · cases ht
          · rename_i hn
            simp only [Option.map_eq_some_iff] at ht
            obtain ⟨args', ha, rfl⟩ := ht
            simp only [Bool.or_eq_true, decide_eq_true_eq, not_or, Bool.not_eq_true] at hn
            exact call_sound hop hf hn.1 hn.2 ha hρ hI ho.1 ho.2
        · cases ht
      | _ => rw [hop] at ht; simp [trOp] at ht
    | invoke r m => rw [hop] at ht; simp [trOp] at ht
    | builtin b =>
      rw [hop] at ht
      simp only [trOp] at ht
      split at ht
      · split at ht
        · cases ht; exact quiet ho
        · cases ht; exact quiet ho
        · cases ht; exact quiet ho
        · cases ht
      · rename_i x y t u e1 e2
        have ea : args = #[x, y] := Array.toList_inj.1 (by simpa using e1)
        have et : argTypes = #[t, u] := Array.toList_inj.1 (by simpa using e2)
        subst ea; subst et
        split at ht
        · rename_i e e' x' y' hu huy h1 h2
          split at ht
          · rename_i s b z hs hb hz
            split at ht
            · cases ht
            · rename_i h0
              cases ht
              simp only [Bool.or_eq_true, decide_eq_true_eq, not_or] at h0
              exact app_sound hop hu (.inr ⟨e', huy⟩) hs hb hz h0.1 h0.2 hI (strip (hρ _ _ h1) ho.1.1) (strip (hρ _ _ h2) ho.1.2.1) ho.1.2.2 ho.2
          · cases ht
        · rename_i e x' y' hu huy h1 h2
          split at ht
          · rename_i s b z hs hb hz
            split at ht
            · cases ht
            · rename_i h0
              cases ht
              simp only [Bool.or_eq_true, decide_eq_true_eq, not_or] at h0
              exact app_sound hop hu (.inl huy) hs hb hz h0.1 h0.2 hI (strip (hρ _ _ h1) ho.1.1) (strip (hρ _ _ h2) ho.1.2.1) ho.1.2.2 ho.2
          · cases ht
        · cases ht
      · split at ht
        · simp only [Option.map_eq_some_iff] at ht; obtain ⟨y, _, rfl⟩ := ht; exact ho.elim
        · cases ht
      · split at ht
        · cases ht; exact quiet ho
        · cases ht
      · split at ht
        · cases ht; exact quiet ho
        · cases ht
      · cases ht
  | _ =>
    have ht' := ht
    rw [hop] at ht'
    simp only [trOp] at ht'
    first
      | (cases ht'; done)
      | (refine quiet ?_
         revert ho
         first
           | (simp only [Option.map_eq_some_iff] at ht'; obtain ⟨_, _, rfl⟩ := ht'; exact fun h => h)
           | (repeat' (first | (cases ht'; first | done | exact fun h => h) | split at ht' | (simp only [Option.map_eq_some_iff] at ht'; obtain ⟨_, _, rfl⟩ := ht'; exact fun h => h))))

end
end Go.Lx
