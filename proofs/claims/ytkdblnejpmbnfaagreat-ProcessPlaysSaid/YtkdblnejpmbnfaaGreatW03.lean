/- Every operation does what 'step' says: append, make, bytes of a string; then all of them. -/
import Derived.Test.YtkdblnejpmbnfaaGreatW02
namespace Go.Lx
set_option linter.unusedSimpArgs false
set_option linter.unusedVariables false
open RowKit
section
variable {vv : Nat → Bool} {P : Program} {gl : Glob} {w0 : World} {M : Imm} {w : World}
theorem take_of_splice {cs ys : List LV} {k : Nat} (i : Nat) (c' : LV) {r : Nat} (h : (cs.take k ++ ys ++ List.replicate r LV.any)[i]? = some c') (hk : k ≤ cs.length) (hlen : k + ys.length + r ≤ cs.length) : ∃ c, (splice cs ys k)[i]? = some c ∧ ∀ v, RV M c v → RV M c' v := by
  have ht : (cs.take k).length = k := by simp; omega
  rw [splice_get (by omega)]
  by_cases h1 : i < k
  · rw [List.append_assoc, List.getElem?_append_left (by omega), List.getElem?_take, if_pos h1] at h
    rw [if_neg (by omega)]
    exact ⟨c', h, fun _ h => h⟩
  · by_cases h2 : i < k + ys.length
    · rw [List.getElem?_append_left (by simp; omega), List.getElem?_append_right (by omega), ht] at h
      rw [if_pos (by omega)]
      exact ⟨c', h, fun _ h => h⟩
    · rw [List.getElem?_append_right (by simp; omega), List.getElem?_replicate] at h
      split at h
      · rename_i h3
        cases h
        simp only [List.length_append, ht] at h3
        rw [if_neg (by omega)]
        exact ⟨cs[i]'(by omega), by simp, fun _ _ => by simp [RV]⟩
      · cases h
theorem appV_sound {HF H : Heap} {o : Oper} {a : Act} {K : LV → Heap → Prop} {ox oy : Operand} {t u e : TypeId} {ie : TypeInfo} {zv : Value} (hop : o.op = .call ⟨.builtin .append, #[ox, oy], #[t, u]⟩) {sz bytes m : Nat} (hie : P.info? e = some ie) (hse : ie.size = sz) (hbe : ie.bytes = bytes) (hzs : zv.cells.size = ie.size) (hz1 : ∀ u ∈ zv.cells.toList, u.oneCell' = true) (hb0 : bytes ≠ 0) (hs0 : sz ≠ 0)
    {vs : List Value} {ys : List LV} (hsrc : ASrc P w t u e o.type sz m bytes zv (a.eval oy) vs) (hvs : RVs M ys vs) (hone : ∀ u ∈ vs, u.oneCell' = true) (hyl : ys.length = m * sz) {x : LV} (hI : Inv gl w0 M (H ++ HF) w) (hx : RV M x (a.eval ox)) {id : Nat} (ho : appV id sz bytes m x ys H K) :
    After P gl w0 M HF o a w K := by
  have run : ∀ v w', (Builtin.append_ #[t, u] o.type #[a.eval ox, a.eval oy]).run P w = .ok v w' → (execOp a.eval o).run P w = .ok (.value v) w' := by
    intro v w' h
    simp only [execOp, hop, resolve, invoke, builtin, Sem.run_bind, Sem.run_pure, Result.andThen_ok]
    simpa using by rw [h]; rfl
  unfold appV at ho
  split at ho
  · -- a slice without spare cells
    rename_i s n cs
    obtain ⟨⟨hsz, hroom⟩, hk⟩ := ho
    simp only [RV] at hx
    have hcl : cs.length = n * sz := by
      rcases hsz with rfl | rfl
      · exact hx.1
      · simpa using hx.1
    -- a dummy token stands for the spare cells that are not there
    have hI' : Inv gl w0 M (((id, .tok ⟨0, 0, 0⟩) :: H) ++ HF) w := hI.dummy id 0
    obtain ⟨v, w', M', τ, r1, r2, r3, r4⟩ := append_run (P := P) (id := id) (tk := ⟨0, 0, 0⟩) (H1 := H) (n := n) (cs := cs) hI' hie hse hbe hzs hz1 hb0 hs0 hsrc hvs hone hyl (List.Perm.refl _) hcl (by
        rcases hx.2 with ⟨b, o, h1, h2⟩ | h
        · exact .inl ⟨b, o, n, h1, Nat.le_refl _, h2, .inl rfl⟩
        · exact .inr h) hroom
    exact After.value (run v w' r1) r2 r3 (H' := (id, .tok τ) :: H) r4 (hk τ)
  · rename_i id' tk s n cs
    split at ho
    · rename_i t' hH
      obtain ⟨⟨rfl, rfl, hroom⟩, hk⟩ := ho
      simp only [RV] at hx
      have hcl := hx.1
      obtain ⟨p1, _⟩ := getH_perm hH
      obtain ⟨v, w', M', τ, r1, r2, r3, r4⟩ := append_run (P := P) (id := id') (tk := t') (H1 := delH H id') (n := n) (cs := cs) hI hie hse hbe hzs hz1 hb0 hs0 hsrc hvs hone hyl p1 hcl (by
        rcases hx.2 with ⟨b, o, cap, h1, h2, h3, h4⟩ | h
        · exact .inl ⟨b, o, cap, h1, h2, h3, h4⟩
        · exact .inr h) hroom
      exact After.value (run v w' r1) r2 r3 (H' := (id', .tok τ) :: delH H id') r4 (hk τ)
    · exact ho.elim
  · -- a block that is owned
    rename_i i s b off n cap
    simp only [RV] at hx
    unfold appM at ho
    split at ho
    · rename_i b' cs hH
      have hlen := RVs_length hvs
      obtain ⟨p1, p2⟩ := getH_perm hH
      rcases hx with hx | ⟨rfl, rfl, ad, hx⟩
      rotate_left
      · -- nothing, perhaps nil
        have same : m = 0 → (Builtin.append_ #[t, u] o.type #[a.eval ox, a.eval oy]).run P w = .ok (.slice ad 0 0) w := fun hm0 => by
          subst hm0
          obtain rfl : ys = [] := List.length_eq_zero_iff.1 (by omega)
          obtain rfl : vs = [] := List.length_eq_zero_iff.1 (by simpa using hlen)
          have := hsrc.1 ad 0 0 w (by omega) (by cases ad <;> simp [storeCells])
          rw [hx]
          exact this
        rcases ho.2 with ⟨rfl, rfl, rfl, h1, h2, hroom, hk⟩ | ⟨rfl, rfl, h1, h2, hk⟩
        · by_cases hm : m = 0
          · have hrun := same hm
            subst hm
            obtain rfl : ys = [] := List.length_eq_zero_iff.1 (by omega)
            have hI2 : Inv gl w0 M ((i, .blk b' cs) :: (delH H i ++ HF)) w := hI.perm (p1.append_right HF)
            have hw := hI2.weaken (id' := i) (cs' := []) (fun i c' hc => by simp at hc)
            refine After.value (run _ _ hrun) (MLe.refl M) (r := .msl i s b' 0 (0 + 0) 0) (by simp [RV]) (H' := (i, .blk b' _) :: delH H i) ?_ (hk b' 0 (by omega))
            simpa using hw
          · have hI1 : Inv gl w0 M (delH H i ++ HF) w := (hI.perm (p1.append_right HF)).sub (List.sublist_cons_self _ _)
            obtain ⟨k, b2, w', hrun, hI3⟩ := app_out hie hse hbe hzs hz1 hb0 hs0 hsrc hvs hone hI1 (n := 0) (cap := 0) (base := ad) (olds := []) (cs := []) hroom (by omega) (by simp [RVs]) (by simp) (by
              cases ad with
              | none => simp [Builtin.firstCells]
              | some a => simpa [Builtin.firstCells] using run_loadCells_list (P := P) (w := { w with drawn := w.drawn + 1 }) a [] (by simp)) i
            rw [← hx] at hrun
            refine After.value (run _ _ hrun) (MLe.refl M) (r := .msl i s b2 0 (0 + m) (0 + m + k)) (by simp [RV]) (H' := (i, .blk b2 _) :: delH H i) ?_ (hk b2 (0 + m + k) (by omega))
            rw [show 0 + m + k - (0 + m) = k by omega]
            simpa using hI3
        · have hm : m = 0 := by omega
          have hrun := same hm
          subst hm
          obtain rfl : ys = [] := List.length_eq_zero_iff.1 (by omega)
          refine After.value (run _ _ hrun) (MLe.refl M) (r := .msl i s b' off (0 + 0) 0) (by simp [RV]) (H' := setH H i _) ?_ hk
          have hsp : splice cs [] (off + 0 * s) = cs := by simp [splice]
          rw [hsp]
          exact hI.perm ((p1.trans (p2 _).symm).append_right HF)
      rcases ho.2 with ⟨rfl, rfl, rfl, h1, h2, hroom, hk⟩ | ⟨rfl, rfl, h1, h2, hk⟩
      · by_cases hin : n + m ≤ cap
        · have hle : (n + m) * s ≤ cap * s := Nat.mul_le_mul_right _ hin
          rw [Nat.add_mul] at hle
          obtain ⟨r1, r2⟩ := storeCells_run (P := P) (off := n * s) hI hH hvs hone (by omega)
          have hrun := hsrc.1 (some ⟨b', 0, none⟩) n cap _ hin (by simpa [addr_add] using r1)
          rw [← hx] at hrun
          have hI2 : Inv gl w0 M ((i, .blk b' (splice cs ys (n * s))) :: (delH H i ++ HF)) (w.setCells b' (n * s) vs) := r2.perm ((p2 _).append_right HF)
          have hw := hI2.weaken (id' := i) (cs' := cs.take (n * s) ++ ys ++ List.replicate ((cap - (n + m)) * s) LV.any) (fun i c' hc => take_of_splice i c' hc (by omega) (by
            rw [Nat.sub_mul, Nat.add_mul]; omega))
          exact After.value (run _ _ hrun) (MLe.refl M) (r := .msl i s b' 0 (n + m) cap) (by simp [RV]) (H' := (i, .blk b' _) :: delH H i) hw (hk b' cap hin)
        · obtain ⟨olds, o1, o2, o3⟩ := ((Holds.of_own hI (List.mem_append_left _ (getH_mem hH))).take (n * s)).vals
          have hl : olds.length = n * s := by rw [RVs_length o1]; simp; omega
          have hI1 : Inv gl w0 M (delH H i ++ HF) w := (hI.perm (p1.append_right HF)).sub (List.sublist_cons_self _ _)
          obtain ⟨k, b2, w', hrun, hI3⟩ := app_out hie hse hbe hzs hz1 hb0 hs0 hsrc hvs hone hI1 (n := n) (cap := cap) (base := some ⟨b', 0, none⟩) hroom (by omega) o1 o2 (by
            have := run_loadCells_at (P := P) (w := { w with drawn := w.drawn + 1 }) b' 0 olds (fun i v hi => o3 i v hi)
            rw [hl] at this
            simpa [Builtin.firstCells] using this) i
          rw [← hx] at hrun
          refine After.value (run _ _ hrun) (MLe.refl M) (r := .msl i s b2 0 (n + m) (n + m + k)) (by simp [RV]) (H' := (i, .blk b2 _) :: delH H i) ?_ (hk b2 (n + m + k) (by omega))
          rw [show n + m + k - (n + m) = k by omega]
          exact hI3
      · obtain ⟨r1, r2⟩ := storeCells_run (P := P) (off := off + n * s) hI hH hvs hone (by omega)
        have hrun := hsrc.1 (some ⟨b', off, none⟩) n cap _ h1 (by simpa [addr_add] using r1)
        rw [← hx] at hrun
        exact After.value (run _ _ hrun) (MLe.refl M) (r := .msl i s b' off (n + m) cap) (by simp [RV]) r2 hk
    · exact ho.elim
  · exact ho.elim
theorem appN_sound {HF H : Heap} {o : Oper} {a : Act} {K : LV → Heap → Prop} {ox oy : Operand} {t u e : TypeId} {ie : TypeInfo} {zv : Value} (hop : o.op = .call ⟨.builtin .append, #[ox, oy], #[t, u]⟩) {sz bytes m : Nat} (hie : P.info? e = some ie) (hse : ie.size = sz) (hbe : ie.bytes = bytes) (hzs : zv.cells.size = ie.size) (hz1 : ∀ u ∈ zv.cells.toList, u.oneCell' = true) (hb0 : bytes ≠ 0) (hs0 : sz ≠ 0)
    {vs : List Value} {ys : List LV} (hsrc : ASrc P w t u e o.type sz m bytes zv (a.eval oy) vs) (hvs : RVs M ys vs) (hone : ∀ u ∈ vs, u.oneCell' = true) (hyl : ys.length = m * sz) {i s b off n cap : Nat} {e0 : Option Ent} (hI : Inv gl w0 M (H ++ HF) w) (hx : RV M (.msl i s b off n cap) (a.eval ox)) {id : Nat} (hH : getH H i = e0) (ho : appN id i sz bytes s b off n cap m ys H e0 K) :
    After P gl w0 M HF o a w K := by
  have run : ∀ v w', (Builtin.append_ #[t, u] o.type #[a.eval ox, a.eval oy]).run P w = .ok v w' → (execOp a.eval o).run P w = .ok (.value v) w' := by
    intro v w' h
    simp only [execOp, hop, resolve, invoke, builtin, Sem.run_bind, Sem.run_pure, Result.andThen_ok]
    simpa using by rw [h]; rfl
  unfold appN at ho
  split at ho
  · rename_i b' cs
    obtain ⟨⟨rfl, rfl, rfl, h1, hcap, hroom⟩, hk⟩ := ho
    simp only [RV] at hx
    rcases hx with hx | ⟨rfl, rfl, ad, hx⟩
    · obtain ⟨olds, o1, o2, o3⟩ := ((Holds.of_own hI (List.mem_append_left _ (getH_mem hH))).take (n * s)).vals
      have hl : olds.length = n * s := by rw [RVs_length o1]; simp; omega
      obtain ⟨k, b2, w', hrun, hI3⟩ := app_out hie hse hbe hzs hz1 hb0 hs0 hsrc hvs hone hI (n := n) (cap := cap) (base := some ⟨b', 0, none⟩) hroom (by omega) o1 o2 (by
        have := run_loadCells_at (P := P) (w := { w with drawn := w.drawn + 1 }) b' 0 olds (fun i v hi => o3 i v hi)
        rw [hl] at this
        simpa [Builtin.firstCells] using this) id
      rw [← hx] at hrun
      refine After.value (run _ _ hrun) (MLe.refl M) (r := .msl id s b2 0 (n + m) (n + m + k)) (by simp [RV]) (H' := (id, .blk b2 _) :: H) ?_ (hk b2 (n + m + k) (by omega))
      rw [show n + m + k - (n + m) = k by omega]
      exact hI3
    · obtain ⟨k, b2, w', hrun, hI3⟩ := app_out hie hse hbe hzs hz1 hb0 hs0 hsrc hvs hone hI (n := 0) (cap := 0) (base := ad) (olds := []) (cs := []) hroom (by omega) (by simp [RVs]) (by simp) (by
        cases ad with
        | none => simp [Builtin.firstCells]
        | some a => simpa [Builtin.firstCells] using run_loadCells_list (P := P) (w := { w with drawn := w.drawn + 1 }) a [] (by simp)) id
      rw [← hx] at hrun
      refine After.value (run _ _ hrun) (MLe.refl M) (r := .msl id s b2 0 (0 + m) (0 + m + k)) (by simp [RV]) (H' := (id, .blk b2 _) :: H) ?_ (hk b2 (0 + m + k) (by omega))
      rw [show 0 + m + k - (0 + m) = k by omega]
      simpa using hI3
  · exact ho.elim
theorem app_sound {HF H : Heap} {o : Oper} {a : Act} {K : LV → Heap → Prop} {ox oy : Operand} {t u e : TypeId} (hop : o.op = .call ⟨.builtin .append, #[ox, oy], #[t, u]⟩) {sz bytes : Nat} (hu : P.underlying t = some (.slice e)) (huy : P.underlying u = some .string ∨ ∃ e', P.underlying u = some (.slice e'))
    (hs : sizeAt P e = some sz) (hb : bytesAt P e = some bytes) {zl : List LV} (hz : zeroOf P e = some zl) (hb0 : bytes ≠ 0) (hs0 : sz ≠ 0) {x y : LV} (hI : Inv gl w0 M (H ++ HF) w) (hx : RV M x (a.eval ox)) (hy : RV M y (a.eval oy)) {id : Nat} (he : (elems sz y H).1) (ho : appV id sz bytes (elems sz y H).2.1 x (elems sz y H).2.2 H K) :
    After P gl w0 M HF o a w K := by
  obtain ⟨ie, hie, hbe⟩ : ∃ i, P.info? e = some i ∧ i.bytes = bytes := by simpa [bytesAt, Option.map_eq_some_iff] using hb
  obtain ⟨ie', hie', hse⟩ := sizeAt_info hs
  rw [hie] at hie'; cases hie'
  obtain ⟨ie'', zv, hie'', hzv, _, hzs, hz1⟩ := zeroOf_sound (M := M) hz
  rw [hie] at hie''; cases hie''
  obtain ⟨hlen, hyl, vs, hvs, hone, hfirst⟩ := elems_sound (P := P) hI hy he
  have hvl : vs.take ((elems sz y H).2.1 * sz) = vs := List.take_of_length_le (by rw [RVs_length hvs, hyl]; exact Nat.le_refl _)
  have hsrc : ASrc P w t u e o.type sz (elems sz y H).2.1 bytes zv (a.eval oy) vs := by
    refine ⟨fun base n cap w' hle hst => run_append_in hu huy hs hlen (by rw [hfirst _ (Nat.le_refl _) w (fun _ _ _ h => h), hvl]) hle hst, fun base n cap olds hfo hlt h63 h48 => ?_⟩
    exact run_append_out hu huy hie hse hzv hlen (by rw [hfirst _ (Nat.le_refl _) { w with drawn := w.drawn + 1 } (fun _ _ _ h => h), hvl]) hfo hlt h63 (by rw [hbe]; exact h48)
  exact appV_sound hop hie hse hbe hzs hz1 hb0 hs0 hsrc hvs hone hyl hI hx ho
theorem Inv.empty {H : Heap} (h : Inv gl w0 M H w) (id b : Nat) : Inv gl w0 M ((id, .blk b []) :: H) w := by
  refine ⟨h.below, h.imm, fun e he => ?_, List.pairwise_cons.2 ⟨fun e he b' o hr => ?_, h.sep⟩, fun e he b' o hr => ?_, h.glob, h.new, plain_cons (fun hne => absurd rfl hne) h.plain⟩
  · rcases List.mem_cons.1 he with rfl | he
    · exact ⟨fun b' o hr => by simp [Ent.reg] at hr, by simp [entOK]⟩
    · exact h.own e he
  · simp [Ent.reg] at hr
  · rcases List.mem_cons.1 he with rfl | he
    · simp [Ent.reg] at hr
    · exact h.free e he b' o hr
theorem appF_sound {HF H : Heap} {o : Oper} {a : Act} {K : LV → Heap → Prop} {ox oy : Operand} {t u e : TypeId} (hop : o.op = .call ⟨.builtin .append, #[ox, oy], #[t, u]⟩) {sz bytes : Nat} (hu : P.underlying t = some (.slice e)) (huy : P.underlying u = some .string ∨ ∃ e', P.underlying u = some (.slice e'))
    (hs : sizeAt P e = some sz) (hb : bytesAt P e = some bytes) {zl : List LV} (hz : zeroOf P e = some zl) (hb0 : bytes ≠ 0) (hs0 : sz ≠ 0) {x y : LV} (hI : Inv gl w0 M (H ++ HF) w) (hx : RV M x (a.eval ox)) (hy : RV M y (a.eval oy)) {id : Nat} (he : (elems sz y H).1) (ho : appFV id sz bytes (elems sz y H).2.1 x (elems sz y H).2.2 H K) :
    After P gl w0 M HF o a w K := by
  obtain ⟨ie, hie, hbe⟩ : ∃ i, P.info? e = some i ∧ i.bytes = bytes := by simpa [bytesAt, Option.map_eq_some_iff] using hb
  obtain ⟨ie', hie', hse⟩ := sizeAt_info hs
  rw [hie] at hie'; cases hie'
  obtain ⟨ie'', zv, hie'', hzv, _, hzs, hz1⟩ := zeroOf_sound (M := M) hz
  rw [hie] at hie''; cases hie''
  obtain ⟨hlen, hyl, vs, hvs, hone, hfirst⟩ := elems_sound (P := P) hI hy he
  have hvl : vs.take ((elems sz y H).2.1 * sz) = vs := List.take_of_length_le (by rw [RVs_length hvs, hyl]; exact Nat.le_refl _)
  have hsrc : ASrc P w t u e o.type sz (elems sz y H).2.1 bytes zv (a.eval oy) vs := by
    refine ⟨fun base n cap w' hle hst => run_append_in hu huy hs hlen (by rw [hfirst _ (Nat.le_refl _) w (fun _ _ _ h => h), hvl]) hle hst, fun base n cap olds hfo hlt h63 h48 => ?_⟩
    exact run_append_out hu huy hie hse hzv hlen (by rw [hfirst _ (Nat.le_refl _) { w with drawn := w.drawn + 1 } (fun _ _ _ h => h), hvl]) hfo hlt h63 (by rw [hbe]; exact h48)
  generalize (elems sz y H).2.1 = m at *
  generalize (elems sz y H).2.2 = ys at *
  unfold appFV at ho
  split at ho
  · rename_i s cs
    obtain ⟨hroom, hk⟩ := ho
    simp only [RV] at hx
    have hx' : RV M (.msl id sz 0 0 0 0) (a.eval ox) := by
      simp only [RV]
      refine .inr ⟨trivial, trivial, ?_⟩
      rcases hx.2 with ⟨b, o, h1, _⟩ | ⟨ad, h1, _⟩
      · exact ⟨_, h1⟩
      · exact ⟨_, h1⟩
    have hI' : Inv gl w0 M (((id, .blk 0 []) :: H) ++ HF) w := hI.empty id 0
    refine appV_sound (id := id) hop hie hse hbe hzs hz1 hb0 hs0 hsrc hvs hone hyl hI' hx' ?_
    simp only [appV, appM, getH, if_true, delH]
    refine ⟨rfl, .inl ⟨trivial, trivial, trivial, by simp, by simp, by simpa using hroom, fun b2 c2 hc => ?_⟩⟩
    have := hk b2 c2 (by omega)
    simpa using this
  · exact appV_sound (id := id) hop hie hse hbe hzs hz1 hb0 hs0 hsrc hvs hone hyl hI hx ho
theorem appZ_sound {HF H : Heap} {o : Oper} {a : Act} {K : LV → Heap → Prop} {ox oy : Operand} {t u e : TypeId} (hop : o.op = .call ⟨.builtin .append, #[ox, oy], #[t, u]⟩) {sz bytes : Nat} (hu : P.underlying t = some (.slice e)) {k : IntKind} (huy : P.underlying u = some (.int k))
    (hs : sizeAt P e = some sz) (hb : bytesAt P e = some bytes) {zl : List LV} (hz : zeroOf P e = some zl) (hb0 : bytes ≠ 0) (hs0 : sz ≠ 0) (hzl : zl.length = sz) {x y : LV} (hI : Inv gl w0 M (H ++ HF) w) (hx : RV M x (a.eval ox)) (hy : RV M y (a.eval oy)) {id : Nat} (he : (appZQ bytes y).1) (ho : appZV id sz bytes (appZQ bytes y).2 x (zeros zl ((appZQ bytes y).2 * sz)) H K) :
    After P gl w0 M HF o a w K := by
  obtain ⟨ie, hie, hbe⟩ : ∃ i, P.info? e = some i ∧ i.bytes = bytes := by simpa [bytesAt, Option.map_eq_some_iff] using hb
  obtain ⟨ie', hie', hse⟩ := sizeAt_info hs
  rw [hie] at hie'; cases hie'
  obtain ⟨ie'', zv, hie'', hzv, hrz, hzs, hz1⟩ := zeroOf_sound (M := M) hz
  rw [hie] at hie''; cases hie''
  unfold appZQ at he ho
  split at he
  · rename_i l
    obtain ⟨h0, h1, h2⟩ := he
    simp only [RV] at hy
    have hsz' : zv.cells.size = sz := by rw [hzs, hse]
    have hsrc : ASrc P w t u e o.type sz l.toNat bytes zv (a.eval oy) (Builtin.zeroCells zv.cells l.toNat).toList := by
      rw [hy]
      refine ⟨fun base n cap w' hle hst => run_appendZ_in hu huy hie hse hzv h0 h1 (by rw [hbe]; exact h2) hle hsz' hst, fun base n cap olds hfo hlt h63 h48 => ?_⟩
      exact run_appendZ_out hu huy hie hse hzv hsz' h0 h1 (by rw [hbe]; exact h2) hfo hlt h63 (by rw [hbe]; exact h48)
    have hvs : RVs M (zeros zl (l.toNat * sz)) (Builtin.zeroCells zv.cells l.toNat).toList := by
      have := RVs_zeros hrz (by intro hzz; subst hzz; simp at hzl; exact hs0 hzl.symm) (l.toNat * sz)
      simpa [Builtin.zeroCells, hsz'] using this
    have hone : ∀ u ∈ (Builtin.zeroCells zv.cells l.toNat).toList, u.oneCell' = true := by
      have := one_zeros hz1 (by rw [hsz']; exact Nat.pos_of_ne_zero hs0) (l.toNat * sz)
      simpa [Builtin.zeroCells, hsz'] using this
    unfold appZV at ho
    split at ho
    · rcases ho.2 with ho | ho
      · exact appV_sound (id := id) hop hie hse hbe hzs hz1 hb0 hs0 hsrc hvs hone (by simp [zeros]) hI hx (by unfold appV; exact ho)
      · exact appN_sound hop hie hse hbe hzs hz1 hb0 hs0 hsrc hvs hone (by simp [zeros]) hI hx rfl ho
    · exact appV_sound hop hie hse hbe hzs hz1 hb0 hs0 hsrc hvs hone (by simp [zeros]) hI hx ho
  · exact he.elim
theorem copy_sound {HF H : Heap} {o : Oper} {a : Act} {K : LV → Heap → Prop} {ox oy : Operand} {t u e : TypeId} (hop : o.op = .call ⟨.builtin .copy, #[ox, oy], #[t, u]⟩) {sz : Nat} (hu : P.underlying t = some (.slice e)) (hs : sizeAt P e = some sz) {x y : LV} (hI : Inv gl w0 M (H ++ HF) w) (hx : RV M x (a.eval ox)) (hy : RV M y (a.eval oy))
    (he : (elems sz y H).1) (ho : copyV sz (elems sz y H).2.1 x (elems sz y H).2.2 H K) : After P gl w0 M HF o a w K := by
  obtain ⟨hlen, hyl, vs, hvs, hone, hfirst⟩ := elems_sound (P := P) hI hy he
  generalize (elems sz y H).2.1 = m at *
  generalize (elems sz y H).2.2 = ys at *
  have run : ∀ v w', (Builtin.copy_ #[t, u] o.type #[a.eval ox, a.eval oy]).run P w = .ok v w' → (execOp a.eval o).run P w = .ok (.value v) w' := by
    intro v w' h
    simp only [execOp, hop, resolve, invoke, builtin, Sem.run_bind, Sem.run_pure, Result.andThen_ok]
    simpa using by rw [h]; rfl
  have body : ∀ (base : Option Addr) (n c : Nat) (w' : World), (match base with | some ad => storeCells ad (vs.take (min m n * sz)) | none => pure () : Sem Unit).run P w = .ok () w' → (Builtin.copy_ #[t, u] o.type #[.slice base n c, a.eval oy]).run P w = .ok (.int .i64 (min m n : Nat)) w' := by
    intro base n c w' hst
    have hf := hfirst (min m n) (Nat.min_le_left _ _) w (fun _ _ _ h => h)
    cases base with
    | none =>
      simp only [Sem.run_pure] at hst
      cases hst
      simp [Builtin.copy_, run_underlying hu, hlen, run_sizeAt hs, hf, goInt]
    | some ad =>
      simp only at hst
      simp [Builtin.copy_, run_underlying hu, hlen, run_sizeAt hs, hf, goInt, hst]
  unfold copyV at ho
  split at ho
  · rename_i i s b off n cap
    simp only [RV] at hx
    obtain ⟨rfl, ho⟩ := ho
    unfold copyE at ho
    split at ho
    · rename_i b' cs hH
      obtain ⟨⟨rfl, hr⟩, hk⟩ := ho
      rcases hx with hx | ⟨rfl, rfl, ad, hx⟩
      rotate_left
      · have hrun := body ad 0 0 w (by cases ad <;> simp [storeCells])
        rw [← hx] at hrun
        refine After.value (run _ _ hrun) (MLe.refl M) (r := .int .i64 ((min m 0 : Nat))) (by simp [RV]) (H' := setH H i _) ?_ hk
        have hsp : splice cs (ys.take (min m 0 * s)) off = cs := by simp [splice]
        obtain ⟨p1, p2⟩ := getH_perm hH
        rw [hsp]
        exact hI.perm ((p1.trans (p2 _).symm).append_right HF)
      have hvs' : RVs M (ys.take (min m n * s)) (vs.take (min m n * s)) := by
        have := RVs_slice hvs 0 (min m n * s)
        simpa using this
      have hle : min m n * s ≤ n * s := Nat.mul_le_mul_right _ (Nat.min_le_right _ _)
      obtain ⟨r1, r2⟩ := storeCells_run (P := P) (off := off) hI hH hvs' (fun v hv => hone v (List.mem_of_mem_take hv)) (by simp; omega)
      have hrun := body (some ⟨b', off, none⟩) n cap _ r1
      rw [← hx] at hrun
      exact After.value (run _ _ hrun) (MLe.refl M) (by simp [RV]) r2 hk
    · exact ho.elim
  · rename_i s n cs
    simp only [RV] at hx
    obtain ⟨rfl, hk⟩ := ho
    have hv : ∃ ad c, a.eval ox = .slice ad 0 c := by
      rcases hx.2 with ⟨b, o, h1, _⟩ | ⟨ad, h1, _⟩
      · exact ⟨_, _, h1⟩
      · exact ⟨_, _, h1⟩
    obtain ⟨ad, c, hv⟩ := hv
    have hrun := body ad 0 c w (by cases ad <;> simp [storeCells])
    rw [← hv] at hrun
    exact After.value (run _ _ hrun) (MLe.refl M) (r := .int .i64 0) (by simp [RV]) hI hk
  · exact ho.elim
theorem clear_sound {HF H : Heap} {o : Oper} {a : Act} {K : LV → Heap → Prop} {ox : Operand} {t e : TypeId} (hop : o.op = .call ⟨.builtin .clear, #[ox], #[t]⟩) {sz : Nat} (hu : P.underlying t = some (.slice e)) (hs : sizeAt P e = some sz) {z : List LV} (hz : zeroOf P e = some z) (hzl : z.length = sz) {x : LV} (hI : Inv gl w0 M (H ++ HF) w) (hx : RV M x (a.eval ox))
    (ho : clearV sz z x H K) : After P gl w0 M HF o a w K := by
  obtain ⟨ie, zv, hie, hzv, hrz, hzs, hz1⟩ := zeroOf_sound (M := M) hz
  obtain ⟨ie', hie', hse⟩ := sizeAt_info hs
  rw [hie] at hie'; cases hie'
  have hsz' : zv.cells.size = sz := by rw [hzs, hse]
  have run : ∀ v w', (Builtin.clear_ #[t] o.type #[a.eval ox]).run P w = .ok v w' → (execOp a.eval o).run P w = .ok (.value v) w' := by
    intro v w' h
    simp only [execOp, hop, resolve, invoke, builtin, Sem.run_bind, Sem.run_pure, Result.andThen_ok]
    simpa using by rw [h]; rfl
  unfold clearV at ho
  split at ho
  · rename_i i s b off n cap
    simp only [RV] at hx
    obtain ⟨rfl, ho⟩ := ho
    unfold clearE at ho
    split at ho
    · rename_i b' cs hH
      obtain ⟨⟨rfl, hr⟩, hk⟩ := ho
      by_cases hn : n = 0
      · subst hn
        have hrun : (Builtin.clear_ #[t] o.type #[a.eval ox]).run P w = .ok (.tuple #[]) w := by
          rcases hx with hx | ⟨_, _, ad, hx⟩
          · rw [hx]
            simp [Builtin.clear_, run_underlying hu]
          · rw [hx]
            cases ad <;> simp [Builtin.clear_, run_underlying hu]
        refine After.value (run _ _ hrun) (MLe.refl M) (r := .tup []) (by simp [RV, RVs]) (H' := setH H i (.blk b' (splice cs (zeros z (0 * s)) off))) ?_ hk
        have hsp : splice cs (zeros z (0 * s)) off = cs := by simp [splice, zeros]
        obtain ⟨p1, p2⟩ := getH_perm hH
        rw [hsp]
        exact hI.perm ((p1.trans (p2 _).symm).append_right HF)
      · replace hx : a.eval ox = .slice (some ⟨b', off, none⟩) n cap := by
          rcases hx with hx | ⟨_, h0, _⟩
          · exact hx
          · exact absurd h0 hn
        by_cases hs0 : s = 0
        · subst hs0
          have hzc : (Builtin.zeroCells zv.cells n).toList = [] := by simp [Builtin.zeroCells, hsz']
          have hrun : (Builtin.clear_ #[t] o.type #[a.eval ox]).run P w = .ok (.tuple #[]) w := by
            rw [hx]
            simp [Builtin.clear_, run_underlying hu, hn, zeroValue, typeInfo, hie, hzv, hzc, storeCells]
          refine After.value (run _ _ hrun) (MLe.refl M) (r := .tup []) (by simp [RV, RVs]) (H' := setH H i (.blk b' (splice cs (zeros z (n * 0)) off))) ?_ hk
          have hsp : splice cs (zeros z (n * 0)) off = cs := by simp [splice, zeros]
          obtain ⟨p1, p2⟩ := getH_perm hH
          rw [hsp]
          exact hI.perm ((p1.trans (p2 _).symm).append_right HF)
        · have hvs : RVs M (zeros z (n * s)) (Builtin.zeroCells zv.cells n).toList := by
            have := RVs_zeros hrz (by intro hzz; subst hzz; simp at hzl; exact hs0 hzl.symm) (n * s)
            simpa [Builtin.zeroCells, hsz'] using this
          have hone : ∀ u ∈ (Builtin.zeroCells zv.cells n).toList, u.oneCell' = true := by
            have := one_zeros hz1 (by rw [hsz']; exact Nat.pos_of_ne_zero hs0) (n * s)
            simpa [Builtin.zeroCells, hsz'] using this
          obtain ⟨r1, r2⟩ := storeCells_run (P := P) (off := off) hI hH hvs hone (by simp [zeros]; exact hr)
          have hrun : (Builtin.clear_ #[t] o.type #[a.eval ox]).run P w = .ok (.tuple #[]) (w.setCells b' off (Builtin.zeroCells zv.cells n).toList) := by
            rw [hx]
            simp [Builtin.clear_, run_underlying hu, hn, zeroValue, typeInfo, hie, hzv, r1]
          exact After.value (run _ _ hrun) (MLe.refl M) (r := .tup []) (by simp [RV, RVs]) r2 hk
    · exact ho.elim
  · rename_i s n cs
    simp only [RV] at hx
    obtain ⟨rfl, hk⟩ := ho
    have hv : ∃ ad c, a.eval ox = .slice ad 0 c := by
      rcases hx.2 with ⟨b, o, h1, _⟩ | ⟨ad, h1, _⟩
      · exact ⟨_, _, h1⟩
      · exact ⟨_, _, h1⟩
    obtain ⟨ad, c, hv⟩ := hv
    have hrun : (Builtin.clear_ #[t] o.type #[a.eval ox]).run P w = .ok (.tuple #[]) w := by
      rw [hv]
      cases ad <;> simp [Builtin.clear_, run_underlying hu]
    exact After.value (run _ _ hrun) (MLe.refl M) (r := .tup []) (by simp [RV, RVs]) hI hk
  · exact ho.elim
theorem isNil_sound {HF H : Heap} {o : Oper} {a : Act} {K : LV → Heap → Prop} {op : BinOp} {t e yt : TypeId} {ox oy : Operand} (hop : o.op = .binOp op t ox oy yt) (h2 : op = .eql ∨ op = .neq) (hu : P.underlying t = some (.slice e)) {x : LV} (hI : Inv gl w0 M (H ++ HF) w) (hx : RV M x (a.eval ox)) (hy : ∃ c, oy = .const c ∧ ∃ s cs, ofVal c = some (.fsl s 0 cs))
    (ho : isNilV (op == .neq) x H K) : After P gl w0 M HF o a w K := by
  have hnil : a.eval oy = .slice none 0 0 := by
    obtain ⟨c, rfl, s, cs, h⟩ := hy
    simp only [Act.eval]
    cases c with
    | slice ad l k =>
      unfold ofVal ofVal1 at h
      split at h
      · rename_i hh; cases hh
      · rename_i hh; cases hh
      · split at h <;> simp_all
    | agg cs => simp only [ofVal, Option.map_eq_some_iff] at h; obtain ⟨_, _, h⟩ := h; cases h
    | tuple cs => simp only [ofVal, Option.map_eq_some_iff] at h; obtain ⟨_, _, h⟩ := h; cases h
    | pointer p => cases p <;> simp [ofVal, ofVal1] at h
    | map p => cases p <;> simp [ofVal, ofVal1] at h
    | _ => simp [ofVal, ofVal1] at h
  have key : ∀ (ad : Option Addr) (n c : Nat), a.eval ox = .slice ad n c → (execOp a.eval o).run P w = .ok (.value (.bool (ad.isNone != (op == .neq)))) w := by
    intro ad n c hv
    have hg : (eqGuard op t ox oy (.slice ad n c) (.slice none 0 0)).run P w = .ok () w := run_eqGuard_one (by simp) (by simp)
    have heq : (Op.equal t (.slice ad n c) (.slice none 0 0)).run P w = .ok ad.isNone w := by
      have gen : ∀ d, (Op.equalIn (d + 1) t (.slice ad n c) (.slice none 0 0)).run P w = .ok ad.isNone w := by
        intro d
        cases ad <;> simp only [Op.equalIn, Sem.run_bind, run_underlying hu, Result.andThen_ok, Sem.run_pure] <;> rfl
      exact gen 9999
    simp only [execOp, hop, hv, hnil, Sem.run_bind, hg, Result.andThen_ok]
    rcases h2 with rfl | rfl
    · simp only [binOp, Sem.run_bind, heq, Result.andThen_ok, Sem.run_pure]
      cases ad <;> rfl
    · simp only [binOp, Sem.run_bind, heq, Result.andThen_ok, Sem.run_pure]
      cases ad <;> rfl
  have fin : ∀ (n : Nat), (∃ ad c, a.eval ox = .slice ad n c ∧ (ad.isNone = true → n = 0)) → (∀ r : Bool, (r = true → n = 0) → K (.bool (r != (op == .neq))) H) → After P gl w0 M HF o a w K := by
    rintro n ⟨ad, c, h1, h3⟩ h4
    exact After.value (key ad n c h1) (MLe.refl M) (r := .bool (ad.isNone != (op == .neq))) (by simp [RV]) hI (h4 _ h3)
  unfold isNilV at ho
  split at ho
  · simp only [RV] at hx
    refine fin _ ?_ ho
    rcases hx.2 with ⟨b, o, c, h, _⟩ | ⟨ad, c, h, rfl⟩
    · exact ⟨_, _, h, by simp⟩
    · exact ⟨_, _, h, by simp⟩
  · simp only [RV] at hx
    refine fin _ ?_ ho
    rcases hx.2 with ⟨b, o, h, _⟩ | ⟨ad, h, rfl⟩
    · exact ⟨_, _, h, by simp⟩
    · exact ⟨_, _, h, by simp⟩
  · simp only [RV] at hx
    refine fin _ ?_ ho
    rcases hx.2 with ⟨b, o, c, h, _⟩ | ⟨ad, h, rfl⟩
    · exact ⟨_, _, h, by simp⟩
    · exact ⟨_, _, h, by simp⟩
  · simp only [RV] at hx
    refine fin _ ?_ ho
    rcases hx with h | ⟨_, rfl, ad, h⟩
    · exact ⟨_, _, h, by simp⟩
    · exact ⟨_, _, h, by simp⟩
  · exact ho.elim
def isBin : LOp → Bool
  | .bin .. | .eqB .. | .eqN .. | .eqS .. => true
  | _ => false
theorem callV_sound {HF H : Heap} {o : Oper} {a : Act} {K : LV → Heap → Prop} {ox : Operand} {args : Array Operand} {at_ : Array TypeId} (hop : o.op = .call ⟨.value ox, args, at_⟩) {x : LV} (hx : RV M x (a.eval ox))
    {args' : List X} (ht : trXs vv args.toList = some args') {ρL : X → LV} (hρ : ∀ x y, trX vv x = some y → RV M (ρL y) (a.eval x)) (hI : Inv gl w0 M (H ++ HF) w) (hg : ∀ x ∈ args', (ρL x).g) (hc : (calleeQ x).1) (ho : LCallsV P gl (calleeQ x).2.1 ((args'.map fun x => (ρL x).v) ++ (calleeQ x).2.2) H K) : After P gl w0 M HF o a w K := by
  have hargs : ∀ (l : List Operand) (l' : List X), trXs vv l = some l' → (∀ x ∈ l', (ρL x).g) → RVs M (l'.map fun x => (ρL x).v) (l.map a.eval) := by
    intro l
    induction l with
    | nil => intro l' h _; simp only [trXs, Option.some.injEq] at h; subst h; simp [RVs]
    | cons x r ih =>
      intro l' h hg
      simp only [trXs] at h
      split at h
      · rename_i y ys h1 h2
        cases h
        simp only [List.map_cons, RVs]
        exact ⟨_, _, rfl, strip (hρ x y h1) (hg y (by simp)), ih ys h2 (fun x hx => hg x (List.mem_cons_of_mem _ hx))⟩
      · cases h
  obtain ⟨f, caps, vs, hv, hcv, e1, e2⟩ : ∃ f caps vs, a.eval ox = .func (.func f) #[] (List.toArray vs) ∧ RVs M caps vs ∧ (calleeQ x).2.1 = f ∧ (calleeQ x).2.2 = caps := by
    unfold calleeQ at hc ⊢
    split at hc
    · simp only [RV] at hx
      obtain ⟨vs, h1, h2⟩ := hx
      exact ⟨_, _, vs, h1, h2, rfl, rfl⟩
    · simp only [RV] at hx
      exact ⟨_, _, [], hx, by simp [RVs], rfl, rfl⟩
    · exact hc.elim
  rw [e1, e2] at ho
  obtain ⟨hok, ho⟩ := ho
  unfold okF at hok
  split at hok
  · rename_i fn hf
    simp only [Bool.and_eq_true, bne_iff_ne, ne_eq, Bool.not_eq_true'] at hok
    intro N Q hN
    have hrun : (execOp a.eval o).run P w = .ok (.enter f (args.toList.map a.eval ++ vs).toArray) w := by
      simp only [execOp, hop, resolve, hv, Deferred.ofValue, Sem.run_bind, Sem.run_pure, Result.andThen_ok, invoke, callFunc, run_program, hf]
      have e1 : (fn.name == "runtime.NumGoroutine") = false := by simpa using hok.1
      simp only [e1, Bool.false_eq_true, if_false, hok.2, Sem.run_pure]
      congr 2
      apply Array.toList_inj.1
      simp
    unfold Oper.wp
    rw [hrun]
    simp only [Oper.upon]
    refine ((ho w0 M HF w _ hI (RVs_append (hargs _ _ ht hg) hcv)).calls hf hok.2).mono ?_
    rintro e w' ⟨M', v, r, H', h1, rfl, h3, h4, h5⟩
    exact hN M' v r H' w' h1 h3 h4 h5
  · cases hok
theorem RVs_bytes (l : List UInt8) : RVs M (l.map fun u => LV.int .u8 u.toNat) (l.map fun u => Value.int .u8 u.toNat) := by
  induction l with
  | nil => simp [RVs]
  | cons x r ih => simp only [List.map_cons, RVs]; exact ⟨_, _, rfl, by simp [RV], ih⟩
theorem RVs_replicate {x : LV} {v : Value} (h : RV M x v) (k : Nat) : RVs M (List.replicate k x) (List.replicate k v) := by
  induction k with
  | zero => simp [RVs]
  | succ k ih => simp only [List.replicate_succ, RVs]; exact ⟨_, _, rfl, h, ih⟩
theorem Inv.reframe {H : Heap} {w w' : World} (h : Inv gl w0 M H w) (hb : RowKit.Below w0.heap.size w0 w') (hc : ∀ a, w'.cell? a = w.cell? a) (hs : ∀ b, w'.shape? b = w.shape? b)
    (hm : ∀ (b : Nat) (arr : Array MapEntry) (clock : Nat), w.heap[b]? = some (Obj.map arr clock) → w'.heap[b]? = some (Obj.map arr clock)) (hf : ∀ e ∈ H, ∀ b o, e.2.reg b o → w'.frozen? ⟨b, o, none⟩ = w.frozen? ⟨b, o, none⟩) (hp : ∀ e ∈ H, plainE w' e.2) : Inv gl w0 M H w' := by
  refine ⟨hb, fun b o v hv => by rw [hc]; exact h.imm b o v hv, fun e he => ⟨(h.own e he).1, ?_⟩, h.sep, h.free, h.glob, fun b hn => by rw [hs]; exact h.new b hn, hp⟩
  have h3 := (h.own e he).2
  have h4 := hf e he
  generalize e.2 = e' at h3 h4
  cases e' with
  | blk b cs =>
    simp only [entOK, Ent.reg] at h3 h4 ⊢
    intro i c hi
    obtain ⟨u, a1, a2, a3⟩ := h3 i c hi
    exact ⟨u, by rw [hc]; exact a1, by rw [h4 b i ⟨rfl, (List.getElem?_eq_some_iff.1 hi).1⟩]; exact a2, a3⟩
  | tok t =>
    simp only [entOK, Ent.reg] at h3 h4 ⊢
    intro o h1 h2
    obtain ⟨⟨u, a1⟩, a2⟩ := h3 o h1 h2
    exact ⟨⟨u, by rw [hc]; exact a1⟩, by rw [h4 t.b o ⟨rfl, h1, h2⟩]; exact a2⟩
  | map b es =>
    simp only [entOK] at h3 ⊢
    obtain ⟨arr, clock, a1, a2⟩ := h3
    exact ⟨arr, clock, hm b arr clock a1, a2⟩
theorem s2b_sound {HF H : Heap} {o : Oper} {a : Act} {K : LV → Heap → Prop} {s d e : TypeId} {ox : Operand} (hop : o.op = .convert s d ox) (hs : P.underlying s = some .string) (hd : P.underlying d = some (.slice e)) (he : P.underlying e = some (.int .u8)) {x : LV} (hI : Inv gl w0 M (H ++ HF) w) (hx : RV M x (a.eval ox)) {id : Nat} (h0 : (strQ x).1) (ho : s2bE id (strQ x).2 H K) :
    After P gl w0 M HF o a w K := by
  unfold strQ at h0 ho
  split at h0
  · rename_i l
    unfold s2bE at ho
    simp only [RV] at hx
    let k := (w.tape w.drawn (Question.appendCap l.length 0 e)) % (2 ^ 63 - l.length)
    let vs : List Value := (l.map fun u => Value.int .u8 u.toNat) ++ List.replicate k (.int .u8 0)
    have hrun : (execOp a.eval o).run P w = .ok (.value (.slice (some ⟨w.heap.size, 0, none⟩) l.length (l.length + k))) { w with drawn := w.drawn + 1, heap := w.heap.push (.cells vs.toArray e (vs.length, vs.length + 1)) } := by
      have hsz : (ByteArray.mk l.toArray).size = l.length := by simp [ByteArray.size]
      simp only [execOp, hop, hx, convert, Sem.run_bind, run_underlying hs, run_underlying hd, run_underlying he, Result.andThen_ok, Conv.stringToBytes, run_choose, Question.forced, Question.cut, hsz, Bool.false_eq_true, if_false, run_newRow, markStringish, run_shape, Sem.run_pure]
      have e1 : (l.length + w.tape w.drawn (Question.appendCap l.length 0 e) % (2 ^ 63 - l.length) - l.length) = k := by simp only [k]; omega
      simp only [World.shape?, Array.getElem?_push_size, Result.andThen_ok, run_freeze, e1]
      congr 1
      simp only [World.freeze]
      simp only [Nat.succ_ne_zero, if_false]
      congr 1
      apply Array.ext_getElem?
      intro i
      rw [Array.getElem?_modify, Array.getElem?_push, Array.getElem?_push]
      by_cases hi : i = w.heap.size
      · subst hi
        simp only [if_true, Option.map_some, Option.some.injEq]
        have e2 : ((l.toArray.map fun b => Value.int .u8 (b.toNat : Int)) ++ Array.replicate k (Value.int .u8 0)) = vs.toArray := by
          apply Array.toList_inj.1
          simp [vs]
        rw [e2]
        simp
      · simp only [hi, if_false]
        rw [if_neg (fun h => hi h.symm)]
    have hv : RVs M ((l.map fun u => LV.int .u8 u.toNat) ++ List.replicate k (.int .u8 0)) vs := RVs_append (RVs_bytes l) (RVs_replicate (by simp [RV]) k)
    have h1 : ∀ v ∈ vs, v.oneCell' = true := by
      intro v hv
      rcases List.mem_append.1 hv with h | h
      · obtain ⟨u, _, rfl⟩ := List.mem_map.1 h; rfl
      · rw [(List.mem_replicate.1 h).2]; rfl
    have hI3 := ((hI.drew (w.drawn + 1)).push_own id vs _ e hv h1 (0, 0) (fun _ => by simp))
    obtain ⟨M', hM, hI4, hc⟩ := hI3.split_own (id' := id)
    have hlt : ∀ e2 ∈ H ++ HF, ∀ b' o, e2.2.reg b' o → b' ≠ w.heap.size := fun e2 he b' o hr => by
      have := (hI.own e2 he).2.lt hr
      omega
    have hI5 : Inv gl w0 M' ((id, .tok ⟨w.heap.size, (l.map fun u => LV.int .u8 u.toNat).length, (l.map fun u => LV.int .u8 u.toNat).length + (List.replicate k (LV.int .u8 0)).length⟩) :: (H ++ HF)) { w with drawn := w.drawn + 1, heap := w.heap.push (.cells vs.toArray e (vs.length, vs.length + 1)) } := by
      refine hI4.reframe (below_push (hI.drew (w.drawn + 1)).below _) (fun a => ?_) (fun b' => ?_) (fun b' arr clock hm => ?_) (fun e2 he b' o hr => ?_) (plain_cons trivial fun e2 he => (hI.plain e2 he).of fun b2 cs2 hb2 hne2 o => ?_)
      · by_cases ha : a.block = w.heap.size
        · simp [World.cell?, Array.getElem?_push, ha]
        · simp only [World.cell?, Array.getElem?_push, if_neg ha]
      · by_cases ha : b' = w.heap.size
        · simp [World.shape?, Array.getElem?_push, ha]
        · simp only [World.shape?, Array.getElem?_push, if_neg ha]
      · simp only [Array.getElem?_push] at hm ⊢
        split at hm
        · cases hm
        · rename_i e9; rw [if_neg e9]; exact hm
      · rcases List.mem_cons.1 he with rfl | he
        · simp only [Ent.reg, List.length_map, List.length_replicate] at hr
          rw [hr.1]
          rw [push_new_frozen (w := { w with drawn := w.drawn + 1 }) _ _ _ _ (by simp [vs]; omega), push_new_frozen (w := { w with drawn := w.drawn + 1 }) _ _ _ _ (by simp)]
        · have hn := hlt e2 he b' o hr
          rw [push_frozen (w := { w with drawn := w.drawn + 1 }) _ _ _ _ _ hn, push_frozen (w := { w with drawn := w.drawn + 1 }) _ _ _ _ _ hn]
      · exact push_frozen (w := { w with drawn := w.drawn + 1 }) _ _ _ _ _ (hlt e2 he b2 0 (by rw [hb2]; exact ⟨rfl, List.length_pos_iff.2 hne2⟩))
    refine After.value hrun hM (r := .osl id _ 1 l.length _) ?_ (H' := (id, .tok _) :: H) hI5 (ho _)
    simp only [RV]
    exact ⟨by simp, .inl ⟨w.heap.size, 0, l.length + k, rfl, by omega, hc, .inr ⟨rfl, by simp, by simp⟩⟩⟩
  · exact h0.elim
theorem zeros_add (z : List LV) (a b : Nat) (h : z.length ∣ a) : zeros z (a + b) = zeros z a ++ zeros z b := by
  unfold zeros
  rw [List.range_add, List.map_append, List.map_map]
  congr 1
  apply List.map_congr_left
  intro i _
  simp only [Function.comp]
  obtain ⟨c, rfl⟩ := h
  rw [Nat.mul_add_mod]
theorem make_sound {HF H : Heap} {o : Oper} {a : Act} {K : LV → Heap → Prop} {t e : TypeId} {ol oc : Operand} (hop : o.op = .makeSlice t ol oc) (hu : P.underlying t = some (.slice e)) {sz bytes : Nat} (hs : sizeAt P e = some sz) (hb : bytesAt P e = some bytes) {z : List LV} (hz : zeroOf P e = some z) {x y : LV} (hI : Inv gl w0 M (H ++ HF) w)
    (hx : RV M x (a.eval ol)) (hy : RV M y (a.eval oc)) {id : Nat} (hm : (makeQ sz bytes z x y).1) (ho : makeE id sz z (makeQ sz bytes z x y).2.1 (makeQ sz bytes z x y).2.2 H K) : After P gl w0 M HF o a w K := by
  unfold makeQ at hm ho
  split at hm
  · rename_i l c
    unfold makeE at ho
    simp only [RV] at hx hy
    obtain ⟨h0, h1, h63, h48, hzl⟩ := hm
    obtain ⟨i, zv, hi, hzv, hrz, hzs, hz1⟩ := zeroOf_sound (M := M) hz
    obtain ⟨i', hi', hse⟩ := sizeAt_info hs
    rw [hi] at hi'; cases hi'
    obtain ⟨i'', hi'', hbe⟩ : ∃ i, P.info? e = some i ∧ i.bytes = bytes := by simpa [bytesAt, Option.map_eq_some_iff] using hb
    rw [hi] at hi''; cases hi''
    have wl : IntKind.i64.wrap l = l := by simp only [IntKind.wrap, IntKind.bits, IntKind.signed]; simp; omega
    have wc : IntKind.i64.wrap c = c := by simp only [IntKind.wrap, IntKind.bits, IntKind.signed]; simp; omega
    have hl := RVs_length hrz
    simp only [Array.length_toList] at hl
    obtain ⟨vs, hrun, hrv, hone⟩ : ∃ vs : List Value, (execOp a.eval o).run P w = .ok (.value (.slice (some ⟨w.heap.size, 0, none⟩) l.toNat c.toNat)) { w with heap := w.heap.push (.cells vs.toArray e) } ∧ RVs M (zeros z (c.toNat * sz)) vs ∧ ∀ v ∈ vs, v.oneCell' = true := by
      have hc0 : ¬ c < 0 := by omega
      have hl0 : ¬ l < 0 := by omega
      have hlc : ¬ c < l := by omega
      have hcb : ¬ (281474976710656 : Int) < (i.bytes : Int) * c := by rw [hbe, Int.mul_comm]; omega
      by_cases hz0 : c.toNat * sz = 0
      · refine ⟨[], ?_, by simp [hz0, zeros, RVs], by simp⟩
        simp [execOp, hop, Instr.makeSlice, hx, hy, run_underlying hu, asInt, asIntOf, typeInfo, hi, wl, wc, hc0, hl0, hlc, hcb, sizeOf, hse, hz0, newRow]
        congr 2
        apply Array.toList_inj.1
        simp
      · refine ⟨((Array.range (c.toNat * sz)).map (fun j => zv.cells[j % zv.cells.size]!)).toList, ?_, ?_, ?_⟩
        · simp [execOp, hop, Instr.makeSlice, hx, hy, run_underlying hu, asInt, asIntOf, typeInfo, hi, wl, wc, hc0, hl0, hlc, hcb, sizeOf, hse, hz0, newRow, zeroValue, hzv]
          congr 2
          apply Array.toList_inj.1
          simp
        · exact RVs_zeros hrz (by intro hzz; subst hzz; simp at hzl; subst hzl; simp at hz0) _
        · refine one_zeros hz1 ?_ _
          rw [hl, hzl]
          exact Nat.pos_of_ne_zero (fun h => hz0 (by rw [h, Nat.mul_zero]))
    have hI3 := hI.push_own id vs _ e hrv hone (0, 0) (fun _ => by simp)
    rcases ho.2 with ho | ho
    · have hsplit : zeros z (c.toNat * sz) = zeros z (l.toNat * sz) ++ zeros z ((c.toNat - l.toNat) * sz) := by
        rw [← zeros_add _ _ _ (by rw [hzl]; exact Nat.dvd_mul_left _ _), ← Nat.add_mul]
        congr 2; omega
      rw [hsplit] at hI3
      obtain ⟨M', hM, hI4, hc⟩ := hI3.split_own (id' := id)
      refine After.value hrun hM (r := .osl id _ sz l.toNat _) ?_ (H' := (id, .tok _) :: H) hI4 (ho _)
      simp only [RV]
      have zl : ∀ k, (zeros z k).length = k := fun k => by simp [zeros]
      refine ⟨zl _, .inl ⟨w.heap.size, 0, c.toNat, rfl, by omega, hc, .inr ⟨rfl, by simp [zl], ?_⟩⟩⟩
      simp only [zl, Nat.zero_add]
      rw [← Nat.add_mul]; congr 1; omega
    · exact After.value hrun (MLe.refl M) (r := .msl id sz w.heap.size 0 l.toNat c.toNat) (by simp [RV]) (H' := (id, .blk w.heap.size _) :: H) hI3 (ho _)
  · exact hm.elim
theorem mkMap_sound {HF H : Heap} {o : Oper} {a : Act} {K : LV → Heap → Prop} {t : TypeId} {r : Option Operand} (hop : o.op = .makeMap t r) {k e : TypeId} (hu : P.underlying t = some (.map k e)) (hr : r = none ∨ ∃ kd n, r = some (.const (.int kd n))) (hI : Inv gl w0 M (H ++ HF) w) {id : Nat} (ho : ∀ b, K (.raw (.map (some b))) ((id, .map b []) :: H)) :
    After P gl w0 M HF o a w K := by
  have hrun : (execOp a.eval o).run P w = .ok (.value (.map (some w.heap.size))) (w.alloc (.map #[] 0)) := by
    rcases hr with rfl | ⟨kd, n, rfl⟩
    · simp only [execOp, hop, Option.map_none, Sem.run_bind, Sem.run_pure, show (Instr.makeMap t none).run P w = .ok (.map (some w.heap.size)) (w.alloc (.map #[] 0)) from rfl, Result.andThen_ok]
    · simp [execOp, hop, Instr.makeMap, run_underlying hu, Act.eval, asInt, asIntOf]
  exact After.value hrun (MLe.refl M) (r := .raw (.map (some w.heap.size))) (by simp [RV]) (H' := (id, .map w.heap.size []) :: H) (hI.newMap id) (ho _)
theorem find_entries {es : List (LV × LV)} {i : LV} {v : Value} (hv : kvOf i = some v) : ∀ {arr : List MapEntry} {es : List (LV × LV)}, arr.map (fun e => (some e.key, some e.val)) = es.map (fun p => (kvOf p.1, kvOf p.2)) →
    ((∀ e ∈ arr, e.key ≠ v) → lookL es i = none ∧ ∀ x, updL es i x = es ++ [(i, x)]) ∧
    (∀ (j : Nat) (e0 : MapEntry), (arr.Pairwise fun e e' => e.key ≠ e'.key) → arr[j]? = some e0 → e0.key = v → (∃ x, lookL es i = some x ∧ kvOf x = some e0.val) ∧ ∀ x u, kvOf x = some u → ∀ key', key' = v → (arr.modify j fun e => { e with key := key', val := u }).map (fun e => (some e.key, some e.val)) = (updL es i x).map fun p => (kvOf p.1, kvOf p.2))
  | [], [], _ => by
    refine ⟨fun _ => ⟨rfl, fun x => rfl⟩, fun j e0 _ hj _ => by simp at hj⟩
  | [], _ :: _, h => by simp at h
  | _ :: _, [], h => by simp at h
  | e :: arr, p :: es, h => by
    simp only [List.map_cons, List.cons.injEq, Prod.mk.injEq] at h
    obtain ⟨⟨hk, hval⟩, hrest⟩ := h
    obtain ⟨ih1, ih2⟩ := find_entries (es := es) hv hrest
    have heq : eqK i p.1 = true ↔ v = e.key := eqK_iff hv hk.symm
    constructor
    · intro hn
      have h1 : eqK i p.1 = false := by
        cases hb : eqK i p.1 with
        | false => rfl
        | true => exact absurd (heq.1 hb).symm (hn e (List.mem_cons_self ..))
      obtain ⟨h2, h3⟩ := ih1 fun e' he' => hn e' (List.mem_cons_of_mem _ he')
      refine ⟨?_, fun x => ?_⟩
      · simp only [lookL, List.find?_cons, h1] at h2 ⊢
        exact h2
      · simp only [updL, h1, Bool.false_eq_true, if_false, h3 x, List.cons_append]
    · intro j e0 hp hj hk0
      obtain ⟨hp1, hp2⟩ := List.pairwise_cons.1 hp
      cases j with
      | zero =>
        simp only [List.getElem?_cons_zero, Option.some.injEq] at hj
        subst hj
        have h1 : eqK i p.1 = true := heq.2 hk0.symm
        refine ⟨⟨p.2, by simp [lookL, List.find?_cons, h1], hval.symm⟩, fun x u hx key' hkey => ?_⟩
        subst hkey
        simp [updL, h1, hx, hrest, ← hk, hk0]
      | succ j =>
        simp only [List.getElem?_cons_succ] at hj
        have h1 : eqK i p.1 = false := by
          cases hb : eqK i p.1 with
          | false => rfl
          | true => exact absurd ((heq.1 hb).symm.trans hk0.symm) (hp1 e0 (List.mem_of_getElem? hj))
        obtain ⟨⟨y, h2, h3⟩, h4⟩ := ih2 j e0 hp2 hj hk0
        refine ⟨⟨y, by simp only [lookL, List.find?_cons, h1] at h2 ⊢; exact h2, h3⟩, fun x u hx key' hkey => ?_⟩
        have := h4 x u hx key' hkey
        simp only [List.modify_succ_cons, List.map_cons, updL, h1, Bool.false_eq_true, if_false, this, hk, hval]
theorem keys_ok {kt : Nat} {arr : List MapEntry} {es : List (LV × LV)} (h : arr.map (fun e => (some e.key, some e.val)) = es.map (fun p => (kvOf p.1, kvOf p.2))) (hk : ∀ p ∈ es, KeyOK P kt p.1) : ∀ e ∈ arr, ∃ l, keyOf P kt e.key = some l := fun e he => by
  have h1 : (some e.key, some e.val) ∈ es.map fun p => (kvOf p.1, kvOf p.2) := by rw [← h]; exact List.mem_map.2 ⟨e, he, rfl⟩
  obtain ⟨p, hp, h2⟩ := List.mem_map.1 h1
  obtain ⟨v, l, h3, h4⟩ := hk p hp
  simp only [Prod.mk.injEq] at h2
  rw [h2.1] at h3
  cases h3
  exact ⟨l, h4⟩
theorem look_sound {HF H : Heap} {o : Oper} {a : Act} {K : LV → Heap → Prop} {t k e : TypeId} {ox oi : Operand} {ok : Bool} (hop : o.op = .lookup t ox oi ok) (hu : P.underlying t = some (.map k e)) {z : LV} (hz : zero1 P e = some z) {x i : LV} (hI : Inv gl w0 M (H ++ HF) w) (hx : RV M x (a.eval ox)) (hi : RV M i (a.eval oi)) (ho : lookV P k ok z i x H K) :
    After P gl w0 M HF o a w K := by
  unfold lookV at ho
  split at ho
  · rename_i b
    unfold lookE at ho
    split at ho
    · rename_i es hm
      obtain ⟨⟨hK, ⟨v, l, hv, hl⟩, hes⟩, hk⟩ := ho
      simp only [RV] at hx
      obtain rfl := kvOf_RV hv hi
      obtain ⟨id, R, hp, _⟩ := getMap_perm hm
      have hI2 := hI.perm (hp.append_right HF)
      obtain ⟨_, hok⟩ := hI2.own _ (List.mem_cons_self ..)
      simp only [entOK] at hok
      obtain ⟨arr, clock, hb, hd, hrel⟩ := hok
      obtain ⟨zv, hzr⟩ : ∃ zv, RV M z zv ∧ (zeroValue e).run P w = .ok zv w := by
        unfold zero1 at hz
        split at hz
        · rename_i i1 hi1
          split at hz
          · rename_i zv hzz
            exact ⟨zv, ofVal1_sound hz, by simp [zeroValue, run_typeInfo w hi1, hzz]⟩
          · cases hz
        · cases hz
      have hf := find_entries (es := es) hv hrel
      have hrun : ∀ val, (Instr.lookup t (.map (some b)) (a.eval oi) ok).run P w = .ok val w → (execOp a.eval o).run P w = .ok (.value val) w := fun val h => by
        simp only [execOp, hop, hx, Sem.run_bind, h, Result.andThen_ok, Sem.run_pure]
      rcases hK.find w hl arr.toList (keys_ok hrel hes) with ⟨h1, h2⟩ | ⟨j, e0, h1, h2, h3⟩
      · have hn := (hf.1 h2).1
        rw [hn] at hk
        refine After.value (hrun (if ok then .tuple #[zv, .bool false] else zv) (by simp [Instr.lookup, run_underlying hu, MapKept.run_getObj_map hb, hK.check w _ hl, h1, hzr.2, Result.andThen])) (MLe.refl M) (r := lookR ok z none) ?_ hI hk
        unfold lookR
        cases ok
        · exact hzr.1
        · simp only [if_true, RV, RVs, Option.getD_none, Option.isSome_none]
          exact ⟨_, rfl, _, _, rfl, hzr.1, _, _, rfl, rfl, rfl⟩
      · obtain ⟨⟨y, h4, h5⟩, _⟩ := hf.2 j e0 hd h2 h3
        rw [h4] at hk
        refine After.value (hrun (if ok then .tuple #[e0.val, .bool true] else e0.val) (by simp [Instr.lookup, run_underlying hu, MapKept.run_getObj_map hb, hK.check w _ hl, h1, Result.andThen])) (MLe.refl M) (r := lookR ok z (some y)) ?_ hI hk
        unfold lookR
        cases ok
        · exact RV_kvOf h5
        · simp only [if_true, RV, RVs, Option.getD_some, Option.isSome_some]
          exact ⟨_, rfl, _, _, rfl, RV_kvOf h5, _, _, rfl, rfl, rfl⟩
    · exact ho.elim
  · exact ho.elim
theorem upd_sound {HF H : Heap} {o : Oper} {a : Act} {K : LV → Heap → Prop} {t k e : TypeId} {ox oi ov : Operand} (hop : o.op = .mapUpdate t ox oi ov) (hu : P.underlying t = some (.map k e)) {x i v : LV} (hI : Inv gl w0 M (H ++ HF) w) (hx : RV M x (a.eval ox)) (hi : RV M i (a.eval oi)) (hv : RV M v (a.eval ov)) (ho : updV P k i v x H K) :
    After P gl w0 M HF o a w K := by
  unfold updV at ho
  split at ho
  · rename_i b
    unfold updE at ho
    split at ho
    · rename_i es hm
      obtain ⟨⟨⟨hK, ⟨u, l, hu1, hl⟩, hes⟩, hvs⟩, hk⟩ := ho
      obtain ⟨uv, hvv⟩ := Option.isSome_iff_exists.1 hvs
      simp only [RV] at hx
      obtain rfl := kvOf_RV hu1 hi
      obtain rfl := kvOf_RV hvv hv
      obtain ⟨id, R, hp, hp2⟩ := getMap_perm hm
      have hI2 : Inv gl w0 M ((id, .map b es) :: (R ++ HF)) w := hI.perm (hp.append_right HF)
      obtain ⟨_, hok⟩ := hI2.own _ (List.mem_cons_self ..)
      simp only [entOK] at hok
      obtain ⟨arr, clock, hb, hd, hrel⟩ := hok
      have hf := find_entries (es := es) hu1 hrel
      have hrun : ∀ w', (Instr.mapUpdate t (.map (some b)) (a.eval oi) (a.eval ov)).run P w = .ok () w' → (execOp a.eval o).run P w = .ok .skip w' := fun w' h => by
        simp only [execOp, hop, hx, Sem.run_bind, h, Result.andThen_ok, Sem.run_pure]
      rcases hK.find w hl arr.toList (keys_ok hrel hes) with ⟨h1, h2⟩ | ⟨j, e0, h1, h2, h3⟩
      · have hn := (hf.1 h2).2 v
        rw [hn] at hk
        have hI3 := hI2.turnMap (es' := es ++ [(i, v)]) (arr' := arr.push ⟨a.eval oi, a.eval ov, clock⟩) (clock' := clock + 1) (by
          rw [Array.toList_push]
          refine List.pairwise_append.2 ⟨hd, List.pairwise_singleton _ _, fun e he e' he' => ?_⟩
          rw [List.mem_singleton] at he'
          subst he'
          exact h2 e he) (by rw [Array.toList_push, List.map_append, List.map_append, hrel]; simp [hu1, hvv])
        exact After.skip (hrun _ (by simp [Instr.mapUpdate, run_underlying hu, MapKept.run_getObj_map hb, hK.check w false hl, h1, MapKept.run_setObj_map _ hb, Result.andThen])) (MLe.refl M) (hI3.perm ((hp2 _).symm.append_right HF)) hk
      · have hn := (hf.2 j e0 hd h2 h3).2 v _ hvv (a.eval oi) rfl
        have hj : arr[j]? = some e0 := by rw [← Array.getElem?_toList]; exact h2
        have hI3 := hI2.turnMap (es' := updL es i v) (arr' := arr.modify j fun e => { e with key := a.eval oi, val := a.eval ov }) (clock' := clock) (by
          rw [Array.toList_modify]
          have hmk : (arr.toList.modify j fun e => { e with key := a.eval oi, val := a.eval ov }).map (·.key) = arr.toList.map (·.key) := by
            apply List.ext_getElem?
            intro m
            simp only [List.getElem?_map, List.getElem?_modify]
            split
            · rename_i hjm
              subst hjm
              rw [h2]
              simp [h3]
            · simp
          have hd2 : (arr.toList.map (·.key)).Pairwise (· ≠ ·) := List.pairwise_map.2 hd
          rw [← hmk] at hd2
          exact List.pairwise_map.1 hd2) (by rw [Array.toList_modify]; exact hn)
        refine After.skip (hrun _ ?_) (MLe.refl M) (hI3.perm ((hp2 _).symm.append_right HF)) hk
        have hst := hK.stays w hl
        simp [Instr.mapUpdate, run_underlying hu, MapKept.run_getObj_map hb, hK.check w false hl, h1, hj, h3, hst, MapKept.run_setObj_map _ hb, Result.andThen]
    · exact ho.elim
  · exact ho.elim
theorem step_sound {HF H : Heap} {n : Nat} {env tmp : Env} {a : Act} (hI : Inv gl w0 M (H ++ HF) w) (hF : Fr vv n env tmp M a) {o : Oper} {lo : LOp} (ht : trOp vv P o.op = some lo) {id : Nat} {K : LV → Heap → Prop} (ho : step P gl id lo (ev gl env tmp) H K) : After P gl w0 M HF o a w K := by
  have hρ : ∀ x y, trX vv x = some y → RV M (ev gl env tmp y) (a.eval x) := fun x y h => ev_sound hF hI.glob h
  have quiet : (q lo (ev gl env tmp) H).1 ∧ K (q lo (ev gl env tmp) H).2 H → After P gl w0 M HF o a w K := by
    rintro ⟨h1, h2⟩
    obtain ⟨v, r1, r2⟩ := q_sound hI hF ht h1
    exact After.value r1 (MLe.refl M) r2 hI h2
  cases hop : o.op with
  | box t x =>
    rw [hop] at ht
    simp only [trOp, Option.map_eq_some_iff] at ht
    obtain ⟨y, hy, rfl⟩ := ht
    exact box_sound hop hI (strip (hρ _ _ hy) ho.1.1) ho.1.2 ho.2
  | alloc t =>
    rw [hop] at ht
    simp only [trOp, Option.map_eq_some_iff] at ht
    obtain ⟨cs, hz, rfl⟩ := ht
    exact zero_sound hop hz hI ho
  | buildSlice t k parts =>
    rw [hop] at ht
    simp only [trOp] at ht
    split at ht
    · rename_i e hu
      split at ht
      · rename_i s z hs hz
        split at ht
        · cases ht
        · rename_i hr
          simp only [Option.map_eq_some_iff] at ht
          obtain ⟨parts', hp, rfl⟩ := ht
          have hle : ∀ M v out, RV M (.nsl s k out) v → RV M (.fsl s k out) v := fun M v out h => by
            simp only [RV] at h ⊢
            obtain ⟨h1, b, h2, _, h3⟩ := h
            exact ⟨h1, .inl ⟨b, 0, h2, h3⟩⟩
          split at ho
          · obtain ⟨⟨g1, g2, g3⟩, g4⟩ := ho
            exact mkX_sound hop hu hs hz hr hp hρ hI g1 g2 g3 (.nsl s k) (fun _ _ _ h => h) g4
          · obtain ⟨⟨g1, g2, g3⟩, g4⟩ := ho
            exact mkX_sound hop hu hs hz hr hp hρ hI g1 g2 g3 (.fsl s k) hle g4
      · cases ht
    · cases ht
  | makeSlice t l c =>
    rw [hop] at ht
    simp only [trOp] at ht
    split at ht
    · rename_i e l' c' hu h1 h2
      split at ht
      · rename_i s b z hs hb hz
        cases ht
        exact make_sound hop hu hs hb hz hI (strip (hρ _ _ h1) ho.1.1) (strip (hρ _ _ h2) ho.1.2.1) ho.1.2.2 ho.2
      · cases ht
    · cases ht
  | store t x y =>
    rw [hop] at ht
    simp only [trOp] at ht
    split at ht
    · rename_i s x' y' hs h1 h2
      cases ht
      exact store_sound hop hs hI (strip (hρ _ _ h1) ho.1.1) (strip (hρ _ _ h2) ho.1.2.1) ho.1.2.2 ho.2
    · cases ht
  | convert s d x =>
    rw [hop] at ht
    simp only [trOp] at ht
    split at ht
    · cases ht; exact quiet ho
    · cases ht; exact quiet ho
    · split at ht
      · cases ht; exact quiet ho
      · cases ht
    · rename_i e x' h1 h2 h3
      split at ht
      · rename_i he
        cases ht
        exact s2b_sound hop h1 h2 he hI (strip (hρ _ _ h3) ho.1.1) ho.1.2 ho.2
      · cases ht
    · rename_i e0 e x' h1 h2 h3
      split at ht
      · rename_i he
        split at ht
        · rename_i hsd
          subst hsd
          cases ht
          exact cvS_sound hop h2 he hI (strip (hρ _ _ h3) ho.1.1) ho.1.2 ho.2
        · cases ht
      · cases ht
    · cases ht
  | makeMap t r =>
    rw [hop] at ht
    simp only [trOp] at ht
    split at ht
    · rename_i k e hu
      cases ht
      exact mkMap_sound hop hu (.inl rfl) hI ho
    · rename_i k e kd n hu
      cases ht
      exact mkMap_sound hop hu (.inr ⟨_, _, rfl⟩) hI ho
    · cases ht
  | lookup t x i ok =>
    rw [hop] at ht
    simp only [trOp] at ht
    split at ht
    · rename_i k e x' i' hu h1 h2
      split at ht
      · rename_i z hz
        cases ht
        exact look_sound hop hu hz hI (strip (hρ _ _ h1) ho.1) (strip (hρ _ _ h2) ho.2.1) ho.2.2
      · cases ht
    · cases ht
  | mapUpdate t x i v =>
    rw [hop] at ht
    simp only [trOp] at ht
    split at ht
    · rename_i k e x' i' v' hu h1 h2 h3
      cases ht
      exact upd_sound hop hu hI (strip (hρ _ _ h1) ho.1) (strip (hρ _ _ h2) ho.2.1) (strip (hρ _ _ h3) ho.2.2.1) ho.2.2.2
    · cases ht
  | makeFunc fn first captured =>
    have ht' := ht
    rw [hop] at ht'
    cases fn with
    | func f =>
      simp only [trOp] at ht'
      split at ht'
      · simp only [Option.map_eq_some_iff] at ht'
        obtain ⟨caps, _, rfl⟩ := ht'
        exact quiet ho
      · cases ht'
    | _ => simp [trOp] at ht'
  | binOp op t x y yt =>
    have ht' := ht
    rw [hop] at ht'
    simp only [trOp] at ht'
    split at ht'
    · rename_i x' y' h1 h2
      have nilc : (op = .eql ∨ op = .neq) → ∀ e, P.underlying t = some (.slice e) → (if nilLit y' then some (LOp.isNil (op == .neq) x') else none) = some lo → After P gl w0 M HF o a w K := by
        intro h3 e hu h4
        split at h4
        · rename_i hn
          cases h4
          refine isNil_sound hop h3 hu hI (strip (hρ _ _ h1) ho.1) ?_ ho.2
          cases y with
          | const c =>
            simp only [trX, Option.map_eq_some_iff] at h2
            obtain ⟨v, hv, rfl⟩ := h2
            refine ⟨c, rfl, ?_⟩
            cases v with
            | fsl s n cs => cases n with
              | zero => exact ⟨s, cs, hv⟩
              | succ n => simp [nilLit] at hn
            | _ => simp [nilLit] at hn
          | tmp u => simp only [trX, Option.some.injEq] at h2; subst h2; split at hn <;> simp [nilLit] at hn
          | global g => simp only [trX, Option.some.injEq] at h2; subst h2; simp [nilLit] at hn
          | func f => simp only [trX, Option.some.injEq] at h2; subst h2; simp [nilLit] at hn
        · cases h4
      cases hl : lo with
      | isNil neg z =>
        have fin : (op = .eql ∨ op = .neq) → (match P.underlying t with
          | some (.int _) | some .string => some (LOp.bin op x' y')
          | some .bool => some (.eqB (op == .neq) x' y')
          | some (.pointer _) => some (.eqN (op == .neq) x' y')
          | some (.slice _) => if nilLit y' then some (.isNil (op == .neq) x') else none
          | some (.struct _) | some (.array _ _) =>
            if P.eqGuardType P.depth t then none
            else match leaves P 30 t, sizeAt P t with
              | some ls, some s => some (.eqS (op == .neq) s ls x' y')
              | _, _ => none
          | _ => none) = some lo → After P gl w0 M HF o a w K := by
          intro h3 h4
          split at h4
          · cases h4; cases hl
          · cases h4; cases hl
          · cases h4; cases hl
          · cases h4; cases hl
          · rename_i e hu; exact nilc h3 e hu h4
          · split at h4
            · cases h4
            · split at h4
              · cases h4; cases hl
              · cases h4
          · split at h4
            · cases h4
            · split at h4
              · cases h4; cases hl
              · cases h4
          · cases h4
        cases op <;> first
          | exact fin (.inl rfl) ht'
          | exact fin (.inr rfl) ht'
          | (cases ht'; cases hl)
      | _ =>
        refine quiet ?_
        have hq : isBin lo = true ∨ ∃ neg z, lo = .isNil neg z := by
          clear ho nilc quiet hl
          revert ht'
          cases op <;> simp only <;> intro ht' <;> (repeat' (first | (cases ht'; first | done | exact .inl rfl | exact .inr ⟨_, _, rfl⟩) | split at ht'))
        rcases hq with hq | ⟨neg, z, hq⟩
        · rw [hl] at hq ho ⊢
          first
            | exact ho
            | (simp [isBin] at hq; done)
        · rw [hl] at hq; cases hq
    · cases ht'
  | call c =>
    obtain ⟨callee, args, argTypes⟩ := c
    cases callee with
    | value f =>
      cases f with
      | func f =>
        rw [hop] at ht
        simp only [trOp] at ht
        split at ht
        · rename_i fn hf
          split at ht
          · cases ht
          · rename_i hn
            simp only [Option.map_eq_some_iff] at ht
            obtain ⟨args', ha, rfl⟩ := ht
            exact call_sound hop hf hn ha hρ hI ho.1 ho.2
        · cases ht
      | _ =>
        rw [hop] at ht
        simp only [trOp] at ht
        split at ht
        · rename_i x' as h1 h2
          cases ht
          exact callV_sound hop (strip (hρ _ _ h1) ho.1.1) h2 hρ hI ho.1.2.1 ho.1.2.2 ho.2
        · cases ht
    | invoke r m => rw [hop] at ht; simp [trOp] at ht
    | builtin b =>
      rw [hop] at ht
      simp only [trOp] at ht
      split at ht
      · split at ht
        · cases ht; exact quiet ho
        · cases ht; exact quiet ho
        · cases ht; exact quiet ho
        · cases ht
      · split at ht
        · cases ht; exact quiet ho
        · cases ht
      · rename_i x t e1 e2
        have ea : args = #[x] := Array.toList_inj.1 (by simpa using e1)
        have et : argTypes = #[t] := Array.toList_inj.1 (by simpa using e2)
        subst ea; subst et
        split at ht
        · rename_i e x' hu h1
          split at ht
          · rename_i s z hs hz
            split at ht
            · rename_i hzl
              cases ht
              exact clear_sound hop hu hs hz hzl hI (strip (hρ _ _ h1) ho.1) ho.2
            · cases ht
          · cases ht
        · cases ht
      · rename_i x y t u e1 e2
        have ea : args = #[x, y] := Array.toList_inj.1 (by simpa using e1)
        have et : argTypes = #[t, u] := Array.toList_inj.1 (by simpa using e2)
        subst ea; subst et
        split at ht
        · rename_i e e' x' y' hu huy h1 h2
          split at ht
          · rename_i s b z hs hb hz
            split at ht
            · cases ht
            · rename_i h0
              cases ht
              simp only [Bool.or_eq_true, decide_eq_true_eq, not_or] at h0
              revert ho
              split
              · intro ho
                exact appF_sound hop hu (.inr ⟨e', huy⟩) hs hb hz h0.1 h0.2 hI (strip (hρ _ _ h1) ho.1.1) (strip (hρ _ _ h2) ho.1.2.1) ho.1.2.2 ho.2
              · intro ho
                exact app_sound hop hu (.inr ⟨e', huy⟩) hs hb hz h0.1 h0.2 hI (strip (hρ _ _ h1) ho.1.1) (strip (hρ _ _ h2) ho.1.2.1) ho.1.2.2 ho.2
          · cases ht
        · rename_i e x' y' hu huy h1 h2
          split at ht
          · rename_i s b z hs hb hz
            split at ht
            · cases ht
            · rename_i h0
              cases ht
              simp only [Bool.or_eq_true, decide_eq_true_eq, not_or] at h0
              exact app_sound hop hu (.inl huy) hs hb hz h0.1 h0.2 hI (strip (hρ _ _ h1) ho.1.1) (strip (hρ _ _ h2) ho.1.2.1) ho.1.2.2 ho.2
          · cases ht
        · rename_i e k x' y' hu huy h1 h2
          split at ht
          · rename_i s b z hs hb hz
            split at ht
            · cases ht
            · rename_i h0
              cases ht
              simp only [Bool.or_eq_true, decide_eq_true_eq, not_or, bne_iff_ne, ne_eq, Decidable.not_not] at h0
              exact appZ_sound hop hu huy hs hb hz h0.1.1 h0.1.2 h0.2 hI (strip (hρ _ _ h1) ho.1.1) (strip (hρ _ _ h2) ho.1.2.1) ho.1.2.2 ho.2
          · cases ht
        · cases ht
      · rename_i x y t u e1 e2
        have ea : args = #[x, y] := Array.toList_inj.1 (by simpa using e1)
        have et : argTypes = #[t, u] := Array.toList_inj.1 (by simpa using e2)
        subst ea; subst et
        split at ht
        · rename_i e x' y' hu h1 h2
          simp only [Option.map_eq_some_iff] at ht
          obtain ⟨s, hs, rfl⟩ := ht
          exact copy_sound hop hu hs hI (strip (hρ _ _ h1) ho.1.1) (strip (hρ _ _ h2) ho.1.2.1) ho.1.2.2 ho.2
        · cases ht
      · split at ht
        · cases ht; exact quiet ho
        · cases ht
      · split at ht
        · cases ht; exact quiet ho
        · cases ht
      · cases ht
  | _ =>
    have ht' := ht
    rw [hop] at ht'
    simp only [trOp] at ht'
    first
      | (cases ht'; done)
      | (refine quiet ?_
         revert ho
         first
           | (simp only [Option.map_eq_some_iff] at ht'; obtain ⟨_, _, rfl⟩ := ht'; exact fun h => h)
           | (repeat' (first | (cases ht'; first | done | exact fun h => h) | split at ht' | (simp only [Option.map_eq_some_iff] at ht'; obtain ⟨_, _, rfl⟩ := ht'; exact fun h => h))))
end
end Go.Lx
