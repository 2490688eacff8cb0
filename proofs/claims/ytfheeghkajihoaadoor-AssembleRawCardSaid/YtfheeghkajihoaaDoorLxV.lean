/- More of the engine: what is owned is lent to a call that changes nothing. -/
import Derived.Test.YtfheeghkajihoaaDoorLxU
namespace Go.Lx
open Go
set_option linter.unusedSimpArgs false
set_option linter.unusedVariables false
variable {P : Program} {gl : Glob}
mutual
/-- no literal of which the block is known to be new -/
def noN : LV → Bool
  | .nsl _ _ _ => false
  | .rp cs _ => noNs cs
  | .agg cs => noNs cs
  | .tup cs => noNs cs
  | .sl _ _ cs => noNs cs
  | .osl _ _ _ _ cs => noNs cs
  | .fsl _ _ cs => noNs cs
  | .clo _ cs => noNs cs
  | .opt _ v => noN v
  | _ => true
def noNs : List LV → Bool
  | [] => true
  | c :: cs => noN c && noNs cs
end
theorem noNs_append : ∀ (xs ys : List LV), noNs (xs ++ ys) = (noNs xs && noNs ys)
  | [], ys => by simp [noNs]
  | x :: xs, ys => by simp [noNs, noNs_append xs ys, Bool.and_assoc]
theorem noNs_flat {α : Type} {f : α → List LV} : ∀ (l : List α), (∀ a ∈ l, noNs (f a) = true) → noNs (l.flatMap f) = true
  | [], _ => rfl
  | a :: l, h => by
    rw [List.flatMap_cons, noNs_append, h a (by simp), noNs_flat l fun b hb => h b (by simp [hb])]
    rfl
theorem noNs_take {cs : List LV} (h : noNs cs = true) (n : Nat) : noNs (cs.take n) = true := by
  have e := List.take_append_drop n cs
  rw [← e, noNs_append, Bool.and_eq_true] at h
  exact h.1
theorem noNs_drop {cs : List LV} (h : noNs cs = true) (n : Nat) : noNs (cs.drop n) = true := by
  have e := List.take_append_drop n cs
  rw [← e, noNs_append, Bool.and_eq_true] at h
  exact h.2
/-- the same cells, no block known to be new -/
def Imm.old (M : Imm) : Imm := ⟨M.f, fun _ => False⟩
mutual
theorem RV.old {M : Imm} : ∀ (x : LV) (v : Value), noN x = true → RV M x v → RV M.old x v
  | .any, _, _, _ => by simp [RV]
  | .int k n, v, _, h => by simpa [RV] using h
  | .bool b, v, _, h => by simpa [RV] using h
  | .str s, v, _, h => by simpa [RV] using h
  | .nil, v, _, h => by simpa [RV] using h
  | .ptr _ b off, v, _, h => by simpa [RV] using h
  | .rp cs off, v, hn, h => by
    simp only [RV, noN] at h hn ⊢
    obtain ⟨b, o, e, hc⟩ := h
    exact ⟨b, o, e, RCs.old cs b o hn hc⟩
  | .agg cs, v, hn, h => by
    simp only [RV, noN] at h hn ⊢
    obtain ⟨vs, e, hc, h1⟩ := h
    exact ⟨vs, e, RVs.old cs vs hn hc, h1⟩
  | .tup cs, v, hn, h => by
    simp only [RV, noN] at h hn ⊢
    obtain ⟨vs, e, hc⟩ := h
    exact ⟨vs, e, RVs.old cs vs hn hc⟩
  | .sl sz n cs, v, hn, h => by
    simp only [RV, noN] at h hn ⊢
    refine ⟨h.1, h.2.imp ?_ id⟩
    rintro ⟨b, o, cap, e, hle, hc⟩
    exact ⟨b, o, cap, e, hle, RCs.old cs b o hn hc⟩
  | .osl _ t sz n cs, v, hn, h => by
    simp only [RV, noN] at h hn ⊢
    refine ⟨h.1, h.2.imp ?_ id⟩
    rintro ⟨b, o, cap, e, hle, hc, hl⟩
    exact ⟨b, o, cap, e, hle, RCs.old cs b o hn hc, hl⟩
  | .fsl sz n cs, v, hn, h => by
    simp only [RV, noN] at h hn ⊢
    refine ⟨h.1, h.2.imp ?_ id⟩
    rintro ⟨b, o, e, hc⟩
    exact ⟨b, o, e, RCs.old cs b o hn hc⟩
  | .raw u, v, _, h => by simpa [RV] using h
  | .msl _ _ b off len cap, v, _, h => by simpa [RV] using h
  | .fn f, v, _, h => by simpa [RV] using h
  | .clo f cs, v, hn, h => by
    simp only [RV, noN] at h hn ⊢
    obtain ⟨vs, e, hc⟩ := h
    exact ⟨vs, e, RVs.old cs vs hn hc⟩
  | .opt g x, v, hn, h => by
    simp only [RV, noN] at h hn ⊢
    exact ⟨fun hg => RV.old x v hn (h.1 hg), h.2⟩
  | .nsl sz n cs, v, hn, h => by simp [noN] at hn
theorem RVs.old {M : Imm} : ∀ (cs : List LV) (vs : List Value), noNs cs = true → RVs M cs vs → RVs M.old cs vs
  | [], vs, _, h => by simpa [RVs] using h
  | c :: cs, vs, hn, h => by
    simp only [RVs, noNs, Bool.and_eq_true] at h hn ⊢
    obtain ⟨u, us, e, hu, hs⟩ := h
    exact ⟨u, us, e, RV.old c u hn.1 hu, RVs.old cs us hn.2 hs⟩
theorem RCs.old {M : Imm} : ∀ (cs : List LV) (b o : Nat), noNs cs = true → RCs M b o cs → RCs M.old b o cs
  | [], _, _, _, _ => by simp [RCs]
  | c :: cs, b, o, hn, h => by
    simp only [RCs, noNs, Bool.and_eq_true] at h hn ⊢
    obtain ⟨⟨u, hu, hv⟩, hs⟩ := h
    exact ⟨⟨u, hu, RV.old c u hn.1 hv⟩, RCs.old cs b (o + 1) hn.2 hs⟩
end
/-- values that point nowhere -/
def LV.plain : LV → Bool
  | .int _ _ | .bool _ | .str _ => true
  | _ => false
def LV.plains : LV → Bool
  | .tup vs => vs.all LV.plain
  | x => x.plain
theorem RV.plain {M M' : Imm} {x : LV} {v : Value} (hx : x.plain = true) (h : RV M x v) : RV M' x v := by
  cases x <;> simp only [LV.plain, Bool.false_eq_true] at hx <;> simpa only [RV] using h
theorem RVs.plain {M M' : Imm} : ∀ {xs : List LV} {vs : List Value}, xs.all LV.plain = true → RVs M xs vs → RVs M' xs vs
  | [], vs, _, h => by simpa only [RVs] using h
  | x :: xs, vs, hx, h => by
    simp only [List.all_cons, Bool.and_eq_true] at hx
    simp only [RVs] at h ⊢
    obtain ⟨u, us, e, h1, h2⟩ := h
    exact ⟨u, us, e, RV.plain hx.1 h1, RVs.plain hx.2 h2⟩
theorem RV.plains {M M' : Imm} {x : LV} {v : Value} (hx : x.plains = true) (h : RV M x v) : RV M' x v := by
  cases x with
  | tup vs =>
    simp only [LV.plains] at hx
    simp only [RV] at h ⊢
    obtain ⟨us, e, h1⟩ := h
    exact ⟨us, e, RVs.plain hx h1⟩
  | _ => exact RV.plain (by simpa only [LV.plains] using hx) h
/-- what is owned, seen as if it could not change, while a call runs -/
def Lent (gl : Glob) (H : Heap) (args : List LV) (H' : Heap) (args' : List LV) : Prop := ∀ w0 M HF w vs, Inv gl w0 M (H ++ HF) w → RVs M args vs → ∃ M1, Inv gl w0 M1 (H' ++ HF) w ∧ RVs M1 args' vs
theorem Lent.refl (H : Heap) (args : List LV) : Lent gl H args H args := fun _ M _ _ _ h1 h2 => ⟨M, h1, h2⟩
theorem Lent.trans {H1 H2 H3 : Heap} {a1 a2 a3 : List LV} (h : Lent gl H1 a1 H2 a2) (h' : Lent gl H2 a2 H3 a3) : Lent gl H1 a1 H3 a3 := fun w0 M HF w vs g1 g2 => by
  obtain ⟨M1, g3, g4⟩ := h w0 M HF w vs g1 g2
  exact h' w0 M1 HF w vs g3 g4
theorem Lent.pub {H : Heap} {args : List LV} (id : Nat) {b : Nat} {cs : List LV} (hH : getH H id = some (.blk b cs)) (ho : (pubAs id b cs args).1) : Lent gl H args (delH H id) (pubAs id b cs args).2 := fun w0 M HF w vs hI hv => by
  obtain ⟨p1, _⟩ := getH_perm hH
  obtain ⟨M', hM, hI', hc⟩ := (hI.perm (p1.append_right HF)).publish
  exact ⟨M', hI', pubAs_sound hM hc hv ho⟩
theorem LCalls.lend {f : FuncId} {args args' : List LV} {H H' : Heap} {K : LV → Heap → Prop} {r : LV} (hg : ∀ g, gl g = none) (hl : Lent gl H args H' args') (hn : noNs args' = true) (hp : Pure P gl f args' r) (hr : r.plains = true) (hk : K r H) : LCalls P gl f args H K := fun w0 M HF w vs hI hv => by
  obtain ⟨M1, h1, h2⟩ := hl w0 M HF w vs hI hv
  have h3 : Inv gl w M1.old ([] ++ []) w := ⟨RowKit.Below.refl _ _, fun b o v hv => h1.imm b o v hv, (fun e he => by simp at he), List.Pairwise.nil, (fun e he => by simp at he), (fun g cs hgc => by rw [hg] at hgc; cases hgc), fun b hb => False.elim hb, (fun e he => by simp at he)⟩
  refine (hp w M1.old [] w vs h3 (RVs.old _ _ hn h2)).mono ?_
  rintro e w' ⟨M', v, r', H1, h4, h5, h6, h7, h8, h9⟩
  subst h8
  exact ⟨M, v, r', H, MLe.refl M, h5, RV.plains hr h6, hI.same h7.below, hk⟩
theorem lend_T {f : FuncId} {args args' : List LV} {H H' : Heap} {F : Env → Env → Heap → Prop} {d : Nat} {env tmp : Env} {r : LV} (hg : ∀ g, gl g = none) (hl : Lent gl H args H' args') (hn : noNs args' = true) (hp : Pure P gl f args' r) (hr : r.plains = true) (hk : F ((d, r) :: env) tmp H) : LCalls P gl f args H (kvT gl F d env tmp) :=
  LCalls.lend hg hl hn hp hr ⟨_, _, _, EntsT.refl _ _ _ _, hk⟩
theorem lend_U {f : FuncId} {args args' : List LV} {H H' : Heap} {F : Env → Env → Heap → Prop} {d : Nat} {env tmp : Env} {r : LV} (hg : ∀ g, gl g = none) (hl : Lent gl H args H' args') (hn : noNs args' = true) (hp : Pure P gl f args' r) (hr : r.plains = true) (hk : F env ((d, r) :: tmp) H) : LCalls P gl f args H (kvU gl F d env tmp) :=
  LCalls.lend hg hl hn hp hr ⟨_, _, _, EntsT.refl _ _ _ _, hk⟩
end Go.Lx
