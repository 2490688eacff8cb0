/- The logical values of the engine, what they stand for in memory, and the invariant of a world. -/
import Derived.Orders
import Derived.Tactics
import Derived.Below
import Derived.Laws.IdiomCopy
import Derived.Laws.Cells
import Derived.Laws.Strings
import Derived.Laws.Entries
import Derived.ChangeKeysEq
import Derived.Laws.StructEq
import Derived.Laws.Tables
namespace Go.Lx
set_option linter.unusedSimpArgs false
set_option linter.unusedVariables false
structure Tok where
  b : Nat
  lo : Nat
  hi : Nat
inductive LV where
  | any
  | int (k : IntKind) (n : Int)
  | bool (b : Bool)
  | str (s : List UInt8)
  | nil
  | ptr (id b off : Nat)
  | rp (cs : List LV) (off : Nat)
  | agg (cs : List LV)
  | tup (vs : List LV)
  | sl (sz n : Nat) (cs : List LV)
  | osl (id : Nat) (t : Tok) (sz n : Nat) (cs : List LV)
  | fsl (sz n : Nat) (cs : List LV)
  | msl (id sz b off len cap : Nat)
  | raw (v : Value)
  | fn (f : Nat)
  | clo (f : Nat) (caps : List LV)
  | opt (g : Bool) (v : LV)
  | nsl (sz n : Nat) (cs : List LV)
  deriving Inhabited
structure Imm where
  f : Nat → Nat → Option Value
  new : Nat → Prop
instance : CoeFun Imm (fun _ => Nat → Nat → Option Value) := ⟨Imm.f⟩
mutual
def RV (M : Imm) : LV → Value → Prop
  | .any, _ => True
  | .int k n, v => v = .int k n
  | .bool b, v => v = .bool b
  | .str s, v => v = .string ⟨s.toArray⟩
  | .nil, v => v = .pointer none
  | .ptr _ b off, v => v = .pointer (some ⟨b, off, none⟩)
  | .rp cs off, v => ∃ b o, v = .pointer (some ⟨b, o + off, none⟩) ∧ RCs M b o cs
  | .agg cs, v => ∃ vs : List Value, v = .agg vs.toArray ∧ RVs M cs vs ∧ ∀ u ∈ vs, u.oneCell' = true
  | .tup cs, v => ∃ vs : List Value, v = .tuple vs.toArray ∧ RVs M cs vs
  | .sl sz n cs, v => cs.length = n * sz ∧ ((∃ b o cap, v = .slice (some ⟨b, o, none⟩) n cap ∧ n ≤ cap ∧ RCs M b o cs) ∨ (∃ a cap, v = .slice a 0 cap ∧ n = 0))
  | .osl _ t sz n cs, v => cs.length = n * sz ∧ ((∃ b o cap, v = .slice (some ⟨b, o, none⟩) n cap ∧ n ≤ cap ∧ RCs M b o cs ∧ (cap = n ∨ (b = t.b ∧ t.lo = o + n * sz ∧ t.hi = o + cap * sz))) ∨ (∃ a, v = .slice a 0 0 ∧ n = 0))
  | .fsl sz n cs, v => cs.length = n * sz ∧ ((∃ b o, v = .slice (some ⟨b, o, none⟩) n n ∧ RCs M b o cs) ∨ (∃ a, v = .slice a 0 0 ∧ n = 0))
  | .raw u, v => v = u
  | .msl _ _ b off len cap, v => v = .slice (some ⟨b, off, none⟩) len cap ∨ (cap = 0 ∧ len = 0 ∧ ∃ a, v = .slice a 0 0)
  | .fn f, v => v = .func (.func f) #[] #[]
  | .clo f cs, v => ∃ vs : List Value, v = .func (.func f) #[] vs.toArray ∧ RVs M cs vs
  | .opt g x, v => (g = true → RV M x v) ∧ (g = false → v = undef)
  | .nsl sz n cs, v => cs.length = n * sz ∧ ∃ b, v = .slice (some ⟨b, 0, none⟩) n n ∧ M.new b ∧ RCs M b 0 cs
def RVs (M : Imm) : List LV → List Value → Prop
  | [], vs => vs = []
  | c :: cs, vs => ∃ u us, vs = u :: us ∧ RV M c u ∧ RVs M cs us
def RCs (M : Imm) (b o : Nat) : List LV → Prop
  | [] => True
  | c :: cs => (∃ u, M b o = some u ∧ RV M c u) ∧ RCs M b (o + 1) cs
end
def MLe (M M' : Imm) : Prop := (∀ b o v, M b o = some v → M' b o = some v) ∧ ∀ b, M.new b → M'.new b
theorem MLe.refl (M : Imm) : MLe M M := ⟨fun _ _ _ h => h, fun _ h => h⟩
theorem MLe.trans {M M' M'' : Imm} (h : MLe M M') (h' : MLe M' M'') : MLe M M'' := ⟨fun b o v hv => h'.1 b o v (h.1 b o v hv), fun b hb => h'.2 b (h.2 b hb)⟩
mutual
theorem RV.mono {M M' : Imm} (hM : MLe M M') : ∀ (x : LV) (v : Value), RV M x v → RV M' x v
  | .any, _, _ => by simp [RV]
  | .int k n, v, h => by simpa [RV] using h
  | .bool b, v, h => by simpa [RV] using h
  | .str s, v, h => by simpa [RV] using h
  | .nil, v, h => by simpa [RV] using h
  | .ptr _ b off, v, h => by simpa [RV] using h
  | .rp cs off, v, h => by
    simp only [RV] at h ⊢
    obtain ⟨b, o, e, hc⟩ := h
    exact ⟨b, o, e, RCs.mono hM cs b o hc⟩
  | .agg cs, v, h => by
    simp only [RV] at h ⊢
    obtain ⟨vs, e, hc, h1⟩ := h
    exact ⟨vs, e, RVs.mono hM cs vs hc, h1⟩
  | .tup cs, v, h => by
    simp only [RV] at h ⊢
    obtain ⟨vs, e, hc⟩ := h
    exact ⟨vs, e, RVs.mono hM cs vs hc⟩
  | .sl sz n cs, v, h => by
    simp only [RV] at h ⊢
    refine ⟨h.1, h.2.imp ?_ id⟩
    rintro ⟨b, o, cap, e, hle, hc⟩
    exact ⟨b, o, cap, e, hle, RCs.mono hM cs b o hc⟩
  | .osl _ t sz n cs, v, h => by
    simp only [RV] at h ⊢
    refine ⟨h.1, h.2.imp ?_ id⟩
    rintro ⟨b, o, cap, e, hle, hc, hl⟩
    exact ⟨b, o, cap, e, hle, RCs.mono hM cs b o hc, hl⟩
  | .fsl sz n cs, v, h => by
    simp only [RV] at h ⊢
    refine ⟨h.1, h.2.imp ?_ id⟩
    rintro ⟨b, o, e, hc⟩
    exact ⟨b, o, e, RCs.mono hM cs b o hc⟩
  | .raw u, v, h => by simpa [RV] using h
  | .msl _ _ b off len cap, v, h => by simpa [RV] using h
  | .fn f, v, h => by simpa [RV] using h
  | .clo f cs, v, h => by
    simp only [RV] at h ⊢
    obtain ⟨vs, e, hc⟩ := h
    exact ⟨vs, e, RVs.mono hM cs vs hc⟩
  | .opt g x, v, h => by
    simp only [RV] at h ⊢
    exact ⟨fun hg => RV.mono hM x v (h.1 hg), h.2⟩
  | .nsl sz n cs, v, h => by
    simp only [RV] at h ⊢
    obtain ⟨h1, b, h2, h3, h4⟩ := h
    exact ⟨h1, b, h2, hM.2 b h3, RCs.mono hM cs b 0 h4⟩
theorem RVs.mono {M M' : Imm} (hM : MLe M M') : ∀ (cs : List LV) (vs : List Value), RVs M cs vs → RVs M' cs vs
  | [], vs, h => by simpa [RVs] using h
  | c :: cs, vs, h => by
    simp only [RVs] at h ⊢
    obtain ⟨u, us, e, hu, hs⟩ := h
    exact ⟨u, us, e, RV.mono hM c u hu, RVs.mono hM cs us hs⟩
theorem RCs.mono {M M' : Imm} (hM : MLe M M') : ∀ (cs : List LV) (b o : Nat), RCs M b o cs → RCs M' b o cs
  | [], _, _, _ => by simp [RCs]
  | c :: cs, b, o, h => by
    simp only [RCs] at h ⊢
    obtain ⟨⟨u, hu, hv⟩, hs⟩ := h
    exact ⟨⟨u, hM.1 _ _ _ hu, RV.mono hM c u hv⟩, RCs.mono hM cs b (o + 1) hs⟩
end
theorem RVs_length {M : Imm} : ∀ {cs : List LV} {vs : List Value}, RVs M cs vs → vs.length = cs.length
  | [], vs, h => by simp only [RVs] at h; simp [h]
  | c :: cs, vs, h => by
    simp only [RVs] at h
    obtain ⟨u, us, rfl, _, hs⟩ := h
    simp [RVs_length hs]
theorem RVs_get {M : Imm} : ∀ {cs : List LV} {vs : List Value}, RVs M cs vs → ∀ (i : Nat) (c : LV), cs[i]? = some c → ∃ v, vs[i]? = some v ∧ RV M c v
  | [], vs, h, i, c, hc => by simp at hc
  | c0 :: cs, vs, h, i, c, hc => by
    simp only [RVs] at h
    obtain ⟨u, us, rfl, hu, hs⟩ := h
    cases i with
    | zero => simp at hc; subst hc; exact ⟨u, by simp, hu⟩
    | succ i => simp at hc; simpa using RVs_get hs i c hc
theorem RVs_append {M : Imm} : ∀ {cs ds : List LV} {vs us : List Value}, RVs M cs vs → RVs M ds us → RVs M (cs ++ ds) (vs ++ us)
  | [], ds, vs, us, h, h' => by simp only [RVs] at h; subst h; simpa using h'
  | c :: cs, ds, vs, us, h, h' => by
    simp only [RVs] at h
    obtain ⟨u, us', rfl, hu, hs⟩ := h
    simp only [List.cons_append, RVs]
    exact ⟨u, us' ++ us, rfl, hu, RVs_append hs h'⟩
theorem RVs_of_get {M : Imm} : ∀ {cs : List LV} {vs : List Value}, vs.length = cs.length → (∀ (i : Nat) (c : LV) (v : Value), cs[i]? = some c → vs[i]? = some v → RV M c v) → RVs M cs vs
  | [], vs, hl, _ => by simp only [RVs]; simpa using hl
  | c :: cs, [], hl, _ => by simp at hl
  | c :: cs, u :: us, hl, h => by
    simp only [RVs]
    refine ⟨u, us, rfl, h 0 c u (by simp) (by simp), RVs_of_get (by simpa using hl) fun i c' v' hc hv => h (i + 1) c' v' (by simpa using hc) (by simpa using hv)⟩
theorem RCs_get {M : Imm} : ∀ {cs : List LV} {b o : Nat}, RCs M b o cs → ∀ (i : Nat) (c : LV), cs[i]? = some c → ∃ v, M b (o + i) = some v ∧ RV M c v
  | [], b, o, h, i, c, hc => by simp at hc
  | c0 :: cs, b, o, h, i, c, hc => by
    simp only [RCs] at h
    obtain ⟨⟨u, hu, hv⟩, hs⟩ := h
    cases i with
    | zero => simp at hc; subst hc; exact ⟨u, by simpa using hu, hv⟩
    | succ i =>
      simp at hc
      obtain ⟨v, h1, h2⟩ := RCs_get hs i c hc
      exact ⟨v, by rw [show o + (i + 1) = o + 1 + i by omega]; exact h1, h2⟩
theorem RCs_of_get {M : Imm} : ∀ {cs : List LV} {b o : Nat}, (∀ (i : Nat) (c : LV), cs[i]? = some c → ∃ v, M b (o + i) = some v ∧ RV M c v) → RCs M b o cs
  | [], b, o, _ => by simp [RCs]
  | c0 :: cs, b, o, h => by
    simp only [RCs]
    refine ⟨by simpa using h 0 c0 (by simp), RCs_of_get fun i c hc => ?_⟩
    obtain ⟨v, h1, h2⟩ := h (i + 1) c (by simpa using hc)
    exact ⟨v, by rw [show o + 1 + i = o + (i + 1) by omega]; exact h1, h2⟩
theorem RCs_append {M : Imm} {cs ds : List LV} {b o : Nat} (h : RCs M b o cs) (h' : RCs M b (o + cs.length) ds) : RCs M b o (cs ++ ds) := by
  refine RCs_of_get fun i c hc => ?_
  by_cases hi : i < cs.length
  · rw [List.getElem?_append_left hi] at hc; exact RCs_get h i c hc
  · rw [List.getElem?_append_right (by omega)] at hc
    obtain ⟨v, h1, h2⟩ := RCs_get h' _ c hc
    exact ⟨v, by rw [show o + i = o + cs.length + (i - cs.length) by omega]; exact h1, h2⟩
theorem RCs_drop {M : Imm} {cs : List LV} {b o : Nat} (k : Nat) (h : RCs M b o cs) : RCs M b (o + k) (cs.drop k) :=
  RCs_of_get fun i c hc => by
    rw [List.getElem?_drop] at hc
    obtain ⟨v, h1, h2⟩ := RCs_get h _ c hc
    exact ⟨v, by rw [show o + k + i = o + (k + i) by omega]; exact h1, h2⟩
theorem RCs_take {M : Imm} {cs : List LV} {b o : Nat} (k : Nat) (h : RCs M b o cs) : RCs M b o (cs.take k) :=
  RCs_of_get fun i c hc => by
    rw [List.getElem?_take] at hc
    split at hc
    · exact RCs_get h _ c hc
    · cases hc
def LV.scalar : LV → Bool
  | .int .. | .bool _ | .str _ | .nil | .ptr .. | .rp .. | .sl .. | .osl .. | .fsl .. | .msl .. | .fn _ | .clo .. | .nsl .. => true
  | .raw v => v.oneCell'
  | _ => false
theorem oneCell_of_scalar {M : Imm} {x : LV} {v : Value} (h : RV M x v) (hx : x.scalar = true) : v.oneCell' = true := by
  cases x <;> simp only [LV.scalar, Bool.false_eq_true] at hx <;> simp only [RV] at h
  all_goals first
    | (subst h; first | rfl | exact hx)
    | (rcases h with rfl | ⟨_, _, a, rfl⟩ <;> rfl)
    | (obtain ⟨b, o, rfl, _⟩ := h; rfl)
    | (obtain ⟨vs, rfl, _⟩ := h; rfl)
    | (obtain ⟨_, b, rfl, _⟩ := h; rfl)
    | (obtain ⟨_, ⟨b, o, cap, rfl, _⟩ | ⟨a, cap, rfl, _⟩⟩ := h <;> rfl)
    | (obtain ⟨_, ⟨b, o, cap, rfl, _⟩ | ⟨a, rfl, _⟩⟩ := h <;> rfl)
    | (obtain ⟨_, ⟨b, o, rfl, _⟩ | ⟨a, rfl, _⟩⟩ := h <;> rfl)
def kvOf1 : LV → Option Value
  | .int k n => some (.int k n)
  | .bool b => some (.bool b)
  | .str s => some (.string ⟨s.toArray⟩)
  | _ => none
def kvOfs : List LV → Option (List Value)
  | [] => some []
  | x :: r => match kvOf1 x, kvOfs r with
    | some v, some vs => some (v :: vs)
    | _, _ => none
def kvOf : LV → Option Value
  | .agg cs => (kvOfs cs).map fun vs => .agg vs.toArray
  | x => kvOf1 x
theorem RV_kvOf1 {M : Imm} {x : LV} {v : Value} (h : kvOf1 x = some v) : RV M x v ∧ v.oneCell' = true := by
  cases x <;> simp only [kvOf1, Option.some.injEq, reduceCtorEq] at h <;> subst h <;> exact ⟨by simp [RV], rfl⟩
theorem RVs_kvOfs {M : Imm} : ∀ {xs : List LV} {vs : List Value}, kvOfs xs = some vs → RVs M xs vs ∧ ∀ u ∈ vs, u.oneCell' = true
  | [], vs, h => by
    simp only [kvOfs, Option.some.injEq] at h
    subst h
    exact ⟨by simp [RVs], by simp⟩
  | x :: xs, vs, h => by
    simp only [kvOfs] at h
    split at h
    · rename_i v us h1 h2
      cases h
      obtain ⟨a, b⟩ := RV_kvOf1 (M := M) h1
      obtain ⟨c, d⟩ := RVs_kvOfs (M := M) h2
      refine ⟨by simp only [RVs]; exact ⟨v, us, rfl, a, c⟩, fun u hu => ?_⟩
      rcases List.mem_cons.1 hu with rfl | hu
      · exact b
      · exact d u hu
    · cases h
theorem RV_kvOf {M : Imm} {x : LV} {v : Value} (h : kvOf x = some v) : RV M x v := by
  cases x with
  | agg cs =>
    simp only [kvOf, Option.map_eq_some_iff] at h
    obtain ⟨vs, h1, rfl⟩ := h
    obtain ⟨a, b⟩ := RVs_kvOfs (M := M) h1
    simp only [RV]
    exact ⟨vs, rfl, a, b⟩
  | _ => exact (RV_kvOf1 (by simpa only [kvOf] using h)).1
theorem kvOf1_RV {M : Imm} {x : LV} {u v : Value} (h : kvOf1 x = some u) (hv : RV M x v) : v = u := by
  cases x <;> simp only [kvOf1, Option.some.injEq, reduceCtorEq] at h <;> subst h <;> simpa only [RV] using hv
theorem kvOfs_RVs {M : Imm} : ∀ {xs : List LV} {us vs : List Value}, kvOfs xs = some us → RVs M xs vs → vs = us
  | [], us, vs, h, hv => by
    simp only [kvOfs, Option.some.injEq] at h
    subst h
    simpa only [RVs] using hv
  | x :: xs, us, vs, h, hv => by
    simp only [kvOfs] at h
    split at h
    · rename_i v ws h1 h2
      cases h
      simp only [RVs] at hv
      obtain ⟨y, ys, rfl, a, b⟩ := hv
      rw [kvOf1_RV h1 a, kvOfs_RVs h2 b]
    · cases h
theorem kvOf_RV {M : Imm} {x : LV} {u v : Value} (h : kvOf x = some u) (hv : RV M x v) : v = u := by
  cases x with
  | agg cs =>
    simp only [kvOf, Option.map_eq_some_iff] at h
    obtain ⟨us, h1, rfl⟩ := h
    simp only [RV] at hv
    obtain ⟨vs, rfl, a, _⟩ := hv
    rw [kvOfs_RVs h1 a]
  | _ => exact kvOf1_RV (by simpa only [kvOf] using h) hv
inductive Ent where
  | blk (b : Nat) (cs : List LV)
  | tok (t : Tok)
  | map (b : Nat) (es : List (LV × LV))
def Ent.b : Ent → Nat
  | .blk b _ => b
  | .tok t => t.b
  | .map b _ => b
def Ent.reg : Ent → Nat → Nat → Prop
  | .blk b cs, b', o => b' = b ∧ o < cs.length
  | .tok t, b', o => b' = t.b ∧ t.lo ≤ o ∧ o < t.hi
  | .map b _, b', o => b' = b ∧ o = 0
abbrev Heap := List (Nat × Ent)
abbrev Env := List (Nat × LV)
def entOK (M : Imm) (w : World) : Ent → Prop
  | .blk b cs => ∀ (i : Nat) (c : LV), cs[i]? = some c → ∃ u, w.cell? ⟨b, i, none⟩ = some u ∧ w.frozen? ⟨b, i, none⟩ = false ∧ RV M c u ∧ u.oneCell' = true
  | .tok t => ∀ o, t.lo ≤ o → o < t.hi → (∃ u, w.cell? ⟨t.b, o, none⟩ = some u) ∧ w.frozen? ⟨t.b, o, none⟩ = false
  | .map b es => ∃ arr clock, w.heap[b]? = some (.map arr clock) ∧ (arr.toList.Pairwise fun e e' => e.key ≠ e'.key) ∧ arr.toList.map (fun e => (some e.key, some e.val)) = es.map fun p => (kvOf p.1, kvOf p.2)
def Apart (e e' : Nat × Ent) : Prop := ∀ b o, e.2.reg b o → ¬ e'.2.reg b o
theorem Apart.symm {e e' : Nat × Ent} (h : Apart e e') : Apart e' e := fun b o h' h'' => h b o h'' h'
abbrev Glob := Nat → Option (List LV)
def plainE (w : World) : Ent → Prop
  | .blk b cs => cs ≠ [] → ∀ o, w.frozen? ⟨b, o, none⟩ = false
  | _ => True
structure Inv (gl : Glob) (w0 : World) (M : Imm) (H : Heap) (w : World) : Prop where
  below : RowKit.Below w0.heap.size w0 w
  imm : ∀ b o v, M b o = some v → w.cell? ⟨b, o, none⟩ = some v ∧ v.oneCell' = true
  own : ∀ e ∈ H, (∀ b o, e.2.reg b o → w0.heap.size ≤ b) ∧ entOK M w e.2
  sep : H.Pairwise Apart
  free : ∀ e ∈ H, ∀ b o, e.2.reg b o → M b o = none
  glob : ∀ g cs, gl g = some cs → RCs M g 0 cs
  new : ∀ b, M.new b → w0.heap.size ≤ b ∧ ∃ t N, w.shape? b = some (t, N) ∧ ∀ o, o < N → ∃ v, M b o = some v
  plain : ∀ e ∈ H, plainE w e.2
theorem Inv.perm {gl : Glob} {w0 : World} {M : Imm} {H H' : Heap} {w : World} (h : Inv gl w0 M H w) (p : H.Perm H') : Inv gl w0 M H' w :=
  { h with
    own := fun e he => h.own e (p.mem_iff.2 he)
    sep := (p.pairwise_iff (fun h => Apart.symm h)).1 h.sep
    free := fun e he => h.free e (p.mem_iff.2 he)
    plain := fun e he => h.plain e (p.mem_iff.2 he) }
theorem Inv.sub {gl : Glob} {w0 : World} {M : Imm} {H H' : Heap} {w : World} (h : Inv gl w0 M H w) (p : H'.Sublist H) : Inv gl w0 M H' w :=
  { h with
    own := fun e he => h.own e (p.mem he)
    sep := h.sep.sublist p
    free := fun e he => h.free e (p.mem he)
    plain := fun e he => h.plain e (p.mem he) }
theorem Inv.names {gl : Glob} {w0 : World} {M : Imm} {w : World} {H H' : Heap} (h : Inv gl w0 M H w) (hn : H.map Prod.snd = H'.map Prod.snd) : Inv gl w0 M H' w := by
  have key : ∀ {H H' : Heap}, H.map Prod.snd = H'.map Prod.snd → ∀ e ∈ H', ∃ e0 ∈ H, e0.2 = e.2 := by
    intro H H' hn e he
    have : e.2 ∈ H.map Prod.snd := by rw [hn]; exact List.mem_map.2 ⟨e, he, rfl⟩
    obtain ⟨e0, h1, h2⟩ := List.mem_map.1 this
    exact ⟨e0, h1, h2⟩
  refine ⟨h.below, h.imm, fun e he => ?_, ?_, fun e he => ?_, h.glob, h.new, fun e he => ?_⟩
  · obtain ⟨e0, h1, h2⟩ := key hn e he
    rw [← h2]; exact h.own e0 h1
  · have h1 : (H.map Prod.snd).Pairwise fun a b => ∀ b' o, a.reg b' o → ¬ b.reg b' o := by
      rw [List.pairwise_map]; exact h.sep
    rw [hn, List.pairwise_map] at h1
    exact h1
  · obtain ⟨e0, h1, h2⟩ := key hn e he
    rw [← h2]; exact h.free e0 h1
  · obtain ⟨e0, h1, h2⟩ := key hn e he
    rw [← h2]; exact h.plain e0 h1
theorem plainE.of {w w' : World} {e : Ent} (h : plainE w e) (hf : ∀ b cs, e = .blk b cs → cs ≠ [] → ∀ o, w'.frozen? ⟨b, o, none⟩ = w.frozen? ⟨b, o, none⟩) : plainE w' e := by
  cases e with
  | blk b cs => intro hne o; rw [hf b cs rfl hne]; exact h hne o
  | tok t => trivial
  | map b es => trivial
theorem plain_cons {w : World} {H : Heap} {e0 : Nat × Ent} (h0 : plainE w e0.2) (h : ∀ e ∈ H, plainE w e.2) : ∀ e ∈ e0 :: H, plainE w e.2 := fun e he => by
  rcases List.mem_cons.1 he with rfl | he
  · exact h0
  · exact h e he
def get : Env → Nat → LV
  | [], _ => .any
  | (i, v) :: r, t => if i = t then v else get r t
structure Fr (vs : Nat → Bool) (n : Nat) (env tmp : Env) (M : Imm) (a : Act) : Prop where
  size : a.tmps.size = n
  defers : a.defers = []
  vars : ∀ t, vs t = true → RV M (get env t) (a.tmps.getD t undef)
  tmps : ∀ t, vs t = false → RV M (get tmp t) (a.tmps.getD t undef)
theorem Fr.mono {vs : Nat → Bool} {n : Nat} {env tmp : Env} {M M' : Imm} {a : Act} (h : Fr vs n env tmp M a) (hM : MLe M M') : Fr vs n env tmp M' a :=
  ⟨h.size, h.defers, fun t ht => RV.mono hM _ _ (h.vars t ht), fun t ht => RV.mono hM _ _ (h.tmps t ht)⟩
end Go.Lx
namespace Go.Lx
set_option linter.unusedSimpArgs false
set_option linter.unusedVariables false
open RowKit
theorem addr_add (b o n : Nat) : (⟨b, o, none⟩ : Addr).add n = ⟨b, o + n, none⟩ := by
  unfold Addr.add; split <;> simp_all
theorem cell_lt {w : World} {b o : Nat} {v : Value} (h : w.cell? ⟨b, o, none⟩ = some v) : b < w.heap.size := by
  unfold World.cell? at h
  split at h
  · rename_i c t f hb
    rcases Nat.lt_or_ge b w.heap.size with hlt | hge
    · exact hlt
    · simp [Array.getElem?_eq_none hge] at hb
  · cases h
theorem run_loadCells_at {P : Program} {w : World} (b o : Nat) (vs : List Value) (h : ∀ i v, vs[i]? = some v → w.cell? ⟨b, o + i, none⟩ = some v) :
    (loadCells ⟨b, o, none⟩ vs.length).run P w = .ok vs.toArray w :=
  run_loadCells_list (P := P) (w := w) ⟨b, o, none⟩ vs (fun j v hj => by rw [addr_add]; exact h j v hj)
theorem Inv.same_heap {gl : Glob} {w0 : World} {M : Imm} {H : Heap} {w w' : World} (h : Inv gl w0 M H w) (hh : w'.heap = w.heap) (ho : w'.os = w.os) (hp : w'.output = w.output) (ht : w'.tape = w.tape) : Inv gl w0 M H w' := by
  have hc : ∀ a, w'.cell? a = w.cell? a := fun a => by simp [World.cell?, hh]
  have hf : ∀ a, w'.frozen? a = w.frozen? a := fun a => by simp [World.frozen?, hh]
  refine ⟨⟨ho.trans h.below.os, ht.trans h.below.tape, hp.trans h.below.output, by rw [hh]; exact h.below.size, fun k hk => by rw [hh]; exact h.below.block k hk⟩, fun b o v hv => ?_, fun e he => ?_, h.sep, h.free, h.glob, fun b hb => by simpa only [World.shape?, hh] using h.new b hb, fun e he => (h.plain e he).of fun b cs _ _ o => hf _⟩
  · rw [hc]; exact h.imm b o v hv
  · obtain ⟨h1, h3⟩ := h.own e he
    refine ⟨h1, ?_⟩
    generalize e.2 = e' at h3
    cases e' with
    | blk b cs => simp only [entOK] at h3 ⊢; simpa only [hc, hf] using h3
    | tok t => simp only [entOK] at h3 ⊢; simpa only [hc, hf] using h3
    | map b es => simp only [entOK] at h3 ⊢; rw [hh]; exact h3
theorem Inv.drew {gl : Glob} {w0 : World} {M : Imm} {H : Heap} {w : World} (h : Inv gl w0 M H w) (n : Nat) : Inv gl w0 M H { w with drawn := n } :=
  h.same_heap rfl rfl rfl rfl
theorem shape_lt {w : World} {b : Nat} {x : TypeId × Nat} (h : w.shape? b = some x) : b < w.heap.size := by
  unfold World.shape? at h
  split at h
  · rename_i c t f hb
    rcases Nat.lt_or_ge b w.heap.size with hlt | hge
    · exact hlt
    · simp [Array.getElem?_eq_none hge] at hb
  · cases h
theorem push_shape (w : World) (c : Array Value) (t : TypeId) (fz : Nat × Nat) (b : Nat) (hb : b < w.heap.size) :
    World.shape? { w with heap := w.heap.push (.cells c t fz) } b = w.shape? b := by
  simp only [World.shape?]
  rw [Array.getElem?_push, if_neg (by omega)]
theorem setCell_shape (w : World) (a : Addr) (v : Value) (b : Nat) : (w.setCell a v).shape? b = w.shape? b := by
  simp only [World.shape?, World.setCell, Array.getElem?_modify]
  by_cases h : a.block = b
  · subst h
    rw [if_pos rfl]
    cases hb : w.heap[a.block]? with
    | none => rfl
    | some o =>
      cases o <;> simp
      split <;> simp
  · rw [if_neg h]
theorem setCells_shape (b : Nat) : ∀ (vs : List Value) (o : Nat) (w : World) (b' : Nat), (w.setCells b o vs).shape? b' = w.shape? b'
  | [], _, _, _ => rfl
  | v :: r, o, w, b' => by rw [World.setCells, setCells_shape b r, setCell_shape]
theorem push_cell (w : World) (c : Array Value) (t : TypeId) (fz : Nat × Nat) (b o : Nat) (hb : b ≠ w.heap.size) :
    World.cell? { w with heap := w.heap.push (.cells c t fz) } ⟨b, o, none⟩ = w.cell? ⟨b, o, none⟩ := by
  simp only [World.cell?]
  rw [Array.getElem?_push, if_neg hb]
theorem push_frozen (w : World) (c : Array Value) (t : TypeId) (fz : Nat × Nat) (b o : Nat) (hb : b ≠ w.heap.size) :
    World.frozen? { w with heap := w.heap.push (.cells c t fz) } ⟨b, o, none⟩ = w.frozen? ⟨b, o, none⟩ := by
  simp only [World.frozen?]
  rw [Array.getElem?_push, if_neg hb]
theorem push_new (w : World) (c : Array Value) (t : TypeId) (fz : Nat × Nat) (o : Nat) :
    World.cell? { w with heap := w.heap.push (.cells c t fz) } ⟨w.heap.size, o, none⟩ = c[o]? := by
  simp [World.cell?]
theorem push_new_frozen (w : World) (c : Array Value) (t : TypeId) (fz : Nat × Nat) (o : Nat) (h : ¬ (fz.1 ≤ o ∧ o < fz.2)) :
    World.frozen? { w with heap := w.heap.push (.cells c t fz) } ⟨w.heap.size, o, none⟩ = false := by
  simp only [World.frozen?, Array.getElem?_push_size]
  simp only [Bool.and_eq_false_iff, decide_eq_false_iff_not]
  omega
theorem entOK.push {M : Imm} {w : World} {e : Ent} (h : entOK M w e) (c : Array Value) (t : TypeId) (fz : Nat × Nat) : entOK M { w with heap := w.heap.push (.cells c t fz) } e := by
  cases e with
  | blk b cs =>
    simp only [entOK] at h ⊢
    intro i c' hc
    obtain ⟨u, h1, h2, h3⟩ := h i c' hc
    have hb := cell_lt h1
    exact ⟨u, by rw [push_cell _ _ _ _ _ _ (by omega)]; exact h1, by rw [push_frozen _ _ _ _ _ _ (by omega)]; exact h2, h3⟩
  | tok τ =>
    simp only [entOK] at h ⊢
    intro o h1 h2
    obtain ⟨⟨u, h3⟩, h4⟩ := h o h1 h2
    have hb := cell_lt h3
    exact ⟨⟨u, by rw [push_cell _ _ _ _ _ _ (by omega)]; exact h3⟩, by rw [push_frozen _ _ _ _ _ _ (by omega)]; exact h4⟩
  | map b es =>
    simp only [entOK] at h ⊢
    obtain ⟨arr, clock, h1, h2⟩ := h
    have hb : b < w.heap.size := (Array.getElem?_eq_some_iff.1 h1).1
    exact ⟨arr, clock, by rw [Array.getElem?_push, if_neg (by omega)]; exact h1, h2⟩
theorem below_push {w0 w : World} (h : Below w0.heap.size w0 w) (o : Obj) : Below w0.heap.size w0 { w with heap := w.heap.push o } :=
  ⟨h.os, h.tape, h.output, by have := h.size; simp; omega, fun k hk => by
    have := h.size
    show (w.heap.push o)[k]? = _
    rw [Array.getElem?_push, if_neg (by omega)]; exact h.block k hk⟩
theorem Inv.imm_lt {gl : Glob} {w0 : World} {M : Imm} {H : Heap} {w : World} (h : Inv gl w0 M H w) {b o : Nat} {v : Value} (hv : M b o = some v) : b < w.heap.size :=
  cell_lt (h.imm b o v hv).1
theorem entOK.lt {M : Imm} {w : World} {e : Ent} (h : entOK M w e) {b o : Nat} (hr : e.reg b o) : b < w.heap.size := by
  cases e with
  | blk b2 cs =>
    simp only [entOK, Ent.reg] at h hr
    obtain ⟨rfl, hlt⟩ := hr
    obtain ⟨u, h1, _⟩ := h o cs[o] (by simp [hlt])
    exact cell_lt h1
  | tok τ =>
    simp only [entOK, Ent.reg] at h hr
    obtain ⟨rfl, h1, h2⟩ := hr
    obtain ⟨⟨u, h3⟩, _⟩ := h o h1 h2
    exact cell_lt h3
  | map b2 es =>
    simp only [entOK, Ent.reg] at h hr
    obtain ⟨rfl, _⟩ := hr
    obtain ⟨arr, clock, h1, _⟩ := h
    exact (Array.getElem?_eq_some_iff.1 h1).1
theorem Ent.reg_b {e : Ent} {b o : Nat} (h : e.reg b o) : b = e.b := by
  cases e <;> simp only [Ent.reg, Ent.b] at h ⊢ <;> exact h.1
theorem Inv.push {gl : Glob} {w0 : World} {M : Imm} {H : Heap} {w : World} (h : Inv gl w0 M H w) (c : Array Value) (t : TypeId) (fz : Nat × Nat) : Inv gl w0 M H { w with heap := w.heap.push (.cells c t fz) } :=
  ⟨below_push h.below _, fun b o v hv => by rw [push_cell _ _ _ _ _ _ (by have := h.imm_lt hv; omega)]; exact h.imm b o v hv,
   fun e he => by
    obtain ⟨h1, h3⟩ := h.own e he
    exact ⟨h1, h3.push _ _ _⟩, h.sep, h.free, h.glob, fun b hb => by
    obtain ⟨h1, t', N, h2, h3⟩ := h.new b hb
    exact ⟨h1, t', N, by rw [push_shape _ _ _ _ _ (shape_lt h2)]; exact h2, h3⟩,
   fun e he => (h.plain e he).of fun b cs hb hne o => push_frozen _ _ _ _ _ _ (by
    have := (h.own e he).2.lt (b := b) (o := 0) (by rw [hb]; exact ⟨rfl, List.length_pos_iff.2 hne⟩)
    omega)⟩
theorem Inv.push_own {gl : Glob} {w0 : World} {M : Imm} {H : Heap} {w : World} (h : Inv gl w0 M H w) (id : Nat) (vs : List Value) (cs : List LV) (t : TypeId) (hv : RVs M cs vs) (h1 : ∀ v ∈ vs, v.oneCell' = true) (fz : Nat × Nat) (hfz : ∀ o, ¬ (fz.1 ≤ o ∧ o < fz.2)) :
    Inv gl w0 M ((id, .blk w.heap.size cs) :: H) { w with heap := w.heap.push (.cells vs.toArray t fz) } := by
  have hp := h.push vs.toArray t fz
  refine ⟨hp.below, hp.imm, fun e he => ?_, ?_, fun e he => ?_, hp.glob, hp.new, plain_cons (fun _ o => push_new_frozen _ _ _ _ _ (hfz o)) hp.plain⟩
  · rcases List.mem_cons.1 he with rfl | he
    · refine ⟨fun b o hr => by have e1 := Ent.reg_b hr; simp only [Ent.b] at e1; rw [e1]; exact h.below.size, ?_⟩
      simp only [entOK]
      intro i c hc
      obtain ⟨u, hu, hru⟩ := RVs_get hv i c hc
      refine ⟨u, by rw [push_new]; simpa using hu, push_new_frozen _ _ _ _ _ (hfz i), hru, h1 u (List.mem_of_getElem? hu)⟩
    · exact hp.own e he
  · refine List.pairwise_cons.2 ⟨fun e he b o hr hr' => ?_, hp.sep⟩
    have := (h.own e he).2.lt hr'
    have e1 := Ent.reg_b hr
    simp only [Ent.b] at e1
    omega
  · rcases List.mem_cons.1 he with rfl | he
    · intro b o hr
      have e1 := Ent.reg_b hr
      simp only [Ent.b] at e1
      cases hm : M b o with
      | none => rfl
      | some v => have := h.imm_lt hm; omega
    · exact hp.free e he
theorem Inv.publish {gl : Glob} {w0 : World} {M : Imm} {H : Heap} {w : World} {id b : Nat} {cs : List LV} (h : Inv gl w0 M ((id, .blk b cs) :: H) w) :
    ∃ M', MLe M M' ∧ Inv gl w0 M' H w ∧ RCs M' b 0 cs := by
  obtain ⟨hlo, hok⟩ := h.own _ (List.mem_cons_self ..)
  have hfree := h.free _ (List.mem_cons_self ..)
  simp only [Ent.reg] at hfree
  let M' : Imm := ⟨fun b' o => if b' = b ∧ o < cs.length then w.cell? ⟨b, o, none⟩ else M b' o, M.new⟩
  have hM : MLe M M' := by
    refine ⟨fun b' o v hv => ?_, fun _ h => h⟩
    show (if b' = b ∧ o < cs.length then w.cell? ⟨b, o, none⟩ else M b' o) = some v
    split
    · rename_i hc
      have := hfree b' o hc
      rw [this] at hv; cases hv
    · exact hv
  have hsep := List.pairwise_cons.1 h.sep
  simp only [entOK] at hok
  refine ⟨M', hM, ⟨h.below, fun b' o v hv => ?_, fun e he => ?_, hsep.2, fun e he b' o hr => ?_, fun g cs' hg => RCs.mono hM _ _ _ (h.glob g cs' hg), fun b' hb => (h.new b' hb).imp (fun h => h) fun ⟨t, N, h1, h2⟩ => ⟨t, N, h1, fun o ho => (h2 o ho).imp fun v hv => hM.1 _ _ _ hv⟩, fun e he => h.plain e (List.mem_cons_of_mem _ he)⟩, RCs_of_get fun i c hc => ?_⟩
  · change (if b' = b ∧ o < cs.length then w.cell? ⟨b, o, none⟩ else M b' o) = some v at hv
    split at hv
    · rename_i hc
      obtain ⟨rfl, hlt'⟩ := hc
      refine ⟨hv, ?_⟩
      obtain ⟨u, h1, _, _, h4⟩ := hok o cs[o] (by simp [hlt'])
      rw [h1] at hv; cases hv; exact h4
    · exact h.imm b' o v hv
  · obtain ⟨h1, h3⟩ := h.own e (List.mem_cons_of_mem _ he)
    refine ⟨h1, ?_⟩
    cases he2 : e.2 with
    | blk b2 cs2 =>
      rw [he2] at h3
      simp only [entOK] at h3 ⊢
      intro i c hc
      obtain ⟨u, a1, a2, a3, a4⟩ := h3 i c hc
      exact ⟨u, a1, a2, RV.mono hM _ _ a3, a4⟩
    | tok τ => rw [he2] at h3; exact h3
    | map b2 es => rw [he2] at h3; exact h3
  · show (if b' = b ∧ o < cs.length then w.cell? ⟨b, o, none⟩ else M b' o) = none
    split
    · rename_i hc
      exact absurd hr (hsep.1 e he b' o (by simpa [Ent.reg] using hc))
    · exact h.free e (List.mem_cons_of_mem _ he) b' o hr
  · have hlt' : i < cs.length := by
      rcases Nat.lt_or_ge i cs.length with h' | h'
      · exact h'
      · rw [List.getElem?_eq_none h'] at hc; cases hc
    obtain ⟨u, h1, _, h3, _⟩ := hok i c hc
    refine ⟨u, ?_, RV.mono hM _ _ h3⟩
    show (if b = b ∧ 0 + i < cs.length then w.cell? ⟨b, 0 + i, none⟩ else M b (0 + i)) = some u
    rw [if_pos ⟨rfl, by omega⟩, Nat.zero_add]; exact h1
theorem setCell_map {w : World} {a : Addr} {u : Value} {b2 : Nat} {arr : Array MapEntry} {clock : Nat} (h : w.heap[b2]? = some (.map arr clock)) : (w.setCell a u).heap[b2]? = some (.map arr clock) := by
  simp only [World.setCell, Array.getElem?_modify]
  split
  · rename_i e; subst e; rw [h]; rfl
  · exact h
theorem setCells_map {b2 : Nat} {arr : Array MapEntry} {clock : Nat} (b : Nat) : ∀ (vs : List Value) (o : Nat) (w : World), w.heap[b2]? = some (.map arr clock) → (w.setCells b o vs).heap[b2]? = some (.map arr clock)
  | [], _, _, h => h
  | v :: r, o, w, h => by rw [World.setCells]; exact setCells_map b r _ _ (setCell_map h)
theorem entOK.stored {M : Imm} {w : World} {b o : Nat} {vs : List Value} {e : Ent} (h : entOK M w e) (hd : ∀ j, j < vs.length → ¬ e.reg b (o + j)) : entOK M (w.setCells b o vs) e := by
  have out : ∀ i, e.reg e.b i → (w.setCells b o vs).cell? ⟨e.b, i, none⟩ = w.cell? ⟨e.b, i, none⟩ := by
    intro i hi
    refine World.cell?_setCells_out b vs o w _ (fun h1 _ => ?_)
    simp only at h1
    by_cases h2 : i < o
    · exact Or.inl h2
    · right
      rcases Nat.lt_or_ge i (o + vs.length) with h3 | h3
      · refine absurd ?_ (hd (i - o) (by omega))
        rw [show o + (i - o) = i by omega, ← h1]; exact hi
      · exact h3
  cases e with
  | blk b2 cs =>
    simp only [entOK] at h ⊢
    intro i c hc
    obtain ⟨u, a1, a2, a3⟩ := h i c hc
    have hlt' : i < cs.length := by
      rcases Nat.lt_or_ge i cs.length with h' | h'
      · exact h'
      · rw [List.getElem?_eq_none h'] at hc; cases hc
    have ho := out i ⟨rfl, hlt'⟩
    simp only [Ent.b] at ho
    exact ⟨u, by rw [ho]; exact a1, by rw [World.frozen?_setCells]; exact a2, a3⟩
  | tok τ =>
    simp only [entOK] at h ⊢
    intro i h1 h2
    obtain ⟨⟨u, a1⟩, a2⟩ := h i h1 h2
    have ho := out i ⟨rfl, h1, h2⟩
    simp only [Ent.b] at ho
    exact ⟨⟨u, by rw [ho]; exact a1⟩, by rw [World.frozen?_setCells]; exact a2⟩
  | map b2 es =>
    simp only [entOK] at h ⊢
    obtain ⟨arr, clock, a1, a2⟩ := h
    exact ⟨arr, clock, setCells_map _ _ _ _ a1, a2⟩
theorem setCells_below {B : Nat} {w0 : World} (b : Nat) (hb : B ≤ b) : ∀ (vs : List Value) (o : Nat) (w : World), Below B w0 w → Below B w0 (w.setCells b o vs)
  | [], _, _, h => h
  | v :: r, o, w, h => by rw [World.setCells]; exact setCells_below b hb r _ _ (h.setCell (p := ⟨b, o, none⟩) hb v)
theorem Inv.stored {gl : Glob} {w0 : World} {M : Imm} {H : Heap} {w : World} (h : Inv gl w0 M H w) {b o : Nat} {vs : List Value} (hb : vs ≠ [] → w0.heap.size ≤ b)
    (hM : ∀ j, j < vs.length → M b (o + j) = none) (hH : ∀ e ∈ H, ∀ j, j < vs.length → ¬ e.2.reg b (o + j)) : Inv gl w0 M H (w.setCells b o vs) :=
  ⟨by
    cases vs with
    | nil => exact h.below
    | cons v r => exact setCells_below b (hb (by simp)) _ o w h.below, fun b' i v hv => by
    refine ⟨?_, (h.imm b' i v hv).2⟩
    rw [World.cell?_setCells_out b vs o w _ (fun h1 _ => ?_)]
    · exact (h.imm b' i v hv).1
    · simp only at h1
      subst h1
      by_cases h2 : i < o
      · exact Or.inl h2
      · right
        rcases Nat.lt_or_ge i (o + vs.length) with h3 | h3
        · have := hM (i - o) (by omega)
          rw [show o + (i - o) = i by omega, hv] at this; cases this
        · exact h3,
   fun e he => by
    obtain ⟨h1, h3⟩ := h.own e he
    exact ⟨h1, h3.stored (hH e he)⟩, h.sep, h.free, h.glob, fun b' hb' => by
    obtain ⟨h1, t', N, h2, h3⟩ := h.new b' hb'
    exact ⟨h1, t', N, by rw [setCells_shape]; exact h2, h3⟩,
   fun e he => (h.plain e he).of fun b' cs _ _ o' => World.frozen?_setCells ..⟩
def splice (cs ds : List LV) (o : Nat) : List LV := cs.take o ++ ds ++ cs.drop (o + ds.length)
theorem splice_length {cs ds : List LV} {o : Nat} (h : o + ds.length ≤ cs.length) : (splice cs ds o).length = cs.length := by
  simp [splice]; omega
theorem splice_get {cs ds : List LV} {o : Nat} (h : o + ds.length ≤ cs.length) (i : Nat) : (splice cs ds o)[i]? = if o ≤ i ∧ i < o + ds.length then ds[i - o]? else cs[i]? := by
  unfold splice
  have ht : (cs.take o).length = o := by simp; omega
  by_cases h1 : i < o
  · rw [if_neg (by omega), List.append_assoc, List.getElem?_append_left (by omega), List.getElem?_take, if_pos h1]
  · by_cases h2 : i < o + ds.length
    · rw [if_pos ⟨by omega, h2⟩, List.append_assoc, List.getElem?_append_right (by omega), List.getElem?_append_left (by omega), ht]
    · rw [if_neg (by omega), List.getElem?_append_right (by simp; omega), List.getElem?_drop]
      congr 1
      simp; omega
theorem Inv.store_blk {gl : Glob} {w0 : World} {M : Imm} {H : Heap} {w : World} {id b : Nat} {cs ds : List LV} {o : Nat} {vs : List Value}
    (h : Inv gl w0 M ((id, .blk b cs) :: H) w) (hr : o + ds.length ≤ cs.length) (hv : RVs M ds vs) (h1 : ∀ v ∈ vs, v.oneCell' = true) :
    Inv gl w0 M ((id, .blk b (splice cs ds o)) :: H) (w.setCells b o vs) := by
  have hlen := RVs_length hv
  obtain ⟨hlo, hok⟩ := h.own _ (List.mem_cons_self ..)
  have hsep := List.pairwise_cons.1 h.sep
  have hfree := h.free _ (List.mem_cons_self ..)
  have hreg : ∀ b' o', Ent.reg (.blk b (splice cs ds o)) b' o' ↔ Ent.reg (.blk b cs) b' o' := fun b' o' => by simp only [Ent.reg, splice_length hr]
  have h0 : Inv gl w0 M H w := h.sub (List.sublist_cons_self _ _)
  have hs : Inv gl w0 M H (w.setCells b o vs) := h0.stored (fun hne => hlo b o ⟨rfl, by have := List.length_pos_iff.2 hne; omega⟩) (fun j hj => hfree b (o + j) ⟨rfl, by omega⟩)
    (fun e he j hj hre => hsep.1 e he b (o + j) ⟨rfl, by omega⟩ hre)
  refine ⟨hs.below, hs.imm, fun e he => ?_, List.pairwise_cons.2 ⟨fun e he b' o' hr' => hsep.1 e he b' o' ((hreg b' o').1 hr'), hsep.2⟩, fun e he => ?_, hs.glob, hs.new, plain_cons (fun hne o' => by
    rw [World.frozen?_setCells]
    exact h.plain _ (List.mem_cons_self ..) (fun e => hne (List.length_eq_zero_iff.1 (by rw [splice_length hr, e]; rfl))) o') hs.plain⟩
  · rcases List.mem_cons.1 he with rfl | he
    · refine ⟨fun b' o' hr' => hlo b' o' ((hreg b' o').1 hr'), ?_⟩
      simp only [entOK] at hok ⊢
      intro i c hc
      rw [splice_get hr] at hc
      rw [World.frozen?_setCells]
      have hi : i < cs.length := by
        split at hc
        · omega
        · rcases Nat.lt_or_ge i cs.length with h' | h'
          · exact h'
          · rw [List.getElem?_eq_none h'] at hc; cases hc
      obtain ⟨u0, b1, b2, b3, b4⟩ := hok i cs[i] (by simp [hi])
      split at hc
      · rename_i hin
        obtain ⟨u, hu, hru⟩ := RVs_get hv _ c hc
        have hcell := World.cell?_setCells_in b vs o w (fun j hj => by
          obtain ⟨u1, c1, _⟩ := hok (o + j) cs[o + j] (by simp)
          simp [c1]) (i - o) (by omega)
        rw [show o + (i - o) = i by omega] at hcell
        refine ⟨u, ?_, b2, hru, h1 u (List.mem_of_getElem? hu)⟩
        rw [hcell]
        rw [List.getElem?_eq_getElem (by omega)] at hu
        exact hu
      · rename_i hin
        obtain ⟨u, c1, c2, c3, c4⟩ := hok i c hc
        refine ⟨u, ?_, c2, c3, c4⟩
        rw [World.cell?_setCells_out b vs o w _ (fun _ _ => by simp only; omega)]
        exact c1
    · exact hs.own e he
  · rcases List.mem_cons.1 he with rfl | he
    · intro b' o' hr'
      exact hfree b' o' ((hreg b' o').1 hr')
    · exact hs.free e he
theorem Inv.same {gl : Glob} {w0 : World} {M : Imm} {H : Heap} {w w' : World} (h : Inv gl w0 M H w) (hb : RowKit.Below w.heap.size w w') : Inv gl w0 M H w' := by
  have hc : ∀ {b o : Nat} {v : Value}, w.cell? ⟨b, o, none⟩ = some v → w'.cell? ⟨b, o, none⟩ = some v ∧ w'.frozen? ⟨b, o, none⟩ = w.frozen? ⟨b, o, none⟩ := fun {b o v} hv => by
    have hl := cell_lt hv
    exact ⟨by rw [hb.cell (p := ⟨b, o, none⟩) hl]; exact hv, hb.frozen (p := ⟨b, o, none⟩) hl⟩
  refine ⟨h.below.trans (hb.mono h.below.size), fun b o v hv => ⟨(hc (h.imm b o v hv).1).1, (h.imm b o v hv).2⟩, fun e he => ⟨(h.own e he).1, ?_⟩, h.sep, h.free, h.glob, fun b hn => ?_, fun e he => (h.plain e he).of fun b cs hb2 hne o => hb.frozen (p := ⟨b, o, none⟩) ((h.own e he).2.lt (b := b) (o := 0) (by rw [hb2]; exact ⟨rfl, List.length_pos_iff.2 hne⟩))⟩
  · have h1 := (h.own e he).2
    cases he2 : e.2 with
    | blk b cs =>
      rw [he2] at h1
      simp only [entOK] at h1 ⊢
      intro i c hi
      obtain ⟨u, a1, a2, a3, a4⟩ := h1 i c hi
      exact ⟨u, (hc a1).1, by rw [(hc a1).2]; exact a2, a3, a4⟩
    | tok t =>
      rw [he2] at h1
      simp only [entOK] at h1 ⊢
      intro o h2 h3
      obtain ⟨⟨u, a1⟩, a2⟩ := h1 o h2 h3
      exact ⟨⟨u, (hc a1).1⟩, by rw [(hc a1).2]; exact a2⟩
    | map b es =>
      rw [he2] at h1
      simp only [entOK] at h1 ⊢
      obtain ⟨arr, clock, a1, a2⟩ := h1
      exact ⟨arr, clock, by rw [hb.block b (Array.getElem?_eq_some_iff.1 a1).1]; exact a1, a2⟩
  · obtain ⟨h1, t, N, h2, h3⟩ := h.new b hn
    refine ⟨h1, t, N, ?_, h3⟩
    have hl := shape_lt h2
    have := hb.block b hl
    unfold World.shape? at h2 ⊢
    rw [this]; exact h2
theorem Inv.newMap {gl : Glob} {w0 : World} {M : Imm} {H : Heap} {w : World} (h : Inv gl w0 M H w) (id : Nat) : Inv gl w0 M ((id, .map w.heap.size []) :: H) (w.alloc (.map #[] 0)) := by
  have h1 : Inv gl w0 M H (w.alloc (.map #[] 0)) := h.same ((RowKit.Below.refl _ w).alloc (Nat.le_refl _) _)
  have hlt : ∀ e ∈ H, ∀ b o, e.2.reg b o → b < w.heap.size := fun e he b o hr => (h.own e he).2.lt hr
  refine ⟨h1.below, h1.imm, fun e he => ?_, List.pairwise_cons.2 ⟨fun e he b o hr hr2 => ?_, h1.sep⟩, fun e he b o hr => ?_, h1.glob, h1.new, plain_cons trivial h1.plain⟩
  · rcases List.mem_cons.1 he with rfl | he
    · refine ⟨fun b o hr => ?_, ?_⟩
      · simp only [Ent.reg] at hr
        rw [hr.1]; exact h.below.size
      · simp only [entOK]
        exact ⟨#[], 0, by show (w.heap.push _)[w.heap.size]? = _; simp, by simp, by simp⟩
    · exact h1.own e he
  · simp only [Ent.reg] at hr
    have := hlt e he b o hr2
    omega
  · rcases List.mem_cons.1 he with rfl | he
    · simp only [Ent.reg] at hr
      cases hm : M b o with
      | none => rfl
      | some v => have := h.imm_lt hm; omega
    · exact h.free e he b o hr
theorem Inv.turnMap {gl : Glob} {w0 : World} {M : Imm} {H : Heap} {w : World} {id b : Nat} {es es' : List (LV × LV)} (h : Inv gl w0 M ((id, .map b es) :: H) w) {arr' : Array MapEntry} {clock' : Nat}
    (hk : arr'.toList.Pairwise fun e e' => e.key ≠ e'.key) (hv : arr'.toList.map (fun e => (some e.key, some e.val)) = es'.map fun p => (kvOf p.1, kvOf p.2)) : Inv gl w0 M ((id, .map b es') :: H) { w with heap := w.heap.setIfInBounds b (.map arr' clock') } := by
  obtain ⟨hlo, hok⟩ := h.own _ (List.mem_cons_self ..)
  simp only [entOK] at hok
  obtain ⟨arr, clock, hb, _, _⟩ := hok
  have hlt : b < w.heap.size := (Array.getElem?_eq_some_iff.1 hb).1
  have hlob : w0.heap.size ≤ b := hlo b 0 ⟨rfl, rfl⟩
  have hne : ∀ k, k ≠ b → (w.heap.setIfInBounds b (.map arr' clock'))[k]? = w.heap[k]? := fun k hk => by rw [Array.getElem?_setIfInBounds, if_neg (fun e => hk e.symm)]
  have hcell : ∀ {b' o : Nat} {v : Value}, w.cell? ⟨b', o, none⟩ = some v → b' ≠ b := fun {b' o v} hv e => by
    subst e
    simp [World.cell?, hb] at hv
  have hc : ∀ {b' o : Nat} {v : Value}, w.cell? ⟨b', o, none⟩ = some v → World.cell? { w with heap := w.heap.setIfInBounds b (.map arr' clock') } ⟨b', o, none⟩ = some v ∧ World.frozen? { w with heap := w.heap.setIfInBounds b (.map arr' clock') } ⟨b', o, none⟩ = w.frozen? ⟨b', o, none⟩ := fun {b' o v} hv => by
    have hn := hne b' (hcell hv)
    constructor
    · rw [← hv]; exact World.cell?_of_block (w := w) hn
    · exact World.frozen?_of_block (w := w) hn
  refine ⟨⟨h.below.os, h.below.tape, h.below.output, by simpa using h.below.size, fun k hk2 => by rw [hne k (by omega)]; exact h.below.block k hk2⟩, fun b' o v hv => ⟨(hc (h.imm b' o v hv).1).1, (h.imm b' o v hv).2⟩, fun e he => ?_, List.pairwise_cons.2 ⟨(List.pairwise_cons.1 h.sep).1, (List.pairwise_cons.1 h.sep).2⟩, fun e he b' o hr => ?_, h.glob, fun b' hn => ?_, plain_cons trivial fun e he => (h.plain e (List.mem_cons_of_mem _ he)).of fun b2 cs hb2 hne2 o => World.frozen?_of_block (w := w) (hne b2 fun e3 => by
    subst e3
    obtain ⟨u, hu, _⟩ := (show entOK M w (.blk b2 cs) from hb2 ▸ (h.own e (List.mem_cons_of_mem _ he)).2) 0 (cs[0]'(List.length_pos_iff.2 hne2)) (by simp)
    exact hcell hu rfl)⟩
  · rcases List.mem_cons.1 he with rfl | hm
    · refine ⟨fun b' o hr => hlo b' o hr, ?_⟩
      simp only [entOK]
      exact ⟨arr', clock', by simp [hlt], hk, hv⟩
    · have h1 := h.own e (List.mem_cons_of_mem _ hm)
      refine ⟨h1.1, ?_⟩
      have h2 := h1.2
      cases he2 : e.2 with
      | blk b2 cs =>
        rw [he2] at h2
        simp only [entOK] at h2 ⊢
        intro i c hi
        obtain ⟨u, a1, a2, a3, a4⟩ := h2 i c hi
        exact ⟨u, (hc a1).1, by rw [(hc a1).2]; exact a2, a3, a4⟩
      | tok t =>
        rw [he2] at h2
        simp only [entOK] at h2 ⊢
        intro o h3 h4
        obtain ⟨⟨u, a1⟩, a2⟩ := h2 o h3 h4
        exact ⟨⟨u, (hc a1).1⟩, by rw [(hc a1).2]; exact a2⟩
      | map b2 es2 =>
        rw [he2] at h2
        simp only [entOK] at h2 ⊢
        obtain ⟨arr2, clock2, a1, a2⟩ := h2
        have hn : b2 ≠ b := fun e3 => by
          subst e3
          exact (List.pairwise_cons.1 h.sep).1 e hm b2 0 ⟨rfl, rfl⟩ (by rw [he2]; exact ⟨rfl, rfl⟩)
        exact ⟨arr2, clock2, by rw [hne b2 hn]; exact a1, a2⟩
  · rcases List.mem_cons.1 he with rfl | he
    · exact h.free (id, .map b es) (List.mem_cons_self ..) b' o hr
    · exact h.free e (List.mem_cons_of_mem _ he) b' o hr
  · obtain ⟨h1, t, N, h2, h3⟩ := h.new b' hn
    refine ⟨h1, t, N, ?_, h3⟩
    have hn2 : b' ≠ b := fun e => by
      subst e
      simp [World.shape?, hb] at h2
    unfold World.shape? at h2 ⊢
    rw [show ({ w with heap := w.heap.setIfInBounds b (.map arr' clock') } : World).heap[b']? = w.heap[b']? from hne b' hn2]
    exact h2
end Go.Lx
namespace Go.Lx
set_option linter.unusedSimpArgs false
set_option linter.unusedVariables false
open RowKit
inductive X where
  | t (s : Nat)
  | u (s : Nat)
  | c (v : LV)
  | g (g : Nat)
  deriving Inhabited
inductive LOp where
  | mov (x : X)
  | pick (c a b : X)
  | build (zero : List LV) (parts : List (Nat × Nat × X))
  | load (agg : Bool) (sz : Nat) (x : X)
  | nilc (x : X)
  | bin (op : BinOp) (x y : X)
  | eqB (neg : Bool) (x y : X)
  | eqN (neg : Bool) (x y : X)
  | eqS (neg : Bool) (sz : Nat) (leaves : List (Nat × Nat)) (x y : X)
  | un (op : UnOp) (x : X)
  | conv (k : IntKind) (x : X)
  | same (x : X)
  | b2s (x : X)
  | slS (x : X) (lo hi : Option X)
  | slL (sz : Nat) (x : X) (lo hi mx : Option X)
  | slA (n sz : Nat) (x : X) (lo hi mx : Option X)
  | faddr (off : Nat) (x : X)
  | fld (agg : Bool) (sz off : Nat) (x : X)
  | iaA (n sz : Nat) (x i : X)
  | iaS (sz : Nat) (x i : X)
  | ixA (agg : Bool) (n sz : Nat) (x i : X)
  | ixS (x i : X)
  | ext (x : X) (i : Nat)
  | len (x : X)
  | lenL (x : X)
  | lenA (n : Nat)
  | cap (x : X)
  | mkf (f : Nat) (caps : List X)
  | mm (mx : Bool) (x : X) (xs : List X)
  | box (x : X)
  | zero (cs : List LV)
  | mkS (sz len : Nat) (zero : List LV) (parts : List (Nat × Nat × X))
  | mkN (sz len : Nat) (zero : List LV) (parts : List (Nat × Nat × X))
  | cvS (x : X)
  | s2b (x : X)
  | make (sz bytes : Nat) (zero : List LV) (len cap : X)
  | store (sz : Nat) (a x : X)
  | app (sz bytes : Nat) (x y : X)
  | appF (sz bytes : Nat) (x y : X)
  | appZ (sz bytes : Nat) (zero : List LV) (x y : X)
  | copy (sz : Nat) (x y : X)
  | clear (sz : Nat) (zero : List LV) (x : X)
  | isNil (neg : Bool) (x : X)
  | call (f : Nat) (args : List X)
  | callV (x : X) (args : List X)
  | mkMap
  | look (ok : Bool) (kt : Nat) (z : LV) (x i : X)
  | upd (kt : Nat) (x i v : X)
  deriving Inhabited
def ofVals (f : Value → Option LV) : List Value → Option (List LV)
  | [] => some []
  | v :: r => match f v, ofVals f r with
    | some x, some xs => some (x :: xs)
    | _, _ => none
def ofVal1 : Value → Option LV
  | .bool b => some (.bool b)
  | .int k n => some (.int k n)
  | .string s => some (.str s.data.toList)
  | .pointer none => some .nil
  | .slice none 0 0 => some (.fsl 1 0 [])
  | .nilFunc => some (.raw .nilFunc)
  | .nilIface => some (.raw .nilIface)
  | .map none => some (.raw (.map none))
  | _ => none
def ofVal : Value → Option LV
  | .agg cs => (ofVals ofVal1 cs.toList).map .agg
  | .tuple vs => (ofVals ofVal1 vs.toList).map .tup
  | v => ofVal1 v
theorem ofVal1_sound {M : Imm} {v : Value} {x : LV} (h : ofVal1 v = some x) : RV M x v := by
  cases v with
  | bool b => simp [ofVal1] at h; subst h; simp [RV]
  | int k n => simp [ofVal1] at h; subst h; simp [RV]
  | string s => simp [ofVal1] at h; subst h; simp [RV]
  | pointer a => cases a <;> simp [ofVal1] at h; subst h; simp [RV]
  | slice a l c =>
    unfold ofVal1 at h
    split at h <;> simp_all
    subst h; simp [RV]
  | nilFunc => simp [ofVal1] at h; subst h; simp [RV]
  | nilIface => simp [ofVal1] at h; subst h; simp [RV]
  | map r => cases r <;> simp [ofVal1] at h; subst h; simp [RV]
  | _ => simp [ofVal1] at h
theorem ofVal1_one {v : Value} {x : LV} (h : ofVal1 v = some x) : v.oneCell' = true := by
  cases v <;> first | rfl | (simp [ofVal1] at h)
theorem ofVals_one : ∀ {vs : List Value} {xs : List LV}, ofVals ofVal1 vs = some xs → ∀ u ∈ vs, u.oneCell' = true
  | [], xs, h => by simp
  | v :: r, xs, h => by
    simp only [ofVals] at h
    split at h
    · rename_i x ys h1 h2
      intro u hu
      rcases List.mem_cons.1 hu with rfl | hu
      · exact ofVal1_one h1
      · exact ofVals_one h2 u hu
    · cases h
theorem ofVals_sound {M : Imm} : ∀ {vs : List Value} {xs : List LV}, ofVals ofVal1 vs = some xs → RVs M xs vs
  | [], xs, h => by simp [ofVals] at h; subst h; simp [RVs]
  | v :: r, xs, h => by
    simp only [ofVals] at h
    split at h
    · rename_i x ys h1 h2
      cases h
      simp only [RVs]
      exact ⟨v, r, rfl, ofVal1_sound h1, ofVals_sound h2⟩
    · cases h
theorem ofVal_sound {M : Imm} {v : Value} {x : LV} (h : ofVal v = some x) : RV M x v := by
  unfold ofVal at h
  split at h
  · rename_i cs
    simp only [Option.map_eq_some_iff] at h
    obtain ⟨xs, h1, rfl⟩ := h
    simp only [RV]
    exact ⟨cs.toList, by simp, ofVals_sound h1, ofVals_one h1⟩
  · rename_i vs
    simp only [Option.map_eq_some_iff] at h
    obtain ⟨xs, h1, rfl⟩ := h
    simp only [RV]
    exact ⟨vs.toList, by simp, ofVals_sound h1⟩
  · exact ofVal1_sound h
def trX (vv : Nat → Bool) : Operand → Option X
  | .tmp t => some (if vv t then .t t else .u t)
  | .const v => (ofVal v).map .c
  | .global g => some (.g g)
  | .func f => some (.c (.fn f))
def trO (vv : Nat → Bool) : Option Operand → Option (Option X)
  | none => some none
  | some x => (trX vv x).map some
def trXs (vv : Nat → Bool) : List Operand → Option (List X)
  | [] => some []
  | x :: r => match trX vv x, trXs vv r with
    | some y, some ys => some (y :: ys)
    | _, _ => none
def aggOf (P : Program) (t : TypeId) : Option Bool :=
  match P.underlying t with
  | some (.struct _) | some (.array _ _) => some true
  | some _ => some false
  | none => none
def zeroOf (P : Program) (t : TypeId) : Option (List LV) :=
  match P.info? t with
  | some i => match i.zero with
    | some z => match ofVals ofVal1 z.cells.toList with
      | some zs => if z.cells.size = i.size then some zs else none
      | none => none
    | none => none
  | none => none
def zero1 (P : Program) (t : TypeId) : Option LV :=
  match P.info? t with
  | some i => match i.zero with
    | some z => ofVal1 z
    | none => none
  | none => none
def sizeAt (P : Program) (t : TypeId) : Option Nat := (P.info? t).map (·.size)
def bytesAt (P : Program) (t : TypeId) : Option Nat := (P.info? t).map (·.bytes)
def trParts (vv : Nat → Bool) (place : Nat → Option (Nat × Nat)) : List (Nat × Operand) → Option (List (Nat × Nat × X))
  | [] => some []
  | (i, x) :: r => match place i, trX vv x, trParts vv place r with
    | some (o, s), some y, some ys => some ((o, s, y) :: ys)
    | _, _, _ => none
def leavesF (P : Program) (f : TypeId → Option (List (Nat × Nat))) : List Field → Option (List (Nat × Nat))
  | [] => some []
  | x :: r => if x.name = "_" then none else match f x.type, sizeAt P x.type, aggOf P x.type, leavesF P f r with
    | some a, some s, some g, some b => if a.all (fun p => p.1 < s) && (g || s == 1) then some (a.map (fun p => (x.offset + p.1, p.2)) ++ b) else none
    | _, _, _, _ => none
def fitsIn (P : Program) (s : Nat) (fs : List Field) : Bool := fs.all fun f => match sizeAt P f.type with | some k => f.offset + k ≤ s | none => false
def leaves (P : Program) : Nat → TypeId → Option (List (Nat × Nat))
  | 0, _ => none
  | d + 1, t =>
    match P.underlying t with
    | some .bool => some [(0, 0)]
    | some (.int _) => some [(0, 1)]
    | some .string => some [(0, 2)]
    | some (.struct fs) => match sizeAt P t with
      | some s => if P.stoodInHeld t || !fitsIn P s fs.toList then none else leavesF P (leaves P d) fs.toList
      | none => none
    | _ => none
def nilLit : X → Bool
  | .c (.fsl _ 0 _) => true
  | _ => false
def trOp (vv : Nat → Bool) (P : Program) : Op → Option LOp
  | .move x | .assign x => (trX vv x).map .mov
  | .pick c a b => match trX vv c, trX vv a, trX vv b with
    | some c, some a, some b => some (.pick c a b)
    | _, _, _ => none
  | .build t parts => match P.underlying t, zeroOf P t with
    | some (.struct fs), some z => match fs.toList.mapM (fun f => (sizeAt P f.type).map fun s => (f.offset, s)) with
      | some pl => (trParts vv (pl[·]?) parts.toList).map (.build z)
      | none => none
    | some (.array _ e), some z => match sizeAt P e with
      | some s => (trParts vv (fun i => some (i * s, s)) parts.toList).map (.build z)
      | none => none
    | _, _ => none
  | .load t x => match aggOf P t, sizeAt P t, trX vv x with
    | some g, some s, some x => if g || s == 1 then some (.load g s x) else none
    | _, _, _ => none
  | .nilCheck x => (trX vv x).map .nilc
  | .binOp op t x y _ => match trX vv x, trX vv y with
    | some x, some y =>
      match op with
      | .eql | .neq => match P.underlying t with
        | some (.int _) | some .string => some (.bin op x y)
        | some .bool => some (.eqB (op == .neq) x y)
        | some (.pointer _) => some (.eqN (op == .neq) x y)
        | some (.slice _) => if nilLit y then some (.isNil (op == .neq) x) else none
        | some (.struct _) | some (.array _ _) =>
          if P.eqGuardType P.depth t then none
          else match leaves P 30 t, sizeAt P t with
            | some ls, some s => some (.eqS (op == .neq) s ls x y)
            | _, _ => none
        | _ => none
      | _ => some (.bin op x y)
    | _, _ => none
  | .unOp op _ x => (trX vv x).map (.un op)
  | .convert s d x => match P.underlying s, P.underlying d, trX vv x with
    | some _, some (.int k), some x => some (.conv k x)
    | some .string, some .string, some x => some (.same x)
    | some (.slice e), some .string, some x => match P.underlying e with
      | some (.int .u8) => some (.b2s x)
      | _ => none
    | some .string, some (.slice e), some x => match P.underlying e with
      | some (.int .u8) => some (.s2b x)
      | _ => none
    | some (.slice _), some (.slice e), some x => match P.underlying e with
      | some (.int .u8) => if s = d then some (.cvS x) else none
      | _ => none
    | _, _, _ => none
  | .slice t x lo hi mx => match P.underlying t, trX vv x, trO vv lo, trO vv hi, trO vv mx with
    | some .string, some x, some lo, some hi, some none => some (.slS x lo hi)
    | some (.slice e), some x, some lo, some hi, some mx => (sizeAt P e).map fun s => .slL s x lo hi mx
    | some (.array n e), some x, some lo, some hi, some mx => (sizeAt P e).map fun s => .slA n s x lo hi mx
    | _, _, _, _, _ => none
  | .fieldAddr t x f => match P.underlying t, trX vv x with
    | some (.struct fs), some x => match fs[f]? with
      | some f => match sizeAt P f.type with
        | some s => if s = 0 then none else some (.faddr f.offset x)
        | none => none
      | none => none
    | _, _ => none
  | .field t x f => match P.underlying t, trX vv x with
    | some (.struct fs), some x => match fs[f]? with
      | some f => match aggOf P f.type, sizeAt P f.type with
        | some g, some s => if g || s == 1 then some (.fld g s f.offset x) else none
        | _, _ => none
      | none => none
    | _, _ => none
  | .indexAddr t x i => match P.underlying t, trX vv x, trX vv i with
    | some (.slice e), some x, some i => (sizeAt P e).map fun s => .iaS s x i
    | some (.array n e), some x, some i => (sizeAt P e).map fun s => .iaA n s x i
    | _, _, _ => none
  | .index t x i => match P.underlying t, trX vv x, trX vv i with
    | some .string, some x, some i => some (.ixS x i)
    | some (.array n e), some x, some i => match aggOf P e, sizeAt P e with
      | some g, some s => if g || s == 1 then some (.ixA g n s x i) else none
      | _, _ => none
    | _, _, _ => none
  | .extract x i => (trX vv x).map fun x => .ext x i
  | .makeFunc (.func f) first captured => if first.isEmpty then (trXs vv captured.toList).map (.mkf f) else none
  | .box _ x => (trX vv x).map .box
  | .alloc t => (zeroOf P t).map .zero
  | .buildSlice t n parts => match P.underlying t with
    | some (.slice e) => match sizeAt P e, zeroOf P e with
      | some s, some z => if n * s > 2 ^ 24 then none else (trParts vv (fun i => some (i * s, s)) parts.toList).map (if vv 1000000 then .mkN s n z else .mkS s n z)
      | _, _ => none
    | _ => none
  | .makeSlice t l c => match P.underlying t, trX vv l, trX vv c with
    | some (.slice e), some l, some c => match sizeAt P e, bytesAt P e, zeroOf P e with
      | some s, some b, some z => some (.make s b z l c)
      | _, _, _ => none
    | _, _, _ => none
  | .store t a x => match sizeAt P t, trX vv a, trX vv x with
    | some s, some a, some x => some (.store s a x)
    | _, _, _ => none
  | .makeMap t r => match P.underlying t, r with
    | some (.map _ _), none => some .mkMap
    | some (.map _ _), some (.const (.int _ _)) => some .mkMap
    | _, _ => none
  | .lookup t x i ok => match P.underlying t, trX vv x, trX vv i with
    | some (.map k e), some x, some i => match zero1 P e with
      | some z => some (.look ok k z x i)
      | none => none
    | _, _, _ => none
  | .mapUpdate t x i v => match P.underlying t, trX vv x, trX vv i, trX vv v with
    | some (.map k _), some x, some i, some v => some (.upd k x i v)
    | _, _, _, _ => none
  | .call { callee := .value (.func f), args, argTypes := _ } => match P.funcs[f]? with
    | some fn => if fn.name = "runtime.NumGoroutine" then none else (trXs vv args.toList).map (.call f)
    | none => none
  | .call { callee := .value x, args, argTypes := _ } => match trX vv x, trXs vv args.toList with
    | some x, some as => some (.callV x as)
    | _, _ => none
  | .call { callee := .builtin b, args, argTypes } =>
    match b, args.toList, argTypes.toList with
    | .len, [x], [t] => match P.underlying t, trX vv x with
      | some .string, some x => some (.len x)
      | some (.slice _), some x => some (.lenL x)
      | some (.array n _), some _ => some (.lenA n)
      | _, _ => none
    | .cap, [x], [t] => match P.underlying t, trX vv x with
      | some (.slice _), some x => some (.cap x)
      | _, _ => none
    | .clear, [x], [t] => match P.underlying t, trX vv x with
      | some (.slice e), some x => match sizeAt P e, zeroOf P e with
        | some s, some z => if z.length = s then some (.clear s z x) else none
        | _, _ => none
      | _, _ => none
    | .append, [x, y], [t, u] => match P.underlying t, P.underlying u, trX vv x, trX vv y with
      | some (.slice e), some (.slice _), some x, some y => match sizeAt P e, bytesAt P e, zeroOf P e with
        | some s, some b, some _ => if b = 0 || s = 0 then none else some (if vv 1000001 && !vv (1100000 + b) then .appF s b x y else .app s b x y)
        | _, _, _ => none
      | some (.slice e), some .string, some x, some y => match sizeAt P e, bytesAt P e, zeroOf P e with
        | some s, some b, some _ => if b = 0 || s = 0 then none else some (.app s b x y)
        | _, _, _ => none
      | some (.slice e), some (.int _), some x, some y => match sizeAt P e, bytesAt P e, zeroOf P e with
        | some s, some b, some z => if b = 0 || s = 0 || z.length != s then none else some (.appZ s b z x y)
        | _, _, _ => none
      | _, _, _, _ => none
    | .copy, [x, y], [t, _] => match P.underlying t, trX vv x, trX vv y with
      | some (.slice e), some x, some y => (sizeAt P e).map fun s => .copy s x y
      | _, _, _ => none
    | .min, x :: r, _ => match trX vv x, trXs vv r with
      | some x, some r => some (.mm false x r)
      | _, _ => none
    | .max, x :: r, _ => match trX vv x, trXs vv r with
      | some x, some r => some (.mm true x r)
      | _, _ => none
    | _, _, _ => none
  | _ => none
def getH : Heap → Nat → Option Ent
  | [], _ => none
  | (i, e) :: H, id => if i = id then some e else getH H id
def setH : Heap → Nat → Ent → Heap
  | [], _, _ => []
  | (i, e) :: H, id, e' => if i = id then (i, e') :: H else (i, e) :: setH H id e'
def delH : Heap → Nat → Heap
  | [], _ => []
  | (i, e) :: H, id => if i = id then H else (i, e) :: delH H id
theorem getH_parts {id : Nat} {e : Ent} : ∀ {H : Heap}, getH H id = some e → ∃ H1 H2, H = H1 ++ (id, e) :: H2 ∧ (∀ e', setH H id e' = H1 ++ (id, e') :: H2) ∧ delH H id = H1 ++ H2
  | [], h => by simp [getH] at h
  | (i, e0) :: H, h => by
    simp only [getH] at h
    split at h
    · rename_i hi
      cases h; subst hi
      exact ⟨[], H, rfl, fun e' => by simp [setH], by simp [delH]⟩
    · rename_i hi
      obtain ⟨H1, H2, h1, h2, h3⟩ := getH_parts h
      exact ⟨(i, e0) :: H1, H2, by simp [h1], fun e' => by simp [setH, hi, h2], by simp [delH, hi, h3]⟩
theorem getH_perm {id : Nat} {e : Ent} {H : Heap} (h : getH H id = some e) : H.Perm ((id, e) :: delH H id) ∧ ∀ e', (setH H id e').Perm ((id, e') :: delH H id) := by
  obtain ⟨H1, H2, h1, h2, h3⟩ := getH_parts h
  refine ⟨?_, fun e' => ?_⟩
  · rw [h3, h1]; exact List.perm_middle
  · rw [h3, h2]; exact List.perm_middle
theorem getH_mem {id : Nat} {e : Ent} {H : Heap} (h : getH H id = some e) : (id, e) ∈ H := by
  obtain ⟨H1, H2, h1, _⟩ := getH_parts h
  rw [h1]; simp
def getMap : Heap → Nat → Option (List (LV × LV))
  | [], _ => none
  | (_, .map b es) :: H, b0 => if b = b0 then some es else getMap H b0
  | _ :: H, b0 => getMap H b0
def setMap : Heap → Nat → List (LV × LV) → Heap
  | [], _, _ => []
  | (i, .map b es) :: H, b0, es' => if b = b0 then (i, .map b es') :: H else (i, .map b es) :: setMap H b0 es'
  | e :: H, b0, es' => e :: setMap H b0 es'
theorem getMap_parts {b : Nat} {es : List (LV × LV)} : ∀ {H : Heap}, getMap H b = some es → ∃ i H1 H2, H = H1 ++ (i, .map b es) :: H2 ∧ ∀ es', setMap H b es' = H1 ++ (i, .map b es') :: H2
  | [], h => by simp [getMap] at h
  | (i, .map b1 es1) :: H, h => by
    simp only [getMap] at h
    split at h
    · rename_i hi
      cases h; subst hi
      exact ⟨i, [], H, rfl, fun es' => by simp [setMap]⟩
    · rename_i hi
      obtain ⟨j, H1, H2, h1, h2⟩ := getMap_parts h
      exact ⟨j, (i, .map b1 es1) :: H1, H2, by simp [h1], fun es' => by simp [setMap, hi, h2]⟩
  | (i, .blk b1 cs) :: H, h => by
    simp only [getMap] at h
    obtain ⟨j, H1, H2, h1, h2⟩ := getMap_parts h
    exact ⟨j, (i, .blk b1 cs) :: H1, H2, by simp [h1], fun es' => by simp [setMap, h2]⟩
  | (i, .tok t) :: H, h => by
    simp only [getMap] at h
    obtain ⟨j, H1, H2, h1, h2⟩ := getMap_parts h
    exact ⟨j, (i, .tok t) :: H1, H2, by simp [h1], fun es' => by simp [setMap, h2]⟩
theorem getMap_perm {b : Nat} {es : List (LV × LV)} {H : Heap} (h : getMap H b = some es) : ∃ i R, H.Perm ((i, .map b es) :: R) ∧ ∀ es', (setMap H b es').Perm ((i, .map b es') :: R) := by
  obtain ⟨i, H1, H2, h1, h2⟩ := getMap_parts h
  refine ⟨i, H1 ++ H2, ?_, fun es' => ?_⟩
  · rw [h1]; exact List.perm_middle
  · rw [h2]; exact List.perm_middle
def eqK1 : LV → LV → Bool
  | .int k a, .int k' b => decide (k = k') && decide (a = b)
  | .bool a, .bool b => decide (a = b)
  | .str a, .str b => decide (a = b)
  | _, _ => false
def eqKs : List LV → List LV → Bool
  | [], [] => true
  | x :: xs, y :: ys => eqK1 x y && eqKs xs ys
  | _, _ => false
def eqK : LV → LV → Bool
  | .agg xs, .agg ys => eqKs xs ys
  | x, y => eqK1 x y
theorem eqK1_iff {x y : LV} {u v : Value} (hx : kvOf1 x = some u) (hy : kvOf1 y = some v) : eqK1 x y = true ↔ u = v := by
  cases x <;> simp only [kvOf1, Option.some.injEq, reduceCtorEq] at hx <;> subst hx <;> cases y <;> simp only [kvOf1, Option.some.injEq, reduceCtorEq] at hy <;> subst hy <;> simp [eqK1]
theorem eqKs_iff : ∀ {xs ys : List LV} {us vs : List Value}, kvOfs xs = some us → kvOfs ys = some vs → (eqKs xs ys = true ↔ us = vs)
  | [], [], us, vs, hx, hy => by
    simp only [kvOfs, Option.some.injEq] at hx hy
    subst hx; subst hy
    simp [eqKs]
  | [], y :: ys, us, vs, hx, hy => by
    simp only [kvOfs, Option.some.injEq] at hx hy
    subst hx
    split at hy
    · cases hy; simp [eqKs]
    · cases hy
  | x :: xs, [], us, vs, hx, hy => by
    simp only [kvOfs, Option.some.injEq] at hx hy
    subst hy
    split at hx
    · cases hx; simp [eqKs]
    · cases hx
  | x :: xs, y :: ys, us, vs, hx, hy => by
    simp only [kvOfs] at hx hy
    split at hx
    · rename_i u us' h1 h2
      cases hx
      split at hy
      · rename_i v vs' h3 h4
        cases hy
        simp only [eqKs, Bool.and_eq_true, eqK1_iff h1 h3, eqKs_iff h2 h4, List.cons.injEq]
      · cases hy
    · cases hx
theorem eqK_iff {x y : LV} {u v : Value} (hx : kvOf x = some u) (hy : kvOf y = some v) : eqK x y = true ↔ u = v := by
  by_cases ha : ∃ xs, x = .agg xs
  · obtain ⟨xs, rfl⟩ := ha
    simp only [kvOf, Option.map_eq_some_iff] at hx
    obtain ⟨us, h1, rfl⟩ := hx
    by_cases hb : ∃ ys, y = .agg ys
    · obtain ⟨ys, rfl⟩ := hb
      simp only [kvOf, Option.map_eq_some_iff] at hy
      obtain ⟨vs, h2, rfl⟩ := hy
      simp only [eqK, eqKs_iff h1 h2, Value.agg.injEq]
      exact ⟨fun h => by rw [h], fun h => by simpa using congrArg Array.toList h⟩
    · cases y <;> first
        | exact (hb ⟨_, rfl⟩).elim
        | (simp only [kvOf, kvOf1, Option.some.injEq, reduceCtorEq] at hy; subst hy; simp [eqK, eqK1])
        | (simp only [kvOf, kvOf1, reduceCtorEq] at hy)
  · have h1 : kvOf1 x = some u := by
      cases x <;> first
        | exact (ha ⟨_, rfl⟩).elim
        | simpa only [kvOf] using hx
    by_cases hb : ∃ ys, y = .agg ys
    · obtain ⟨ys, rfl⟩ := hb
      simp only [kvOf, Option.map_eq_some_iff] at hy
      obtain ⟨vs, h2, rfl⟩ := hy
      cases x <;> simp only [kvOf1, Option.some.injEq, reduceCtorEq] at h1 <;> subst h1 <;> simp [eqK, eqK1]
    · have h2 : kvOf1 y = some v := by
        cases y <;> first
          | exact (hb ⟨_, rfl⟩).elim
          | simpa only [kvOf] using hy
      have he : eqK x y = eqK1 x y := by
        cases x <;> first
          | exact (ha ⟨_, rfl⟩).elim
          | rfl
      rw [he]
      exact eqK1_iff h1 h2
def lookL (es : List (LV × LV)) (k : LV) : Option LV := (es.find? fun p => eqK k p.1).map (·.2)
def updL : List (LV × LV) → LV → LV → List (LV × LV)
  | [], k, v => [(k, v)]
  | p :: es, k, v => if eqK k p.1 then (p.1, v) :: es else p :: updL es k v
def ev (gl : Glob) (env tmp : Env) : X → LV
  | .t s => get env s
  | .u s => get tmp s
  | .c v => v
  | .g g => match gl g with
    | some cs => .rp cs 0
    | none => .any
theorem ev_sound {vv : Nat → Bool} {gl : Glob} {n : Nat} {M : Imm} {a : Act} {env tmp : Env} (hF : Fr vv n env tmp M a) (hg : ∀ g cs, gl g = some cs → RCs M g 0 cs) {x : Operand} {y : X} (h : trX vv x = some y) : RV M (ev gl env tmp y) (a.eval x) := by
  cases x with
  | tmp t =>
    simp only [trX, Option.some.injEq] at h
    subst h
    cases hv : vv t with
    | true => simpa only [ev, Act.eval, if_true] using hF.vars t hv
    | false => simpa only [ev, Act.eval, Bool.false_eq_true, if_false] using hF.tmps t hv
  | const v => simp only [trX, Option.map_eq_some_iff] at h; obtain ⟨z, h1, rfl⟩ := h; simpa only [ev, Act.eval] using ofVal_sound h1
  | global g =>
    simp only [trX, Option.some.injEq] at h; subst h
    simp only [ev, Act.eval]
    cases hc : gl g with
    | none => simp [RV]
    | some cs => simp only [RV]; exact ⟨g, 0, rfl, hg g cs hc⟩
  | func f => simp only [trX, Option.some.injEq] at h; subst h; simp [ev, Act.eval, RV]
def LV.v : LV → LV
  | .opt _ x => x
  | x => x
def LV.g : LV → Prop
  | .opt g _ => g = true
  | _ => True
theorem strip {M : Imm} {x : LV} {v : Value} (h : RV M x v) (hg : x.g) : RV M x.v v := by
  cases x <;> first | exact h | (simp only [RV] at h; exact h.1 hg)
def cellsL : LV → Option (List LV)
  | .agg cs => some cs
  | x => if x.scalar then some [x] else none
theorem cellsL_sound {M : Imm} {x : LV} {v : Value} {cs : List LV} (h : RV M x v) (hc : cellsL x = some cs) : RVs M cs v.cells.toList ∧ ∀ u ∈ v.cells.toList, u.oneCell' = true := by
  unfold cellsL at hc
  split at hc
  · cases hc
    simp only [RV] at h
    obtain ⟨vs, rfl, h, h1⟩ := h
    exact ⟨by simpa [Value.cells] using h, by simpa [Value.cells] using h1⟩
  · rename_i hne
    split at hc
    · rename_i hs
      cases hc
      have h1 := oneCell_of_scalar h hs
      have : v.cells = #[v] := by cases v <;> first | rfl | (simp [Value.oneCell'] at h1)
      rw [this]
      exact ⟨by simp only [RVs]; exact ⟨v, [], by simp, h, rfl⟩, fun u hu => by simp at hu; subst hu; exact h1⟩
    · cases hc
def partL (agg : Bool) (sz off : Nat) (cs : List LV) : LV := if agg then .agg ((cs.drop off).take sz) else cs.getD off .any
def binQ (op : BinOp) (x y : LV) : Prop × LV :=
  match x, y with
  | .int k a, .int k' b => match op with
    | .add => (k = k', .int k (k.wrap (a + b)))
    | .sub => (k = k', .int k (k.wrap (a - b)))
    | .mul => (k = k', .int k (k.wrap (a * b)))
    | .quo => (k = k' ∧ b ≠ 0, .int k (k.wrap (a.tdiv b)))
    | .rem => (k = k' ∧ b ≠ 0, .int k (a.tmod b))
    | .and => (k = k', .int k (k.wrap (BitVec.ofInt k.bits a &&& BitVec.ofInt k.bits b).toNat))
    | .or => (k = k', .int k (k.wrap (BitVec.ofInt k.bits a ||| BitVec.ofInt k.bits b).toNat))
    | .xor => (k = k', .int k (k.wrap (BitVec.ofInt k.bits a ^^^ BitVec.ofInt k.bits b).toNat))
    | .andNot => (k = k', .int k (k.wrap (BitVec.ofInt k.bits a &&& ~~~ BitVec.ofInt k.bits b).toNat))
    | .shl => (0 ≤ b, .int k (k.wrap (a * 2 ^ min b.toNat k.bits)))
    | .shr => (0 ≤ b, .int k (a.fdiv (2 ^ min b.toNat k.bits)))
    | .eql => (k = k', .bool (a == b))
    | .neq => (k = k', .bool (a != b))
    | .lss => (k = k', .bool (decide (a < b)))
    | .leq => (k = k', .bool (decide (a ≤ b)))
    | .gtr => (k = k', .bool (decide (b < a)))
    | .geq => (k = k', .bool (decide (b ≤ a)))
  | .str a, .str b => match op with
    | .add => (a.length + b.length ≤ 9223372036854775807, .str (a ++ b))
    | .eql => (True, .bool (a == b))
    | .neq => (True, .bool (!(a == b)))
    | .lss => (True, .bool (Op.bytesLess a b))
    | .leq => (True, .bool (Op.bytesLess a b || a == b))
    | .gtr => (True, .bool (!(Op.bytesLess a b || a == b)))
    | .geq => (True, .bool (!(Op.bytesLess a b)))
    | _ => (False, .any)
  | _, _ => (False, .any)
def unQ (op : UnOp) (x : LV) : Prop × LV :=
  match op, x with
  | .not, .bool b => (True, .bool (!b))
  | .neg, .int k n => (True, .int k (k.wrap (0 - n)))
  | .xor, .int k n => (True, .int k (k.wrap (BitVec.ofInt k.bits (if k.signed then -1 else k.max) ^^^ BitVec.ofInt k.bits n).toNat))
  | _, _ => (False, .any)
def loadQ (agg : Bool) (sz : Nat) (x : LV) (H : Heap) : Prop × LV :=
  match x with
  | .rp cs off => (off + sz ≤ cs.length, partL agg sz off cs)
  | .ptr id b off => match getH H id with
    | some (.blk b' cs) => (b' = b ∧ off + sz ≤ cs.length, partL agg sz off cs)
    | _ => (False, .any)
  | _ => (False, .any)
def faddrQ (off : Nat) (x : LV) : Prop × LV :=
  match x with
  | .rp cs o => (True, .rp cs (o + off))
  | .ptr id b o => (True, .ptr id b (o + off))
  | _ => (False, .any)
def fillL : List LV → List (Nat × Nat × LV) → Option (List LV)
  | cs, [] => some cs
  | cs, (o, s, x) :: r => match cellsL x with
    | some ds => if ds.length = s ∧ o + ds.length ≤ cs.length then fillL (splice cs ds o) r else none
    | none => none
def gParts (ρ : X → LV) (parts : List (Nat × Nat × X)) : Prop := ∀ p ∈ parts, (ρ p.2.2).g
def vParts (ρ : X → LV) (parts : List (Nat × Nat × X)) : List (Nat × Nat × LV) := parts.map fun p => (p.1, p.2.1, (ρ p.2.2).v)
def optI (ρ : X → LV) (d : Int) : Option X → Prop × Int
  | none => (True, d)
  | some x => match (ρ x).v with
    | .int _ i => ((ρ x).g, i)
    | _ => (False, 0)
def slSQ (s : List UInt8) (l h : Int) : Prop × LV :=
  (0 ≤ l ∧ l ≤ h ∧ h ≤ s.length, .str ((s.drop l.toNat).take (h.toNat - l.toNat)))
def slLQ (sz : Nat) (x : LV) (lo : Option X) (hi mx : Option X) (ρ : X → LV) : Prop × LV :=
  let l := optI ρ 0 lo
  match x with
  | .sl sz' n cs =>
    let h := optI ρ n hi
    match mx with
    | none => (l.1 ∧ h.1 ∧ sz' = sz ∧ 0 ≤ l.2 ∧ l.2 ≤ h.2 ∧ h.2 ≤ n, .sl sz (h.2.toNat - l.2.toNat) ((cs.drop (l.2.toNat * sz)).take ((h.2.toNat - l.2.toNat) * sz)))
    | some _ =>
      let m := optI ρ n mx
      (l.1 ∧ h.1 ∧ m.1 ∧ hi.isSome ∧ sz' = sz ∧ 0 ≤ l.2 ∧ l.2 ≤ h.2 ∧ h.2 = m.2 ∧ h.2 ≤ n, .fsl sz (h.2.toNat - l.2.toNat) ((cs.drop (l.2.toNat * sz)).take ((h.2.toNat - l.2.toNat) * sz)))
  | .fsl sz' n cs =>
    let h := optI ρ n hi
    match hi, mx with
    | none, none => (l.1 ∧ sz' = sz ∧ 0 ≤ l.2 ∧ l.2 ≤ n, .fsl sz (n - l.2.toNat) (cs.drop (l.2.toNat * sz)))
    | _, none => (l.1 ∧ h.1 ∧ sz' = sz ∧ 0 ≤ l.2 ∧ l.2 ≤ h.2 ∧ h.2 ≤ n, .sl sz (h.2.toNat - l.2.toNat) ((cs.drop (l.2.toNat * sz)).take ((h.2.toNat - l.2.toNat) * sz)))
    | _, some _ =>
      let m := optI ρ n mx
      (l.1 ∧ h.1 ∧ m.1 ∧ hi.isSome ∧ sz' = sz ∧ 0 ≤ l.2 ∧ l.2 ≤ h.2 ∧ h.2 = m.2 ∧ h.2 ≤ n, .fsl sz (h.2.toNat - l.2.toNat) ((cs.drop (l.2.toNat * sz)).take ((h.2.toNat - l.2.toNat) * sz)))
  | .osl id τ sz' n cs =>
    let h := optI ρ n hi
    match hi, mx with
    | none, none => (l.1 ∧ sz' = sz ∧ 0 ≤ l.2 ∧ l.2 ≤ n, .osl id τ sz (n - l.2.toNat) (cs.drop (l.2.toNat * sz)))
    | _, none => (l.1 ∧ h.1 ∧ sz' = sz ∧ 0 ≤ l.2 ∧ l.2 ≤ h.2 ∧ h.2 ≤ n, .sl sz (h.2.toNat - l.2.toNat) ((cs.drop (l.2.toNat * sz)).take ((h.2.toNat - l.2.toNat) * sz)))
    | _, some _ =>
      let m := optI ρ n mx
      (l.1 ∧ h.1 ∧ m.1 ∧ hi.isSome ∧ sz' = sz ∧ 0 ≤ l.2 ∧ l.2 ≤ h.2 ∧ h.2 = m.2 ∧ h.2 ≤ n, .fsl sz (h.2.toNat - l.2.toNat) ((cs.drop (l.2.toNat * sz)).take ((h.2.toNat - l.2.toNat) * sz)))
  | .msl id sz' b off len cap =>
    let h := optI ρ len hi
    match mx with
    | none => (l.1 ∧ h.1 ∧ sz' = sz ∧ 0 ≤ l.2 ∧ l.2 ≤ h.2 ∧ h.2 ≤ cap, .msl id sz b (if cap = l.2.toNat then off else off + l.2.toNat * sz) (h.2.toNat - l.2.toNat) (cap - l.2.toNat))
    | some _ =>
      let m := optI ρ len mx
      (l.1 ∧ h.1 ∧ m.1 ∧ hi.isSome ∧ sz' = sz ∧ 0 ≤ l.2 ∧ l.2 ≤ h.2 ∧ h.2 ≤ m.2 ∧ m.2 ≤ cap, if m.2 = l.2 then .fsl sz 0 [] else .msl id sz b (off + l.2.toNat * sz) (h.2.toNat - l.2.toNat) (m.2.toNat - l.2.toNat))
  | _ => (False, .any)
def slAQ (n sz : Nat) (x : LV) (lo hi mx : Option X) (ρ : X → LV) : Prop × LV :=
  let l := optI ρ 0 lo
  let h := optI ρ n hi
  match mx, x with
  | none, .ptr id b off => (l.1 ∧ h.1 ∧ 0 ≤ l.2 ∧ l.2 ≤ h.2 ∧ h.2 ≤ n ∧ l.2 < n, .msl id sz b (off + l.2.toNat * sz) (h.2.toNat - l.2.toNat) (n - l.2.toNat))
  | none, .rp cs off => (l.1 ∧ h.1 ∧ 0 ≤ l.2 ∧ l.2 ≤ h.2 ∧ h.2 ≤ n ∧ l.2 < n ∧ off + n * sz ≤ cs.length, .sl sz (h.2.toNat - l.2.toNat) ((cs.drop (off + l.2.toNat * sz)).take ((h.2.toNat - l.2.toNat) * sz)))
  | _, _ => (False, .any)
def idxI (i : LV) : Prop × Int := match i with | .int _ n => (True, n) | _ => (False, 0)
def iaAQ (n sz : Nat) (x i : LV) : Prop × LV :=
  let j := idxI i
  match x with
  | .rp cs o => (j.1 ∧ 0 ≤ j.2 ∧ j.2 < n, .rp cs (o + j.2.toNat * sz))
  | .ptr id b o => (j.1 ∧ 0 ≤ j.2 ∧ j.2 < n, .ptr id b (o + j.2.toNat * sz))
  | _ => (False, .any)
def iaSQ (sz : Nat) (x i : LV) : Prop × LV :=
  let j := idxI i
  match x with
  | .sl sz' n cs => (j.1 ∧ sz' = sz ∧ 0 ≤ j.2 ∧ j.2 < n, .rp cs (j.2.toNat * sz))
  | .fsl sz' n cs => (j.1 ∧ sz' = sz ∧ 0 ≤ j.2 ∧ j.2 < n, .rp cs (j.2.toNat * sz))
  | .osl _ _ sz' n cs => (j.1 ∧ sz' = sz ∧ 0 ≤ j.2 ∧ j.2 < n, .rp cs (j.2.toNat * sz))
  | .msl id sz' b off len _ => (j.1 ∧ sz' = sz ∧ 0 ≤ j.2 ∧ j.2 < len, .ptr id b (off + j.2.toNat * sz))
  | _ => (False, .any)
def ixSQ (x i : LV) : Prop × LV :=
  let j := idxI i
  match x with
  | .str s => (j.1 ∧ 0 ≤ j.2 ∧ j.2 < s.length, .int .u8 (s.getD j.2.toNat 0).toNat)
  | _ => (False, .any)
def ixAQ (agg : Bool) (n sz : Nat) (x i : LV) : Prop × LV :=
  let j := idxI i
  match x with
  | .agg cs => (j.1 ∧ 0 ≤ j.2 ∧ j.2 < n ∧ cs.length = n * sz, partL agg sz (j.2.toNat * sz) cs)
  | _ => (False, .any)
def fldQ (agg : Bool) (sz off : Nat) (x : LV) : Prop × LV :=
  match x with
  | .agg cs => (off + sz ≤ cs.length, partL agg sz off cs)
  | _ => (False, .any)
def extQ (x : LV) (i : Nat) : Prop × LV :=
  match x with
  | .tup vs => (i < vs.length, vs.getD i .any)
  | _ => (False, .any)
def lenQ (x : LV) : Prop × LV :=
  match x with
  | .str s => (True, .int .i64 s.length)
  | _ => (False, .any)
def lenLQ (x : LV) : Prop × LV :=
  match x with
  | .sl _ n _ => (True, .int .i64 n)
  | .osl _ _ _ n _ => (True, .int .i64 n)
  | .fsl _ n _ => (True, .int .i64 n)
  | .msl _ _ _ _ n _ => (True, .int .i64 n)
  | _ => (False, .any)
def capQ (x : LV) : Prop × LV :=
  match x with
  | .fsl _ n _ => (True, .int .i64 n)
  | .msl _ _ _ _ _ c => (True, .int .i64 c)
  | _ => (False, .any)
def nilcQ (x : LV) : Prop × LV :=
  match x with
  | .ptr id b o => (True, .ptr id b o)
  | .rp cs o => (True, .rp cs o)
  | .fn f => (True, .fn f)
  | .sl a b c => (True, .sl a b c)
  | .osl a b c d e => (True, .osl a b c d e)
  | .fsl a b c => (True, .fsl a b c)
  | .msl a b c d e f => (True, .msl a b c d e f)
  | .clo f cs => (True, .clo f cs)
  | _ => (False, .any)
def eqNQ (neg : Bool) (x y : LV) : Prop × LV :=
  match x, y with
  | .nil, .nil => (True, .bool (!neg))
  | .nil, .ptr .. => (True, .bool neg)
  | .nil, .rp .. => (True, .bool neg)
  | .ptr .., .nil => (True, .bool neg)
  | .rp .., .nil => (True, .bool neg)
  | _, _ => (False, .any)
def leafQ (k : Nat) (x y : LV) : Prop × Bool :=
  match x, y with
  | .int k1 a, .int k2 b => (k = 1 ∧ k1 = k2, a == b)
  | .str a, .str b => (k = 2, a == b)
  | .bool a, .bool b => (k = 0, a == b)
  | _, _ => (False, true)
def leavesQ (xs ys : List LV) : List (Nat × Nat) → Prop × Bool
  | [] => (True, true)
  | i :: r => ((leafQ i.2 (xs.getD i.1 .any) (ys.getD i.1 .any)).1 ∧ (leavesQ xs ys r).1, (leafQ i.2 (xs.getD i.1 .any) (ys.getD i.1 .any)).2 && (leavesQ xs ys r).2)
def eqSQ (neg : Bool) (s : Nat) (ls : List (Nat × Nat)) (x y : LV) : Prop × LV :=
  match x, y with
  | .agg xs, .agg ys => (xs.length = s ∧ ys.length = s ∧ (leavesQ xs ys ls).1, .bool (if neg then !(leavesQ xs ys ls).2 else (leavesQ xs ys ls).2))
  | _, _ => (False, .any)
def pickQ (c a b : LV) : Prop × LV :=
  match c.v, a.v, b.v with
  | .bool c', .bool a', .bool b' => (c.g ∧ (c' = true → a.g) ∧ (c' = false → b.g), .bool (cond c' a' b'))
  | .bool c', .any, .bool b' => (c.g ∧ c' = false ∧ b.g, .bool b')
  | .bool c', .bool a', .any => (c.g ∧ c' = true ∧ a.g, .bool a')
  | _, _, _ => (False, .any)
def eqBQ (neg : Bool) (x y : LV) : Prop × LV :=
  match x, y with
  | .bool a, .bool b => (True, .bool (if neg then !(a == b) else a == b))
  | _, _ => (False, .any)
def convQ (k : IntKind) (x : LV) : Prop × LV :=
  match x with
  | .int _ n => (True, .int k (k.wrap n))
  | _ => (False, .any)
def sameQ (x : LV) : Prop × LV :=
  match x with
  | .str s => (True, .str s)
  | _ => (False, .any)
def toByte : LV → UInt8
  | .int _ n => UInt8.ofNat n.toNat
  | _ => 0
def isByte : LV → Bool
  | .int .u8 _ => true
  | _ => false
def b2sQ (x : LV) (H : Heap) : Prop × LV :=
  match x with
  | .sl 1 _ cs => (∀ c ∈ cs, isByte c = true, .str (cs.map toByte))
  | .fsl 1 _ cs => (∀ c ∈ cs, isByte c = true, .str (cs.map toByte))
  | .osl _ _ 1 _ cs => (∀ c ∈ cs, isByte c = true, .str (cs.map toByte))
  | .msl id 1 b off len _ => match getH H id with
    | some (.blk b' cs) => (b' = b ∧ off + len ≤ cs.length ∧ ∀ c ∈ (cs.drop off).take len, isByte c = true, .str (((cs.drop off).take len).map toByte))
    | _ => (False, .any)
  | _ => (False, .any)
def mm2 (mx : Bool) (x y : LV) : Prop × LV :=
  match x, y with
  | .int k a, .int k' b => (k = k', .int k (if mx then (if a < b then b else a) else (if b < a then b else a)))
  | _, _ => (False, .any)
def mmQ (mx : Bool) (ρ : X → LV) : LV → List X → Prop × LV
  | x, [] => (True, x)
  | x, y :: r => ((ρ y).g ∧ (mm2 mx x (ρ y).v).1 ∧ (mmQ mx ρ (mm2 mx x (ρ y).v).2 r).1, (mmQ mx ρ (mm2 mx x (ρ y).v).2 r).2)
def q (o : LOp) (ρ : X → LV) (H : Heap) : Prop × LV :=
  match o with
  | .mov x => ((ρ x).g, (ρ x).v)
  | .pick c a b => pickQ (ρ c) (ρ a) (ρ b)
  | .build z parts => (gParts ρ parts ∧ (fillL z (vParts ρ parts)).isSome = true, .agg ((fillL z (vParts ρ parts)).getD []))
  | .load agg sz x => ((ρ x).g ∧ (loadQ agg sz (ρ x).v H).1, (loadQ agg sz (ρ x).v H).2)
  | .nilc x => ((ρ x).g ∧ (nilcQ (ρ x).v).1, (nilcQ (ρ x).v).2)
  | .bin op x y => ((ρ x).g ∧ (ρ y).g ∧ (binQ op (ρ x).v (ρ y).v).1, (binQ op (ρ x).v (ρ y).v).2)
  | .eqB neg x y => ((ρ x).g ∧ (ρ y).g ∧ (eqBQ neg (ρ x).v (ρ y).v).1, (eqBQ neg (ρ x).v (ρ y).v).2)
  | .eqN neg x y => ((ρ x).g ∧ (ρ y).g ∧ (eqNQ neg (ρ x).v (ρ y).v).1, (eqNQ neg (ρ x).v (ρ y).v).2)
  | .eqS neg s ls x y => ((ρ x).g ∧ (ρ y).g ∧ (eqSQ neg s ls (ρ x).v (ρ y).v).1, (eqSQ neg s ls (ρ x).v (ρ y).v).2)
  | .un op x => ((ρ x).g ∧ (unQ op (ρ x).v).1, (unQ op (ρ x).v).2)
  | .conv k x => ((ρ x).g ∧ (convQ k (ρ x).v).1, (convQ k (ρ x).v).2)
  | .same x => ((ρ x).g ∧ (sameQ (ρ x).v).1, (sameQ (ρ x).v).2)
  | .b2s x => ((ρ x).g ∧ (b2sQ (ρ x).v H).1, (b2sQ (ρ x).v H).2)
  | .slS x lo hi => match (ρ x).v with
    | .str s => ((ρ x).g ∧ (optI ρ 0 lo).1 ∧ (optI ρ s.length hi).1 ∧ (slSQ s (optI ρ 0 lo).2 (optI ρ s.length hi).2).1, (slSQ s (optI ρ 0 lo).2 (optI ρ s.length hi).2).2)
    | _ => (False, .any)
  | .slL sz x lo hi mx => ((ρ x).g ∧ (slLQ sz (ρ x).v lo hi mx ρ).1, (slLQ sz (ρ x).v lo hi mx ρ).2)
  | .slA n sz x lo hi mx => ((ρ x).g ∧ (slAQ n sz (ρ x).v lo hi mx ρ).1, (slAQ n sz (ρ x).v lo hi mx ρ).2)
  | .faddr off x => ((ρ x).g ∧ (faddrQ off (ρ x).v).1, (faddrQ off (ρ x).v).2)
  | .fld agg sz off x => ((ρ x).g ∧ (fldQ agg sz off (ρ x).v).1, (fldQ agg sz off (ρ x).v).2)
  | .iaA n sz x i => ((ρ x).g ∧ (ρ i).g ∧ (iaAQ n sz (ρ x).v (ρ i).v).1, (iaAQ n sz (ρ x).v (ρ i).v).2)
  | .iaS sz x i => ((ρ x).g ∧ (ρ i).g ∧ (iaSQ sz (ρ x).v (ρ i).v).1, (iaSQ sz (ρ x).v (ρ i).v).2)
  | .ixA agg n sz x i => ((ρ x).g ∧ (ρ i).g ∧ (ixAQ agg n sz (ρ x).v (ρ i).v).1, (ixAQ agg n sz (ρ x).v (ρ i).v).2)
  | .ixS x i => ((ρ x).g ∧ (ρ i).g ∧ (ixSQ (ρ x).v (ρ i).v).1, (ixSQ (ρ x).v (ρ i).v).2)
  | .ext x i => ((ρ x).g ∧ (extQ (ρ x).v i).1, (extQ (ρ x).v i).2)
  | .len x => ((ρ x).g ∧ (lenQ (ρ x).v).1, (lenQ (ρ x).v).2)
  | .lenL x => ((ρ x).g ∧ (lenLQ (ρ x).v).1, (lenLQ (ρ x).v).2)
  | .lenA n => (True, .int .i64 n)
  | .cap x => ((ρ x).g ∧ (capQ (ρ x).v).1, (capQ (ρ x).v).2)
  | .mkf f xs => (∀ x ∈ xs, (ρ x).g, .clo f (xs.map fun x => (ρ x).v))
  | .mm mx x xs => ((ρ x).g ∧ (mmQ mx ρ (ρ x).v xs).1, (mmQ mx ρ (ρ x).v xs).2)
  | _ => (False, .any)
end Go.Lx
