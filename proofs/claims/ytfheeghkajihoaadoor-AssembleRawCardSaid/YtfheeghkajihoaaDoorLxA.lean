/- The logical values of the engine, what they stand for in memory, and the invariant of a world. -/
import Derived.Orders
import Derived.Tactics
import Derived.Below
import Derived.Laws.IdiomCopy
namespace Go.Lx
set_option linter.unusedSimpArgs false
set_option linter.unusedVariables false

/-- A range of cells: block b, offsets lo .. hi-1. -/
structure Tok where
  b : Nat
  lo : Nat
  hi : Nat

/-- Logical values. -/
inductive LV where
  | any
  | int (k : IntKind) (n : Int)
  | bool (b : Bool)
  | str (s : List UInt8)
  | nil
  | ptr (id b off : Nat)
  | rp (cs : List LV) (off : Nat)
  | agg (cs : List LV)
  | tup (vs : List LV)
  | sl (sz n : Nat) (cs : List LV)
  | osl (id : Nat) (t : Tok) (sz n : Nat) (cs : List LV)
  | fsl (sz n : Nat) (cs : List LV)
  | msl (id sz b off len cap : Nat)
  | raw (v : Value)
  | fn (f : Nat)
  | clo (f : Nat) (caps : List LV)
  | opt (g : Bool) (v : LV)
  | nsl (sz n : Nat) (cs : List LV)
  deriving Inhabited

/-- Immutable cells, and blocks that are known to be new. -/
structure Imm where
  f : Nat → Nat → Option Value
  new : Nat → Prop
instance : CoeFun Imm (fun _ => Nat → Nat → Option Value) := ⟨Imm.f⟩

mutual
def RV (M : Imm) : LV → Value → Prop
  | .any, _ => True
  | .int k n, v => v = .int k n
  | .bool b, v => v = .bool b
  | .str s, v => v = .string ⟨s.toArray⟩
  | .nil, v => v = .pointer none
  | .ptr _ b off, v => v = .pointer (some ⟨b, off, none⟩)
  | .rp cs off, v => ∃ b o, v = .pointer (some ⟨b, o + off, none⟩) ∧ RCs M b o cs
  | .agg cs, v => ∃ vs : List Value, v = .agg vs.toArray ∧ RVs M cs vs ∧ ∀ u ∈ vs, u.oneCell' = true
  | .tup cs, v => ∃ vs : List Value, v = .tuple vs.toArray ∧ RVs M cs vs
  | .sl sz n cs, v => cs.length = n * sz ∧ ((∃ b o cap, v = .slice (some ⟨b, o, none⟩) n cap ∧ n ≤ cap ∧ RCs M b o cs) ∨ (∃ a cap, v = .slice a 0 cap ∧ n = 0))
  | .osl _ t sz n cs, v => cs.length = n * sz ∧ ((∃ b o cap, v = .slice (some ⟨b, o, none⟩) n cap ∧ n ≤ cap ∧ RCs M b o cs ∧ (cap = n ∨ (b = t.b ∧ t.lo = o + n * sz ∧ t.hi = o + cap * sz))) ∨ (∃ a, v = .slice a 0 0 ∧ n = 0))
  | .fsl sz n cs, v => cs.length = n * sz ∧ ((∃ b o, v = .slice (some ⟨b, o, none⟩) n n ∧ RCs M b o cs) ∨ (∃ a, v = .slice a 0 0 ∧ n = 0))
  | .raw u, v => v = u
  | .msl _ _ b off len cap, v => v = .slice (some ⟨b, off, none⟩) len cap ∨ (cap = 0 ∧ len = 0 ∧ ∃ a, v = .slice a 0 0)
  | .fn f, v => v = .func (.func f) #[] #[]
  | .clo f cs, v => ∃ vs : List Value, v = .func (.func f) #[] vs.toArray ∧ RVs M cs vs
  | .opt g x, v => (g = true → RV M x v) ∧ (g = false → v = undef)
  | .nsl sz n cs, v => cs.length = n * sz ∧ ∃ b, v = .slice (some ⟨b, 0, none⟩) n n ∧ M.new b ∧ RCs M b 0 cs
def RVs (M : Imm) : List LV → List Value → Prop
  | [], vs => vs = []
  | c :: cs, vs => ∃ u us, vs = u :: us ∧ RV M c u ∧ RVs M cs us
def RCs (M : Imm) (b o : Nat) : List LV → Prop
  | [] => True
  | c :: cs => (∃ u, M b o = some u ∧ RV M c u) ∧ RCs M b (o + 1) cs
end

def MLe (M M' : Imm) : Prop := (∀ b o v, M b o = some v → M' b o = some v) ∧ ∀ b, M.new b → M'.new b

theorem MLe.refl (M : Imm) : MLe M M := ⟨fun _ _ _ h => h, fun _ h => h⟩
theorem MLe.trans {M M' M'' : Imm} (h : MLe M M') (h' : MLe M' M'') : MLe M M'' := ⟨fun b o v hv => h'.1 b o v (h.1 b o v hv), fun b hb => h'.2 b (h.2 b hb)⟩

mutual
theorem RV.mono {M M' : Imm} (hM : MLe M M') : ∀ (x : LV) (v : Value), RV M x v → RV M' x v
  | .any, _, _ => by simp [RV]
  | .int k n, v, h => by simpa [RV] using h
  | .bool b, v, h => by simpa [RV] using h
  | .str s, v, h => by simpa [RV] using h
  | .nil, v, h => by simpa [RV] using h
  | .ptr _ b off, v, h => by simpa [RV] using h
  | .rp cs off, v, h => by
    simp only [RV] at h ⊢
    obtain ⟨b, o, e, hc⟩ := h
    exact ⟨b, o, e, RCs.mono hM cs b o hc⟩
  | .agg cs, v, h => by
    simp only [RV] at h ⊢
    obtain ⟨vs, e, hc, h1⟩ := h
    exact ⟨vs, e, RVs.mono hM cs vs hc, h1⟩
  | .tup cs, v, h => by
    simp only [RV] at h ⊢
    obtain ⟨vs, e, hc⟩ := h
    exact ⟨vs, e, RVs.mono hM cs vs hc⟩
  | .sl sz n cs, v, h => by
    simp only [RV] at h ⊢
    refine ⟨h.1, h.2.imp ?_ id⟩
    rintro ⟨b, o, cap, e, hle, hc⟩
    exact ⟨b, o, cap, e, hle, RCs.mono hM cs b o hc⟩
  | .osl _ t sz n cs, v, h => by
    simp only [RV] at h ⊢
    refine ⟨h.1, h.2.imp ?_ id⟩
    rintro ⟨b, o, cap, e, hle, hc, hl⟩
    exact ⟨b, o, cap, e, hle, RCs.mono hM cs b o hc, hl⟩
  | .fsl sz n cs, v, h => by
    simp only [RV] at h ⊢
    refine ⟨h.1, h.2.imp ?_ id⟩
    rintro ⟨b, o, e, hc⟩
    exact ⟨b, o, e, RCs.mono hM cs b o hc⟩
  | .raw u, v, h => by simpa [RV] using h
  | .msl _ _ b off len cap, v, h => by simpa [RV] using h
  | .fn f, v, h => by simpa [RV] using h
  | .clo f cs, v, h => by
    simp only [RV] at h ⊢
    obtain ⟨vs, e, hc⟩ := h
    exact ⟨vs, e, RVs.mono hM cs vs hc⟩
  | .opt g x, v, h => by
    simp only [RV] at h ⊢
    exact ⟨fun hg => RV.mono hM x v (h.1 hg), h.2⟩
  | .nsl sz n cs, v, h => by
    simp only [RV] at h ⊢
    obtain ⟨h1, b, h2, h3, h4⟩ := h
    exact ⟨h1, b, h2, hM.2 b h3, RCs.mono hM cs b 0 h4⟩
theorem RVs.mono {M M' : Imm} (hM : MLe M M') : ∀ (cs : List LV) (vs : List Value), RVs M cs vs → RVs M' cs vs
  | [], vs, h => by simpa [RVs] using h
  | c :: cs, vs, h => by
    simp only [RVs] at h ⊢
    obtain ⟨u, us, e, hu, hs⟩ := h
    exact ⟨u, us, e, RV.mono hM c u hu, RVs.mono hM cs us hs⟩
theorem RCs.mono {M M' : Imm} (hM : MLe M M') : ∀ (cs : List LV) (b o : Nat), RCs M b o cs → RCs M' b o cs
  | [], _, _, _ => by simp [RCs]
  | c :: cs, b, o, h => by
    simp only [RCs] at h ⊢
    obtain ⟨⟨u, hu, hv⟩, hs⟩ := h
    exact ⟨⟨u, hM.1 _ _ _ hu, RV.mono hM c u hv⟩, RCs.mono hM cs b (o + 1) hs⟩
end

/-- Lists of values, index by index. -/
theorem RVs_length {M : Imm} : ∀ {cs : List LV} {vs : List Value}, RVs M cs vs → vs.length = cs.length
  | [], vs, h => by simp only [RVs] at h; simp [h]
  | c :: cs, vs, h => by
    simp only [RVs] at h
    obtain ⟨u, us, rfl, _, hs⟩ := h
    simp [RVs_length hs]

theorem RVs_get {M : Imm} : ∀ {cs : List LV} {vs : List Value}, RVs M cs vs → ∀ (i : Nat) (c : LV), cs[i]? = some c → ∃ v, vs[i]? = some v ∧ RV M c v
  | [], vs, h, i, c, hc => by simp at hc
  | c0 :: cs, vs, h, i, c, hc => by
    simp only [RVs] at h
    obtain ⟨u, us, rfl, hu, hs⟩ := h
    cases i with
    | zero => simp at hc; subst hc; exact ⟨u, by simp, hu⟩
    | succ i => simp at hc; simpa using RVs_get hs i c hc

theorem RVs_append {M : Imm} : ∀ {cs ds : List LV} {vs us : List Value}, RVs M cs vs → RVs M ds us → RVs M (cs ++ ds) (vs ++ us)
  | [], ds, vs, us, h, h' => by simp only [RVs] at h; subst h; simpa using h'
  | c :: cs, ds, vs, us, h, h' => by
    simp only [RVs] at h
    obtain ⟨u, us', rfl, hu, hs⟩ := h
    simp only [List.cons_append, RVs]
    exact ⟨u, us' ++ us, rfl, hu, RVs_append hs h'⟩

theorem RVs_of_get {M : Imm} : ∀ {cs : List LV} {vs : List Value}, vs.length = cs.length → (∀ (i : Nat) (c : LV) (v : Value), cs[i]? = some c → vs[i]? = some v → RV M c v) → RVs M cs vs
  | [], vs, hl, _ => by simp only [RVs]; simpa using hl
  | c :: cs, [], hl, _ => by simp at hl
  | c :: cs, u :: us, hl, h => by
    simp only [RVs]
    refine ⟨u, us, rfl, h 0 c u (by simp) (by simp), RVs_of_get (by simpa using hl) fun i c' v' hc hv => h (i + 1) c' v' (by simpa using hc) (by simpa using hv)⟩

theorem RCs_get {M : Imm} : ∀ {cs : List LV} {b o : Nat}, RCs M b o cs → ∀ (i : Nat) (c : LV), cs[i]? = some c → ∃ v, M b (o + i) = some v ∧ RV M c v
  | [], b, o, h, i, c, hc => by simp at hc
  | c0 :: cs, b, o, h, i, c, hc => by
    simp only [RCs] at h
    obtain ⟨⟨u, hu, hv⟩, hs⟩ := h
    cases i with
    | zero => simp at hc; subst hc; exact ⟨u, by simpa using hu, hv⟩
    | succ i =>
      simp at hc
      obtain ⟨v, h1, h2⟩ := RCs_get hs i c hc
      exact ⟨v, by rw [show o + (i + 1) = o + 1 + i by omega]; exact h1, h2⟩

theorem RCs_of_get {M : Imm} : ∀ {cs : List LV} {b o : Nat}, (∀ (i : Nat) (c : LV), cs[i]? = some c → ∃ v, M b (o + i) = some v ∧ RV M c v) → RCs M b o cs
  | [], b, o, _ => by simp [RCs]
  | c0 :: cs, b, o, h => by
    simp only [RCs]
    refine ⟨by simpa using h 0 c0 (by simp), RCs_of_get fun i c hc => ?_⟩
    obtain ⟨v, h1, h2⟩ := h (i + 1) c (by simpa using hc)
    exact ⟨v, by rw [show o + 1 + i = o + (i + 1) by omega]; exact h1, h2⟩

theorem RCs_iff {M : Imm} {cs : List LV} {b o : Nat} : RCs M b o cs ↔ ∀ (i : Nat) (c : LV), cs[i]? = some c → ∃ v, M b (o + i) = some v ∧ RV M c v :=
  ⟨RCs_get, RCs_of_get⟩

theorem RCs_append {M : Imm} {cs ds : List LV} {b o : Nat} (h : RCs M b o cs) (h' : RCs M b (o + cs.length) ds) : RCs M b o (cs ++ ds) := by
  refine RCs_of_get fun i c hc => ?_
  by_cases hi : i < cs.length
  · rw [List.getElem?_append_left hi] at hc; exact RCs_get h i c hc
  · rw [List.getElem?_append_right (by omega)] at hc
    obtain ⟨v, h1, h2⟩ := RCs_get h' _ c hc
    exact ⟨v, by rw [show o + i = o + cs.length + (i - cs.length) by omega]; exact h1, h2⟩

theorem RCs_drop {M : Imm} {cs : List LV} {b o : Nat} (k : Nat) (h : RCs M b o cs) : RCs M b (o + k) (cs.drop k) :=
  RCs_of_get fun i c hc => by
    rw [List.getElem?_drop] at hc
    obtain ⟨v, h1, h2⟩ := RCs_get h _ c hc
    exact ⟨v, by rw [show o + k + i = o + (k + i) by omega]; exact h1, h2⟩

theorem RCs_take {M : Imm} {cs : List LV} {b o : Nat} (k : Nat) (h : RCs M b o cs) : RCs M b o (cs.take k) :=
  RCs_of_get fun i c hc => by
    rw [List.getElem?_take] at hc
    split at hc
    · exact RCs_get h _ c hc
    · cases hc

/-- The values of one cell each. -/
def LV.scalar : LV → Bool
  | .int .. | .bool _ | .str _ | .nil | .ptr .. | .rp .. | .sl .. | .osl .. | .fsl .. | .msl .. | .fn _ | .clo .. | .nsl .. => true
  | .raw v => v.oneCell'
  | _ => false

theorem oneCell_of_scalar {M : Imm} {x : LV} {v : Value} (h : RV M x v) (hx : x.scalar = true) : v.oneCell' = true := by
  cases x <;> simp only [LV.scalar, Bool.false_eq_true] at hx <;> simp only [RV] at h
  all_goals first
    | (subst h; first | rfl | exact hx)
    | (rcases h with rfl | ⟨_, _, a, rfl⟩ <;> rfl)
    | (obtain ⟨b, o, rfl, _⟩ := h; rfl)
    | (obtain ⟨vs, rfl, _⟩ := h; rfl)
    | (obtain ⟨_, b, rfl, _⟩ := h; rfl)
    | (obtain ⟨_, ⟨b, o, cap, rfl, _⟩ | ⟨a, cap, rfl, _⟩⟩ := h <;> rfl)
    | (obtain ⟨_, ⟨b, o, cap, rfl, _⟩ | ⟨a, rfl, _⟩⟩ := h <;> rfl)
    | (obtain ⟨_, ⟨b, o, rfl, _⟩ | ⟨a, rfl, _⟩⟩ := h <;> rfl)

/-- The value that a plain logical value stands for: a number, a bool, a text, or a struct of such. -/
def kvOf1 : LV → Option Value
  | .int k n => some (.int k n)
  | .bool b => some (.bool b)
  | .str s => some (.string ⟨s.toArray⟩)
  | _ => none
def kvOfs : List LV → Option (List Value)
  | [] => some []
  | x :: r => match kvOf1 x, kvOfs r with
    | some v, some vs => some (v :: vs)
    | _, _ => none
def kvOf : LV → Option Value
  | .agg cs => (kvOfs cs).map fun vs => .agg vs.toArray
  | x => kvOf1 x
theorem RV_kvOf1 {M : Imm} {x : LV} {v : Value} (h : kvOf1 x = some v) : RV M x v ∧ v.oneCell' = true := by
  cases x <;> simp only [kvOf1, Option.some.injEq, reduceCtorEq] at h <;> subst h <;> exact ⟨by simp [RV], rfl⟩
theorem RVs_kvOfs {M : Imm} : ∀ {xs : List LV} {vs : List Value}, kvOfs xs = some vs → RVs M xs vs ∧ ∀ u ∈ vs, u.oneCell' = true
  | [], vs, h => by
    simp only [kvOfs, Option.some.injEq] at h
    subst h
    exact ⟨by simp [RVs], by simp⟩
  | x :: xs, vs, h => by
    simp only [kvOfs] at h
    split at h
    · rename_i v us h1 h2
      cases h
      obtain ⟨a, b⟩ := RV_kvOf1 (M := M) h1
      obtain ⟨c, d⟩ := RVs_kvOfs (M := M) h2
      refine ⟨by simp only [RVs]; exact ⟨v, us, rfl, a, c⟩, fun u hu => ?_⟩
      rcases List.mem_cons.1 hu with rfl | hu
      · exact b
      · exact d u hu
    · cases h
theorem RV_kvOf {M : Imm} {x : LV} {v : Value} (h : kvOf x = some v) : RV M x v := by
  cases x with
  | agg cs =>
    simp only [kvOf, Option.map_eq_some_iff] at h
    obtain ⟨vs, h1, rfl⟩ := h
    obtain ⟨a, b⟩ := RVs_kvOfs (M := M) h1
    simp only [RV]
    exact ⟨vs, rfl, a, b⟩
  | _ => exact (RV_kvOf1 (by simpa only [kvOf] using h)).1
theorem kvOf1_RV {M : Imm} {x : LV} {u v : Value} (h : kvOf1 x = some u) (hv : RV M x v) : v = u := by
  cases x <;> simp only [kvOf1, Option.some.injEq, reduceCtorEq] at h <;> subst h <;> simpa only [RV] using hv
theorem kvOfs_RVs {M : Imm} : ∀ {xs : List LV} {us vs : List Value}, kvOfs xs = some us → RVs M xs vs → vs = us
  | [], us, vs, h, hv => by
    simp only [kvOfs, Option.some.injEq] at h
    subst h
    simpa only [RVs] using hv
  | x :: xs, us, vs, h, hv => by
    simp only [kvOfs] at h
    split at h
    · rename_i v ws h1 h2
      cases h
      simp only [RVs] at hv
      obtain ⟨y, ys, rfl, a, b⟩ := hv
      rw [kvOf1_RV h1 a, kvOfs_RVs h2 b]
    · cases h
theorem kvOf_RV {M : Imm} {x : LV} {u v : Value} (h : kvOf x = some u) (hv : RV M x v) : v = u := by
  cases x with
  | agg cs =>
    simp only [kvOf, Option.map_eq_some_iff] at h
    obtain ⟨us, h1, rfl⟩ := h
    simp only [RV] at hv
    obtain ⟨vs, rfl, a, _⟩ := hv
    rw [kvOfs_RVs h1 a]
  | _ => exact kvOf1_RV (by simpa only [kvOf] using h) hv

/-- Resources: whole blocks with known contents; spare cells behind a slice; a map with its entries. -/
inductive Ent where
  | blk (b : Nat) (cs : List LV)
  | tok (t : Tok)
  | map (b : Nat) (es : List (LV × LV))

def Ent.b : Ent → Nat
  | .blk b _ => b
  | .tok t => t.b
  | .map b _ => b
def Ent.reg : Ent → Nat → Nat → Prop
  | .blk b cs, b', o => b' = b ∧ o < cs.length
  | .tok t, b', o => b' = t.b ∧ t.lo ≤ o ∧ o < t.hi
  | .map b _, b', o => b' = b ∧ o = 0

abbrev Heap := List (Nat × Ent)
abbrev Env := List (Nat × LV)

def entOK (M : Imm) (w : World) : Ent → Prop
  | .blk b cs => ∀ (i : Nat) (c : LV), cs[i]? = some c → ∃ u, w.cell? ⟨b, i, none⟩ = some u ∧ w.frozen? ⟨b, i, none⟩ = false ∧ RV M c u ∧ u.oneCell' = true
  | .tok t => ∀ o, t.lo ≤ o → o < t.hi → (∃ u, w.cell? ⟨t.b, o, none⟩ = some u) ∧ w.frozen? ⟨t.b, o, none⟩ = false
  | .map b es => ∃ arr clock, w.heap[b]? = some (.map arr clock) ∧ (arr.toList.Pairwise fun e e' => e.key ≠ e'.key) ∧ arr.toList.map (fun e => (some e.key, some e.val)) = es.map fun p => (kvOf p.1, kvOf p.2)

def Apart (e e' : Nat × Ent) : Prop := ∀ b o, e.2.reg b o → ¬ e'.2.reg b o
theorem Apart.symm {e e' : Nat × Ent} (h : Apart e e') : Apart e' e := fun b o h' h'' => h b o h'' h'

abbrev Glob := Nat → Option (List LV)

/-- a block that is owned has no mark, neither in its cells nor behind them -/
def plainE (w : World) : Ent → Prop
  | .blk b cs => cs ≠ [] → ∀ o, w.frozen? ⟨b, o, none⟩ = false
  | _ => True

structure Inv (gl : Glob) (w0 : World) (M : Imm) (H : Heap) (w : World) : Prop where
  below : RowKit.Below w0.heap.size w0 w
  imm : ∀ b o v, M b o = some v → w.cell? ⟨b, o, none⟩ = some v ∧ v.oneCell' = true
  own : ∀ e ∈ H, (∀ b o, e.2.reg b o → w0.heap.size ≤ b) ∧ entOK M w e.2
  sep : H.Pairwise Apart
  free : ∀ e ∈ H, ∀ b o, e.2.reg b o → M b o = none
  glob : ∀ g cs, gl g = some cs → RCs M g 0 cs
  new : ∀ b, M.new b → w0.heap.size ≤ b ∧ ∃ t N, w.shape? b = some (t, N) ∧ ∀ o, o < N → ∃ v, M b o = some v
  plain : ∀ e ∈ H, plainE w e.2

theorem Inv.perm {gl : Glob} {w0 : World} {M : Imm} {H H' : Heap} {w : World} (h : Inv gl w0 M H w) (p : H.Perm H') : Inv gl w0 M H' w :=
  { h with
    own := fun e he => h.own e (p.mem_iff.2 he)
    sep := (p.pairwise_iff (fun h => Apart.symm h)).1 h.sep
    free := fun e he => h.free e (p.mem_iff.2 he)
    plain := fun e he => h.plain e (p.mem_iff.2 he) }

theorem Inv.sub {gl : Glob} {w0 : World} {M : Imm} {H H' : Heap} {w : World} (h : Inv gl w0 M H w) (p : H'.Sublist H) : Inv gl w0 M H' w :=
  { h with
    own := fun e he => h.own e (p.mem he)
    sep := h.sep.sublist p
    free := fun e he => h.free e (p.mem he)
    plain := fun e he => h.plain e (p.mem he) }

/-- names are but names -/
theorem Inv.names {gl : Glob} {w0 : World} {M : Imm} {w : World} {H H' : Heap} (h : Inv gl w0 M H w) (hn : H.map Prod.snd = H'.map Prod.snd) : Inv gl w0 M H' w := by
  have key : ∀ {H H' : Heap}, H.map Prod.snd = H'.map Prod.snd → ∀ e ∈ H', ∃ e0 ∈ H, e0.2 = e.2 := by
    intro H H' hn e he
    have : e.2 ∈ H.map Prod.snd := by rw [hn]; exact List.mem_map.2 ⟨e, he, rfl⟩
    obtain ⟨e0, h1, h2⟩ := List.mem_map.1 this
    exact ⟨e0, h1, h2⟩
  refine ⟨h.below, h.imm, fun e he => ?_, ?_, fun e he => ?_, h.glob, h.new, fun e he => ?_⟩
  · obtain ⟨e0, h1, h2⟩ := key hn e he
    rw [← h2]; exact h.own e0 h1
  · have h1 : (H.map Prod.snd).Pairwise fun a b => ∀ b' o, a.reg b' o → ¬ b.reg b' o := by
      rw [List.pairwise_map]; exact h.sep
    rw [hn, List.pairwise_map] at h1
    exact h1
  · obtain ⟨e0, h1, h2⟩ := key hn e he
    rw [← h2]; exact h.free e0 h1
  · obtain ⟨e0, h1, h2⟩ := key hn e he
    rw [← h2]; exact h.plain e0 h1
theorem plainE.of {w w' : World} {e : Ent} (h : plainE w e) (hf : ∀ b cs, e = .blk b cs → cs ≠ [] → ∀ o, w'.frozen? ⟨b, o, none⟩ = w.frozen? ⟨b, o, none⟩) : plainE w' e := by
  cases e with
  | blk b cs => intro hne o; rw [hf b cs rfl hne]; exact h hne o
  | tok t => trivial
  | map b es => trivial
theorem plain_cons {w : World} {H : Heap} {e0 : Nat × Ent} (h0 : plainE w e0.2) (h : ∀ e ∈ H, plainE w e.2) : ∀ e ∈ e0 :: H, plainE w e.2 := fun e he => by
  rcases List.mem_cons.1 he with rfl | he
  · exact h0
  · exact h e he
/-! ### Slots -/
def get : Env → Nat → LV
  | [], _ => .any
  | (i, v) :: r, t => if i = t then v else get r t

/-- The state of a frame: 'env' for the variables ('vs'), 'tmp' for the temporaries. -/
structure Fr (vs : Nat → Bool) (n : Nat) (env tmp : Env) (M : Imm) (a : Act) : Prop where
  size : a.tmps.size = n
  defers : a.defers = []
  vars : ∀ t, vs t = true → RV M (get env t) (a.tmps.getD t undef)
  tmps : ∀ t, vs t = false → RV M (get tmp t) (a.tmps.getD t undef)

theorem Fr.mono {vs : Nat → Bool} {n : Nat} {env tmp : Env} {M M' : Imm} {a : Act} (h : Fr vs n env tmp M a) (hM : MLe M M') : Fr vs n env tmp M' a :=
  ⟨h.size, h.defers, fun t ht => RV.mono hM _ _ (h.vars t ht), fun t ht => RV.mono hM _ _ (h.tmps t ht)⟩

end Go.Lx
