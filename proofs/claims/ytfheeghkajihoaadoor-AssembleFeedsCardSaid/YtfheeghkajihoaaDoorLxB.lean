/- Memory: reading, new blocks, stores, publishing a block, in terms of the invariant. -/
import Derived.Test.YtfheeghkajihoaaDoorLxA
import Derived.Laws.Cells
namespace Go.Lx
set_option linter.unusedSimpArgs false
set_option linter.unusedVariables false
open RowKit

theorem addr_add (b o n : Nat) : (⟨b, o, none⟩ : Addr).add n = ⟨b, o + n, none⟩ := by
  unfold Addr.add; split <;> simp_all

theorem cell_lt {w : World} {b o : Nat} {v : Value} (h : w.cell? ⟨b, o, none⟩ = some v) : b < w.heap.size := by
  unfold World.cell? at h
  split at h
  · rename_i c t f hb
    rcases Nat.lt_or_ge b w.heap.size with hlt | hge
    · exact hlt
    · simp [Array.getElem?_eq_none hge] at hb
  · cases h

/-- Reading cells in a row. -/
theorem run_loadCells_at {P : Program} {w : World} (b o : Nat) (vs : List Value) (h : ∀ i v, vs[i]? = some v → w.cell? ⟨b, o + i, none⟩ = some v) :
    (loadCells ⟨b, o, none⟩ vs.length).run P w = .ok vs.toArray w :=
  run_loadCells_list (P := P) (w := w) ⟨b, o, none⟩ vs (fun j v hj => by rw [addr_add]; exact h j v hj)

theorem imm_cells {M : Imm} {cs : List LV} {b o : Nat} (h : RCs M b o cs) : ∃ vs : List Value, RVs M cs vs ∧ ∀ i v, vs[i]? = some v → M b (o + i) = some v := by
  induction cs generalizing o with
  | nil => exact ⟨[], by simp [RVs], by simp⟩
  | cons c cs ih =>
    simp only [RCs] at h
    obtain ⟨⟨u, hu, hv⟩, hs⟩ := h
    obtain ⟨us, h1, h2⟩ := ih hs
    refine ⟨u :: us, by simp only [RVs]; exact ⟨u, us, rfl, hv, h1⟩, fun i v hi => ?_⟩
    cases i with
    | zero => simp at hi; subst hi; simpa using hu
    | succ i => rw [show o + (i + 1) = o + 1 + i by omega]; exact h2 i v (by simpa using hi)

theorem own_cells {M : Imm} {w : World} {b : Nat} {cs : List LV} (h : entOK M w (.blk b cs)) : ∃ vs : List Value, RVs M cs vs ∧ ∀ i v, vs[i]? = some v → w.cell? ⟨b, i, none⟩ = some v ∧ v.oneCell' = true := by
  simp only [entOK] at h
  have key : ∀ (cs : List LV) (o : Nat), (∀ (i : Nat) (c : LV), cs[i]? = some c → ∃ u, w.cell? ⟨b, o + i, none⟩ = some u ∧ RV M c u ∧ u.oneCell' = true) →
      ∃ vs : List Value, RVs M cs vs ∧ ∀ i v, vs[i]? = some v → w.cell? ⟨b, o + i, none⟩ = some v ∧ v.oneCell' = true := by
    intro cs
    induction cs with
    | nil => intro o _; exact ⟨[], by simp [RVs], by simp⟩
    | cons c cs ih =>
      intro o h
      obtain ⟨u, hu, hv, ho⟩ := h 0 c (by simp)
      obtain ⟨us, h1, h2⟩ := ih (o + 1) (fun i c' hc => by rw [show o + 1 + i = o + (i + 1) by omega]; exact h (i + 1) c' (by simpa using hc))
      refine ⟨u :: us, by simp only [RVs]; exact ⟨u, us, rfl, hv, h1⟩, fun i v hi => ?_⟩
      cases i with
      | zero => simp at hi; subst hi; exact ⟨by simpa using hu, ho⟩
      | succ i => rw [show o + (i + 1) = o + 1 + i by omega]; exact h2 i v (by simpa using hi)
  obtain ⟨vs, h1, h2⟩ := key cs 0 (fun i c hc => by obtain ⟨u, a, _, b, d⟩ := h i c hc; exact ⟨u, by simpa using a, b, d⟩)
  exact ⟨vs, h1, fun i v hi => by simpa using h2 i v hi⟩

/-- A world with the same heap. -/
theorem Inv.same_heap {gl : Glob} {w0 : World} {M : Imm} {H : Heap} {w w' : World} (h : Inv gl w0 M H w) (hh : w'.heap = w.heap) (ho : w'.os = w.os) (hp : w'.output = w.output) (ht : w'.tape = w.tape) : Inv gl w0 M H w' := by
  have hc : ∀ a, w'.cell? a = w.cell? a := fun a => by simp [World.cell?, hh]
  have hf : ∀ a, w'.frozen? a = w.frozen? a := fun a => by simp [World.frozen?, hh]
  refine ⟨⟨ho.trans h.below.os, ht.trans h.below.tape, hp.trans h.below.output, by rw [hh]; exact h.below.size, fun k hk => by rw [hh]; exact h.below.block k hk⟩, fun b o v hv => ?_, fun e he => ?_, h.sep, h.free, h.glob, fun b hb => by simpa only [World.shape?, hh] using h.new b hb, fun e he => (h.plain e he).of fun b cs _ _ o => hf _⟩
  · rw [hc]; exact h.imm b o v hv
  · obtain ⟨h1, h3⟩ := h.own e he
    refine ⟨h1, ?_⟩
    generalize e.2 = e' at h3
    cases e' with
    | blk b cs => simp only [entOK] at h3 ⊢; simpa only [hc, hf] using h3
    | tok t => simp only [entOK] at h3 ⊢; simpa only [hc, hf] using h3
    | map b es => simp only [entOK] at h3 ⊢; rw [hh]; exact h3

theorem Inv.drew {gl : Glob} {w0 : World} {M : Imm} {H : Heap} {w : World} (h : Inv gl w0 M H w) (n : Nat) : Inv gl w0 M H { w with drawn := n } :=
  h.same_heap rfl rfl rfl rfl

theorem shape_lt {w : World} {b : Nat} {x : TypeId × Nat} (h : w.shape? b = some x) : b < w.heap.size := by
  unfold World.shape? at h
  split at h
  · rename_i c t f hb
    rcases Nat.lt_or_ge b w.heap.size with hlt | hge
    · exact hlt
    · simp [Array.getElem?_eq_none hge] at hb
  · cases h
theorem push_shape (w : World) (c : Array Value) (t : TypeId) (fz : Nat × Nat) (b : Nat) (hb : b < w.heap.size) :
    World.shape? { w with heap := w.heap.push (.cells c t fz) } b = w.shape? b := by
  simp only [World.shape?]
  rw [Array.getElem?_push, if_neg (by omega)]
theorem setCell_shape (w : World) (a : Addr) (v : Value) (b : Nat) : (w.setCell a v).shape? b = w.shape? b := by
  simp only [World.shape?, World.setCell, Array.getElem?_modify]
  by_cases h : a.block = b
  · subst h
    rw [if_pos rfl]
    cases hb : w.heap[a.block]? with
    | none => rfl
    | some o =>
      cases o <;> simp
      split <;> simp
  · rw [if_neg h]
theorem setCells_shape (b : Nat) : ∀ (vs : List Value) (o : Nat) (w : World) (b' : Nat), (w.setCells b o vs).shape? b' = w.shape? b'
  | [], _, _, _ => rfl
  | v :: r, o, w, b' => by rw [World.setCells, setCells_shape b r, setCell_shape]

/-- A new block of cells. -/
theorem push_cell (w : World) (c : Array Value) (t : TypeId) (fz : Nat × Nat) (b o : Nat) (hb : b ≠ w.heap.size) :
    World.cell? { w with heap := w.heap.push (.cells c t fz) } ⟨b, o, none⟩ = w.cell? ⟨b, o, none⟩ := by
  simp only [World.cell?]
  rw [Array.getElem?_push, if_neg hb]
theorem push_frozen (w : World) (c : Array Value) (t : TypeId) (fz : Nat × Nat) (b o : Nat) (hb : b ≠ w.heap.size) :
    World.frozen? { w with heap := w.heap.push (.cells c t fz) } ⟨b, o, none⟩ = w.frozen? ⟨b, o, none⟩ := by
  simp only [World.frozen?]
  rw [Array.getElem?_push, if_neg hb]
theorem push_new (w : World) (c : Array Value) (t : TypeId) (fz : Nat × Nat) (o : Nat) :
    World.cell? { w with heap := w.heap.push (.cells c t fz) } ⟨w.heap.size, o, none⟩ = c[o]? := by
  simp [World.cell?]
theorem push_new_frozen (w : World) (c : Array Value) (t : TypeId) (fz : Nat × Nat) (o : Nat) (h : ¬ (fz.1 ≤ o ∧ o < fz.2)) :
    World.frozen? { w with heap := w.heap.push (.cells c t fz) } ⟨w.heap.size, o, none⟩ = false := by
  simp only [World.frozen?, Array.getElem?_push_size]
  simp only [Bool.and_eq_false_iff, decide_eq_false_iff_not]
  omega

theorem entOK.push {M : Imm} {w : World} {e : Ent} (h : entOK M w e) (c : Array Value) (t : TypeId) (fz : Nat × Nat) : entOK M { w with heap := w.heap.push (.cells c t fz) } e := by
  cases e with
  | blk b cs =>
    simp only [entOK] at h ⊢
    intro i c' hc
    obtain ⟨u, h1, h2, h3⟩ := h i c' hc
    have hb := cell_lt h1
    exact ⟨u, by rw [push_cell _ _ _ _ _ _ (by omega)]; exact h1, by rw [push_frozen _ _ _ _ _ _ (by omega)]; exact h2, h3⟩
  | tok τ =>
    simp only [entOK] at h ⊢
    intro o h1 h2
    obtain ⟨⟨u, h3⟩, h4⟩ := h o h1 h2
    have hb := cell_lt h3
    exact ⟨⟨u, by rw [push_cell _ _ _ _ _ _ (by omega)]; exact h3⟩, by rw [push_frozen _ _ _ _ _ _ (by omega)]; exact h4⟩
  | map b es =>
    simp only [entOK] at h ⊢
    obtain ⟨arr, clock, h1, h2⟩ := h
    have hb : b < w.heap.size := (Array.getElem?_eq_some_iff.1 h1).1
    exact ⟨arr, clock, by rw [Array.getElem?_push, if_neg (by omega)]; exact h1, h2⟩

theorem below_push {w0 w : World} (h : Below w0.heap.size w0 w) (o : Obj) : Below w0.heap.size w0 { w with heap := w.heap.push o } :=
  ⟨h.os, h.tape, h.output, by have := h.size; simp; omega, fun k hk => by
    have := h.size
    show (w.heap.push o)[k]? = _
    rw [Array.getElem?_push, if_neg (by omega)]; exact h.block k hk⟩

theorem Inv.imm_lt {gl : Glob} {w0 : World} {M : Imm} {H : Heap} {w : World} (h : Inv gl w0 M H w) {b o : Nat} {v : Value} (hv : M b o = some v) : b < w.heap.size :=
  cell_lt (h.imm b o v hv).1

theorem entOK.lt {M : Imm} {w : World} {e : Ent} (h : entOK M w e) {b o : Nat} (hr : e.reg b o) : b < w.heap.size := by
  cases e with
  | blk b2 cs =>
    simp only [entOK, Ent.reg] at h hr
    obtain ⟨rfl, hlt⟩ := hr
    obtain ⟨u, h1, _⟩ := h o cs[o] (by simp [hlt])
    exact cell_lt h1
  | tok τ =>
    simp only [entOK, Ent.reg] at h hr
    obtain ⟨rfl, h1, h2⟩ := hr
    obtain ⟨⟨u, h3⟩, _⟩ := h o h1 h2
    exact cell_lt h3
  | map b2 es =>
    simp only [entOK, Ent.reg] at h hr
    obtain ⟨rfl, _⟩ := hr
    obtain ⟨arr, clock, h1, _⟩ := h
    exact (Array.getElem?_eq_some_iff.1 h1).1

theorem Ent.reg_b {e : Ent} {b o : Nat} (h : e.reg b o) : b = e.b := by
  cases e <;> simp only [Ent.reg, Ent.b] at h ⊢ <;> exact h.1

/-- A new block, nothing known of it but what the old ones are. -/
theorem Inv.push {gl : Glob} {w0 : World} {M : Imm} {H : Heap} {w : World} (h : Inv gl w0 M H w) (c : Array Value) (t : TypeId) (fz : Nat × Nat) : Inv gl w0 M H { w with heap := w.heap.push (.cells c t fz) } :=
  ⟨below_push h.below _, fun b o v hv => by rw [push_cell _ _ _ _ _ _ (by have := h.imm_lt hv; omega)]; exact h.imm b o v hv,
   fun e he => by
    obtain ⟨h1, h3⟩ := h.own e he
    exact ⟨h1, h3.push _ _ _⟩, h.sep, h.free, h.glob, fun b hb => by
    obtain ⟨h1, t', N, h2, h3⟩ := h.new b hb
    exact ⟨h1, t', N, by rw [push_shape _ _ _ _ _ (shape_lt h2)]; exact h2, h3⟩,
   fun e he => (h.plain e he).of fun b cs hb hne o => push_frozen _ _ _ _ _ _ (by
    have := (h.own e he).2.lt (b := b) (o := 0) (by rw [hb]; exact ⟨rfl, List.length_pos_iff.2 hne⟩)
    omega)⟩

/-- A new block that is owned. -/
theorem Inv.push_own {gl : Glob} {w0 : World} {M : Imm} {H : Heap} {w : World} (h : Inv gl w0 M H w) (id : Nat) (vs : List Value) (cs : List LV) (t : TypeId) (hv : RVs M cs vs) (h1 : ∀ v ∈ vs, v.oneCell' = true) (fz : Nat × Nat) (hfz : ∀ o, ¬ (fz.1 ≤ o ∧ o < fz.2)) :
    Inv gl w0 M ((id, .blk w.heap.size cs) :: H) { w with heap := w.heap.push (.cells vs.toArray t fz) } := by
  have hp := h.push vs.toArray t fz
  refine ⟨hp.below, hp.imm, fun e he => ?_, ?_, fun e he => ?_, hp.glob, hp.new, plain_cons (fun _ o => push_new_frozen _ _ _ _ _ (hfz o)) hp.plain⟩
  · rcases List.mem_cons.1 he with rfl | he
    · refine ⟨fun b o hr => by have e1 := Ent.reg_b hr; simp only [Ent.b] at e1; rw [e1]; exact h.below.size, ?_⟩
      simp only [entOK]
      intro i c hc
      obtain ⟨u, hu, hru⟩ := RVs_get hv i c hc
      refine ⟨u, by rw [push_new]; simpa using hu, push_new_frozen _ _ _ _ _ (hfz i), hru, h1 u (List.mem_of_getElem? hu)⟩
    · exact hp.own e he
  · refine List.pairwise_cons.2 ⟨fun e he b o hr hr' => ?_, hp.sep⟩
    have := (h.own e he).2.lt hr'
    have e1 := Ent.reg_b hr
    simp only [Ent.b] at e1
    omega
  · rcases List.mem_cons.1 he with rfl | he
    · intro b o hr
      have e1 := Ent.reg_b hr
      simp only [Ent.b] at e1
      cases hm : M b o with
      | none => rfl
      | some v => have := h.imm_lt hm; omega
    · exact hp.free e he

/-- A block that is owned becomes immutable. -/
theorem Inv.publish {gl : Glob} {w0 : World} {M : Imm} {H : Heap} {w : World} {id b : Nat} {cs : List LV} (h : Inv gl w0 M ((id, .blk b cs) :: H) w) :
    ∃ M', MLe M M' ∧ Inv gl w0 M' H w ∧ RCs M' b 0 cs := by
  obtain ⟨hlo, hok⟩ := h.own _ (List.mem_cons_self ..)
  have hfree := h.free _ (List.mem_cons_self ..)
  simp only [Ent.reg] at hfree
  let M' : Imm := ⟨fun b' o => if b' = b ∧ o < cs.length then w.cell? ⟨b, o, none⟩ else M b' o, M.new⟩
  have hM : MLe M M' := by
    refine ⟨fun b' o v hv => ?_, fun _ h => h⟩
    show (if b' = b ∧ o < cs.length then w.cell? ⟨b, o, none⟩ else M b' o) = some v
    split
    · rename_i hc
      have := hfree b' o hc
      rw [this] at hv; cases hv
    · exact hv
  have hsep := List.pairwise_cons.1 h.sep
  simp only [entOK] at hok
  refine ⟨M', hM, ⟨h.below, fun b' o v hv => ?_, fun e he => ?_, hsep.2, fun e he b' o hr => ?_, fun g cs' hg => RCs.mono hM _ _ _ (h.glob g cs' hg), fun b' hb => (h.new b' hb).imp (fun h => h) fun ⟨t, N, h1, h2⟩ => ⟨t, N, h1, fun o ho => (h2 o ho).imp fun v hv => hM.1 _ _ _ hv⟩, fun e he => h.plain e (List.mem_cons_of_mem _ he)⟩, RCs_of_get fun i c hc => ?_⟩
  · change (if b' = b ∧ o < cs.length then w.cell? ⟨b, o, none⟩ else M b' o) = some v at hv
    split at hv
    · rename_i hc
      obtain ⟨rfl, hlt'⟩ := hc
      refine ⟨hv, ?_⟩
      obtain ⟨u, h1, _, _, h4⟩ := hok o cs[o] (by simp [hlt'])
      rw [h1] at hv; cases hv; exact h4
    · exact h.imm b' o v hv
  · obtain ⟨h1, h3⟩ := h.own e (List.mem_cons_of_mem _ he)
    refine ⟨h1, ?_⟩
    cases he2 : e.2 with
    | blk b2 cs2 =>
      rw [he2] at h3
      simp only [entOK] at h3 ⊢
      intro i c hc
      obtain ⟨u, a1, a2, a3, a4⟩ := h3 i c hc
      exact ⟨u, a1, a2, RV.mono hM _ _ a3, a4⟩
    | tok τ => rw [he2] at h3; exact h3
    | map b2 es => rw [he2] at h3; exact h3
  · show (if b' = b ∧ o < cs.length then w.cell? ⟨b, o, none⟩ else M b' o) = none
    split
    · rename_i hc
      exact absurd hr (hsep.1 e he b' o (by simpa [Ent.reg] using hc))
    · exact h.free e (List.mem_cons_of_mem _ he) b' o hr
  · have hlt' : i < cs.length := by
      rcases Nat.lt_or_ge i cs.length with h' | h'
      · exact h'
      · rw [List.getElem?_eq_none h'] at hc; cases hc
    obtain ⟨u, h1, _, h3, _⟩ := hok i c hc
    refine ⟨u, ?_, RV.mono hM _ _ h3⟩
    show (if b = b ∧ 0 + i < cs.length then w.cell? ⟨b, 0 + i, none⟩ else M b (0 + i)) = some u
    rw [if_pos ⟨rfl, by omega⟩, Nat.zero_add]; exact h1

theorem setCell_map {w : World} {a : Addr} {u : Value} {b2 : Nat} {arr : Array MapEntry} {clock : Nat} (h : w.heap[b2]? = some (.map arr clock)) : (w.setCell a u).heap[b2]? = some (.map arr clock) := by
  simp only [World.setCell, Array.getElem?_modify]
  split
  · rename_i e; subst e; rw [h]; rfl
  · exact h
theorem setCells_map {b2 : Nat} {arr : Array MapEntry} {clock : Nat} (b : Nat) : ∀ (vs : List Value) (o : Nat) (w : World), w.heap[b2]? = some (.map arr clock) → (w.setCells b o vs).heap[b2]? = some (.map arr clock)
  | [], _, _, h => h
  | v :: r, o, w, h => by rw [World.setCells]; exact setCells_map b r _ _ (setCell_map h)
/-- What a store into owned cells does to a resource. -/
theorem entOK.stored {M : Imm} {w : World} {b o : Nat} {vs : List Value} {e : Ent} (h : entOK M w e) (hd : ∀ j, j < vs.length → ¬ e.reg b (o + j)) : entOK M (w.setCells b o vs) e := by
  have out : ∀ i, e.reg e.b i → (w.setCells b o vs).cell? ⟨e.b, i, none⟩ = w.cell? ⟨e.b, i, none⟩ := by
    intro i hi
    refine World.cell?_setCells_out b vs o w _ (fun h1 _ => ?_)
    simp only at h1
    by_cases h2 : i < o
    · exact Or.inl h2
    · right
      rcases Nat.lt_or_ge i (o + vs.length) with h3 | h3
      · refine absurd ?_ (hd (i - o) (by omega))
        rw [show o + (i - o) = i by omega, ← h1]; exact hi
      · exact h3
  cases e with
  | blk b2 cs =>
    simp only [entOK] at h ⊢
    intro i c hc
    obtain ⟨u, a1, a2, a3⟩ := h i c hc
    have hlt' : i < cs.length := by
      rcases Nat.lt_or_ge i cs.length with h' | h'
      · exact h'
      · rw [List.getElem?_eq_none h'] at hc; cases hc
    have ho := out i ⟨rfl, hlt'⟩
    simp only [Ent.b] at ho
    exact ⟨u, by rw [ho]; exact a1, by rw [World.frozen?_setCells]; exact a2, a3⟩
  | tok τ =>
    simp only [entOK] at h ⊢
    intro i h1 h2
    obtain ⟨⟨u, a1⟩, a2⟩ := h i h1 h2
    have ho := out i ⟨rfl, h1, h2⟩
    simp only [Ent.b] at ho
    exact ⟨⟨u, by rw [ho]; exact a1⟩, by rw [World.frozen?_setCells]; exact a2⟩
  | map b2 es =>
    simp only [entOK] at h ⊢
    obtain ⟨arr, clock, a1, a2⟩ := h
    exact ⟨arr, clock, setCells_map _ _ _ _ a1, a2⟩

theorem setCells_size (b : Nat) : ∀ (vs : List Value) (o : Nat) (w : World), (w.setCells b o vs).heap.size = w.heap.size
  | [], _, _ => rfl
  | v :: r, o, w => by rw [World.setCells, setCells_size b r]; simp

theorem setCells_below {B : Nat} {w0 : World} (b : Nat) (hb : B ≤ b) : ∀ (vs : List Value) (o : Nat) (w : World), Below B w0 w → Below B w0 (w.setCells b o vs)
  | [], _, _, h => h
  | v :: r, o, w, h => by rw [World.setCells]; exact setCells_below b hb r _ _ (h.setCell (p := ⟨b, o, none⟩) hb v)

/-- A store into cells of which no resource of H and no immutable cell is made. -/
theorem Inv.stored {gl : Glob} {w0 : World} {M : Imm} {H : Heap} {w : World} (h : Inv gl w0 M H w) {b o : Nat} {vs : List Value} (hb : vs ≠ [] → w0.heap.size ≤ b)
    (hM : ∀ j, j < vs.length → M b (o + j) = none) (hH : ∀ e ∈ H, ∀ j, j < vs.length → ¬ e.2.reg b (o + j)) : Inv gl w0 M H (w.setCells b o vs) :=
  ⟨by
    cases vs with
    | nil => exact h.below
    | cons v r => exact setCells_below b (hb (by simp)) _ o w h.below, fun b' i v hv => by
    refine ⟨?_, (h.imm b' i v hv).2⟩
    rw [World.cell?_setCells_out b vs o w _ (fun h1 _ => ?_)]
    · exact (h.imm b' i v hv).1
    · simp only at h1
      subst h1
      by_cases h2 : i < o
      · exact Or.inl h2
      · right
        rcases Nat.lt_or_ge i (o + vs.length) with h3 | h3
        · have := hM (i - o) (by omega)
          rw [show o + (i - o) = i by omega, hv] at this; cases this
        · exact h3,
   fun e he => by
    obtain ⟨h1, h3⟩ := h.own e he
    exact ⟨h1, h3.stored (hH e he)⟩, h.sep, h.free, h.glob, fun b' hb' => by
    obtain ⟨h1, t', N, h2, h3⟩ := h.new b' hb'
    exact ⟨h1, t', N, by rw [setCells_shape]; exact h2, h3⟩,
   fun e he => (h.plain e he).of fun b' cs _ _ o' => World.frozen?_setCells ..⟩

/-- 'cs' with 'ds' written over it from 'o' on. -/
def splice (cs ds : List LV) (o : Nat) : List LV := cs.take o ++ ds ++ cs.drop (o + ds.length)
theorem splice_length {cs ds : List LV} {o : Nat} (h : o + ds.length ≤ cs.length) : (splice cs ds o).length = cs.length := by
  simp [splice]; omega

theorem splice_get {cs ds : List LV} {o : Nat} (h : o + ds.length ≤ cs.length) (i : Nat) : (splice cs ds o)[i]? = if o ≤ i ∧ i < o + ds.length then ds[i - o]? else cs[i]? := by
  unfold splice
  have ht : (cs.take o).length = o := by simp; omega
  by_cases h1 : i < o
  · rw [if_neg (by omega), List.append_assoc, List.getElem?_append_left (by omega), List.getElem?_take, if_pos h1]
  · by_cases h2 : i < o + ds.length
    · rw [if_pos ⟨by omega, h2⟩, List.append_assoc, List.getElem?_append_right (by omega), List.getElem?_append_left (by omega), ht]
    · rw [if_neg (by omega), List.getElem?_append_right (by simp; omega), List.getElem?_drop]
      congr 1
      simp; omega

/-- A store into a block that is owned. -/
theorem Inv.store_blk {gl : Glob} {w0 : World} {M : Imm} {H : Heap} {w : World} {id b : Nat} {cs ds : List LV} {o : Nat} {vs : List Value}
    (h : Inv gl w0 M ((id, .blk b cs) :: H) w) (hr : o + ds.length ≤ cs.length) (hv : RVs M ds vs) (h1 : ∀ v ∈ vs, v.oneCell' = true) :
    Inv gl w0 M ((id, .blk b (splice cs ds o)) :: H) (w.setCells b o vs) := by
  have hlen := RVs_length hv
  obtain ⟨hlo, hok⟩ := h.own _ (List.mem_cons_self ..)
  have hsep := List.pairwise_cons.1 h.sep
  have hfree := h.free _ (List.mem_cons_self ..)
  have hreg : ∀ b' o', Ent.reg (.blk b (splice cs ds o)) b' o' ↔ Ent.reg (.blk b cs) b' o' := fun b' o' => by simp only [Ent.reg, splice_length hr]
  have h0 : Inv gl w0 M H w := h.sub (List.sublist_cons_self _ _)
  have hs : Inv gl w0 M H (w.setCells b o vs) := h0.stored (fun hne => hlo b o ⟨rfl, by have := List.length_pos_iff.2 hne; omega⟩) (fun j hj => hfree b (o + j) ⟨rfl, by omega⟩)
    (fun e he j hj hre => hsep.1 e he b (o + j) ⟨rfl, by omega⟩ hre)
  refine ⟨hs.below, hs.imm, fun e he => ?_, List.pairwise_cons.2 ⟨fun e he b' o' hr' => hsep.1 e he b' o' ((hreg b' o').1 hr'), hsep.2⟩, fun e he => ?_, hs.glob, hs.new, plain_cons (fun hne o' => by
    rw [World.frozen?_setCells]
    exact h.plain _ (List.mem_cons_self ..) (fun e => hne (List.length_eq_zero_iff.1 (by rw [splice_length hr, e]; rfl))) o') hs.plain⟩
  · rcases List.mem_cons.1 he with rfl | he
    · refine ⟨fun b' o' hr' => hlo b' o' ((hreg b' o').1 hr'), ?_⟩
      simp only [entOK] at hok ⊢
      intro i c hc
      rw [splice_get hr] at hc
      rw [World.frozen?_setCells]
      have hi : i < cs.length := by
        split at hc
        · omega
        · rcases Nat.lt_or_ge i cs.length with h' | h'
          · exact h'
          · rw [List.getElem?_eq_none h'] at hc; cases hc
      obtain ⟨u0, b1, b2, b3, b4⟩ := hok i cs[i] (by simp [hi])
      split at hc
      · rename_i hin
        obtain ⟨u, hu, hru⟩ := RVs_get hv _ c hc
        have hcell := World.cell?_setCells_in b vs o w (fun j hj => by
          obtain ⟨u1, c1, _⟩ := hok (o + j) cs[o + j] (by simp)
          simp [c1]) (i - o) (by omega)
        rw [show o + (i - o) = i by omega] at hcell
        refine ⟨u, ?_, b2, hru, h1 u (List.mem_of_getElem? hu)⟩
        rw [hcell]
        rw [List.getElem?_eq_getElem (by omega)] at hu
        exact hu
      · rename_i hin
        obtain ⟨u, c1, c2, c3, c4⟩ := hok i c hc
        refine ⟨u, ?_, c2, c3, c4⟩
        rw [World.cell?_setCells_out b vs o w _ (fun _ _ => by simp only; omega)]
        exact c1
    · exact hs.own e he
  · rcases List.mem_cons.1 he with rfl | he
    · intro b' o' hr'
      exact hfree b' o' ((hreg b' o').1 hr')
    · exact hs.free e he

/-- a world in which nothing of what was there has changed -/
theorem Inv.same {gl : Glob} {w0 : World} {M : Imm} {H : Heap} {w w' : World} (h : Inv gl w0 M H w) (hb : RowKit.Below w.heap.size w w') : Inv gl w0 M H w' := by
  have hc : ∀ {b o : Nat} {v : Value}, w.cell? ⟨b, o, none⟩ = some v → w'.cell? ⟨b, o, none⟩ = some v ∧ w'.frozen? ⟨b, o, none⟩ = w.frozen? ⟨b, o, none⟩ := fun {b o v} hv => by
    have hl := cell_lt hv
    exact ⟨by rw [hb.cell (p := ⟨b, o, none⟩) hl]; exact hv, hb.frozen (p := ⟨b, o, none⟩) hl⟩
  refine ⟨h.below.trans (hb.mono h.below.size), fun b o v hv => ⟨(hc (h.imm b o v hv).1).1, (h.imm b o v hv).2⟩, fun e he => ⟨(h.own e he).1, ?_⟩, h.sep, h.free, h.glob, fun b hn => ?_, fun e he => (h.plain e he).of fun b cs hb2 hne o => hb.frozen (p := ⟨b, o, none⟩) ((h.own e he).2.lt (b := b) (o := 0) (by rw [hb2]; exact ⟨rfl, List.length_pos_iff.2 hne⟩))⟩
  · have h1 := (h.own e he).2
    cases he2 : e.2 with
    | blk b cs =>
      rw [he2] at h1
      simp only [entOK] at h1 ⊢
      intro i c hi
      obtain ⟨u, a1, a2, a3, a4⟩ := h1 i c hi
      exact ⟨u, (hc a1).1, by rw [(hc a1).2]; exact a2, a3, a4⟩
    | tok t =>
      rw [he2] at h1
      simp only [entOK] at h1 ⊢
      intro o h2 h3
      obtain ⟨⟨u, a1⟩, a2⟩ := h1 o h2 h3
      exact ⟨⟨u, (hc a1).1⟩, by rw [(hc a1).2]; exact a2⟩
    | map b es =>
      rw [he2] at h1
      simp only [entOK] at h1 ⊢
      obtain ⟨arr, clock, a1, a2⟩ := h1
      exact ⟨arr, clock, by rw [hb.block b (Array.getElem?_eq_some_iff.1 a1).1]; exact a1, a2⟩
  · obtain ⟨h1, t, N, h2, h3⟩ := h.new b hn
    refine ⟨h1, t, N, ?_, h3⟩
    have hl := shape_lt h2
    have := hb.block b hl
    unfold World.shape? at h2 ⊢
    rw [this]; exact h2
/-- a new map -/
theorem Inv.newMap {gl : Glob} {w0 : World} {M : Imm} {H : Heap} {w : World} (h : Inv gl w0 M H w) (id : Nat) : Inv gl w0 M ((id, .map w.heap.size []) :: H) (w.alloc (.map #[] 0)) := by
  have h1 : Inv gl w0 M H (w.alloc (.map #[] 0)) := h.same ((RowKit.Below.refl _ w).alloc (Nat.le_refl _) _)
  have hlt : ∀ e ∈ H, ∀ b o, e.2.reg b o → b < w.heap.size := fun e he b o hr => (h.own e he).2.lt hr
  refine ⟨h1.below, h1.imm, fun e he => ?_, List.pairwise_cons.2 ⟨fun e he b o hr hr2 => ?_, h1.sep⟩, fun e he b o hr => ?_, h1.glob, h1.new, plain_cons trivial h1.plain⟩
  · rcases List.mem_cons.1 he with rfl | he
    · refine ⟨fun b o hr => ?_, ?_⟩
      · simp only [Ent.reg] at hr
        rw [hr.1]; exact h.below.size
      · simp only [entOK]
        exact ⟨#[], 0, by show (w.heap.push _)[w.heap.size]? = _; simp, by simp, by simp⟩
    · exact h1.own e he
  · simp only [Ent.reg] at hr
    have := hlt e he b o hr2
    omega
  · rcases List.mem_cons.1 he with rfl | he
    · simp only [Ent.reg] at hr
      cases hm : M b o with
      | none => rfl
      | some v => have := h.imm_lt hm; omega
    · exact h.free e he b o hr
/-- the entries of a map that is owned change -/
theorem Inv.turnMap {gl : Glob} {w0 : World} {M : Imm} {H : Heap} {w : World} {id b : Nat} {es es' : List (LV × LV)} (h : Inv gl w0 M ((id, .map b es) :: H) w) {arr' : Array MapEntry} {clock' : Nat}
    (hk : arr'.toList.Pairwise fun e e' => e.key ≠ e'.key) (hv : arr'.toList.map (fun e => (some e.key, some e.val)) = es'.map fun p => (kvOf p.1, kvOf p.2)) : Inv gl w0 M ((id, .map b es') :: H) { w with heap := w.heap.setIfInBounds b (.map arr' clock') } := by
  obtain ⟨hlo, hok⟩ := h.own _ (List.mem_cons_self ..)
  simp only [entOK] at hok
  obtain ⟨arr, clock, hb, _, _⟩ := hok
  have hlt : b < w.heap.size := (Array.getElem?_eq_some_iff.1 hb).1
  have hlob : w0.heap.size ≤ b := hlo b 0 ⟨rfl, rfl⟩
  have hne : ∀ k, k ≠ b → (w.heap.setIfInBounds b (.map arr' clock'))[k]? = w.heap[k]? := fun k hk => by rw [Array.getElem?_setIfInBounds, if_neg (fun e => hk e.symm)]
  have hcell : ∀ {b' o : Nat} {v : Value}, w.cell? ⟨b', o, none⟩ = some v → b' ≠ b := fun {b' o v} hv e => by
    subst e
    simp [World.cell?, hb] at hv
  have hc : ∀ {b' o : Nat} {v : Value}, w.cell? ⟨b', o, none⟩ = some v → World.cell? { w with heap := w.heap.setIfInBounds b (.map arr' clock') } ⟨b', o, none⟩ = some v ∧ World.frozen? { w with heap := w.heap.setIfInBounds b (.map arr' clock') } ⟨b', o, none⟩ = w.frozen? ⟨b', o, none⟩ := fun {b' o v} hv => by
    have hn := hne b' (hcell hv)
    constructor
    · rw [← hv]; exact World.cell?_of_block (w := w) hn
    · exact World.frozen?_of_block (w := w) hn
  refine ⟨⟨h.below.os, h.below.tape, h.below.output, by simpa using h.below.size, fun k hk2 => by rw [hne k (by omega)]; exact h.below.block k hk2⟩, fun b' o v hv => ⟨(hc (h.imm b' o v hv).1).1, (h.imm b' o v hv).2⟩, fun e he => ?_, List.pairwise_cons.2 ⟨(List.pairwise_cons.1 h.sep).1, (List.pairwise_cons.1 h.sep).2⟩, fun e he b' o hr => ?_, h.glob, fun b' hn => ?_, plain_cons trivial fun e he => (h.plain e (List.mem_cons_of_mem _ he)).of fun b2 cs hb2 hne2 o => World.frozen?_of_block (w := w) (hne b2 fun e3 => by
    subst e3
    obtain ⟨u, hu, _⟩ := (show entOK M w (.blk b2 cs) from hb2 ▸ (h.own e (List.mem_cons_of_mem _ he)).2) 0 (cs[0]'(List.length_pos_iff.2 hne2)) (by simp)
    exact hcell hu rfl)⟩
  · rcases List.mem_cons.1 he with rfl | hm
    · refine ⟨fun b' o hr => hlo b' o hr, ?_⟩
      simp only [entOK]
      exact ⟨arr', clock', by simp [hlt], hk, hv⟩
    · have h1 := h.own e (List.mem_cons_of_mem _ hm)
      refine ⟨h1.1, ?_⟩
      have h2 := h1.2
      cases he2 : e.2 with
      | blk b2 cs =>
        rw [he2] at h2
        simp only [entOK] at h2 ⊢
        intro i c hi
        obtain ⟨u, a1, a2, a3, a4⟩ := h2 i c hi
        exact ⟨u, (hc a1).1, by rw [(hc a1).2]; exact a2, a3, a4⟩
      | tok t =>
        rw [he2] at h2
        simp only [entOK] at h2 ⊢
        intro o h3 h4
        obtain ⟨⟨u, a1⟩, a2⟩ := h2 o h3 h4
        exact ⟨⟨u, (hc a1).1⟩, by rw [(hc a1).2]; exact a2⟩
      | map b2 es2 =>
        rw [he2] at h2
        simp only [entOK] at h2 ⊢
        obtain ⟨arr2, clock2, a1, a2⟩ := h2
        have hn : b2 ≠ b := fun e3 => by
          subst e3
          exact (List.pairwise_cons.1 h.sep).1 e hm b2 0 ⟨rfl, rfl⟩ (by rw [he2]; exact ⟨rfl, rfl⟩)
        exact ⟨arr2, clock2, by rw [hne b2 hn]; exact a1, a2⟩
  · rcases List.mem_cons.1 he with rfl | he
    · exact h.free (id, .map b es) (List.mem_cons_self ..) b' o hr
    · exact h.free e (List.mem_cons_of_mem _ he) b' o hr
  · obtain ⟨h1, t, N, h2, h3⟩ := h.new b' hn
    refine ⟨h1, t, N, ?_, h3⟩
    have hn2 : b' ≠ b := fun e => by
      subst e
      simp [World.shape?, hb] at h2
    unfold World.shape? at h2 ⊢
    rw [show ({ w with heap := w.heap.setIfInBounds b (.map arr' clock') } : World).heap[b']? = w.heap[b']? from hne b' hn2]
    exact h2
end Go.Lx
