/- Calls, and the operations that make or write memory. -/
import Derived.Test.YtfheeghkajihoaaDoorLxF
import Derived.Maps.Keyed
namespace Go.Lx
set_option linter.unusedSimpArgs false
set_option linter.unusedVariables false
open RowKit

/-- a call of a function with a body, or of one that the model itself answers -/
def CallsX (P : Program) (f : FuncId) (args : Array Value) (w : World) (R : Ending → World → Prop) : Prop :=
  ((∀ fn, P.funcs[f]? = some fn → fn.body.isNone = false) ∧ Calls P f args w R) ∨ ((∃ fn, P.funcs[f]? = some fn ∧ fn.body.isNone = true) ∧ ∃ v w', (callFunc f args).run P w = .ok (.value v) w' ∧ R (.returned v) w')
theorem CallsX.mono {P : Program} {f : FuncId} {args : Array Value} {w : World} {R R' : Ending → World → Prop} (h : CallsX P f args w R) (hk : ∀ e w', R e w' → R' e w') : CallsX P f args w R' := by
  rcases h with ⟨h1, h2⟩ | ⟨h1, v, w', h2, h3⟩
  · exact .inl ⟨h1, h2.mono hk⟩
  · exact .inr ⟨h1, v, w', h2, hk _ _ h3⟩
theorem CallsX.of {P : Program} {f : FuncId} {args : Array Value} {w : World} {R : Ending → World → Prop} {fn : Func} {c : Code} (hf : P.funcs[f]? = some fn) (hb : fn.body = some c) (h : Calls P f args w R) : CallsX P f args w R :=
  .inl ⟨fun fn' h' => by rw [hf] at h'; cases h'; rw [hb]; rfl, h⟩
theorem CallsX.calls {P : Program} {f : FuncId} {args : Array Value} {w : World} {R : Ending → World → Prop} {fn : Func} (h : CallsX P f args w R) (hf : P.funcs[f]? = some fn) (hb : fn.body.isNone = false) : Calls P f args w R := by
  rcases h with ⟨_, h⟩ | ⟨⟨fn', h1, h2⟩, _⟩
  · exact h
  · rw [hf] at h1; cases h1; rw [hb] at h2; cases h2

/-- What a call does, in logical terms, whatever else is owned. -/
def LCalls (P : Program) (gl : Glob) (f : FuncId) (args : List LV) (H : Heap) (K : LV → Heap → Prop) : Prop :=
  ∀ (w0 : World) (M : Imm) (HF : Heap) (w : World) (vs : List Value), Inv gl w0 M (H ++ HF) w → RVs M args vs →
    CallsX P f vs.toArray w fun e w' => ∃ M' v r H', MLe M M' ∧ e = .returned v ∧ RV M' r v ∧ Inv gl w0 M' (H' ++ HF) w' ∧ K r H'

theorem LCalls.mono {P : Program} {gl : Glob} {f : FuncId} {args : List LV} {H : Heap} {K K' : LV → Heap → Prop} (h : LCalls P gl f args H K) (hk : ∀ r H', K r H' → K' r H') : LCalls P gl f args H K' :=
  fun w0 M HF w vs hI hv => (h w0 M HF w vs hI hv).mono fun _ _ ⟨M', v, r, H', h1, h2, h3, h4, h5⟩ => ⟨M', v, r, H', h1, h2, h3, h4, hk _ _ h5⟩

theorem LCalls.frame {P : Program} {gl : Glob} {f : FuncId} {args : List LV} {H H2 : Heap} {K : LV → Heap → Prop} (h : LCalls P gl f args H fun r H' => K r (H' ++ H2)) : LCalls P gl f args (H ++ H2) K :=
  fun w0 M HF w vs hI hv => (h w0 M (H2 ++ HF) w vs (by rwa [List.append_assoc] at hI) hv).mono fun _ _ ⟨M', v, r, H', h1, h2, h3, h4, h5⟩ =>
    ⟨M', v, r, H' ++ H2, h1, h2, h3, by rwa [List.append_assoc], h5⟩

theorem LCalls.perm {P : Program} {gl : Glob} {f : FuncId} {args : List LV} {H H2 : Heap} {K : LV → Heap → Prop} (h : LCalls P gl f args H2 K) (p : H.Perm H2) : LCalls P gl f args H K :=
  fun w0 M HF w vs hI hv => h w0 M HF w vs (hI.perm (p.append_right HF)) hv

/-- A call that only computes. -/
def Pure (P : Program) (gl : Glob) (f : FuncId) (args : List LV) (r : LV) : Prop := LCalls P gl f args [] fun r' H => r' = r ∧ H = []

theorem LCalls.pure {P : Program} {gl : Glob} {f : FuncId} {args : List LV} {r : LV} (h : Pure P gl f args r) {H : Heap} {K : LV → Heap → Prop} (hk : K r H) : LCalls P gl f args H K :=
  LCalls.frame (H := []) (h.mono fun r' H' ⟨h1, h2⟩ => by subst h1; subst h2; exact hk)

/-- The elements of what is appended or copied. -/
def elems (sz : Nat) (y : LV) (H : Heap) : Prop × Nat × List LV :=
  match y with
  | .sl s m ys => (s = sz ∨ m = 0, m, ys)
  | .fsl s m ys => (s = sz ∨ m = 0, m, ys)
  | .osl _ _ s m ys => (s = sz ∨ m = 0, m, ys)
  | .str s => (sz = 1, s.length, s.map fun u => .int .u8 u.toNat)
  | .msl id s b off len _ => match getH H id with
    | some (.blk b' cs) => (s = sz ∧ b' = b ∧ off + len * sz ≤ cs.length, len, (cs.drop off).take (len * sz))
    | _ => (False, 0, [])
  | _ => (False, 0, [])

def zeros (z : List LV) (n : Nat) : List LV := (List.range n).map fun i => z.getD (i % z.length) .any

/-- The bytes that a new array for 'n' elements asks for stay within what the model bears. -/
def roomy (n bytes : Nat) : Prop := (5 * n + 2048) * bytes ≤ 4 * 2 ^ 48

/-- First the one, then the other with what it yields. -/
def Bd {α : Type} (p : Prop × α) (k : α → Prop) : Prop := p.1 ∧ k p.2
/-- One of the two. -/
def Either (n : Nat) (a b : Prop) : Prop := n = n ∧ (a ∨ b)

def cellsQ (x : LV) : Prop × List LV :=
  match cellsL x with
  | some cs => (True, cs)
  | none => (False, [])

/-- the length of what 'make' makes as the second operand of 'append' -/
def appZQ (bytes : Nat) (y : LV) : Prop × Nat :=
  match y with
  | .int .i64 n => (0 ≤ n ∧ n < 2 ^ 63 ∧ n * bytes ≤ 2 ^ 48, n.toNat)
  | _ => (False, 0)

/-- 'append' to a slice of which the block is owned: whatever comes of it, or in place -/
def appM (i sz bytes s b off n cap m : Nat) (ys : List LV) (H : Heap) (e : Option Ent) (K : LV → Heap → Prop) : Prop :=
  match e with
  | some (.blk b' cs) =>
    Either i (s = sz ∧ b' = b ∧ off = 0 ∧ n * sz ≤ cs.length ∧ cap * sz ≤ cs.length ∧ roomy (n + m) bytes ∧ ∀ b2 c2, n + m ≤ c2 → K (.msl i sz b2 0 (n + m) c2) ((i, .blk b2 (cs.take (n * sz) ++ ys ++ List.replicate ((c2 - (n + m)) * sz) .any)) :: delH H i))
      (s = sz ∧ b' = b ∧ n + m ≤ cap ∧ off + n * sz + ys.length ≤ cs.length ∧ K (.msl i sz b off (n + m) cap) (setH H i (.blk b (splice cs ys (off + n * sz)))))
  | _ => False
/-- 'append': 'm' elements, 'ys' -/
def appV (id sz bytes m : Nat) (x : LV) (ys : List LV) (H : Heap) (K : LV → Heap → Prop) : Prop :=
  match x with
  | .fsl s n cs => ((s = sz ∨ n = 0) ∧ roomy (n + m) bytes) ∧ ∀ τ, K (.osl id τ sz (n + m) (cs ++ ys)) ((id, .tok τ) :: H)
  | .osl i t s n cs => match getH H i with
    | some (.tok t') => (t' = t ∧ s = sz ∧ roomy (n + m) bytes) ∧ ∀ τ, K (.osl i τ sz (n + m) (cs ++ ys)) ((i, .tok τ) :: delH H i)
    | _ => False
  | .msl i s b off n cap => appM i sz bytes s b off n cap m ys H (getH H i) K
  | _ => False

/-- 'append' beyond the capacity: a new block beside the old one -/
def appN (id i sz bytes s b off n cap m : Nat) (ys : List LV) (H : Heap) (e : Option Ent) (K : LV → Heap → Prop) : Prop :=
  match e with
  | some (.blk b' cs) => (s = sz ∧ b' = b ∧ off = 0 ∧ n * sz ≤ cs.length ∧ cap < n + m ∧ roomy (n + m) bytes) ∧ ∀ b2 c2, n + m ≤ c2 → K (.msl id sz b2 0 (n + m) c2) ((id, .blk b2 (cs.take (n * sz) ++ ys ++ List.replicate ((c2 - (n + m)) * sz) .any)) :: H)
  | _ => False
/-- 'append' of zeros -/
def appZV (id sz bytes m : Nat) (x : LV) (ys : List LV) (H : Heap) (K : LV → Heap → Prop) : Prop :=
  match x with
  | .msl i s b off n cap => Either i (appM i sz bytes s b off n cap m ys H (getH H i) K) (appN id i sz bytes s b off n cap m ys H (getH H i) K)
  | x => appV id sz bytes m x ys H K
/-- 'append' to nothing: a block that is owned -/
def appFV (id sz bytes m : Nat) (x : LV) (ys : List LV) (H : Heap) (K : LV → Heap → Prop) : Prop :=
  match x with
  | .fsl _ 0 _ => roomy m bytes ∧ ∀ b2 c2, m ≤ c2 → K (.msl id sz b2 0 m c2) ((id, .blk b2 (ys ++ List.replicate ((c2 - m) * sz) .any)) :: H)
  | x => appV id sz bytes m x ys H K

/-- 'copy' -/
def copyE (i sz b off n m : Nat) (ys : List LV) (H : Heap) (e : Option Ent) (K : LV → Heap → Prop) : Prop :=
  match e with
  | some (.blk b' cs) => (b' = b ∧ off + n * sz ≤ cs.length) ∧ K (.int .i64 (min m n : Nat)) (setH H i (.blk b (splice cs (ys.take (min m n * sz)) off)))
  | _ => False
def copyV (sz m : Nat) (x : LV) (ys : List LV) (H : Heap) (K : LV → Heap → Prop) : Prop :=
  match x with
  | .msl i s b off n _ => s = sz ∧ copyE i sz b off n m ys H (getH H i) K
  | .fsl _ n _ => n = 0 ∧ K (.int .i64 0) H
  | _ => False
/-- 'clear' -/
def clearE (i sz : Nat) (z : List LV) (b off n : Nat) (H : Heap) (e : Option Ent) (K : LV → Heap → Prop) : Prop :=
  match e with
  | some (.blk b' cs) => (b' = b ∧ off + n * sz ≤ cs.length) ∧ K (.tup []) (setH H i (.blk b (splice cs (zeros z (n * sz)) off)))
  | _ => False
def clearV (sz : Nat) (z : List LV) (x : LV) (H : Heap) (K : LV → Heap → Prop) : Prop :=
  match x with
  | .msl i s b off n _ => s = sz ∧ clearE i sz z b off n H (getH H i) K
  | .fsl _ n _ => n = 0 ∧ K (.tup []) H
  | _ => False
/-- a slice that is compared with nil -/
def isNilV (neg : Bool) (x : LV) (H : Heap) (K : LV → Heap → Prop) : Prop :=
  match x with
  | .sl _ n _ => ∀ r : Bool, (r = true → n = 0) → K (.bool (r != neg)) H
  | .fsl _ n _ => ∀ r : Bool, (r = true → n = 0) → K (.bool (r != neg)) H
  | .osl _ _ _ n _ => ∀ r : Bool, (r = true → n = 0) → K (.bool (r != neg)) H
  | .msl _ _ _ _ n _ => ∀ r : Bool, (r = true → n = 0) → K (.bool (r != neg)) H
  | _ => False
def calleeQ (x : LV) : Prop × Nat × List LV :=
  match x with
  | .clo f cs => (True, f, cs)
  | .fn f => (True, f, [])
  | _ => (False, 0, [])
def okF (P : Program) (f : Nat) : Bool :=
  match P.funcs[f]? with
  | some fn => fn.name != "runtime.NumGoroutine" && !fn.body.isNone
  | none => false
/-- a call of a function that is a value -/
def LCallsV (P : Program) (gl : Glob) (f : Nat) (as : List LV) (H : Heap) (K : LV → Heap → Prop) : Prop := okF P f = true ∧ LCalls P gl f as H K

/-- the literal of '[]byte("..")' -/
def cvQ (x : LV) : Prop × LV :=
  match x with
  | .nsl sz n cs => (sz = 1, .fsl 1 n cs)
  | _ => (False, .any)
def storeQ (sz : Nat) (x y : LV) (H : Heap) : Prop × Heap :=
  match x with
  | .ptr id b off => match getH H id, cellsL y with
    | some (.blk b' cs), some ds => (b' = b ∧ ds.length = sz ∧ off + ds.length ≤ cs.length, setH H id (.blk b' (splice cs ds off)))
    | _, _ => (False, [])
  | _ => (False, [])

def strQ (x : LV) : Prop × List UInt8 :=
  match x with
  | .str s => (True, s)
  | _ => (False, [])
def makeQ (sz bytes : Nat) (z : List LV) (l c : LV) : Prop × Nat × Nat :=
  match l, c with
  | .int .i64 l, .int .i64 c => (0 ≤ l ∧ l ≤ c ∧ c < 2 ^ 63 ∧ c * bytes ≤ 2 ^ 48 ∧ z.length = sz, l.toNat, c.toNat)
  | _, _ => (False, 0, 0)

def s2bE (id : Nat) (s : List UInt8) (H : Heap) (K : LV → Heap → Prop) : Prop :=
  ∀ τ, K (.osl id τ 1 s.length (s.map fun u => .int .u8 u.toNat)) ((id, .tok τ) :: H)

def makeE (id sz : Nat) (z : List LV) (l c : Nat) (H : Heap) (K : LV → Heap → Prop) : Prop :=
  Either id (∀ τ, K (.osl id τ sz l (zeros z (l * sz))) ((id, .tok τ) :: H)) (∀ b, K (.msl id sz b 0 l c) ((id, .blk b (zeros z (c * sz))) :: H))

def fillQ (z : List LV) (parts : List (Nat × Nat × LV)) : Prop × List LV :=
  match fillL z parts with
  | some cs => (True, cs)
  | none => (False, [])

/-- the keys that the model's laws on maps are about -/
def KeyOK (P : Program) (kt : Nat) (x : LV) : Prop := ∃ v l, kvOf x = some v ∧ keyOf P kt v = some l
def KeysOK (P : Program) (kt : Nat) (i : LV) (es : List (LV × LV)) : Prop := Maps.Keyed P kt ∧ KeyOK P kt i ∧ ∀ p ∈ es, KeyOK P kt p.1
def lookR (ok : Bool) (z : LV) (r : Option LV) : LV := if ok then .tup [r.getD z, .bool r.isSome] else r.getD z
def lookE (P : Program) (kt : Nat) (ok : Bool) (z i : LV) (e : Option (List (LV × LV))) (H : Heap) (K : LV → Heap → Prop) : Prop :=
  match e with
  | some es => KeysOK P kt i es ∧ K (lookR ok z (lookL es i)) H
  | none => False
def lookV (P : Program) (kt : Nat) (ok : Bool) (z i x : LV) (H : Heap) (K : LV → Heap → Prop) : Prop :=
  match x with
  | .raw (.map (some b)) => lookE P kt ok z i (getMap H b) H K
  | _ => False
def updE (P : Program) (kt : Nat) (i v : LV) (b : Nat) (e : Option (List (LV × LV))) (H : Heap) (K : LV → Heap → Prop) : Prop :=
  match e with
  | some es => (KeysOK P kt i es ∧ (kvOf v).isSome = true) ∧ K .any (setMap H b (updL es i v))
  | none => False
def updV (P : Program) (kt : Nat) (i v x : LV) (H : Heap) (K : LV → Heap → Prop) : Prop :=
  match x with
  | .raw (.map (some b)) => updE P kt i v b (getMap H b) H K
  | _ => False
/-- Every operation, the quiet ones among them. 'id': the name for what is made. -/
def step (P : Program) (gl : Glob) (id : Nat) (o : LOp) (ρ : X → LV) (H : Heap) (K : LV → Heap → Prop) : Prop :=
  match o with
  | .box x => Bd ((ρ x).g ∧ (cellsQ (ρ x).v).1, (cellsQ (ρ x).v).2) fun cs => ∀ b, K (.ptr id b 0) ((id, .blk b cs) :: H)
  | .zero cs => ∀ b, K (.ptr id b 0) ((id, .blk b cs) :: H)
  | .mkS sz n z parts => Bd (gParts ρ parts ∧ z.length = sz ∧ (fillQ (zeros z (n * sz)) (vParts ρ parts)).1, (fillQ (zeros z (n * sz)) (vParts ρ parts)).2) fun cs => K (.fsl sz n cs) H
  | .mkN sz n z parts => Bd (gParts ρ parts ∧ z.length = sz ∧ (fillQ (zeros z (n * sz)) (vParts ρ parts)).1, (fillQ (zeros z (n * sz)) (vParts ρ parts)).2) fun cs => K (.nsl sz n cs) H
  | .cvS x => Bd ((ρ x).g ∧ (cvQ (ρ x).v).1, (cvQ (ρ x).v).2) fun v => K v H
  | .s2b x => Bd ((ρ x).g ∧ (strQ (ρ x).v).1, (strQ (ρ x).v).2) fun s => s2bE id s H K
  | .make sz bytes z l c => Bd ((ρ l).g ∧ (ρ c).g ∧ (makeQ sz bytes z (ρ l).v (ρ c).v).1, (makeQ sz bytes z (ρ l).v (ρ c).v).2) fun r => makeE id sz z r.1 r.2 H K
  | .store sz a x => Bd ((ρ a).g ∧ (ρ x).g ∧ (storeQ sz (ρ a).v (ρ x).v H).1, (storeQ sz (ρ a).v (ρ x).v H).2) fun H' => K .any H'
  | .app sz bytes x y => Bd ((ρ x).g ∧ (ρ y).g ∧ (elems sz (ρ y).v H).1, (elems sz (ρ y).v H).2) fun r => appV id sz bytes r.1 (ρ x).v r.2 H K
  | .appF sz bytes x y => Bd ((ρ x).g ∧ (ρ y).g ∧ (elems sz (ρ y).v H).1, (elems sz (ρ y).v H).2) fun r => appFV id sz bytes r.1 (ρ x).v r.2 H K
  | .appZ sz bytes z x y => Bd ((ρ x).g ∧ (ρ y).g ∧ (appZQ bytes (ρ y).v).1, (appZQ bytes (ρ y).v).2) fun m => appZV id sz bytes m (ρ x).v (zeros z (m * sz)) H K
  | .copy sz x y => Bd ((ρ x).g ∧ (ρ y).g ∧ (elems sz (ρ y).v H).1, (elems sz (ρ y).v H).2) fun r => copyV sz r.1 (ρ x).v r.2 H K
  | .clear sz z x => (ρ x).g ∧ clearV sz z (ρ x).v H K
  | .isNil neg x => (ρ x).g ∧ isNilV neg (ρ x).v H K
  | .call f args => Bd (∀ x ∈ args, (ρ x).g, args.map fun x => (ρ x).v) fun as => LCalls P gl f as H K
  | .callV x args => Bd ((ρ x).g ∧ (∀ y ∈ args, (ρ y).g) ∧ (calleeQ (ρ x).v).1, (calleeQ (ρ x).v).2.1, (args.map fun y => (ρ y).v) ++ (calleeQ (ρ x).v).2.2) fun p => LCallsV P gl p.1 p.2 H K
  | .mkMap => ∀ b, K (.raw (.map (some b))) ((id, .map b []) :: H)
  | .look ok kt z x i => (ρ x).g ∧ (ρ i).g ∧ lookV P kt ok z (ρ i).v (ρ x).v H K
  | .upd kt x i v => (ρ x).g ∧ (ρ i).g ∧ (ρ v).g ∧ updV P kt (ρ i).v (ρ v).v (ρ x).v H K
  | o => Bd (q o ρ H) fun v => K v H

section
variable {P : Program} {gl : Glob} {w0 : World}

/-- Where an operation leaves the machine. -/
def After (P : Program) (gl : Glob) (w0 : World) (M : Imm) (HF : Heap) (o : Oper) (a : Act) (w : World) (K : LV → Heap → Prop) : Prop :=
  ∀ (N : Act → World → Prop) (Q : Exit → Act → World → Prop), (∀ M' v r H' w', MLe M M' → RV M' r v → Inv gl w0 M' (H' ++ HF) w' → K r H' → N (a.put o.dst v) w') → o.wp P a w N Q

theorem After.value {M : Imm} {HF : Heap} {o : Oper} {a : Act} {w : World} {K : LV → Heap → Prop} {v : Value} {w' : World} (hrun : (execOp a.eval o).run P w = .ok (.value v) w') {M' : Imm} {r : LV} {H' : Heap} (hM : MLe M M') (hr : RV M' r v)
    (hI : Inv gl w0 M' (H' ++ HF) w') (hk : K r H') : After P gl w0 M HF o a w K := by
  intro N Q hN
  unfold Oper.wp
  rw [hrun]
  simp only [Oper.upon]
  exact hN M' v r H' w' hM hr hI hk

theorem After.skip {M : Imm} {HF : Heap} {o : Oper} {a : Act} {w : World} {K : LV → Heap → Prop} {w' : World} (hrun : (execOp a.eval o).run P w = .ok .skip w') {M' : Imm} {H' : Heap} (hM : MLe M M')
    (hI : Inv gl w0 M' (H' ++ HF) w') (hk : K .any H') : After P gl w0 M HF o a w K := by
  intro N Q hN
  unfold Oper.wp
  rw [hrun]
  simp only [Oper.upon]
  exact hN M' undef .any H' w' hM (by simp [RV]) hI hk

theorem run_newRow {w : World} (t : TypeId) (c : Array Value) : (newRow t c).run P w = .ok ⟨w.heap.size, 0, none⟩ { w with heap := w.heap.push (.cells c t) } := by
  simp [newRow]

/-- An immutable row that has just been made. -/
theorem Inv.push_imm {M : Imm} {H : Heap} {w : World} (h : Inv gl w0 M H w) (vs : List Value) (cs : List LV) (t : TypeId) (hv : RVs M cs vs) (h1 : ∀ v ∈ vs, v.oneCell' = true) :
    ∃ M', MLe M M' ∧ Inv gl w0 M' H { w with heap := w.heap.push (.cells vs.toArray t) } ∧ RCs M' w.heap.size 0 cs :=
  (h.push_own 0 vs cs t hv h1 (0, 0) (fun _ => by simp)).publish

/-- A dummy token: no cells. -/
theorem Inv.dummy {M : Imm} {H : Heap} {w : World} (h : Inv gl w0 M H w) (id b : Nat) : Inv gl w0 M ((id, .tok ⟨b, 0, 0⟩) :: H) w := by
  refine ⟨h.below, h.imm, fun e he => ?_, List.pairwise_cons.2 ⟨fun e he b' o hr => ?_, h.sep⟩, fun e he b' o hr => ?_, h.glob, h.new, plain_cons trivial h.plain⟩
  · rcases List.mem_cons.1 he with rfl | he
    · exact ⟨fun b' o hr => by simp [Ent.reg] at hr, by simp [entOK]⟩
    · exact h.own e he
  · simp [Ent.reg] at hr
  · rcases List.mem_cons.1 he with rfl | he
    · simp [Ent.reg] at hr
    · exact h.free e he b' o hr

/-- A part of a block that is owned, as immutable cells and a token for the rest. -/
theorem Inv.split_own {M : Imm} {H : Heap} {w : World} {id id' b : Nat} {cs ds : List LV} (h : Inv gl w0 M ((id, .blk b (cs ++ ds)) :: H) w) :
    ∃ M', MLe M M' ∧ Inv gl w0 M' ((id', .tok ⟨b, cs.length, cs.length + ds.length⟩) :: H) w ∧ RCs M' b 0 cs := by
  obtain ⟨hlo, hok⟩ := h.own _ (List.mem_cons_self ..)
  have hfree := h.free _ (List.mem_cons_self ..)
  have hsep := List.pairwise_cons.1 h.sep
  simp only [entOK] at hok
  -- the block cut in two: first the head as a block of its own
  have h2 : Inv gl w0 M ((0, .blk b cs) :: (id', .tok ⟨b, cs.length, cs.length + ds.length⟩) :: H) w := by
    refine ⟨h.below, h.imm, fun e he => ?_, ?_, fun e he b' o hr => ?_, h.glob, h.new, plain_cons (fun hne => h.plain _ (List.mem_cons_self ..) (by simp [hne])) (plain_cons trivial fun e he => h.plain e (List.mem_cons_of_mem _ he))⟩
    · rcases List.mem_cons.1 he with rfl | he
      · refine ⟨fun b' o hr => hlo b' o ?_, ?_⟩
        · simp only [Ent.reg, List.length_append] at hr ⊢; exact ⟨hr.1, by omega⟩
        · simp only [entOK]
          intro i c hc
          refine hok i c ?_
          rw [List.getElem?_append_left]
          · exact hc
          · rcases Nat.lt_or_ge i cs.length with h' | h'
            · exact h'
            · rw [List.getElem?_eq_none h'] at hc; cases hc
      · rcases List.mem_cons.1 he with rfl | he
        · refine ⟨fun b' o hr => hlo b' o ?_, ?_⟩
          · simp only [Ent.reg, List.length_append] at hr ⊢; exact ⟨hr.1, by omega⟩
          · simp only [entOK]
            intro o h1 h3
            have hlt : o < (cs ++ ds).length := by simp; exact h3
            obtain ⟨u, a1, a2, _⟩ := hok o (cs ++ ds)[o] (by simp)
            exact ⟨⟨u, a1⟩, a2⟩
        · exact h.own e (List.mem_cons_of_mem _ he)
    · refine List.pairwise_cons.2 ⟨fun e he b' o hr hr' => ?_, List.pairwise_cons.2 ⟨fun e he b' o hr hr' => ?_, hsep.2⟩⟩
      · rcases List.mem_cons.1 he with rfl | he
        · simp only [Ent.reg] at hr hr'; omega
        · refine hsep.1 e he b' o ?_ hr'
          simp only [Ent.reg, List.length_append] at hr ⊢; exact ⟨hr.1, by omega⟩
      · refine hsep.1 e he b' o ?_ hr'
        simp only [Ent.reg, List.length_append] at hr ⊢; exact ⟨hr.1, by omega⟩
    · rcases List.mem_cons.1 he with rfl | he
      · refine hfree b' o ?_
        simp only [Ent.reg, List.length_append] at hr ⊢; exact ⟨hr.1, by omega⟩
      · rcases List.mem_cons.1 he with rfl | he
        · refine hfree b' o ?_
          simp only [Ent.reg, List.length_append] at hr ⊢; exact ⟨hr.1, by omega⟩
        · exact h.free e (List.mem_cons_of_mem _ he) b' o hr
  exact h2.publish

/-- Spare cells behind a slice are written and become immutable. -/
theorem Inv.take_tok {M : Imm} {H : Heap} {w : World} {id id' b lo hi : Nat} {ys : List LV} {vs : List Value} (h : Inv gl w0 M ((id, .tok ⟨b, lo, hi⟩) :: H) w) (hv : RVs M ys vs) (h1 : ∀ v ∈ vs, v.oneCell' = true) (hr : lo + vs.length ≤ hi) :
    ∃ M', MLe M M' ∧ Inv gl w0 M' ((id', .tok ⟨b, lo + vs.length, hi⟩) :: H) (w.setCells b lo vs) ∧ RCs M' b lo ys := by
  have hlen := RVs_length hv
  obtain ⟨hlo, hok⟩ := h.own _ (List.mem_cons_self ..)
  have hfree := h.free _ (List.mem_cons_self ..)
  have hsep := List.pairwise_cons.1 h.sep
  simp only [entOK] at hok
  simp only [Ent.reg] at hlo hfree
  have h0 : Inv gl w0 M H w := h.sub (List.sublist_cons_self _ _)
  have hs : Inv gl w0 M H (w.setCells b lo vs) := h0.stored (fun hne => by have := List.length_pos_iff.2 hne; exact hlo b lo ⟨rfl, by omega, by omega⟩)
    (fun j hj => hfree b (lo + j) ⟨rfl, by omega, by omega⟩) (fun e he j hj hre => hsep.1 e he b (lo + j) ⟨rfl, by simp only; omega, by simp only; omega⟩ hre)
  let M' : Imm := ⟨fun b' o => if b' = b ∧ lo ≤ o ∧ o < lo + vs.length then vs[o - lo]? else M b' o, M.new⟩
  have hM : MLe M M' := by
    refine ⟨fun b' o v hv' => ?_, fun _ h => h⟩
    show (if b' = b ∧ lo ≤ o ∧ o < lo + vs.length then vs[o - lo]? else M b' o) = some v
    split
    · rename_i hc
      have := hfree b' o ⟨hc.1, by omega, by omega⟩
      rw [this] at hv'; cases hv'
    · exact hv'
  have hin : ∀ j (hj : j < vs.length), (w.setCells b lo vs).cell? ⟨b, lo + j, none⟩ = some vs[j] := World.cell?_setCells_in b vs lo w (fun j hj => by
    obtain ⟨⟨u, hu⟩, _⟩ := hok (lo + j) (by omega) (by omega)
    simp [hu])
  refine ⟨M', hM, ⟨hs.below, fun b' o v hv' => ?_, fun e he => ?_, List.pairwise_cons.2 ⟨fun e he b' o hr' hr2 => ?_, hsep.2⟩, fun e he b' o hr' => ?_, fun g cs' hg => RCs.mono hM _ _ _ (h.glob g cs' hg), fun b' hb => (hs.new b' hb).imp (fun h => h) fun ⟨t, N, h1, h2⟩ => ⟨t, N, h1, fun o ho => (h2 o ho).imp fun v hv => hM.1 _ _ _ hv⟩, plain_cons trivial hs.plain⟩, RCs_of_get fun i c hc => ?_⟩
  · change (if b' = b ∧ lo ≤ o ∧ o < lo + vs.length then vs[o - lo]? else M b' o) = some v at hv'
    split at hv'
    · rename_i hc
      obtain ⟨rfl, h2, h3⟩ := hc
      have := hin (o - lo) (by omega)
      rw [show lo + (o - lo) = o by omega] at this
      rw [this]
      rw [List.getElem?_eq_getElem (by omega)] at hv'
      cases hv'
      exact ⟨rfl, h1 _ (List.getElem_mem _)⟩
    · exact hs.imm b' o v hv'
  · rcases List.mem_cons.1 he with rfl | he
    · refine ⟨fun b' o hr' => ?_, ?_⟩
      · simp only [Ent.reg] at hr'
        exact hlo b' o ⟨hr'.1, by omega, by omega⟩
      · simp only [entOK]
        intro o h2 h3
        obtain ⟨⟨u, hu⟩, hf⟩ := hok o (by omega) h3
        refine ⟨⟨u, ?_⟩, by rw [World.frozen?_setCells]; exact hf⟩
        rw [World.cell?_setCells_out b vs lo w _ (fun _ _ => by simp only; omega)]
        exact hu
    · obtain ⟨a1, a3⟩ := hs.own e he
      refine ⟨a1, ?_⟩
      cases he2 : e.2 with
      | blk b2 cs2 =>
        rw [he2] at a3
        simp only [entOK] at a3 ⊢
        intro i c hc
        obtain ⟨u, c1, c2, c3, c4⟩ := a3 i c hc
        exact ⟨u, c1, c2, RV.mono hM _ _ c3, c4⟩
      | tok τ => rw [he2] at a3; exact a3
      | map b2 es => rw [he2] at a3; exact a3
  · simp only [Ent.reg] at hr'
    exact hsep.1 e he b' o ⟨hr'.1, by simp only; omega, by simp only; omega⟩ hr2
  · show (if b' = b ∧ lo ≤ o ∧ o < lo + vs.length then vs[o - lo]? else M b' o) = none
    rcases List.mem_cons.1 he with rfl | he
    · simp only [Ent.reg] at hr'
      rw [if_neg (by omega)]
      exact hfree b' o ⟨hr'.1, by omega, by omega⟩
    · split
      · rename_i hc
        exact absurd hr' (hsep.1 e he b' o ⟨hc.1, by simp only; omega, by simp only; omega⟩)
      · exact h.free e (List.mem_cons_of_mem _ he) b' o hr'
  · obtain ⟨u, hu, hru⟩ := RVs_get hv i c hc
    have hlt : i < vs.length := (List.getElem?_eq_some_iff.1 hu).1
    refine ⟨u, ?_, RV.mono hM _ _ hru⟩
    show (if b = b ∧ lo ≤ lo + i ∧ lo + i < lo + vs.length then vs[lo + i - lo]? else M b (lo + i)) = some u
    rw [if_pos ⟨rfl, by omega, by omega⟩, show lo + i - lo = i by omega]
    exact hu

end
end Go.Lx
