/- Calls, and the operations that make or write memory. -/
import Derived.Test.YtkdblnejpmbnfaaGreatW01
import Derived.Maps.Keyed
namespace Go.Lx
set_option linter.unusedSimpArgs false
set_option linter.unusedVariables false
open RowKit
def CallsX (P : Program) (f : FuncId) (args : Array Value) (w : World) (R : Ending → World → Prop) : Prop :=
  ((∀ fn, P.funcs[f]? = some fn → fn.body.isNone = false) ∧ Calls P f args w R) ∨ ((∃ fn, P.funcs[f]? = some fn ∧ fn.body.isNone = true) ∧ ∃ v w', (callFunc f args).run P w = .ok (.value v) w' ∧ R (.returned v) w')
theorem CallsX.mono {P : Program} {f : FuncId} {args : Array Value} {w : World} {R R' : Ending → World → Prop} (h : CallsX P f args w R) (hk : ∀ e w', R e w' → R' e w') : CallsX P f args w R' := by
  rcases h with ⟨h1, h2⟩ | ⟨h1, v, w', h2, h3⟩
  · exact .inl ⟨h1, h2.mono hk⟩
  · exact .inr ⟨h1, v, w', h2, hk _ _ h3⟩
theorem CallsX.of {P : Program} {f : FuncId} {args : Array Value} {w : World} {R : Ending → World → Prop} {fn : Func} {c : Code} (hf : P.funcs[f]? = some fn) (hb : fn.body = some c) (h : Calls P f args w R) : CallsX P f args w R :=
  .inl ⟨fun fn' h' => by rw [hf] at h'; cases h'; rw [hb]; rfl, h⟩
theorem CallsX.calls {P : Program} {f : FuncId} {args : Array Value} {w : World} {R : Ending → World → Prop} {fn : Func} (h : CallsX P f args w R) (hf : P.funcs[f]? = some fn) (hb : fn.body.isNone = false) : Calls P f args w R := by
  rcases h with ⟨_, h⟩ | ⟨⟨fn', h1, h2⟩, _⟩
  · exact h
  · rw [hf] at h1; cases h1; rw [hb] at h2; cases h2
def LCalls (P : Program) (gl : Glob) (f : FuncId) (args : List LV) (H : Heap) (K : LV → Heap → Prop) : Prop :=
  ∀ (w0 : World) (M : Imm) (HF : Heap) (w : World) (vs : List Value), Inv gl w0 M (H ++ HF) w → RVs M args vs →
    CallsX P f vs.toArray w fun e w' => ∃ M' v r H', MLe M M' ∧ e = .returned v ∧ RV M' r v ∧ Inv gl w0 M' (H' ++ HF) w' ∧ K r H'
theorem LCalls.mono {P : Program} {gl : Glob} {f : FuncId} {args : List LV} {H : Heap} {K K' : LV → Heap → Prop} (h : LCalls P gl f args H K) (hk : ∀ r H', K r H' → K' r H') : LCalls P gl f args H K' :=
  fun w0 M HF w vs hI hv => (h w0 M HF w vs hI hv).mono fun _ _ ⟨M', v, r, H', h1, h2, h3, h4, h5⟩ => ⟨M', v, r, H', h1, h2, h3, h4, hk _ _ h5⟩
theorem LCalls.frame {P : Program} {gl : Glob} {f : FuncId} {args : List LV} {H H2 : Heap} {K : LV → Heap → Prop} (h : LCalls P gl f args H fun r H' => K r (H' ++ H2)) : LCalls P gl f args (H ++ H2) K :=
  fun w0 M HF w vs hI hv => (h w0 M (H2 ++ HF) w vs (by rwa [List.append_assoc] at hI) hv).mono fun _ _ ⟨M', v, r, H', h1, h2, h3, h4, h5⟩ =>
    ⟨M', v, r, H' ++ H2, h1, h2, h3, by rwa [List.append_assoc], h5⟩
theorem LCalls.perm {P : Program} {gl : Glob} {f : FuncId} {args : List LV} {H H2 : Heap} {K : LV → Heap → Prop} (h : LCalls P gl f args H2 K) (p : H.Perm H2) : LCalls P gl f args H K :=
  fun w0 M HF w vs hI hv => h w0 M HF w vs (hI.perm (p.append_right HF)) hv
def Pure (P : Program) (gl : Glob) (f : FuncId) (args : List LV) (r : LV) : Prop := LCalls P gl f args [] fun r' H => r' = r ∧ H = []
theorem LCalls.pure {P : Program} {gl : Glob} {f : FuncId} {args : List LV} {r : LV} (h : Pure P gl f args r) {H : Heap} {K : LV → Heap → Prop} (hk : K r H) : LCalls P gl f args H K :=
  LCalls.frame (H := []) (h.mono fun r' H' ⟨h1, h2⟩ => by subst h1; subst h2; exact hk)
def elems (sz : Nat) (y : LV) (H : Heap) : Prop × Nat × List LV :=
  match y with
  | .sl s m ys => (s = sz ∨ m = 0, m, ys)
  | .fsl s m ys => (s = sz ∨ m = 0, m, ys)
  | .osl _ _ s m ys => (s = sz ∨ m = 0, m, ys)
  | .str s => (sz = 1, s.length, s.map fun u => .int .u8 u.toNat)
  | .msl id s b off len _ => match getH H id with
    | some (.blk b' cs) => (s = sz ∧ b' = b ∧ off + len * sz ≤ cs.length, len, (cs.drop off).take (len * sz))
    | _ => (False, 0, [])
  | _ => (False, 0, [])
def zeros (z : List LV) (n : Nat) : List LV := (List.range n).map fun i => z.getD (i % z.length) .any
def roomy (n bytes : Nat) : Prop := (5 * n + 2048) * bytes ≤ 4 * 2 ^ 48
def Bd {α : Type} (p : Prop × α) (k : α → Prop) : Prop := p.1 ∧ k p.2
def Either (n : Nat) (a b : Prop) : Prop := n = n ∧ (a ∨ b)
def cellsQ (x : LV) : Prop × List LV :=
  match cellsL x with
  | some cs => (True, cs)
  | none => (False, [])
def appZQ (bytes : Nat) (y : LV) : Prop × Nat :=
  match y with
  | .int .i64 n => (0 ≤ n ∧ n < 2 ^ 63 ∧ n * bytes ≤ 2 ^ 48, n.toNat)
  | _ => (False, 0)
def appM (i sz bytes s b off n cap m : Nat) (ys : List LV) (H : Heap) (e : Option Ent) (K : LV → Heap → Prop) : Prop :=
  match e with
  | some (.blk b' cs) =>
    Either i (s = sz ∧ b' = b ∧ off = 0 ∧ n * sz ≤ cs.length ∧ cap * sz ≤ cs.length ∧ roomy (n + m) bytes ∧ ∀ b2 c2, n + m ≤ c2 → K (.msl i sz b2 0 (n + m) c2) ((i, .blk b2 (cs.take (n * sz) ++ ys ++ List.replicate ((c2 - (n + m)) * sz) .any)) :: delH H i))
      (s = sz ∧ b' = b ∧ n + m ≤ cap ∧ off + n * sz + ys.length ≤ cs.length ∧ K (.msl i sz b off (n + m) cap) (setH H i (.blk b (splice cs ys (off + n * sz)))))
  | _ => False
def appV (id sz bytes m : Nat) (x : LV) (ys : List LV) (H : Heap) (K : LV → Heap → Prop) : Prop :=
  match x with
  | .fsl s n cs => ((s = sz ∨ n = 0) ∧ roomy (n + m) bytes) ∧ ∀ τ, K (.osl id τ sz (n + m) (cs ++ ys)) ((id, .tok τ) :: H)
  | .osl i t s n cs => match getH H i with
    | some (.tok t') => (t' = t ∧ s = sz ∧ roomy (n + m) bytes) ∧ ∀ τ, K (.osl i τ sz (n + m) (cs ++ ys)) ((i, .tok τ) :: delH H i)
    | _ => False
  | .msl i s b off n cap => appM i sz bytes s b off n cap m ys H (getH H i) K
  | _ => False
def appN (id i sz bytes s b off n cap m : Nat) (ys : List LV) (H : Heap) (e : Option Ent) (K : LV → Heap → Prop) : Prop :=
  match e with
  | some (.blk b' cs) => (s = sz ∧ b' = b ∧ off = 0 ∧ n * sz ≤ cs.length ∧ cap < n + m ∧ roomy (n + m) bytes) ∧ ∀ b2 c2, n + m ≤ c2 → K (.msl id sz b2 0 (n + m) c2) ((id, .blk b2 (cs.take (n * sz) ++ ys ++ List.replicate ((c2 - (n + m)) * sz) .any)) :: H)
  | _ => False
def appZV (id sz bytes m : Nat) (x : LV) (ys : List LV) (H : Heap) (K : LV → Heap → Prop) : Prop :=
  match x with
  | .msl i s b off n cap => Either i (appM i sz bytes s b off n cap m ys H (getH H i) K) (appN id i sz bytes s b off n cap m ys H (getH H i) K)
  | x => appV id sz bytes m x ys H K
def appFV (id sz bytes m : Nat) (x : LV) (ys : List LV) (H : Heap) (K : LV → Heap → Prop) : Prop :=
  match x with
  | .fsl _ 0 _ => roomy m bytes ∧ ∀ b2 c2, m ≤ c2 → K (.msl id sz b2 0 m c2) ((id, .blk b2 (ys ++ List.replicate ((c2 - m) * sz) .any)) :: H)
  | x => appV id sz bytes m x ys H K
def copyE (i sz b off n m : Nat) (ys : List LV) (H : Heap) (e : Option Ent) (K : LV → Heap → Prop) : Prop :=
  match e with
  | some (.blk b' cs) => (b' = b ∧ off + n * sz ≤ cs.length) ∧ K (.int .i64 (min m n : Nat)) (setH H i (.blk b (splice cs (ys.take (min m n * sz)) off)))
  | _ => False
def copyV (sz m : Nat) (x : LV) (ys : List LV) (H : Heap) (K : LV → Heap → Prop) : Prop :=
  match x with
  | .msl i s b off n _ => s = sz ∧ copyE i sz b off n m ys H (getH H i) K
  | .fsl _ n _ => n = 0 ∧ K (.int .i64 0) H
  | _ => False
def clearE (i sz : Nat) (z : List LV) (b off n : Nat) (H : Heap) (e : Option Ent) (K : LV → Heap → Prop) : Prop :=
  match e with
  | some (.blk b' cs) => (b' = b ∧ off + n * sz ≤ cs.length) ∧ K (.tup []) (setH H i (.blk b (splice cs (zeros z (n * sz)) off)))
  | _ => False
def clearV (sz : Nat) (z : List LV) (x : LV) (H : Heap) (K : LV → Heap → Prop) : Prop :=
  match x with
  | .msl i s b off n _ => s = sz ∧ clearE i sz z b off n H (getH H i) K
  | .fsl _ n _ => n = 0 ∧ K (.tup []) H
  | _ => False
def isNilV (neg : Bool) (x : LV) (H : Heap) (K : LV → Heap → Prop) : Prop :=
  match x with
  | .sl _ n _ => ∀ r : Bool, (r = true → n = 0) → K (.bool (r != neg)) H
  | .fsl _ n _ => ∀ r : Bool, (r = true → n = 0) → K (.bool (r != neg)) H
  | .osl _ _ _ n _ => ∀ r : Bool, (r = true → n = 0) → K (.bool (r != neg)) H
  | .msl _ _ _ _ n _ => ∀ r : Bool, (r = true → n = 0) → K (.bool (r != neg)) H
  | _ => False
def calleeQ (x : LV) : Prop × Nat × List LV :=
  match x with
  | .clo f cs => (True, f, cs)
  | .fn f => (True, f, [])
  | _ => (False, 0, [])
def okF (P : Program) (f : Nat) : Bool :=
  match P.funcs[f]? with
  | some fn => fn.name != "runtime.NumGoroutine" && !fn.body.isNone
  | none => false
def LCallsV (P : Program) (gl : Glob) (f : Nat) (as : List LV) (H : Heap) (K : LV → Heap → Prop) : Prop := okF P f = true ∧ LCalls P gl f as H K
def cvQ (x : LV) : Prop × LV :=
  match x with
  | .nsl sz n cs => (sz = 1, .fsl 1 n cs)
  | _ => (False, .any)
def storeQ (sz : Nat) (x y : LV) (H : Heap) : Prop × Heap :=
  match x with
  | .ptr id b off => match getH H id, cellsL y with
    | some (.blk b' cs), some ds => (b' = b ∧ ds.length = sz ∧ off + ds.length ≤ cs.length, setH H id (.blk b' (splice cs ds off)))
    | _, _ => (False, [])
  | _ => (False, [])
def strQ (x : LV) : Prop × List UInt8 :=
  match x with
  | .str s => (True, s)
  | _ => (False, [])
def makeQ (sz bytes : Nat) (z : List LV) (l c : LV) : Prop × Nat × Nat :=
  match l, c with
  | .int .i64 l, .int .i64 c => (0 ≤ l ∧ l ≤ c ∧ c < 2 ^ 63 ∧ c * bytes ≤ 2 ^ 48 ∧ z.length = sz, l.toNat, c.toNat)
  | _, _ => (False, 0, 0)
def s2bE (id : Nat) (s : List UInt8) (H : Heap) (K : LV → Heap → Prop) : Prop :=
  ∀ τ, K (.osl id τ 1 s.length (s.map fun u => .int .u8 u.toNat)) ((id, .tok τ) :: H)
def makeE (id sz : Nat) (z : List LV) (l c : Nat) (H : Heap) (K : LV → Heap → Prop) : Prop :=
  Either id (∀ τ, K (.osl id τ sz l (zeros z (l * sz))) ((id, .tok τ) :: H)) (∀ b, K (.msl id sz b 0 l c) ((id, .blk b (zeros z (c * sz))) :: H))
def fillQ (z : List LV) (parts : List (Nat × Nat × LV)) : Prop × List LV :=
  match fillL z parts with
  | some cs => (True, cs)
  | none => (False, [])
def KeyOK (P : Program) (kt : Nat) (x : LV) : Prop := ∃ v l, kvOf x = some v ∧ keyOf P kt v = some l
def KeysOK (P : Program) (kt : Nat) (i : LV) (es : List (LV × LV)) : Prop := Maps.Keyed P kt ∧ KeyOK P kt i ∧ ∀ p ∈ es, KeyOK P kt p.1
def lookR (ok : Bool) (z : LV) (r : Option LV) : LV := if ok then .tup [r.getD z, .bool r.isSome] else r.getD z
def lookE (P : Program) (kt : Nat) (ok : Bool) (z i : LV) (e : Option (List (LV × LV))) (H : Heap) (K : LV → Heap → Prop) : Prop :=
  match e with
  | some es => KeysOK P kt i es ∧ K (lookR ok z (lookL es i)) H
  | none => False
def lookV (P : Program) (kt : Nat) (ok : Bool) (z i x : LV) (H : Heap) (K : LV → Heap → Prop) : Prop :=
  match x with
  | .raw (.map (some b)) => lookE P kt ok z i (getMap H b) H K
  | _ => False
def updE (P : Program) (kt : Nat) (i v : LV) (b : Nat) (e : Option (List (LV × LV))) (H : Heap) (K : LV → Heap → Prop) : Prop :=
  match e with
  | some es => (KeysOK P kt i es ∧ (kvOf v).isSome = true) ∧ K .any (setMap H b (updL es i v))
  | none => False
def updV (P : Program) (kt : Nat) (i v x : LV) (H : Heap) (K : LV → Heap → Prop) : Prop :=
  match x with
  | .raw (.map (some b)) => updE P kt i v b (getMap H b) H K
  | _ => False
def step (P : Program) (gl : Glob) (id : Nat) (o : LOp) (ρ : X → LV) (H : Heap) (K : LV → Heap → Prop) : Prop :=
  match o with
  | .box x => Bd ((ρ x).g ∧ (cellsQ (ρ x).v).1, (cellsQ (ρ x).v).2) fun cs => ∀ b, K (.ptr id b 0) ((id, .blk b cs) :: H)
  | .zero cs => ∀ b, K (.ptr id b 0) ((id, .blk b cs) :: H)
  | .mkS sz n z parts => Bd (gParts ρ parts ∧ z.length = sz ∧ (fillQ (zeros z (n * sz)) (vParts ρ parts)).1, (fillQ (zeros z (n * sz)) (vParts ρ parts)).2) fun cs => K (.fsl sz n cs) H
  | .mkN sz n z parts => Bd (gParts ρ parts ∧ z.length = sz ∧ (fillQ (zeros z (n * sz)) (vParts ρ parts)).1, (fillQ (zeros z (n * sz)) (vParts ρ parts)).2) fun cs => K (.nsl sz n cs) H
  | .cvS x => Bd ((ρ x).g ∧ (cvQ (ρ x).v).1, (cvQ (ρ x).v).2) fun v => K v H
  | .s2b x => Bd ((ρ x).g ∧ (strQ (ρ x).v).1, (strQ (ρ x).v).2) fun s => s2bE id s H K
  | .make sz bytes z l c => Bd ((ρ l).g ∧ (ρ c).g ∧ (makeQ sz bytes z (ρ l).v (ρ c).v).1, (makeQ sz bytes z (ρ l).v (ρ c).v).2) fun r => makeE id sz z r.1 r.2 H K
  | .store sz a x => Bd ((ρ a).g ∧ (ρ x).g ∧ (storeQ sz (ρ a).v (ρ x).v H).1, (storeQ sz (ρ a).v (ρ x).v H).2) fun H' => K .any H'
  | .app sz bytes x y => Bd ((ρ x).g ∧ (ρ y).g ∧ (elems sz (ρ y).v H).1, (elems sz (ρ y).v H).2) fun r => appV id sz bytes r.1 (ρ x).v r.2 H K
  | .appF sz bytes x y => Bd ((ρ x).g ∧ (ρ y).g ∧ (elems sz (ρ y).v H).1, (elems sz (ρ y).v H).2) fun r => appFV id sz bytes r.1 (ρ x).v r.2 H K
  | .appZ sz bytes z x y => Bd ((ρ x).g ∧ (ρ y).g ∧ (appZQ bytes (ρ y).v).1, (appZQ bytes (ρ y).v).2) fun m => appZV id sz bytes m (ρ x).v (zeros z (m * sz)) H K
  | .copy sz x y => Bd ((ρ x).g ∧ (ρ y).g ∧ (elems sz (ρ y).v H).1, (elems sz (ρ y).v H).2) fun r => copyV sz r.1 (ρ x).v r.2 H K
  | .clear sz z x => (ρ x).g ∧ clearV sz z (ρ x).v H K
  | .isNil neg x => (ρ x).g ∧ isNilV neg (ρ x).v H K
  | .call f args => Bd (∀ x ∈ args, (ρ x).g, args.map fun x => (ρ x).v) fun as => LCalls P gl f as H K
  | .callV x args => Bd ((ρ x).g ∧ (∀ y ∈ args, (ρ y).g) ∧ (calleeQ (ρ x).v).1, (calleeQ (ρ x).v).2.1, (args.map fun y => (ρ y).v) ++ (calleeQ (ρ x).v).2.2) fun p => LCallsV P gl p.1 p.2 H K
  | .mkMap => ∀ b, K (.raw (.map (some b))) ((id, .map b []) :: H)
  | .look ok kt z x i => (ρ x).g ∧ (ρ i).g ∧ lookV P kt ok z (ρ i).v (ρ x).v H K
  | .upd kt x i v => (ρ x).g ∧ (ρ i).g ∧ (ρ v).g ∧ updV P kt (ρ i).v (ρ v).v (ρ x).v H K
  | o => Bd (q o ρ H) fun v => K v H
section
variable {P : Program} {gl : Glob} {w0 : World}
def After (P : Program) (gl : Glob) (w0 : World) (M : Imm) (HF : Heap) (o : Oper) (a : Act) (w : World) (K : LV → Heap → Prop) : Prop :=
  ∀ (N : Act → World → Prop) (Q : Exit → Act → World → Prop), (∀ M' v r H' w', MLe M M' → RV M' r v → Inv gl w0 M' (H' ++ HF) w' → K r H' → N (a.put o.dst v) w') → o.wp P a w N Q
theorem After.value {M : Imm} {HF : Heap} {o : Oper} {a : Act} {w : World} {K : LV → Heap → Prop} {v : Value} {w' : World} (hrun : (execOp a.eval o).run P w = .ok (.value v) w') {M' : Imm} {r : LV} {H' : Heap} (hM : MLe M M') (hr : RV M' r v)
    (hI : Inv gl w0 M' (H' ++ HF) w') (hk : K r H') : After P gl w0 M HF o a w K := by
  intro N Q hN
  unfold Oper.wp
  rw [hrun]
  simp only [Oper.upon]
  exact hN M' v r H' w' hM hr hI hk
theorem After.skip {M : Imm} {HF : Heap} {o : Oper} {a : Act} {w : World} {K : LV → Heap → Prop} {w' : World} (hrun : (execOp a.eval o).run P w = .ok .skip w') {M' : Imm} {H' : Heap} (hM : MLe M M')
    (hI : Inv gl w0 M' (H' ++ HF) w') (hk : K .any H') : After P gl w0 M HF o a w K := by
  intro N Q hN
  unfold Oper.wp
  rw [hrun]
  simp only [Oper.upon]
  exact hN M' undef .any H' w' hM (by simp [RV]) hI hk
theorem run_newRow {w : World} (t : TypeId) (c : Array Value) : (newRow t c).run P w = .ok ⟨w.heap.size, 0, none⟩ { w with heap := w.heap.push (.cells c t) } := by
  simp [newRow]
theorem Inv.push_imm {M : Imm} {H : Heap} {w : World} (h : Inv gl w0 M H w) (vs : List Value) (cs : List LV) (t : TypeId) (hv : RVs M cs vs) (h1 : ∀ v ∈ vs, v.oneCell' = true) :
    ∃ M', MLe M M' ∧ Inv gl w0 M' H { w with heap := w.heap.push (.cells vs.toArray t) } ∧ RCs M' w.heap.size 0 cs :=
  (h.push_own 0 vs cs t hv h1 (0, 0) (fun _ => by simp)).publish
theorem Inv.dummy {M : Imm} {H : Heap} {w : World} (h : Inv gl w0 M H w) (id b : Nat) : Inv gl w0 M ((id, .tok ⟨b, 0, 0⟩) :: H) w := by
  refine ⟨h.below, h.imm, fun e he => ?_, List.pairwise_cons.2 ⟨fun e he b' o hr => ?_, h.sep⟩, fun e he b' o hr => ?_, h.glob, h.new, plain_cons trivial h.plain⟩
  · rcases List.mem_cons.1 he with rfl | he
    · exact ⟨fun b' o hr => by simp [Ent.reg] at hr, by simp [entOK]⟩
    · exact h.own e he
  · simp [Ent.reg] at hr
  · rcases List.mem_cons.1 he with rfl | he
    · simp [Ent.reg] at hr
    · exact h.free e he b' o hr
theorem Inv.split_own {M : Imm} {H : Heap} {w : World} {id id' b : Nat} {cs ds : List LV} (h : Inv gl w0 M ((id, .blk b (cs ++ ds)) :: H) w) :
    ∃ M', MLe M M' ∧ Inv gl w0 M' ((id', .tok ⟨b, cs.length, cs.length + ds.length⟩) :: H) w ∧ RCs M' b 0 cs := by
  obtain ⟨hlo, hok⟩ := h.own _ (List.mem_cons_self ..)
  have hfree := h.free _ (List.mem_cons_self ..)
  have hsep := List.pairwise_cons.1 h.sep
  simp only [entOK] at hok
  -- the block cut in two: first the head as a block of its own
  have h2 : Inv gl w0 M ((0, .blk b cs) :: (id', .tok ⟨b, cs.length, cs.length + ds.length⟩) :: H) w := by
    refine ⟨h.below, h.imm, fun e he => ?_, ?_, fun e he b' o hr => ?_, h.glob, h.new, plain_cons (fun hne => h.plain _ (List.mem_cons_self ..) (by simp [hne])) (plain_cons trivial fun e he => h.plain e (List.mem_cons_of_mem _ he))⟩
    · rcases List.mem_cons.1 he with rfl | he
      · refine ⟨fun b' o hr => hlo b' o ?_, ?_⟩
        · simp only [Ent.reg, List.length_append] at hr ⊢; exact ⟨hr.1, by omega⟩
        · simp only [entOK]
          intro i c hc
          refine hok i c ?_
          rw [List.getElem?_append_left]
          · exact hc
          · rcases Nat.lt_or_ge i cs.length with h' | h'
            · exact h'
            · rw [List.getElem?_eq_none h'] at hc; cases hc
      · rcases List.mem_cons.1 he with rfl | he
        · refine ⟨fun b' o hr => hlo b' o ?_, ?_⟩
          · simp only [Ent.reg, List.length_append] at hr ⊢; exact ⟨hr.1, by omega⟩
          · simp only [entOK]
            intro o h1 h3
            have hlt : o < (cs ++ ds).length := by simp; exact h3
            obtain ⟨u, a1, a2, _⟩ := hok o (cs ++ ds)[o] (by simp)
            exact ⟨⟨u, a1⟩, a2⟩
        · exact h.own e (List.mem_cons_of_mem _ he)
    · refine List.pairwise_cons.2 ⟨fun e he b' o hr hr' => ?_, List.pairwise_cons.2 ⟨fun e he b' o hr hr' => ?_, hsep.2⟩⟩
      · rcases List.mem_cons.1 he with rfl | he
        · simp only [Ent.reg] at hr hr'; omega
        · refine hsep.1 e he b' o ?_ hr'
          simp only [Ent.reg, List.length_append] at hr ⊢; exact ⟨hr.1, by omega⟩
      · refine hsep.1 e he b' o ?_ hr'
        simp only [Ent.reg, List.length_append] at hr ⊢; exact ⟨hr.1, by omega⟩
    · rcases List.mem_cons.1 he with rfl | he
      · refine hfree b' o ?_
        simp only [Ent.reg, List.length_append] at hr ⊢; exact ⟨hr.1, by omega⟩
      · rcases List.mem_cons.1 he with rfl | he
        · refine hfree b' o ?_
          simp only [Ent.reg, List.length_append] at hr ⊢; exact ⟨hr.1, by omega⟩
        · exact h.free e (List.mem_cons_of_mem _ he) b' o hr
  exact h2.publish
theorem Inv.take_tok {M : Imm} {H : Heap} {w : World} {id id' b lo hi : Nat} {ys : List LV} {vs : List Value} (h : Inv gl w0 M ((id, .tok ⟨b, lo, hi⟩) :: H) w) (hv : RVs M ys vs) (h1 : ∀ v ∈ vs, v.oneCell' = true) (hr : lo + vs.length ≤ hi) :
    ∃ M', MLe M M' ∧ Inv gl w0 M' ((id', .tok ⟨b, lo + vs.length, hi⟩) :: H) (w.setCells b lo vs) ∧ RCs M' b lo ys := by
  have hlen := RVs_length hv
  obtain ⟨hlo, hok⟩ := h.own _ (List.mem_cons_self ..)
  have hfree := h.free _ (List.mem_cons_self ..)
  have hsep := List.pairwise_cons.1 h.sep
  simp only [entOK] at hok
  simp only [Ent.reg] at hlo hfree
  have h0 : Inv gl w0 M H w := h.sub (List.sublist_cons_self _ _)
  have hs : Inv gl w0 M H (w.setCells b lo vs) := h0.stored (fun hne => by have := List.length_pos_iff.2 hne; exact hlo b lo ⟨rfl, by omega, by omega⟩)
    (fun j hj => hfree b (lo + j) ⟨rfl, by omega, by omega⟩) (fun e he j hj hre => hsep.1 e he b (lo + j) ⟨rfl, by simp only; omega, by simp only; omega⟩ hre)
  let M' : Imm := ⟨fun b' o => if b' = b ∧ lo ≤ o ∧ o < lo + vs.length then vs[o - lo]? else M b' o, M.new⟩
  have hM : MLe M M' := by
    refine ⟨fun b' o v hv' => ?_, fun _ h => h⟩
    show (if b' = b ∧ lo ≤ o ∧ o < lo + vs.length then vs[o - lo]? else M b' o) = some v
    split
    · rename_i hc
      have := hfree b' o ⟨hc.1, by omega, by omega⟩
      rw [this] at hv'; cases hv'
    · exact hv'
  have hin : ∀ j (hj : j < vs.length), (w.setCells b lo vs).cell? ⟨b, lo + j, none⟩ = some vs[j] := World.cell?_setCells_in b vs lo w (fun j hj => by
    obtain ⟨⟨u, hu⟩, _⟩ := hok (lo + j) (by omega) (by omega)
    simp [hu])
  refine ⟨M', hM, ⟨hs.below, fun b' o v hv' => ?_, fun e he => ?_, List.pairwise_cons.2 ⟨fun e he b' o hr' hr2 => ?_, hsep.2⟩, fun e he b' o hr' => ?_, fun g cs' hg => RCs.mono hM _ _ _ (h.glob g cs' hg), fun b' hb => (hs.new b' hb).imp (fun h => h) fun ⟨t, N, h1, h2⟩ => ⟨t, N, h1, fun o ho => (h2 o ho).imp fun v hv => hM.1 _ _ _ hv⟩, plain_cons trivial hs.plain⟩, RCs_of_get fun i c hc => ?_⟩
  · change (if b' = b ∧ lo ≤ o ∧ o < lo + vs.length then vs[o - lo]? else M b' o) = some v at hv'
    split at hv'
    · rename_i hc
      obtain ⟨rfl, h2, h3⟩ := hc
      have := hin (o - lo) (by omega)
      rw [show lo + (o - lo) = o by omega] at this
      rw [this]
      rw [List.getElem?_eq_getElem (by omega)] at hv'
      cases hv'
      exact ⟨rfl, h1 _ (List.getElem_mem _)⟩
    · exact hs.imm b' o v hv'
  · rcases List.mem_cons.1 he with rfl | he
    · refine ⟨fun b' o hr' => ?_, ?_⟩
      · simp only [Ent.reg] at hr'
        exact hlo b' o ⟨hr'.1, by omega, by omega⟩
      · simp only [entOK]
        intro o h2 h3
        obtain ⟨⟨u, hu⟩, hf⟩ := hok o (by omega) h3
        refine ⟨⟨u, ?_⟩, by rw [World.frozen?_setCells]; exact hf⟩
        rw [World.cell?_setCells_out b vs lo w _ (fun _ _ => by simp only; omega)]
        exact hu
    · obtain ⟨a1, a3⟩ := hs.own e he
      refine ⟨a1, ?_⟩
      cases he2 : e.2 with
      | blk b2 cs2 =>
        rw [he2] at a3
        simp only [entOK] at a3 ⊢
        intro i c hc
        obtain ⟨u, c1, c2, c3, c4⟩ := a3 i c hc
        exact ⟨u, c1, c2, RV.mono hM _ _ c3, c4⟩
      | tok τ => rw [he2] at a3; exact a3
      | map b2 es => rw [he2] at a3; exact a3
  · simp only [Ent.reg] at hr'
    exact hsep.1 e he b' o ⟨hr'.1, by simp only; omega, by simp only; omega⟩ hr2
  · show (if b' = b ∧ lo ≤ o ∧ o < lo + vs.length then vs[o - lo]? else M b' o) = none
    rcases List.mem_cons.1 he with rfl | he
    · simp only [Ent.reg] at hr'
      rw [if_neg (by omega)]
      exact hfree b' o ⟨hr'.1, by omega, by omega⟩
    · split
      · rename_i hc
        exact absurd hr' (hsep.1 e he b' o ⟨hc.1, by simp only; omega, by simp only; omega⟩)
      · exact h.free e (List.mem_cons_of_mem _ he) b' o hr'
  · obtain ⟨u, hu, hru⟩ := RVs_get hv i c hc
    have hlt : i < vs.length := (List.getElem?_eq_some_iff.1 hu).1
    refine ⟨u, ?_, RV.mono hM _ _ hru⟩
    show (if b = b ∧ lo ≤ lo + i ∧ lo + i < lo + vs.length then vs[lo + i - lo]? else M b (lo + i)) = some u
    rw [if_pos ⟨rfl, by omega, by omega⟩, show lo + i - lo = i by omega]
    exact hu
end
end Go.Lx
namespace Go.Lx
set_option linter.unusedSimpArgs false
set_option linter.unusedVariables false
open RowKit
section
variable {vv : Nat → Bool} {P : Program} {gl : Glob} {w0 : World} {M : Imm} {w : World}
theorem box_sound {HF H : Heap} {o : Oper} {a : Act} {K : LV → Heap → Prop} {t : TypeId} {ox : Operand} (hop : o.op = .box t ox) {x : LV} (hI : Inv gl w0 M (H ++ HF) w) (hx : RV M x (a.eval ox)) {id : Nat} (h0 : (cellsQ x).1) (ho : ∀ b, K (.ptr id b 0) ((id, .blk b (cellsQ x).2) :: H)) : After P gl w0 M HF o a w K := by
  unfold cellsQ at ho h0
  split at h0
  · rename_i cs hc
    rw [hc] at ho
    obtain ⟨h1, h2⟩ := cellsL_sound hx hc
    have hrun : (execOp a.eval o).run P w = .ok (.value (.pointer (some ⟨w.heap.size, 0, none⟩))) { w with heap := w.heap.push (.cells (a.eval ox).cells t) } := by
      simp [execOp, hop, Instr.box, newVar, run_newRow]
    have hI' := hI.push_own id _ cs t h1 h2 (0, 0) (fun _ => by simp)
    simp only [Array.toArray_toList] at hI'
    exact After.value hrun (MLe.refl M) (r := .ptr id w.heap.size 0) (by simp [RV]) (H' := (id, .blk w.heap.size cs) :: H) hI' (ho _)
  · exact h0.elim
theorem zero_sound {HF H : Heap} {o : Oper} {a : Act} {K : LV → Heap → Prop} {t : TypeId} (hop : o.op = .alloc t) {cs : List LV} (hz : zeroOf P t = some cs) (hI : Inv gl w0 M (H ++ HF) w) {id : Nat} (ho : ∀ b, K (.ptr id b 0) ((id, .blk b cs) :: H)) : After P gl w0 M HF o a w K := by
  obtain ⟨i, z, hi, hzz, h1, _, h2⟩ := zeroOf_sound (M := M) hz
  have hrun : (execOp a.eval o).run P w = .ok (.value (.pointer (some ⟨w.heap.size, 0, none⟩))) { w with heap := w.heap.push (.cells z.cells t) } := by
    simp [execOp, hop, Instr.alloc, zeroValue, run_typeInfo w hi, hzz, newVar, run_newRow]
  have hI' := hI.push_own id _ cs t h1 h2 (0, 0) (fun _ => by simp)
  simp only [Array.toArray_toList] at hI'
  exact After.value hrun (MLe.refl M) (r := .ptr id w.heap.size 0) (by simp [RV]) (H' := (id, .blk w.heap.size cs) :: H) hI' (ho _)
theorem RVs_zeros {z : List LV} {zv : Array Value} (h : RVs M z zv.toList) (hne : z ≠ []) (n : Nat) : RVs M (zeros z n) ((Array.range n).map (fun i => zv[i % zv.size]!)).toList := by
  have hl := RVs_length h
  simp only [Array.length_toList] at hl
  refine RVs_of_get (by simp [zeros]) fun i c v hc hv => ?_
  simp only [zeros, List.getElem?_map] at hc
  simp only [Array.toList_map, Array.toList_range, List.getElem?_map] at hv
  cases hr : (List.range n)[i]? with
  | none => rw [hr] at hc; simp at hc
  | some j =>
    rw [hr] at hc hv
    simp only [Option.map_some, Option.some.injEq] at hc hv
    have hpos : 0 < z.length := List.length_pos_iff.2 hne
    have hlt : j % z.length < z.length := Nat.mod_lt _ hpos
    obtain ⟨u, h1, h2⟩ := RVs_get h (j % z.length) _ (getD_eq hlt)
    rw [hc] at h2
    rw [Array.getElem?_toList] at h1
    rw [hl] at hv
    have : zv[j % z.length]! = u := by
      rw [getElem!_def, h1]
    rw [this] at hv
    rw [← hv]; exact h2
theorem one_zeros {zv : Array Value} (h : ∀ u ∈ zv.toList, u.oneCell' = true) (hne : 0 < zv.size) (n : Nat) : ∀ u ∈ ((Array.range n).map (fun i => zv[i % zv.size]!)).toList, u.oneCell' = true := by
  intro u hu
  simp only [Array.toList_map, Array.toList_range, List.mem_map, List.mem_range] at hu
  obtain ⟨j, _, rfl⟩ := hu
  have hlt : j % zv.size < zv.size := Nat.mod_lt _ hne
  rw [getElem!_pos zv _ hlt]
  exact h _ (by simp)
theorem Inv.flag {H : Heap} {b : Nat} {t : TypeId} {N : Nat} (h : Inv gl w0 M H w) (hb : w0.heap.size ≤ b) (hs : w.shape? b = some (t, N)) (hc : ∀ o, o < N → ∃ v, M b o = some v) :
    Inv gl w0 ⟨M.f, fun b' => M.new b' ∨ b' = b⟩ H w := by
  have hM : MLe M ⟨M.f, fun b' => M.new b' ∨ b' = b⟩ := ⟨fun _ _ _ h => h, fun _ h => .inl h⟩
  refine ⟨h.below, h.imm, fun e he => ?_, h.sep, h.free, fun g cs hg => RCs.mono hM _ _ _ (h.glob g cs hg), fun b' hb' => ?_, h.plain⟩
  · obtain ⟨h1, h3⟩ := h.own e he
    refine ⟨h1, ?_⟩
    cases he2 : e.2 with
    | blk b2 cs2 =>
      rw [he2] at h3
      simp only [entOK] at h3 ⊢
      intro i c hc
      obtain ⟨u, a1, a2, a3, a4⟩ := h3 i c hc
      exact ⟨u, a1, a2, RV.mono hM _ _ a3, a4⟩
    | tok τ => rw [he2] at h3; exact h3
    | map b2 es => rw [he2] at h3; exact h3
  · rcases hb' with hb' | rfl
    · exact h.new b' hb'
    · exact ⟨hb, t, N, hs, hc⟩
theorem Inv.marked {H : Heap} {b N : Nat} {t : TypeId} (h : Inv gl w0 M H w) (hb : M.new b) (hs : w.shape? b = some (t, N)) : Inv gl w0 M H (w.freeze ⟨b, N, none⟩ 1) := by
  obtain ⟨hlo, t', N', hs', hc⟩ := h.new b hb
  rw [hs] at hs'
  cases hs'
  have hheap : ∀ b', b' ≠ b → (w.freeze ⟨b, N, none⟩ 1).heap[b']? = w.heap[b']? := fun b' hne => by
    simp only [World.freeze, Nat.one_ne_zero, if_false, Array.getElem?_modify, if_neg (fun h => hne h.symm : ¬ b = b')]
  have hcell : ∀ a, (w.freeze ⟨b, N, none⟩ 1).cell? a = w.cell? a := fun a => by
    by_cases hne : a.block = b
    · simp only [World.cell?, World.freeze, Nat.one_ne_zero, if_false, Array.getElem?_modify, hne, if_true]
      cases hx : w.heap[b]? with
      | none => rfl
      | some o => cases o <;> simp
    · simp only [World.cell?, hheap _ hne]
  have hfro : ∀ a, a.block ≠ b → (w.freeze ⟨b, N, none⟩ 1).frozen? a = w.frozen? a := fun a hne => by
    simp only [World.frozen?, hheap _ hne]
  have hshape : ∀ b', (w.freeze ⟨b, N, none⟩ 1).shape? b' = w.shape? b' := fun b' => by
    by_cases hne : b' = b
    · subst hne
      simp only [World.shape?, World.freeze, Nat.one_ne_zero, if_false, Array.getElem?_modify, if_true]
      cases hx : w.heap[b']? with
      | none => rfl
      | some o => cases o <;> simp
    · simp only [World.shape?, hheap _ hne]
  have hnot : ∀ e ∈ H, ∀ o u, e.2.reg b o → w.cell? ⟨b, o, none⟩ = some u → False := fun e he o u hr hu => by
    have hlt : o < N := by
      unfold World.shape? at hs
      unfold World.cell? at hu
      split at hs
      · rename_i c el fz hb2
        cases hs
        simp only [hb2] at hu
        rcases Nat.lt_or_ge o c.size with h' | h'
        · exact h'
        · simp [h'] at hu
      · cases hs
    obtain ⟨v, hv⟩ := hc o hlt
    rw [h.free e he b o hr] at hv
    cases hv
  refine ⟨⟨h.below.os, h.below.tape, h.below.output, ?_, fun k hk => ?_⟩, fun b' o v hv => by rw [hcell]; exact h.imm b' o v hv, fun e he => ?_, h.sep, h.free, h.glob, fun b' hb' => by rw [hshape]; exact h.new b' hb', fun e he => (h.plain e he).of fun b2 cs hb2 hne o => hfro _ fun e3 => by
    subst e3
    obtain ⟨u, hu, _⟩ := (show entOK M w (.blk b2 cs) from hb2 ▸ (h.own e he).2) 0 (cs[0]'(List.length_pos_iff.2 hne)) (by simp)
    exact hnot e he 0 u (by rw [hb2]; exact ⟨rfl, List.length_pos_iff.2 hne⟩) hu⟩
  · have : (w.freeze ⟨b, N, none⟩ 1).heap.size = w.heap.size := by simp [World.freeze]
    rw [this]; exact h.below.size
  · rw [hheap k (by omega)]; exact h.below.block k hk
  · obtain ⟨h1, h3⟩ := h.own e he
    refine ⟨h1, ?_⟩
    have hn := hnot e he
    generalize e.2 = e' at h3 hn
    cases e' with
    | blk b2 cs =>
      simp only [entOK, Ent.reg] at h3 hn ⊢
      intro i c hi
      obtain ⟨u, a1, a2, a3⟩ := h3 i c hi
      have hlt' : i < cs.length := by
        rcases Nat.lt_or_ge i cs.length with h' | h'
        · exact h'
        · rw [List.getElem?_eq_none h'] at hi; cases hi
      have hne : b2 ≠ b := fun e => by subst e; exact hn i u ⟨rfl, hlt'⟩ a1
      exact ⟨u, by rw [hcell]; exact a1, by rw [hfro _ hne]; exact a2, a3⟩
    | tok τ =>
      simp only [entOK, Ent.reg] at h3 hn ⊢
      intro i h4 h5
      obtain ⟨⟨u, a1⟩, a2⟩ := h3 i h4 h5
      have hne : τ.b ≠ b := fun e => by subst e; exact hn i u ⟨rfl, h4, h5⟩ a1
      exact ⟨⟨u, by rw [hcell]; exact a1⟩, by rw [hfro _ hne]; exact a2⟩
    | map b2 es =>
      simp only [entOK] at h3 ⊢
      obtain ⟨arr, clock, a1, a2⟩ := h3
      refine ⟨arr, clock, ?_, a2⟩
      simp only [World.freeze, Nat.one_ne_zero, if_false, Array.getElem?_modify]
      split
      · rename_i e; subst e; rw [a1]; rfl
      · exact a1
theorem cvS_sound {HF H : Heap} {o : Oper} {a : Act} {K : LV → Heap → Prop} {s e : TypeId} {ox : Operand} (hop : o.op = .convert s s ox) (hs : P.underlying s = some (.slice e)) (he : P.underlying e = some (.int .u8)) {x : LV} (hI : Inv gl w0 M (H ++ HF) w) (hx : RV M x (a.eval ox)) (h0 : (cvQ x).1) (ho : K (cvQ x).2 H) : After P gl w0 M HF o a w K := by
  unfold cvQ at h0 ho
  split at h0
  · rename_i sz n cs
    subst h0
    simp only [RV] at hx
    obtain ⟨hl, b, hv, hb, hc⟩ := hx
    obtain ⟨_, t, N, hsh, _⟩ := hI.new b hb
    have hrun : (execOp a.eval o).run P w = .ok (.value (.slice (some ⟨b, 0, none⟩) n n)) (w.freeze ⟨b, N, none⟩ 1) := by
      simp [execOp, hop, convert, run_underlying hs, run_underlying he, hv, markStringish, hsh]
    refine After.value hrun (MLe.refl M) (r := .fsl 1 n cs) ?_ (H' := H) (hI.marked hb hsh) ho
    simp only [RV]
    exact ⟨hl, .inl ⟨b, 0, rfl, hc⟩⟩
  · exact h0.elim
theorem mkX_sound {HF H : Heap} {o : Oper} {a : Act} {K : LV → Heap → Prop} {t e : TypeId} {n sz : Nat} {parts : Array (Nat × Operand)} (hop : o.op = .buildSlice t n parts) (hu : P.underlying t = some (.slice e)) (hs : sizeAt P e = some sz) {z : List LV} (hz : zeroOf P e = some z) (hroom : ¬ n * sz > 2 ^ 24)
    {parts' : List (Nat × Nat × X)} (hp : trParts vv (fun i => some (i * sz, sz)) parts.toList = some parts') {ρL : X → LV} (hρ : ∀ x y, trX vv x = some y → RV M (ρL y) (a.eval x)) (hI : Inv gl w0 M (H ++ HF) w)
    (hg : gParts ρL parts') (hzl : z.length = sz) (hsome : (fillQ (zeros z (n * sz)) (vParts ρL parts')).1) (r : List LV → LV) (hr : ∀ M v out, RV M (.nsl sz n out) v → RV M (r out) v) (hk : K (r (fillQ (zeros z (n * sz)) (vParts ρL parts')).2) H) : After P gl w0 M HF o a w K := by
  obtain ⟨i, zv, hi, hzv, hrz, hzs, hz1⟩ := zeroOf_sound (M := M) hz
  obtain ⟨out, hout⟩ : ∃ out, fillL (zeros z (n * sz)) (vParts ρL parts') = some out := by
    unfold fillQ at hsome
    split at hsome
    · rename_i cs h; exact ⟨cs, h⟩
    · exact hsome.elim
  simp only [fillQ, hout] at hk
  have hl := RVs_length hrz
  simp only [Array.length_toList] at hl
  -- the zero cells, as the model lays them
  have key : ∃ base : Array Value, (∀ (w : World), (do
        let zero ← if n * sz = 0 then pure #[] else do pure (← zeroValue e).cells
        pure ((Array.range (n * sz)).map (zero[· % zero.size]!)) : Sem (Array Value)).run P w = .ok base w) ∧ RVs M (zeros z (n * sz)) base.toList ∧ ∀ u ∈ base.toList, u.oneCell' = true := by
    by_cases h0 : n * sz = 0
    · refine ⟨#[], fun w => ?_, ?_, by simp⟩
      · simp [h0]
      · simp [h0, zeros, RVs]
    · refine ⟨(Array.range (n * sz)).map (zv.cells[· % zv.cells.size]!), fun w => ?_, ?_, ?_⟩
      · simp only [h0, if_false, Sem.run_bind, zeroValue, run_typeInfo w hi, Result.andThen_ok, hzv, Sem.run_pure]
      · exact RVs_zeros hrz (by intro hz0; subst hz0; simp at hzl; subst hzl; simp at h0) _
      · refine one_zeros hz1 ?_ _
        rw [hl, hzl]
        exact Nat.pos_of_ne_zero (fun h => h0 (by rw [h, Nat.mul_zero]))
  obtain ⟨base, hb1, hb2, hb3⟩ := key
  obtain ⟨cells', f1, f2, f3, f4⟩ := fill_sound hρ _ parts.toList parts' base (zeros z (n * sz)) out hp hb2 hg hout
  have hrun : (execOp a.eval o).run P w = .ok (.value (.slice (some ⟨w.heap.size, 0, none⟩) n n)) { w with heap := w.heap.push (.cells cells' e) } := by
    have hb1' := hb1 w
    simp only [execOp, hop, Instr.buildSlice, Sem.run_bind, run_underlying hu, Result.andThen_ok, run_sizeAt hs, hroom, if_false, Sem.run_pure]
    by_cases h0 : n * sz = 0
    · simp only [h0, if_true] at hb1' ⊢
      injection hb1' with hb1' _
      have f1' : Instr.fill (fun i => some (i * sz, sz)) (Array.map (fun x => (#[] : Array Value)[x % (#[] : Array Value).size]!) (Array.range 0)) (parts.toList.map fun p => (p.1, a.eval p.2)) = some cells' := by rw [hb1']; exact f1
      have hp' : (parts.map fun x => (x.1, a.eval x.2)).toList = parts.toList.map fun p => (p.1, a.eval p.2) := by simp
      simp only [hp', f1', Sem.run_bind, run_newRow, Result.andThen_ok, Sem.run_pure]
    · simp only [h0, if_false, Sem.run_bind, Sem.run_pure] at hb1' ⊢
      simp only [zeroValue, Sem.run_bind, run_typeInfo w hi, Result.andThen_ok, hzv, Sem.run_pure] at hb1' ⊢
      injection hb1' with hb1' _
      have hp' : (parts.map fun x => (x.1, a.eval x.2)).toList = parts.toList.map fun p => (p.1, a.eval p.2) := by simp
      simp only [hp', hb1', f1, Sem.run_bind, run_newRow, Result.andThen_ok, Sem.run_pure]
  obtain ⟨M', hM, hI', hc⟩ := hI.push_imm cells'.toList out e f2 (f4 hb3)
  simp only [Array.toArray_toList] at hI'
  have hlen : out.length = cells'.size := by
    have := RVs_length f2
    simpa using this.symm
  have hsh : World.shape? { w with heap := w.heap.push (.cells cells' e) } w.heap.size = some (e, cells'.size) := by
    simp [World.shape?]
  have hI2 := hI'.flag (b := w.heap.size) hI.below.size hsh (fun o ho => by
    obtain ⟨v, h1, _⟩ := RCs_get hc o (out[o]'(by omega)) (by simp)
    rw [Nat.zero_add] at h1
    exact ⟨v, h1⟩)
  have hM2 : MLe M' ⟨M'.f, fun b' => M'.new b' ∨ b' = w.heap.size⟩ := ⟨fun _ _ _ h => h, fun _ h => .inl h⟩
  refine After.value hrun (hM.trans hM2) (r := r out) (hr _ _ _ ?_) (H' := H) hI2 hk
  simp only [RV]
  exact ⟨by rw [f3]; simp [zeros], w.heap.size, rfl, .inr rfl, RCs.mono hM2 _ _ _ hc⟩
theorem storeCells_run {HF H : Heap} {id b : Nat} {cs ds : List LV} {off : Nat} {vs : List Value} (hI : Inv gl w0 M (H ++ HF) w) (hH : getH H id = some (.blk b cs)) (hv : RVs M ds vs) (h1 : ∀ v ∈ vs, v.oneCell' = true) (hr : off + ds.length ≤ cs.length) :
    (storeCells ⟨b, off, none⟩ vs).run P w = .ok () (w.setCells b off vs) ∧ Inv gl w0 M (setH H id (.blk b (splice cs ds off)) ++ HF) (w.setCells b off vs) := by
  have hlen := RVs_length hv
  obtain ⟨p1, p2⟩ := getH_perm hH
  have hI1 : Inv gl w0 M ((id, .blk b cs) :: (delH H id ++ HF)) w := hI.perm (p1.append_right HF)
  have hok := (hI1.own _ (List.mem_cons_self ..)).2
  simp only [entOK] at hok
  refine ⟨?_, ((hI1.store_blk hr hv h1).perm (((p2 _).append_right HF).symm))⟩
  have := run_storeCells_cells (P := P) b off vs 0 w (fun j hj => by
      obtain ⟨u, a1, _⟩ := hok (off + 0 + j) cs[off + 0 + j] (by simp)
      rw [a1]; rfl) (fun j hj => by
      obtain ⟨u, _, a2, _⟩ := hok (off + 0 + j) cs[off + 0 + j] (by simp)
      exact a2) h1
  simpa using this
theorem store_sound {HF H : Heap} {o : Oper} {a : Act} {K : LV → Heap → Prop} {t : TypeId} {oa ox : Operand} (hop : o.op = .store t oa ox) {sz : Nat} (hs : sizeAt P t = some sz) {x y : LV} (hI : Inv gl w0 M (H ++ HF) w) (hx : RV M x (a.eval oa)) (hy : RV M y (a.eval ox)) (ho : (storeQ sz x y H).1) (hk : K .any (storeQ sz x y H).2) :
    After P gl w0 M HF o a w K := by
  unfold storeQ at ho hk
  split at ho
  · rename_i id b off
    simp only [RV] at hx
    split at ho
    · rename_i b' cs ds hH hd
      simp only [hH, hd] at hk
      obtain ⟨rfl, h1, h2⟩ := ho
      obtain ⟨hv, hone⟩ := cellsL_sound hy hd
      have hlen := RVs_length hv
      obtain ⟨r1, r2⟩ := storeCells_run (P := P) hI hH hv hone h2
      have hrun : (execOp a.eval o).run P w = .ok .skip (w.setCells b' off (a.eval ox).cells.toList) := by
        simp only [Array.length_toList] at hlen
        simp only [execOp, hop, Instr.storeAt, hx, Instr.sureAddr, storeVar, Sem.run_bind, Sem.run_pure, Result.andThen_ok, run_sizeAt hs]
        rw [if_neg (by omega)]
        simp only [Result.andThen_ok, r1]
      exact After.skip hrun (MLe.refl M) r2 hk
    · exact ho.elim
  · exact ho.elim
theorem call_sound {HF H : Heap} {o : Oper} {a : Act} {K : LV → Heap → Prop} {f : Nat} {args : Array Operand} {at_ : Array TypeId} (hop : o.op = .call ⟨.value (.func f), args, at_⟩) {fn : Func} (hf : P.funcs[f]? = some fn) (hn : fn.name ≠ "runtime.NumGoroutine") {args' : List X} (ht : trXs vv args.toList = some args') {ρL : X → LV} (hρ : ∀ x y, trX vv x = some y → RV M (ρL y) (a.eval x)) (hI : Inv gl w0 M (H ++ HF) w) (hg : ∀ x ∈ args', (ρL x).g) (ho : LCalls P gl f (args'.map fun x => (ρL x).v) H K) : After P gl w0 M HF o a w K := by
  have hargs : ∀ (l : List Operand) (l' : List X), trXs vv l = some l' → (∀ x ∈ l', (ρL x).g) → RVs M (l'.map fun x => (ρL x).v) (l.map a.eval) := by
    intro l
    induction l with
    | nil => intro l' h _; simp only [trXs, Option.some.injEq] at h; subst h; simp [RVs]
    | cons x r ih =>
      intro l' h hg
      simp only [trXs] at h
      split at h
      · rename_i y ys h1 h2
        cases h
        simp only [List.map_cons, RVs]
        exact ⟨_, _, rfl, strip (hρ x y h1) (hg y (by simp)), ih ys h2 (fun x hx => hg x (List.mem_cons_of_mem _ hx))⟩
      · cases h
  have hv := ho w0 M HF w _ hI (hargs _ _ ht hg)
  have e1 : (fn.name == "runtime.NumGoroutine") = false := by simpa using hn
  have e2 : (List.map a.eval args.toList).toArray = args.map a.eval := by
    apply Array.toList_inj.1
    simp
  rw [e2] at hv
  intro N Q hN
  unfold Oper.wp
  cases hb : fn.body.isNone with
  | false =>
    have hrun : (execOp a.eval o).run P w = .ok (.enter f (args.map a.eval)) w := by
      simp only [execOp, hop, resolve, Act.eval, Deferred.ofValue, Sem.run_bind, Sem.run_pure, Result.andThen_ok, invoke, callFunc, run_program, hf]
      simp only [e1, Bool.false_eq_true, if_false, hb, Sem.run_pure]
      congr 2
      apply Array.toList_inj.1
      simp
    rw [hrun]
    simp only [Oper.upon]
    refine (hv.calls hf hb).mono ?_
    rintro e w' ⟨M', v, r, H', h1, rfl, h3, h4, h5⟩
    exact hN M' v r H' w' h1 h3 h4 h5
  | true =>
    rcases hv with ⟨h9, _⟩ | ⟨_, u, w', hc, M', v, r, H', h1, h2, h3, h4, h5⟩
    · rw [h9 fn hf] at hb; cases hb
    · cases h2
      have hrun : (execOp a.eval o).run P w = .ok (.value u) w' := by
        simp only [execOp, hop, resolve, Act.eval, Deferred.ofValue, Sem.run_bind, Sem.run_pure, Result.andThen_ok, invoke]
        have e3 : ∀ x : Array Value, x = args.map a.eval → (callFunc f x).run P w = .ok (.value u) w' := fun x hx => by rw [hx]; exact hc
        rw [e3 _ (by first | rfl | (apply Array.toList_inj.1; simp))]
      rw [hrun]
      simp only [Oper.upon]
      exact hN M' u r H' w' h1 h3 h4 h5
theorem nextslicecap_le {need cap : Nat} (h : cap < need) : 4 * Builtin.nextslicecap need cap ≤ 5 * need + 2048 := by
  unfold Builtin.nextslicecap
  split
  · omega
  · split
    · omega
    · have grow : ∀ r c, c < need → 4 * Builtin.growBy need r c ≤ 5 * need + 2048 := by
        intro r
        induction r with
        | zero => intro c hc; simp only [Builtin.growBy]; omega
        | succ r ih =>
          intro c hc
          simp only [Builtin.growBy]
          split
          · omega
          · rcases Nat.lt_or_ge (c + (c + 768) / 4) need with h1 | h1
            · exact ih _ h1
            · cases r with
              | zero => simp only [Builtin.growBy]; omega
              | succ r => simp only [Builtin.growBy, h1, if_true]; omega
      exact grow 4 cap h
theorem elems_sound {HF H : Heap} (hI : Inv gl w0 M (H ++ HF) w) {sz : Nat} {y : LV} {v : Value} (hy : RV M y v) (ho : (elems sz y H).1) :
    (Builtin.lenOf v).run P w = .ok (elems sz y H).2.1 w ∧ (elems sz y H).2.2.length = (elems sz y H).2.1 * sz ∧
      ∃ vs : List Value, RVs M (elems sz y H).2.2 vs ∧ (∀ u ∈ vs, u.oneCell' = true) ∧ ∀ k, k ≤ (elems sz y H).2.1 → ∀ w' : World, (∀ b o u, w.cell? ⟨b, o, none⟩ = some u → w'.cell? ⟨b, o, none⟩ = some u) → (Builtin.firstCells sz k v).run P w' = .ok (vs.take (k * sz)).toArray w' := by
  have cells : ∀ (b o m k : Nat) (vs : List Value) (w' : World), vs.length = m * sz → k ≤ m → (∀ i v, vs[i]? = some v → w'.cell? ⟨b, o + i, none⟩ = some v) → (loadCells ⟨b, o, none⟩ (k * sz)).run P w' = .ok (vs.take (k * sz)).toArray w' := by
    intro b o m k vs w' hl hk hc
    have h := run_loadCells_at (P := P) (w := w') b o (vs.take (k * sz)) (fun i v hi => by
      rw [List.getElem?_take] at hi
      split at hi
      · exact hc i v hi
      · cases hi)
    have hle : k * sz ≤ m * sz := Nat.mul_le_mul_right _ hk
    rwa [show (vs.take (k * sz)).length = k * sz by simp; omega] at h
  have im : ∀ (s m : Nat) (ys : List LV), (s = sz ∨ m = 0) → ys.length = m * s → ((∃ b o cap, v = .slice (some ⟨b, o, none⟩) m cap ∧ RCs M b o ys) ∨ (∃ a cap, v = .slice a 0 cap ∧ m = 0)) →
      (Builtin.lenOf v).run P w = .ok m w ∧ ys.length = m * sz ∧ ∃ vs : List Value, RVs M ys vs ∧ (∀ u ∈ vs, u.oneCell' = true) ∧ ∀ k, k ≤ m → ∀ w' : World, (∀ b o u, w.cell? ⟨b, o, none⟩ = some u → w'.cell? ⟨b, o, none⟩ = some u) → (Builtin.firstCells sz k v).run P w' = .ok (vs.take (k * sz)).toArray w' := by
    intro s m ys hs hl hv
    have hl' : ys.length = m * sz := by
      rcases hs with rfl | rfl
      · exact hl
      · simpa using hl
    rcases hv with ⟨b, o, cap, rfl, hc⟩ | ⟨a, cap, rfl, rfl⟩
    · obtain ⟨vs, h1, h2, h3⟩ := (Holds.of_imm hI hc).vals
      refine ⟨rfl, hl', vs, h1, h2, fun k hk w' hw => ?_⟩
      have := cells b o m k vs w' (by rw [RVs_length h1, hl']) hk (fun i v hi => hw _ _ _ (h3 i v hi))
      simpa [Builtin.firstCells] using this
    · have : ys = [] := by simpa using hl'
      subst this
      refine ⟨rfl, by simp, [], by simp [RVs], by simp, fun k hk w' _ => ?_⟩
      have hk0 : k = 0 := by omega
      subst hk0
      cases a with
      | none => simp [Builtin.firstCells]
      | some a => simpa [Builtin.firstCells] using run_loadCells_list (P := P) (w := w') a [] (by simp)
  unfold elems at ho ⊢
  split at ho
  · simp only [RV] at hy
    refine im _ _ _ ho hy.1 ?_
    rcases hy.2 with ⟨b, o, cap, h1, _, h2⟩ | h
    · exact .inl ⟨b, o, cap, h1, h2⟩
    · exact .inr h
  · simp only [RV] at hy
    refine im _ _ _ ho hy.1 ?_
    rcases hy.2 with ⟨b, o, h1, h2⟩ | ⟨a, h⟩
    · exact .inl ⟨b, o, _, h1, h2⟩
    · exact .inr ⟨a, 0, h⟩
  · simp only [RV] at hy
    refine im _ _ _ ho hy.1 ?_
    rcases hy.2 with ⟨b, o, cap, h1, _, h2, _⟩ | ⟨a, h⟩
    · exact .inl ⟨b, o, cap, h1, h2⟩
    · exact .inr ⟨a, 0, h⟩
  · rename_i s
    simp only [RV] at hy
    subst hy
    simp only at ho
    subst ho
    refine ⟨by simp [Builtin.lenOf, ByteArray.size], by simp, s.map fun u => .int .u8 u.toNat, ?_, by simp [Value.oneCell'], fun k hk w' _ => ?_⟩
    · have : ∀ l : List UInt8, RVs M (l.map fun u => LV.int .u8 u.toNat) (l.map fun u => Value.int .u8 u.toNat) := by
        intro l
        induction l with
        | nil => simp [RVs]
        | cons x r ih => simp only [List.map_cons, RVs]; exact ⟨_, _, rfl, by simp [RV], ih⟩
      exact this s
    · simp only [Builtin.firstCells, Sem.run_pure]
      congr 1
      apply Array.toList_inj.1
      simp [ByteArray.data_extract, List.extract]
  · rename_i id s b off len cap
    simp only [RV] at hy
    rcases hy with rfl | ⟨rfl, rfl, a, rfl⟩
    rotate_left
    · split at ho
      · rename_i b' cs hH
        refine ⟨rfl, by simp, [], by simp [RVs], by simp, fun k hk w' _ => ?_⟩
        have hk0 : k = 0 := Nat.le_zero.1 hk
        subst hk0
        cases a with
        | none => simp [Builtin.firstCells]
        | some a => simpa [Builtin.firstCells] using run_loadCells_list (P := P) (w := w') a [] (by simp)
      · exact ho.elim
    split at ho
    · rename_i b' cs hH
      obtain ⟨rfl, rfl, hr⟩ := ho
      obtain ⟨vs, h1, h2, h3⟩ := (((Holds.of_own hI (List.mem_append_left _ (getH_mem hH))).drop off).take (len * s)).vals
      refine ⟨rfl, take_drop_length hr, vs, h1, h2, fun k hk w' hw => ?_⟩
      have := cells b' off len k vs w' (by rw [RVs_length h1, take_drop_length hr]) hk (fun i v hi => hw _ _ _ (by simpa using h3 i v hi))
      simpa [Builtin.firstCells] using this
    · exact ho.elim
  · exact ho.elim
theorem run_append_in {t u e ty : TypeId} {sz n m cap : Nat} (hu : P.underlying t = some (.slice e)) (huy : P.underlying u = some .string ∨ ∃ e', P.underlying u = some (.slice e')) (hs : sizeAt P e = some sz) {base : Option Addr} {vy : Value} {vs : List Value}
    (hlen : (Builtin.lenOf vy).run P w = .ok m w) (hf : (Builtin.firstCells sz m vy).run P w = .ok vs.toArray w) (hle : n + m ≤ cap) {w' : World} (hst : (match base with | some a => storeCells (a.add (n * sz)) vs | none => pure () : Sem Unit).run P w = .ok () w') :
    (Builtin.append_ #[t, u] ty #[.slice base n cap, vy]).run P w = .ok (.slice base (n + m) cap) w' := by
  rcases huy with huy | ⟨e', huy⟩
  · cases base with
    | none =>
      simp only [Sem.run_pure] at hst
      cases hst
      simp [Builtin.append_, run_underlying hu, run_underlying huy, run_sizeAt hs, hlen, hle, hf]
    | some a =>
      simp only at hst
      simp [Builtin.append_, run_underlying hu, run_underlying huy, run_sizeAt hs, hlen, hle, hf, hst]
  · cases base with
    | none =>
      simp only [Sem.run_pure] at hst
      cases hst
      simp [Builtin.append_, run_underlying hu, run_underlying huy, run_sizeAt hs, hlen, hle, hf]
    | some a =>
      simp only at hst
      simp [Builtin.append_, run_underlying hu, run_underlying huy, run_sizeAt hs, hlen, hle, hf, hst]
theorem run_append_out {t u e ty : TypeId} {sz n m cap : Nat} (hu : P.underlying t = some (.slice e)) (huy : P.underlying u = some .string ∨ ∃ e', P.underlying u = some (.slice e')) {i : TypeInfo} (hi : P.info? e = some i) (hs : i.size = sz) {z : Value} (hz : i.zero = some z) {base : Option Addr} {vy : Value} {vs olds : List Value}
    (hlen : (Builtin.lenOf vy).run P w = .ok m w) (hf : (Builtin.firstCells sz m vy).run P { w with drawn := w.drawn + 1 } = .ok vs.toArray { w with drawn := w.drawn + 1 })
    (hfo : (Builtin.firstCells sz n (.slice base n cap)).run P { w with drawn := w.drawn + 1 } = .ok olds.toArray { w with drawn := w.drawn + 1 })
    (hlt : cap < n + m) (h63 : n + m ≤ 9223372036854775807) (h48 : Builtin.nextslicecap (n + m) cap * i.bytes ≤ 281474976710656) :
    ∃ k, (Builtin.append_ #[t, u] ty #[.slice base n cap, vy]).run P w = .ok (.slice (some ⟨w.heap.size, 0, none⟩) (n + m) (n + m + k)) (w.drew.alloc (.cells (olds ++ vs ++ (Builtin.zeroCells z.cells k).toList).toArray e)) := by
  change (Builtin.firstCells sz m vy).run P w.drew = .ok vs.toArray w.drew at hf
  change (Builtin.firstCells sz n (.slice base n cap)).run P w.drew = .ok olds.toArray w.drew at hfo
  have hn : ¬ (n + m ≤ cap) := by omega
  have h63' : ¬ (9223372036854775807 < ((n : Int) + (m : Int))) := by omega
  have h48' : ¬ (281474976710656 < Builtin.nextslicecap (n + m) cap * i.bytes) := by omega
  refine ⟨(w.tape w.drawn (Question.appendCap (n + m) cap e)) % (2 ^ 63 - (n + m)), ?_⟩
  subst hs
  rcases huy with huy | ⟨e', huy⟩
  · simp [Builtin.append_, run_underlying hu, run_underlying huy, sizeOf, typeInfo, zeroValue, hi, hz, hlen, hn, h63', h48', Question.forced, Question.cut, hf, hfo, newRow]
    congr 2
    apply Array.ext'
    simp
  · simp [Builtin.append_, run_underlying hu, run_underlying huy, sizeOf, typeInfo, zeroValue, hi, hz, hlen, hn, h63', h48', Question.forced, Question.cut, hf, hfo, newRow]
    congr 2
    apply Array.ext'
    simp
theorem run_appendZ_in {t u e ty : TypeId} {sz n cap : Nat} {k : IntKind} {l : Int} (hu : P.underlying t = some (.slice e)) (huy : P.underlying u = some (.int k)) {i : TypeInfo} (hi : P.info? e = some i) (hs : i.size = sz) {z : Value} (hz : i.zero = some z) {base : Option Addr}
    (h0 : 0 ≤ l) (h1 : l < 2 ^ 63) (h48 : l * i.bytes ≤ 2 ^ 48) (hle : n + l.toNat ≤ cap) (hzs : z.cells.size = sz) {w' : World} (hst : (match base with | some a => storeCells (a.add (n * sz)) (Builtin.zeroCells z.cells l.toNat).toList | none => pure () : Sem Unit).run P w = .ok () w') :
    (Builtin.append_ #[t, u] ty #[.slice base n cap, .int .i64 l]).run P w = .ok (.slice base (n + l.toNat) cap) w' := by
  have wl : IntKind.i64.wrap l = l := by simp only [IntKind.wrap, IntKind.bits, IntKind.signed]; simp; omega
  have hl0 : ¬ l < 0 := by omega
  have hcb : ¬ (281474976710656 : Int) < l * (i.bytes : Int) := by omega
  have hsz : sizeAt P e = some sz := by simp [sizeAt, hi, hs]
  by_cases hnz : l.toNat * sz = 0
  · have he : (Builtin.zeroCells z.cells l.toNat).toList = [] := by simp [Builtin.zeroCells, hzs, hnz]
    rw [he] at hst
    cases base with
    | none =>
      simp only [Sem.run_pure] at hst
      cases hst
      simp [Builtin.append_, run_underlying hu, run_underlying huy, run_sizeAt hsz, asInt, asIntOf, typeInfo, hi, wl, hl0, hcb, hle, hnz]
    | some a =>
      simp only at hst
      simp [Builtin.append_, run_underlying hu, run_underlying huy, run_sizeAt hsz, asInt, asIntOf, typeInfo, hi, wl, hl0, hcb, hle, hnz, hst]
  · cases base with
    | none =>
      simp only [Sem.run_pure] at hst
      cases hst
      simp [Builtin.append_, run_underlying hu, run_underlying huy, run_sizeAt hsz, asInt, asIntOf, typeInfo, hi, wl, hl0, hcb, hle, hnz, zeroValue, hz]
    | some a =>
      simp only at hst
      simp [Builtin.append_, run_underlying hu, run_underlying huy, run_sizeAt hsz, asInt, asIntOf, typeInfo, hi, wl, hl0, hcb, hle, hnz, zeroValue, hz, hst]
theorem run_appendZ_out {t u e ty : TypeId} {sz n cap : Nat} {k : IntKind} {l : Int} (hu : P.underlying t = some (.slice e)) (huy : P.underlying u = some (.int k)) {i : TypeInfo} (hi : P.info? e = some i) (hs : i.size = sz) {z : Value} (hz : i.zero = some z) (hzs : z.cells.size = sz) {base : Option Addr} {olds : List Value}
    (h0 : 0 ≤ l) (h1 : l < 2 ^ 63) (h48l : l * i.bytes ≤ 2 ^ 48)
    (hfo : (Builtin.firstCells sz n (.slice base n cap)).run P { w with drawn := w.drawn + 1 } = .ok olds.toArray { w with drawn := w.drawn + 1 })
    (hlt : cap < n + l.toNat) (h63 : n + l.toNat ≤ 9223372036854775807) (h48 : Builtin.nextslicecap (n + l.toNat) cap * i.bytes ≤ 281474976710656) :
    ∃ k, (Builtin.append_ #[t, u] ty #[.slice base n cap, .int .i64 l]).run P w = .ok (.slice (some ⟨w.heap.size, 0, none⟩) (n + l.toNat) (n + l.toNat + k)) (w.drew.alloc (.cells (olds ++ (Builtin.zeroCells z.cells l.toNat).toList ++ (Builtin.zeroCells z.cells k).toList).toArray e)) := by
  change (Builtin.firstCells sz n (.slice base n cap)).run P w.drew = .ok olds.toArray w.drew at hfo
  have wl : IntKind.i64.wrap l = l := by simp only [IntKind.wrap, IntKind.bits, IntKind.signed]; simp; omega
  have hl0 : ¬ l < 0 := by omega
  have hcb : ¬ (281474976710656 : Int) < l * (i.bytes : Int) := by omega
  have hn : ¬ (n + l.toNat ≤ cap) := by omega
  have h63' : ¬ (9223372036854775807 < ((n : Int) + max l 0)) := by omega
  have h63'' : ¬ (9223372036854775807 < ((n : Int) + (l.toNat : Int))) := by omega
  have h48' : ¬ (281474976710656 < Builtin.nextslicecap (n + l.toNat) cap * i.bytes) := by omega
  refine ⟨(w.tape w.drawn (Question.appendCap (n + l.toNat) cap e)) % (2 ^ 63 - (n + l.toNat)), ?_⟩
  subst hs
  by_cases hnz : l.toNat * i.size = 0
  · have he : (Builtin.zeroCells z.cells l.toNat).toList = [] := by simp [Builtin.zeroCells, hzs, hnz]
    rw [he]
    simp [Builtin.append_, run_underlying hu, run_underlying huy, sizeOf, asInt, asIntOf, typeInfo, zeroValue, hi, hz, wl, hl0, hcb, hn, h63', h63'', h48', hnz, Question.forced, Question.cut, hfo, newRow]
    congr 2
    apply Array.ext'
    simp
  · simp [Builtin.append_, run_underlying hu, run_underlying huy, sizeOf, asInt, asIntOf, typeInfo, zeroValue, hi, hz, wl, hl0, hcb, hn, h63', h63'', h48', hnz, Question.forced, Question.cut, hfo, newRow]
    congr 2
    apply Array.ext'
    simp
def ASrc (P : Program) (w : World) (t u e ty : TypeId) (sz m : Nat) (bytes : Nat) (z : Value) (vy : Value) (vs : List Value) : Prop :=
  (∀ (base : Option Addr) (n cap : Nat) (w' : World), n + m ≤ cap → (match base with | some a => storeCells (a.add (n * sz)) vs | none => pure () : Sem Unit).run P w = .ok () w' →
    (Builtin.append_ #[t, u] ty #[.slice base n cap, vy]).run P w = .ok (.slice base (n + m) cap) w') ∧
  ∀ (base : Option Addr) (n cap : Nat) (olds : List Value), (Builtin.firstCells sz n (.slice base n cap)).run P { w with drawn := w.drawn + 1 } = .ok olds.toArray { w with drawn := w.drawn + 1 } → cap < n + m → n + m ≤ 9223372036854775807 → Builtin.nextslicecap (n + m) cap * bytes ≤ 281474976710656 →
    ∃ k, (Builtin.append_ #[t, u] ty #[.slice base n cap, vy]).run P w = .ok (.slice (some ⟨w.heap.size, 0, none⟩) (n + m) (n + m + k)) (w.drew.alloc (.cells (olds ++ vs ++ (Builtin.zeroCells z.cells k).toList).toArray e))
section
variable {t u e ty : TypeId} {sz bytes : Nat} {ie : TypeInfo} {zv : Value} {m : Nat} {vy : Value} {vs : List Value} {ys : List LV}
theorem app_out (hie : P.info? e = some ie) (hse : ie.size = sz) (hbe : ie.bytes = bytes) (hzs : zv.cells.size = ie.size) (hz1 : ∀ u ∈ zv.cells.toList, u.oneCell' = true) (hb0 : bytes ≠ 0) (hs0 : sz ≠ 0) (hsrc : ASrc P w t u e ty sz m bytes zv vy vs) (hvs : RVs M ys vs) (hone : ∀ u ∈ vs, u.oneCell' = true)
    {H : Heap} (hI : Inv gl w0 M H w) {n cap : Nat} {base : Option Addr} {olds : List Value} {cs : List LV} (hroom : roomy (n + m) bytes) (hlt : cap < n + m) (hol : RVs M cs olds) (ho1 : ∀ u ∈ olds, u.oneCell' = true)
    (hfo : (Builtin.firstCells sz n (.slice base n cap)).run P { w with drawn := w.drawn + 1 } = .ok olds.toArray { w with drawn := w.drawn + 1 }) (id : Nat) :
    ∃ k b w', (Builtin.append_ #[t, u] ty #[.slice base n cap, vy]).run P w = .ok (.slice (some ⟨b, 0, none⟩) (n + m) (n + m + k)) w' ∧ Inv gl w0 M ((id, .blk b ((cs ++ ys) ++ List.replicate (k * sz) LV.any)) :: H) w' := by
  have hcap := nextslicecap_le (need := n + m) (cap := cap) hlt
  have h48 : Builtin.nextslicecap (n + m) cap * bytes ≤ 281474976710656 := by
    unfold roomy at hroom
    have h1 : 4 * Builtin.nextslicecap (n + m) cap * bytes ≤ (5 * (n + m) + 2048) * bytes := Nat.mul_le_mul_right _ hcap
    have h2 : 4 * (Builtin.nextslicecap (n + m) cap * bytes) = 4 * Builtin.nextslicecap (n + m) cap * bytes := by rw [Nat.mul_assoc]
    omega
  have h63 : n + m ≤ 9223372036854775807 := by
    unfold roomy at hroom
    have : 5 * (n + m) + 2048 ≤ (5 * (n + m) + 2048) * bytes := Nat.le_mul_of_pos_right _ (Nat.pos_of_ne_zero hb0)
    omega
  obtain ⟨k, hrun⟩ := hsrc.2 base n cap olds hfo hlt h63 h48
  have hcat' : RVs M (cs ++ ys) (olds ++ vs) := RVs_append hol hvs
  let rest := (Builtin.zeroCells zv.cells k).toList
  have hrl : rest.length = k * sz := by simp [rest, Builtin.zeroCells, hzs, hse]
  have hspare : RVs M (List.replicate (k * sz) LV.any) rest := RVs_of_get (by simp [hrl]) (fun i c v hc _ => by
    rw [List.getElem?_replicate] at hc
    split at hc
    · cases hc; simp [RV]
    · cases hc)
  have hone' : ∀ v ∈ olds ++ vs ++ rest, v.oneCell' = true := by
    intro v hv
    rcases List.mem_append.1 hv with hv | hv
    · rcases List.mem_append.1 hv with hv | hv
      · exact ho1 v hv
      · exact hone v hv
    · simp only [rest, Builtin.zeroCells, Array.toList_map, Array.toList_range, List.mem_map, List.mem_range] at hv
      obtain ⟨j, hj, rfl⟩ := hv
      have hpos : 0 < zv.cells.size := by
        rw [hzs, hse]; exact Nat.pos_of_ne_zero hs0
      have hlt : j % zv.cells.size < zv.cells.size := Nat.mod_lt _ hpos
      rw [getElem!_pos zv.cells _ hlt]
      exact hz1 _ (by simp)
  have hI3 := (hI.drew (w.drawn + 1)).push_own id (olds ++ vs ++ rest) ((cs ++ ys) ++ List.replicate (k * sz) LV.any) e (RVs_append hcat' hspare) hone' (0, 0) (fun _ => by simp)
  exact ⟨k, _, _, hrun, hI3⟩
theorem append_run {HF H : Heap} (hI : Inv gl w0 M (H ++ HF) w) (hie : P.info? e = some ie) (hse : ie.size = sz) (hbe : ie.bytes = bytes) (hzs : zv.cells.size = ie.size) (hz1 : ∀ u ∈ zv.cells.toList, u.oneCell' = true) (hb0 : bytes ≠ 0) (hs0 : sz ≠ 0) (hsrc : ASrc P w t u e ty sz m bytes zv vy vs) (hvs : RVs M ys vs) (hone : ∀ u ∈ vs, u.oneCell' = true) (hyl : ys.length = m * sz)
    {id : Nat} {tk : Tok} {n : Nat} {cs : List LV} {vx : Value} {H1 : Heap} (hp : H.Perm ((id, .tok tk) :: H1)) (hcl : cs.length = n * sz)
    (hx : (∃ b o cap, vx = .slice (some ⟨b, o, none⟩) n cap ∧ n ≤ cap ∧ RCs M b o cs ∧ (cap = n ∨ (b = tk.b ∧ tk.lo = o + n * sz ∧ tk.hi = o + cap * sz))) ∨ (∃ a, vx = .slice a 0 0 ∧ n = 0)) (hroom : roomy (n + m) bytes) :
    ∃ v w' M' τ, (Builtin.append_ #[t, u] ty #[vx, vy]).run P w = .ok v w' ∧ MLe M M' ∧ RV M' (.osl id τ sz (n + m) (cs ++ ys)) v ∧ Inv gl w0 M' ((id, .tok τ) :: (H1 ++ HF)) w' := by
  have hI1 : Inv gl w0 M ((id, .tok tk) :: (H1 ++ HF)) w := hI.perm (hp.append_right HF)
  have hlen2 := RVs_length hvs
  have hcat : (cs ++ ys).length = (n + m) * sz := by simp [hcl, hyl, Nat.add_mul]
  have hI2 : Inv gl w0 M (H1 ++ HF) w := hI1.sub (List.sublist_cons_self _ _)
  have out : ∀ (base : Option Addr) (cap : Nat) (olds : List Value), vx = .slice base n cap → cap < n + m → RVs M cs olds → (∀ u ∈ olds, u.oneCell' = true) → (Builtin.firstCells sz n (.slice base n cap)).run P { w with drawn := w.drawn + 1 } = .ok olds.toArray { w with drawn := w.drawn + 1 } →
      ∃ v w' M' τ, (Builtin.append_ #[t, u] ty #[vx, vy]).run P w = .ok v w' ∧ MLe M M' ∧ RV M' (.osl id τ sz (n + m) (cs ++ ys)) v ∧ Inv gl w0 M' ((id, .tok τ) :: (H1 ++ HF)) w' := by
    intro base cap olds hvx hlt hol ho1 hfo
    subst hvx
    obtain ⟨k, b, w', hrun, hI3⟩ := app_out hie hse hbe hzs hz1 hb0 hs0 hsrc hvs hone hI2 hroom hlt hol ho1 hfo id
    obtain ⟨M', hM, hI4, hc⟩ := hI3.split_own (id' := id)
    refine ⟨_, _, M', _, hrun, hM, ?_, hI4⟩
    simp only [RV]
    refine ⟨hcat, .inl ⟨b, 0, n + m + k, rfl, by omega, hc, .inr ⟨rfl, by simp only [hcat, Nat.zero_add], ?_⟩⟩⟩
    simp only [List.length_replicate, hcat, Nat.zero_add, Nat.add_mul]
  have noEl : m = 0 → vs = [] ∧ ys = [] := by
    intro hm
    subst hm
    have h1 : ys.length = 0 := by rw [hyl]; simp
    exact ⟨List.length_eq_zero_iff.1 (by rw [hlen2]; exact h1), List.length_eq_zero_iff.1 h1⟩
  rcases hx with ⟨b, o, cap, rfl, hle, hr, htk⟩ | ⟨ad, rfl, rfl⟩
  · by_cases hin : n + m ≤ cap
    · -- in place
      by_cases hm : m = 0
      · obtain ⟨rfl, rfl⟩ := noEl hm
        subst hm
        have hrun := hsrc.1 (some ⟨b, o, none⟩) n cap w hin (by simp [storeCells])
        refine ⟨_, _, M, tk, hrun, MLe.refl M, ?_, hI1⟩
        simp only [RV, List.append_nil, Nat.add_zero]
        exact ⟨hcl, .inl ⟨b, o, cap, rfl, hle, hr, htk⟩⟩
      · rcases htk with htk | ⟨rfl, t2, t3⟩
        · omega
        · have hfit : tk.lo + vs.length ≤ tk.hi := by
            rw [t2, t3, hlen2, hyl, Nat.add_assoc, ← Nat.add_mul]
            exact Nat.add_le_add_left (Nat.mul_le_mul_right _ hin) _
          obtain ⟨tb, tl, th⟩ := tk
          simp only at t2 t3 hfit hr hI1
          obtain ⟨M', hM, hI3, hc⟩ := hI1.take_tok (id' := id) hvs hone hfit
          have hok := (hI1.own _ (List.mem_cons_self ..)).2
          simp only [entOK] at hok
          have hst := run_storeCells_cells (P := P) tb (o + n * sz) vs 0 w (fun j hj => by
              obtain ⟨⟨x, hx⟩, _⟩ := hok (o + n * sz + 0 + j) (by omega) (by omega)
              rw [hx]; rfl) (fun j hj => (hok (o + n * sz + 0 + j) (by omega) (by omega)).2) hone
          have hrun := hsrc.1 (some ⟨tb, o, none⟩) n cap (w.setCells tb tl vs) hin (by
            simp only [addr_add]
            rw [hst, t2]; rfl)
          refine ⟨_, _, M', _, hrun, hM, ?_, hI3⟩
          simp only [RV]
          refine ⟨hcat, .inl ⟨tb, o, cap, rfl, hin, RCs_append (RCs.mono hM _ _ _ hr) (by rw [hcl, ← t2]; exact hc), .inr ⟨rfl, ?_, t3⟩⟩⟩
          rw [t2, hlen2, hyl, Nat.add_mul, Nat.add_assoc]
    · obtain ⟨olds, h1, h2, h3⟩ := (Holds.of_imm hI hr).vals
      refine out _ cap olds rfl (by omega) h1 h2 ?_
      have := run_loadCells_at (P := P) (w := { w with drawn := w.drawn + 1 }) b o olds (fun i v hi => h3 i v hi)
      rw [RVs_length h1, hcl] at this
      simpa [Builtin.firstCells] using this
  · have hcs : cs = [] := by simpa using hcl
    subst hcs
    by_cases hm : m = 0
    · obtain ⟨rfl, rfl⟩ := noEl hm
      subst hm
      have hrun := hsrc.1 ad 0 0 w (by omega) (by cases ad <;> simp [storeCells])
      refine ⟨_, _, M, tk, hrun, MLe.refl M, ?_, hI1⟩
      simp [RV]
    · refine out ad 0 [] rfl (by omega) (by simp [RVs]) (by simp) ?_
      cases ad with
      | none => simp [Builtin.firstCells]
      | some a => simpa [Builtin.firstCells] using run_loadCells_list (P := P) (w := { w with drawn := w.drawn + 1 }) a [] (by simp)
end
theorem Inv.weaken {H : Heap} {id id' b : Nat} {cs cs' : List LV} (h : Inv gl w0 M ((id, .blk b cs) :: H) w) (hc : ∀ (i : Nat) (c' : LV), cs'[i]? = some c' → ∃ c, cs[i]? = some c ∧ ∀ v, RV M c v → RV M c' v) :
    Inv gl w0 M ((id', .blk b cs') :: H) w := by
  have hsep := List.pairwise_cons.1 h.sep
  obtain ⟨hlo, hok⟩ := h.own _ (List.mem_cons_self ..)
  have hfree := h.free _ (List.mem_cons_self ..)
  simp only [entOK] at hok
  have hreg : ∀ b' o, Ent.reg (.blk b cs') b' o → Ent.reg (.blk b cs) b' o := by
    intro b' o ⟨h1, h2⟩
    obtain ⟨c, hc1, _⟩ := hc o cs'[o] (by simp [h2])
    exact ⟨h1, (List.getElem?_eq_some_iff.1 hc1).1⟩
  refine ⟨h.below, h.imm, fun e he => ?_, List.pairwise_cons.2 ⟨fun e he b' o hr => hsep.1 e he b' o (hreg b' o hr), hsep.2⟩, fun e he b' o hr => ?_, h.glob, h.new, plain_cons (fun hne => h.plain _ (List.mem_cons_self ..) (fun e => by
    subst e
    obtain ⟨c, hc1, _⟩ := hc 0 (cs'[0]'(List.length_pos_iff.2 hne)) (by simp)
    simp at hc1)) fun e he => h.plain e (List.mem_cons_of_mem _ he)⟩
  · rcases List.mem_cons.1 he with rfl | he
    · refine ⟨fun b' o hr => hlo b' o (hreg b' o hr), ?_⟩
      simp only [entOK]
      intro i c' hc'
      obtain ⟨c, hc1, hc2⟩ := hc i c' hc'
      obtain ⟨u, a1, a2, a3, a4⟩ := hok i c hc1
      exact ⟨u, a1, a2, hc2 u a3, a4⟩
    · exact h.own e (List.mem_cons_of_mem _ he)
  · rcases List.mem_cons.1 he with rfl | he
    · exact hfree b' o (hreg b' o hr)
    · exact h.free e (List.mem_cons_of_mem _ he) b' o hr
end
end Go.Lx
