/- Code: the logical wp of regions, sequences, tests, loops and functions. -/
import Derived.Test.YtkdblnejpmbnfaaGreatW03
namespace Go.Lx
set_option linter.unusedSimpArgs false
set_option linter.unusedVariables false
open RowKit
structure LOper where
  dst : Option Nat
  var : Bool
  guard : Option (X × Bool)
  op : LOp
structure DIt where
  i : Nat
  ss : List Nat
  keep : Bool
  pend : List Nat
  o : LOper
inductive LCode where
  | skip
  | region (ops : List LOper)
  | regionD (ops : List DIt)
  | seq (a b : LCode)
  | cond (c : X) (a b : LCode)
  | block (id : Nat) (c : LCode)
  | loop (c : LCode)
  | exit (id : Nat)
  | ret
inductive Ex where
  | normal
  | exit (id : Nat)
  | ret
def mkX (vv : Nat → Bool) (s : Nat) : X := if vv s then .t s else .u s
def trOper (vv : Nat → Bool) (P : Program) (n : Nat) (ops : Array Oper) (o : Oper) : Option LOper :=
  if (o.dst.getD 0) < n then
    match trOp vv P o.op with
    | some lo => match o.guard with
      | none => some ⟨o.dst, vv (o.dst.getD 0), none, lo⟩
      | some (j, want) => match (ops[j]?).bind (·.dst) with
        | some s => if s < n then some ⟨o.dst, vv (o.dst.getD 0), some (mkX vv s, want), lo⟩ else none
        | none => none
    | none => none
  else none
def trOpers (vv : Nat → Bool) (P : Program) (n : Nat) (ops : Array Oper) : List Oper → Option (List LOper)
  | [] => some []
  | o :: r => match trOper vv P n ops o, trOpers vv P n ops r with
    | some x, some xs => some (x :: xs)
    | _, _ => none
def looks (ops : Array Oper) (o : Oper) : List Nat := o.looksAt ops
def backOK (ops : Array Oper) : Bool := ops.toList.zipIdx.all fun p => p.1.after.all fun e => !Region.binds .any e || e.on < p.2
def orderOK (ops : Array Oper) (b : Array Nat) : Bool :=
  ops.toList.zipIdx.all fun p => ops.toList.zipIdx.all fun r =>
    p.2 == r.2 || (match r.1.dst with
      | some d => if p.1.dst == some d || (looks ops p.1).contains d then (if r.2 < p.2 then (b.getD p.2 0).testBit r.2 else (b.getD r.2 0).testBit p.2) else true
      | none => true)
def topoL (md : Region.Mode) (ops : Array Oper) : List Nat → List Nat → Bool
  | _, [] => true
  | seen, i :: r => ((ops[i]?).map fun o => o.after.all fun e => !Region.binds md e || seen.contains e.on).getD false && topoL md ops (i :: seen) r
def topoOK (md : Region.Mode) (ops : Array Oper) : Bool :=
  let l := Region.linearise md ops 0
  topoL md ops [] l && (List.range ops.size).all l.contains
def drawOK (P : Program) (ops : Array Oper) : Bool :=
  backOK ops && orderOK ops (Region.before ops) && (if P.follows .mixedOrders || !Region.departs ops then topoOK .any ops else topoOK .text ops && topoOK .gc ops)
def isQuiet : LOp → Bool
  | .box _ | .zero _ | .mkS .. | .mkN .. | .cvS _ | .s2b _ | .make .. | .store .. | .app .. | .appF .. | .appZ .. | .copy .. | .clear .. | .isNil .. | .call .. | .callV .. | .mkMap | .look .. | .upd .. => false
  | _ => true
def isEff (o : LOp) : Bool := !isQuiet o && (match o with | .mkS .. | .mkN .. | .cvS _ | .s2b _ => false | _ => true)
def memFree : LOp → Bool
  | .load .. | .b2s _ => false
  | _ => true
def isNew (o : LOper) : Bool := match o with
  | ⟨some _, _, none, .zero _⟩ => true
  | _ => false
def canonL (ops : Array Oper) (eff new : Nat → Bool) : Nat → List Nat → List Nat
  | 0, acc => acc.reverse
  | fuel + 1, acc =>
    let rs := (List.range ops.size).filter fun i => !acc.contains i && ((ops[i]?).map (·.after.all fun e => !Region.binds .any e || acc.contains e.on)).getD false
    match rs.find? (fun i => !eff i), rs.find? (fun i => !new i), rs.head? with
    | some i, _, _ => canonL ops eff new fuel (i :: acc)
    | none, some i, _ => canonL ops eff new fuel (i :: acc)
    | none, none, some i => canonL ops eff new fuel (i :: acc)
    | none, none, none => acc.reverse
def mkItems (ops : Array Oper) (ls : Array LOper) (b : Array Nat) : List Nat → List Nat → Option (List DIt)
  | _, [] => some []
  | kept, i :: r => match ops[i]?, ls[i]? with
    | some o, some lo =>
      let keep := !isEff lo.op && !memFree lo.op
      let pend := if isEff lo.op then kept.filter fun j => !(b.getD i 0).testBit j else []
      match mkItems ops ls b (if keep then i :: kept else if isEff lo.op then pend else kept) r with
      | some l => some (⟨i, looks ops o, keep, pend, lo⟩ :: l)
      | none => none
    | _, _ => none
def DIt.new (x : DIt) : Bool := isNew x.o && x.ss.isEmpty
def okKeep (b : Array Nat) (x : DIt) : List DIt → Bool
  | [] => true
  | y :: r => if isEff y.o.op then (b.getD y.i 0).testBit x.i || (y.pend.contains x.i && okKeep b x r) else okKeep b x r
def canonOK (b : Array Nat) : List DIt → Bool
  | [] => true
  | x :: r => (r.all fun y => !(b.getD x.i 0).testBit y.i && x.i != y.i && (!isEff x.o.op || (b.getD y.i 0).testBit x.i || y.new) && (!x.new || !y.new || x.o.dst != y.o.dst)) && (!x.keep || okKeep b x r) && (isEff x.o.op || x.keep || memFree x.o.op) && canonOK b r
def trCode (vv : Nat → Bool) (P : Program) (n : Nat) : Code → Option LCode
  | .skip => some .skip
  | .region _ ops false => (trOpers vv P n ops ops.toList).map .region
  | .region _ ops true => if drawOK P ops then match trOpers vv P n ops ops.toList with
      | some l => match mkItems ops l.toArray (Region.before ops) [] (canonL ops (fun i => ((l[i]?).map fun o => isEff o.op).getD true) (fun i => ((l[i]?).map isNew).getD false) ops.size []) with
        | some its => if ((List.range ops.size).all fun i => its.any fun x => x.i == i) && canonOK (Region.before ops) its then some (.regionD its) else none
        | none => none
      | none => none
    else none
  | .seq a b => match trCode vv P n a, trCode vv P n b with
    | some a, some b => some (.seq a b)
    | _, _ => none
  | .cond c a b => match trX vv c, trCode vv P n a, trCode vv P n b with
    | some c, some a, some b => some (.cond c a b)
    | _, _, _ => none
  | .block id c => (trCode vv P n c).map (.block id)
  | .loop c => (trCode vv P n c).map .loop
  | .exit id => some (.exit id)
  | .ret => some .ret
  | .label _ => some .skip
  | _ => none
def putE (env : Env) (var : Bool) (d : Option Nat) (v : LV) : Env :=
  match d, var with
  | some d, true => (d, v) :: env
  | _, _ => env
def putT (tmp : Env) (var : Bool) (d : Option Nat) (v : LV) : Env :=
  match d, var with
  | some d, false => (d, v) :: tmp
  | _, _ => tmp
def gBool (x : LV) (want : Bool) : Prop × Bool :=
  match x with
  | .bool b => (True, if want then b else !b)
  | .opt g (.bool b) => (True, g && (if want then b else !b))
  | .opt false _ => (True, false)
  | _ => (False, false)
def callG (P : Program) (gl : Glob) (g : Bool) (f : Nat) (args : List LV) (H : Heap) (K : LV → Heap → Prop) : Prop :=
  (∃ r, (g = true → Pure P gl f args r) ∧ K (.opt g r) H) ∨ ((g = true → LCalls P gl f args H K) ∧ (g = false → K .any H))
def quietG (x : LV) (want : Bool) (p : Prop × LV) : Prop × LV :=
  ((gBool x want).1 ∧ ((gBool x want).2 = true → p.1), .opt (gBool x want).2 p.2)
def stepG (P : Program) (gl : Glob) (o : LOper) (ρ : X → LV) (H : Heap) (K : LV → Heap → Prop) : Prop :=
  match o.guard with
  | none => step P gl (o.dst.getD 0) o.op ρ H K
  | some (s, want) =>
    match o.op with
    | .call f args => Bd ((gBool (ρ s) want).1 ∧ ((gBool (ρ s) want).2 = true → ∀ x ∈ args, (ρ x).g), (gBool (ρ s) want).2, args.map fun x => (ρ x).v) fun r => callG P gl r.1 f r.2 H K
    | op => if isQuiet op then Bd (quietG (ρ s) want (q op ρ H)) fun v => K v H
      else Bd (gBool (ρ s) want) fun g => (g = true → step P gl (o.dst.getD 0) op ρ H K) ∧ (g = false → K (.opt false .any) H)
def EntsT (gl : Glob) (env tmp : Env) (H : Heap) (env' tmp' : Env) (H' : Heap) : Prop :=
  ∀ (vv : Nat → Bool) (n : Nat) (w0 : World) (M : Imm) (HF : Heap) (w : World) (a : Act), Inv gl w0 M (H ++ HF) w → Fr vv n env tmp M a → ∃ M', MLe M M' ∧ Fr vv n env' tmp' M' a ∧ Inv gl w0 M' (H' ++ HF) w
theorem EntsT.refl (gl : Glob) (env tmp : Env) (H : Heap) : EntsT gl env tmp H env tmp H := fun _ _ _ M _ _ _ hI hF => ⟨M, MLe.refl M, hF, hI⟩
def Vw (gl : Glob) (F : Env → Env → Heap → Prop) (env tmp : Env) (H : Heap) : Prop := ∃ env' tmp' H', EntsT gl env tmp H env' tmp' H' ∧ F env' tmp' H'
def isCall : LOp → Bool
  | .call .. | .callV .. => true
  | _ => false
def VwIf (c : Bool) (gl : Glob) (F : Env → Env → Heap → Prop) : Env → Env → Heap → Prop := if c then Vw gl F else F
def execL (P : Program) (gl : Glob) : List LOper → (Env → Heap → Prop) → Env → Env → Heap → Prop
  | [], K, env, _, H => K env H
  | o :: r, K, env, tmp, H => stepG P gl o (ev gl env tmp) H fun v H' => VwIf (isCall o.op) gl (execL P gl r K) (putE env o.var o.dst v) (putT tmp o.var o.dst v) H'
def Branch (c : Prop × Bool) (a b : Prop) : Prop := c.1 ∧ (c.2 = true → a) ∧ (c.2 = false → b)
def condQ (x : LV) : Prop × Bool :=
  match x.v with
  | .bool b => (x.g, b)
  | _ => (False, false)
def Ents (gl : Glob) (env : Env) (H : Heap) (env' : Env) (H' : Heap) : Prop :=
  ∀ (vv : Nat → Bool) (n : Nat) (w0 : World) (M : Imm) (HF : Heap) (w : World) (a : Act), Inv gl w0 M (H ++ HF) w → Fr vv n env [] M a → ∃ M', MLe M M' ∧ Fr vv n env' [] M' a ∧ Inv gl w0 M' (H' ++ HF) w
def loopQ (gl : Glob) {ι : Type} (I : ι → Env) (J : ι → Heap) (μ : ι → Nat) (i : ι) (Q : Ex → Env → Heap → Prop) : Ex → Env → Heap → Prop
  | .normal, env, H => ∃ i', μ i' < μ i ∧ Ents gl env H (I i') (J i')
  | e, env, H => Q e env H
def LoopL (gl : Glob) (body : (Ex → Env → Heap → Prop) → Env → Heap → Prop) (Q : Ex → Env → Heap → Prop) (env : Env) (H : Heap) : Prop :=
  ∃ (ι : Type) (I : ι → Env) (J : ι → Heap) (μ : ι → Nat) (i0 : ι), Ents gl env H (I i0) (J i0) ∧ ∀ i, body (loopQ gl I J μ i Q) (I i) (J i)
def seqQ (K : Env → Heap → Prop) (Q : Ex → Env → Heap → Prop) : Ex → Env → Heap → Prop
  | .normal, env, H => K env H
  | e, env, H => Q e env H
def blockQ (id : Nat) (Q : Ex → Env → Heap → Prop) : Ex → Env → Heap → Prop
  | .exit id', env, H => if id' = id then Q .normal env H else Q (.exit id') env H
  | e, env, H => Q e env H
def restr (ss : List Nat) (env : Env) : Env := ss.map fun s => (s, get env s)
def mkSQ (ρ : X → LV) (sz n : Nat) (z : List LV) (parts : List (Nat × Nat × X)) : Prop × LV :=
  (gParts ρ parts ∧ z.length = sz ∧ (fillQ (zeros z (n * sz)) (vParts ρ parts)).1, .fsl sz n (fillQ (zeros z (n * sz)) (vParts ρ parts)).2)
def stepD (o : LOper) (ρ : X → LV) (H : Heap) (K : LV → Prop) : Prop :=
  match o.guard with
  | none => match o.op with
    | .mkS sz n z parts => Bd (gParts ρ parts ∧ z.length = sz ∧ (fillQ (zeros z (n * sz)) (vParts ρ parts)).1, (fillQ (zeros z (n * sz)) (vParts ρ parts)).2) fun cs => K (.fsl sz n cs)
    | .mkN sz n z parts => Bd (gParts ρ parts ∧ z.length = sz ∧ (fillQ (zeros z (n * sz)) (vParts ρ parts)).1, (fillQ (zeros z (n * sz)) (vParts ρ parts)).2) fun cs => K (.nsl sz n cs)
    | .cvS x => Bd ((ρ x).g ∧ (cvQ (ρ x).v).1, (cvQ (ρ x).v).2) fun v => K v
    | .s2b x => Bd ((ρ x).g ∧ (strQ (ρ x).v).1, (strQ (ρ x).v).2) fun s => K (.sl 1 s.length (s.map fun u => .int .u8 u.toNat))
    | op => Bd (q op ρ H) fun v => K v
  | some (s, want) => match o.op with
    | .mkS sz n z parts => Bd (quietG (ρ s) want (mkSQ ρ sz n z parts)) fun v => K v
    | op => if isQuiet op then Bd (quietG (ρ s) want (q op ρ H)) fun v => K v else False
structure Lg where
  i : Nat
  o : LOper
  env : Env
  tmp : Env
  v : LV
def recheck (gl : Glob) (H : Heap) : List Lg → Prop
  | [] => True
  | g :: r => stepD g.o (ev gl g.env g.tmp) H (fun v => v = g.v) ∧ recheck gl H r
def keepL (pend : List Nat) : List Lg → List Lg
  | [] => []
  | g :: r => if pend.contains g.i then g :: keepL pend r else keepL pend r
def execE (P : Program) (gl : Glob) : List DIt → (Env → Heap → Prop) → List Lg → Env → Env → Heap → Prop
  | [], K, _, env, _, H => K env H
  | x :: r, K, lg, env, tmp, H =>
    if isEff x.o.op then stepG P gl x.o (ev gl (restr x.ss env) (restr x.ss tmp)) H fun v H' =>
      recheck gl H' (keepL x.pend lg) ∧ execE P gl r K (keepL x.pend lg) (putE env x.o.var x.o.dst v) (putT tmp x.o.var x.o.dst v) H'
    else stepD x.o (ev gl (restr x.ss env) (restr x.ss tmp)) H fun v =>
      execE P gl r K (if x.keep then ⟨x.i, x.o, restr x.ss env, restr x.ss tmp, v⟩ :: lg else lg) (putE env x.o.var x.o.dst v) (putT tmp x.o.var x.o.dst v) H
def wpL (P : Program) (gl : Glob) : LCode → (Ex → Env → Heap → Prop) → Env → Heap → Prop
  | .skip, Q, env, H => Q .normal env H
  | .region ops, Q, env, H => execL P gl ops (Q .normal) env [] H
  | .regionD ops, Q, env, H => execE P gl ops (Q .normal) [] env [] H
  | .seq a b, Q, env, H => wpL P gl a (seqQ (wpL P gl b Q) Q) env H
  | .cond c a b, Q, env, H => Branch (condQ (ev gl env [] c)) (wpL P gl a Q env H) (wpL P gl b Q env H)
  | .block id c, Q, env, H => wpL P gl c (blockQ id Q) env H
  | .loop c, Q, env, H => LoopL gl (wpL P gl c) Q env H
  | .exit id, Q, env, H => Q (.exit id) env H
  | .ret, Q, env, H => Q .ret env H
section
variable {vv : Nat → Bool} {P : Program} {gl : Glob} {n : Nat}
def toEx : Exit → Option Ex
  | .normal => some .normal
  | .exit id => some (.exit id)
  | .ret => some .ret
  | _ => none
def RQ (vv : Nat → Bool) (gl : Glob) (n : Nat) (w0 : World) (M : Imm) (HF : Heap) (Q : Ex → Env → Heap → Prop) (e : Exit) (a : Act) (w : World) : Prop :=
  ∃ ex M' env H, toEx e = some ex ∧ MLe M M' ∧ Fr vv n env [] M' a ∧ Inv gl w0 M' (H ++ HF) w ∧ Q ex env H
def WP (vv : Nat → Bool) (P : Program) (gl : Glob) (n : Nat) (c : Code) (Q : Ex → Env → Heap → Prop) (env : Env) (H : Heap) : Prop :=
  ∀ (w0 : World) (M : Imm) (HF : Heap) (w : World) (a : Act), Inv gl w0 M (H ++ HF) w → Fr vv n env [] M a → c.wp P (RQ vv gl n w0 M HF Q) a w
theorem RQ.mono {w0 : World} {M M' : Imm} {HF : Heap} {Q : Ex → Env → Heap → Prop} {e : Exit} {a : Act} {w : World} (hM : MLe M M') (h : RQ vv gl n w0 M' HF Q e a w) : RQ vv gl n w0 M HF Q e a w := by
  obtain ⟨ex, M2, env, H, h1, h2, h3⟩ := h
  exact ⟨ex, M2, env, H, h1, hM.trans h2, h3⟩
theorem Fr.dropT {env tmp : Env} {M : Imm} {a : Act} (h : Fr vv n env tmp M a) : Fr vv n env [] M a :=
  ⟨h.size, h.defers, h.vars, fun _ _ => by simp [get, RV]⟩
theorem put_getD {a : Act} {d t : Nat} {v : Value} (h : d < a.tmps.size) : (a.put (some d) v).tmps.getD t undef = if t = d then v else a.tmps.getD t undef := by
  simp only [Act.put, Array.getD_eq_getD_getElem?]
  by_cases e : t = d
  · subst e; simp [h]
  · rw [Array.getElem?_setIfInBounds_ne (fun h => e h.symm), if_neg e]
theorem Fr.put {env tmp : Env} {M : Imm} {a : Act} (h : Fr vv n env tmp M a) {d : Option Nat} (hd : d.getD 0 < n) {v : Value} {x : LV} (hv : RV M x v) : Fr vv n (putE env (vv (d.getD 0)) d x) (putT tmp (vv (d.getD 0)) d x) M (a.put d v) := by
  cases d with
  | none => exact h
  | some d =>
    simp only [Option.getD_some] at hd ⊢
    have hlt : d < a.tmps.size := by rw [h.size]; exact hd
    refine ⟨by simp [Act.put, h.size], by simp [Act.put, h.defers], fun t ht => ?_, fun t ht => ?_⟩
    · rw [put_getD hlt]
      cases hvd : vv d with
      | true =>
        simp only [putE, get]
        by_cases e : t = d
        · subst e; simpa using hv
        · rw [if_neg (fun h => e h.symm), if_neg e]; exact h.vars t ht
      | false =>
        simp only [putE]
        rw [if_neg (fun e => by rw [e, hvd] at ht; cases ht)]
        exact h.vars t ht
    · rw [put_getD hlt]
      cases hvd : vv d with
      | true =>
        simp only [putT]
        rw [if_neg (fun e => by rw [e, hvd] at ht; cases ht)]
        exact h.tmps t ht
      | false =>
        simp only [putT, get]
        by_cases e : t = d
        · subst e; simpa using hv
        · rw [if_neg (fun h => e h.symm), if_neg e]; exact h.tmps t ht
theorem ev_mkX {env tmp : Env} {M : Imm} {a : Act} (h : Fr vv n env tmp M a) (s : Nat) : RV M (ev gl env tmp (mkX vv s)) (a.tmps.getD s undef) := by
  unfold mkX
  cases hv : vv s with
  | true => simpa [ev] using h.vars s hv
  | false => simpa [ev] using h.tmps s hv
theorem wanted_of {ops : Array Oper} {o : Oper} {a : Act} {M : Imm} {j s : Nat} {want : Bool} (hg : o.guard = some (j, want)) (hs : (ops[j]?).bind (·.dst) = some s) (hlt : s < a.tmps.size) {x : LV} (hx : RV M x (a.tmps.getD s undef)) (h2 : (gBool x want).1) :
    Region.wanted o (yielded ops a.tmps) = (gBool x want).2 := by
  have get : a.tmps[s]? = some (a.tmps.getD s undef) := by
    rw [Array.getElem?_eq_getElem hlt]
    simp [Array.getD_eq_getD_getElem?, hlt]
  have yes : ∀ b, a.tmps.getD s undef = .bool b → Region.wanted o (yielded ops a.tmps) = if want then b else !b := by
    intro b hb
    simp only [Region.wanted, hg, yielded, hs, Option.bind_some, get, hb]
    cases want <;> cases b <;> rfl
  unfold gBool at h2 ⊢
  split at h2
  · simp only [RV] at hx
    exact yes _ hx
  · rename_i g b
    simp only [RV] at hx
    cases g with
    | true => rw [yes b (hx.1 rfl)]; simp
    | false =>
      have hu := hx.2 rfl
      rw [hu] at get
      simp only [Region.wanted, hg, yielded, hs, Option.bind_some, get, undef]
      cases want <;> rfl
  · simp only [RV] at hx
    have hu := hx.2 trivial
    rw [hu] at get
    simp only [Region.wanted, hg, yielded, hs, Option.bind_some, get, undef]
    cases want <;> rfl
  · exact h2.elim
def Came (P : Program) (gl : Glob) (w0 : World) (M : Imm) (HF : Heap) (ops : Array Oper) (o : Oper) (a : Act) (w : World) (K : LV → Heap → Prop) : Prop :=
  ∀ (N : Act → World → Prop) (Q : Exit → Act → World → Prop), (∀ M' v r H' w', MLe M M' → RV M' r v → Inv gl w0 M' (H' ++ HF) w' → K r H' → N (a.put o.dst v) w') →
    if Region.wanted o (yielded ops a.tmps) then o.wp P a w N Q ∨ (o.asks P a w ∧ LetsOut Q) else N (a.put o.dst undef) w
theorem Came.impH {w0 : World} {M : Imm} {HF : Heap} {ops : Array Oper} {o : Oper} {a : Act} {w : World} {K K' : LV → Heap → Prop} (h : Came P gl w0 M HF ops o a w K) (hk : ∀ M' v r H' w', RV M' r v → Inv gl w0 M' (H' ++ HF) w' → K r H' → ∃ r' H'', RV M' r' v ∧ Inv gl w0 M' (H'' ++ HF) w' ∧ K' r' H'') : Came P gl w0 M HF ops o a w K' := by
  intro N Q hN
  refine h N Q fun M' v r H' w' hM hv hI hK => ?_
  obtain ⟨r', H'', h1, h2, h3⟩ := hk M' v r H' w' hv hI hK
  exact hN M' v r' H'' w' hM h1 h2 h3
theorem Came.of_after {w0 : World} {M : Imm} {HF : Heap} {ops : Array Oper} {o : Oper} {a : Act} {w : World} {K : LV → Heap → Prop} (hw : Region.wanted o (yielded ops a.tmps) = true) (h : After P gl w0 M HF o a w K) : Came P gl w0 M HF ops o a w K := by
  intro N Q hN
  rw [if_pos hw]
  exact .inl (h N Q hN)
theorem After.imp {w0 : World} {M : Imm} {HF : Heap} {o : Oper} {a : Act} {w : World} {K K' : LV → Heap → Prop} (h : After P gl w0 M HF o a w K) (hk : ∀ M' v r H', RV M' r v → K r H' → ∃ r', RV M' r' v ∧ K' r' H') : After P gl w0 M HF o a w K' := by
  intro N Q hN
  refine h N Q fun M' v r H' w' h1 h2 h3 h4 => ?_
  obtain ⟨r', h5, h6⟩ := hk M' v r H' h2 h4
  exact hN M' v r' H' w' h1 h5 h3 h6
theorem After.impH {w0 : World} {M : Imm} {HF : Heap} {o : Oper} {a : Act} {w : World} {K K' : LV → Heap → Prop} (h : After P gl w0 M HF o a w K) (hk : ∀ M' v r H' w', RV M' r v → Inv gl w0 M' (H' ++ HF) w' → K r H' → ∃ r' H'', RV M' r' v ∧ Inv gl w0 M' (H'' ++ HF) w' ∧ K' r' H'') : After P gl w0 M HF o a w K' := by
  intro N Q hN
  refine h N Q fun M' v r H' w' h1 h2 h3 h4 => ?_
  obtain ⟨r', H'', h5, h6, h7⟩ := hk M' v r H' w' h2 h3 h4
  exact hN M' v r' H'' w' h1 h5 h6 h7
theorem stepG_sound {w0 : World} {M : Imm} {HF H : Heap} {ops : Array Oper} {o : Oper} {lo : LOper} {env tmp : Env} {a : Act} {w : World} (hI : Inv gl w0 M (H ++ HF) w) (hF : Fr vv n env tmp M a) (ht : trOper vv P n ops o = some lo) {K : LV → Heap → Prop} (ho : stepG P gl lo (ev gl env tmp) H K) :
    lo.dst = o.dst ∧ o.dst.getD 0 < n ∧ lo.var = vv (o.dst.getD 0) ∧ Came P gl w0 M HF ops o a w K := by
  unfold trOper at ht
  split at ht
  · rename_i hd
    split at ht
    · rename_i lop hop
      split at ht
      · rename_i hg
        cases ht
        refine ⟨rfl, hd, rfl, Came.of_after (by simp [Region.wanted, hg]) ?_⟩
        exact step_sound hI hF hop ho
      · rename_i j want hg
        split at ht
        · rename_i s hs
          split at ht
          · rename_i hsn
            cases ht
            refine ⟨rfl, hd, rfl, ?_⟩
            have hx := ev_mkX (gl := gl) hF s
            have hlt : s < a.tmps.size := by rw [hF.size]; exact hsn
            have gen : (gBool (ev gl env tmp (mkX vv s)) want).1 →
                ((gBool (ev gl env tmp (mkX vv s)) want).2 = true → After P gl w0 M HF o a w K) → ((gBool (ev gl env tmp (mkX vv s)) want).2 = false → ∃ r, RV M r undef ∧ K r H) → Came P gl w0 M HF ops o a w K := by
              intro g2 g3 g4 N Q hN
              rw [wanted_of hg hs hlt hx g2]
              cases hb : (gBool (ev gl env tmp (mkX vv s)) want).2 with
              | true => simp only [if_true]; exact .inl (g3 hb N Q hN)
              | false =>
                simp only [Bool.false_eq_true, if_false]
                obtain ⟨r, h1, h2⟩ := g4 hb
                exact hN M undef r H w (MLe.refl M) h1 hI h2
            unfold stepG at ho
            dsimp only at ho
            split at ho
            · rename_i f args
              obtain ⟨⟨g2, g3⟩, ho⟩ := ho
              have hst : ∀ K', ((gBool (ev gl env tmp (mkX vv s)) want).2 = true) → LCalls P gl f (args.map fun x => (ev gl env tmp x).v) H K' → After P gl w0 M HF o a w K' := by
                intro K' hb hL
                exact step_sound (id := 0) hI hF hop (by exact ⟨g3 hb, hL⟩)
              rcases ho with ⟨r, h1, h2⟩ | ⟨h1, h2⟩
              · refine gen g2 (fun hb => (hst _ hb (LCalls.pure (K := fun r' H' => r' = r ∧ H' = H) (h1 hb) ⟨rfl, rfl⟩)).imp ?_) (fun hb => ⟨_, ?_, h2⟩)
                · rintro M' v r' H' hv ⟨rfl, rfl⟩
                  exact ⟨_, by simp only [RV]; exact ⟨fun _ => hv, fun h => by rw [hb] at h; cases h⟩, h2⟩
                · rw [hb]; simp [RV]
              · exact gen g2 (fun hb => hst _ hb (h1 hb)) (fun hb => ⟨.any, by simp [RV], h2 hb⟩)
            · rename_i hnc
              split at ho
              · rename_i hq
                obtain ⟨⟨g2, g3⟩, g4⟩ := ho
                refine gen g2 (fun hb => ?_) (fun hb => ⟨_, ?_, g4⟩)
                · obtain ⟨v, r1, r2⟩ := q_sound hI hF hop (g3 hb)
                  exact After.value r1 (MLe.refl M) (by simp only [quietG, RV]; exact ⟨fun _ => r2, fun h => by rw [hb] at h; cases h⟩) hI g4
                · simp only [quietG, hb]; simp [RV]
              · obtain ⟨g2, g3, g4⟩ := ho
                exact gen g2 (fun hb => step_sound hI hF hop (g3 hb)) (fun hb => ⟨.opt false .any, by simp [RV], g4 hb⟩)
          · cases ht
        · cases ht
    · cases ht
  · cases ht
theorem wpList_mono {ops : Array Oper} {Q Q' : Exit → Act → World → Prop} (hQ : ∀ e a w, Q e a w → Q' e a w) : ∀ (l : List Oper) (a : Act) (w : World), wpList P ops Q l a w → wpList P ops Q' l a w := by
  intro l
  induction l with
  | nil => intro a w h; exact hQ _ _ _ h
  | cons o l ih =>
    intro a w h
    unfold wpList at h ⊢
    split at h
    · rename_i hw
      rw [if_pos hw]
      rcases h with h | ⟨h3, a0, w1, hl⟩
      · refine .inl ?_
        unfold Oper.wp at *
        generalize (execOp a.eval o).run P w = res at *
        cases res with
        | ok nx w' =>
          cases nx <;> simp only [Oper.upon] at h ⊢ <;> first
            | exact ih _ _ h
            | exact Calls.mono h (fun e w'' he => by
                cases e with
                | returned v => exact ih _ _ he
                | panicked c => exact hQ _ _ _ he
                | outgrown => obtain ⟨a1, w2, h5⟩ := he; exact ⟨a1, w2, hQ _ _ _ h5⟩)
            | exact Rows.mono h (fun _ _ he => ih _ _ he)
        | halt x w' => cases x <;> simp only [Oper.upon] at h ⊢ <;> first | exact h | exact hQ _ _ _ h
      · exact .inr ⟨h3, a0, w1, hQ _ _ _ hl⟩
    · rename_i hw
      rw [if_neg hw]
      exact ih _ _ h
theorem execL_sound {ops : Array Oper} {Q : Ex → Env → Heap → Prop} {w0 : World} {HF : Heap} : ∀ (l : List Oper) (ll : List LOper) (M : Imm) (env tmp : Env) (H : Heap) (a : Act) (w : World), trOpers vv P n ops l = some ll → Inv gl w0 M (H ++ HF) w → Fr vv n env tmp M a →
    execL P gl ll (Q .normal) env tmp H → wpList P ops (RQ vv gl n w0 M HF Q) l a w
  | [], ll, M, env, tmp, H, a, w, ht, hI, hF, ho => by
    simp only [trOpers, Option.some.injEq] at ht
    subst ht
    exact ⟨.normal, M, env, H, rfl, MLe.refl M, hF.dropT, hI, ho⟩
  | o :: r, ll, M, env, tmp, H, a, w, ht, hI, hF, ho => by
    simp only [trOpers] at ht
    split at ht
    · rename_i lo lr h1 h2
      cases ht
      simp only [execL] at ho
      obtain ⟨e1, e2, e3, hc⟩ := stepG_sound hI hF h1 ho
      have := hc (wpList P ops (RQ vv gl n w0 M HF Q) r) (RQ vv gl n w0 M HF Q) (fun M' v rv H' w' hM hv hI' hk => by
        have hF' := (hF.mono hM).put e2 hv
        rw [e1, e3] at hk
        have hw : wpList P ops (RQ vv gl n w0 M' HF Q) r (a.put o.dst v) w' := by
          unfold VwIf at hk
          split at hk
          · obtain ⟨env2, tmp2, H2, hE, hk⟩ := hk
            obtain ⟨M2, hM2, hF2, hI2⟩ := hE vv n w0 M' HF w' _ hI' hF'
            exact wpList_mono (fun _ _ _ h => RQ.mono hM2 h) r _ _ (execL_sound r lr M2 env2 tmp2 H2 _ w' h2 hI2 hF2 hk)
          · exact execL_sound r lr M' _ _ H' _ w' h2 hI' hF' hk
        exact wpList_mono (fun _ _ _ h => RQ.mono hM h) r _ _ hw)
      unfold wpList
      exact this
    · cases ht
end
end Go.Lx
