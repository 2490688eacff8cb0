/- The logical operations, their translation from the model's operations, and what the quiet ones compute. -/
import Derived.Test.YtfheeghkajihoaaDoorLxB
import Derived.Laws.Strings
import Derived.Laws.Entries
import Derived.ChangeKeysEq
import Derived.Laws.StructEq
import Derived.Laws.Tables
namespace Go.Lx
set_option linter.unusedSimpArgs false
set_option linter.unusedVariables false
open RowKit

inductive X where
  | t (s : Nat)
  | u (s : Nat)
  | c (v : LV)
  | g (g : Nat)
  deriving Inhabited

inductive LOp where
  | mov (x : X)
  | pick (c a b : X)
  | build (zero : List LV) (parts : List (Nat × Nat × X))
  | load (agg : Bool) (sz : Nat) (x : X)
  | nilc (x : X)
  | bin (op : BinOp) (x y : X)
  | eqB (neg : Bool) (x y : X)
  | eqN (neg : Bool) (x y : X)
  | eqS (neg : Bool) (sz : Nat) (leaves : List (Nat × Nat)) (x y : X)
  | un (op : UnOp) (x : X)
  | conv (k : IntKind) (x : X)
  | same (x : X)
  | b2s (x : X)
  | slS (x : X) (lo hi : Option X)
  | slL (sz : Nat) (x : X) (lo hi mx : Option X)
  | slA (n sz : Nat) (x : X) (lo hi mx : Option X)
  | faddr (off : Nat) (x : X)
  | fld (agg : Bool) (sz off : Nat) (x : X)
  | iaA (n sz : Nat) (x i : X)
  | iaS (sz : Nat) (x i : X)
  | ixA (agg : Bool) (n sz : Nat) (x i : X)
  | ixS (x i : X)
  | ext (x : X) (i : Nat)
  | len (x : X)
  | lenL (x : X)
  | lenA (n : Nat)
  | cap (x : X)
  | mkf (f : Nat) (caps : List X)
  | mm (mx : Bool) (x : X) (xs : List X)
  | box (x : X)
  | zero (cs : List LV)
  | mkS (sz len : Nat) (zero : List LV) (parts : List (Nat × Nat × X))
  | mkN (sz len : Nat) (zero : List LV) (parts : List (Nat × Nat × X))
  | cvS (x : X)
  | s2b (x : X)
  | make (sz bytes : Nat) (zero : List LV) (len cap : X)
  | store (sz : Nat) (a x : X)
  | app (sz bytes : Nat) (x y : X)
  | appF (sz bytes : Nat) (x y : X)
  | appZ (sz bytes : Nat) (zero : List LV) (x y : X)
  | copy (sz : Nat) (x y : X)
  | clear (sz : Nat) (zero : List LV) (x : X)
  | isNil (neg : Bool) (x : X)
  | call (f : Nat) (args : List X)
  | callV (x : X) (args : List X)
  | mkMap
  | look (ok : Bool) (kt : Nat) (z : LV) (x i : X)
  | upd (kt : Nat) (x i v : X)
  deriving Inhabited

/-! ### Translation -/
def ofVals (f : Value → Option LV) : List Value → Option (List LV)
  | [] => some []
  | v :: r => match f v, ofVals f r with
    | some x, some xs => some (x :: xs)
    | _, _ => none

def ofVal1 : Value → Option LV
  | .bool b => some (.bool b)
  | .int k n => some (.int k n)
  | .string s => some (.str s.data.toList)
  | .pointer none => some .nil
  | .slice none 0 0 => some (.fsl 1 0 [])
  | .nilFunc => some (.raw .nilFunc)
  | .nilIface => some (.raw .nilIface)
  | .map none => some (.raw (.map none))
  | _ => none

def ofVal : Value → Option LV
  | .agg cs => (ofVals ofVal1 cs.toList).map .agg
  | .tuple vs => (ofVals ofVal1 vs.toList).map .tup
  | v => ofVal1 v

theorem ofVal1_sound {M : Imm} {v : Value} {x : LV} (h : ofVal1 v = some x) : RV M x v := by
  cases v with
  | bool b => simp [ofVal1] at h; subst h; simp [RV]
  | int k n => simp [ofVal1] at h; subst h; simp [RV]
  | string s => simp [ofVal1] at h; subst h; simp [RV]
  | pointer a => cases a <;> simp [ofVal1] at h; subst h; simp [RV]
  | slice a l c =>
    unfold ofVal1 at h
    split at h <;> simp_all
    subst h; simp [RV]
  | nilFunc => simp [ofVal1] at h; subst h; simp [RV]
  | nilIface => simp [ofVal1] at h; subst h; simp [RV]
  | map r => cases r <;> simp [ofVal1] at h; subst h; simp [RV]
  | _ => simp [ofVal1] at h

theorem ofVal1_one {v : Value} {x : LV} (h : ofVal1 v = some x) : v.oneCell' = true := by
  cases v <;> first | rfl | (simp [ofVal1] at h)
theorem ofVals_one : ∀ {vs : List Value} {xs : List LV}, ofVals ofVal1 vs = some xs → ∀ u ∈ vs, u.oneCell' = true
  | [], xs, h => by simp
  | v :: r, xs, h => by
    simp only [ofVals] at h
    split at h
    · rename_i x ys h1 h2
      intro u hu
      rcases List.mem_cons.1 hu with rfl | hu
      · exact ofVal1_one h1
      · exact ofVals_one h2 u hu
    · cases h

theorem ofVals_sound {M : Imm} : ∀ {vs : List Value} {xs : List LV}, ofVals ofVal1 vs = some xs → RVs M xs vs
  | [], xs, h => by simp [ofVals] at h; subst h; simp [RVs]
  | v :: r, xs, h => by
    simp only [ofVals] at h
    split at h
    · rename_i x ys h1 h2
      cases h
      simp only [RVs]
      exact ⟨v, r, rfl, ofVal1_sound h1, ofVals_sound h2⟩
    · cases h

theorem ofVal_sound {M : Imm} {v : Value} {x : LV} (h : ofVal v = some x) : RV M x v := by
  unfold ofVal at h
  split at h
  · rename_i cs
    simp only [Option.map_eq_some_iff] at h
    obtain ⟨xs, h1, rfl⟩ := h
    simp only [RV]
    exact ⟨cs.toList, by simp, ofVals_sound h1, ofVals_one h1⟩
  · rename_i vs
    simp only [Option.map_eq_some_iff] at h
    obtain ⟨xs, h1, rfl⟩ := h
    simp only [RV]
    exact ⟨vs.toList, by simp, ofVals_sound h1⟩
  · exact ofVal1_sound h

def trX (vv : Nat → Bool) : Operand → Option X
  | .tmp t => some (if vv t then .t t else .u t)
  | .const v => (ofVal v).map .c
  | .global g => some (.g g)
  | .func f => some (.c (.fn f))

def trO (vv : Nat → Bool) : Option Operand → Option (Option X)
  | none => some none
  | some x => (trX vv x).map some

def trXs (vv : Nat → Bool) : List Operand → Option (List X)
  | [] => some []
  | x :: r => match trX vv x, trXs vv r with
    | some y, some ys => some (y :: ys)
    | _, _ => none

def aggOf (P : Program) (t : TypeId) : Option Bool :=
  match P.underlying t with
  | some (.struct _) | some (.array _ _) => some true
  | some _ => some false
  | none => none

def zeroOf (P : Program) (t : TypeId) : Option (List LV) :=
  match P.info? t with
  | some i => match i.zero with
    | some z => match ofVals ofVal1 z.cells.toList with
      | some zs => if z.cells.size = i.size then some zs else none
      | none => none
    | none => none
  | none => none

/-- the zero value of a type of one cell -/
def zero1 (P : Program) (t : TypeId) : Option LV :=
  match P.info? t with
  | some i => match i.zero with
    | some z => ofVal1 z
    | none => none
  | none => none
def sizeAt (P : Program) (t : TypeId) : Option Nat := (P.info? t).map (·.size)
def bytesAt (P : Program) (t : TypeId) : Option Nat := (P.info? t).map (·.bytes)

def trParts (vv : Nat → Bool) (place : Nat → Option (Nat × Nat)) : List (Nat × Operand) → Option (List (Nat × Nat × X))
  | [] => some []
  | (i, x) :: r => match place i, trX vv x, trParts vv place r with
    | some (o, s), some y, some ys => some ((o, s, y) :: ys)
    | _, _, _ => none

/-- The cells that '==' on a type compares, one after the other, with their kinds (0: bool, 1: int, 2: string). -/
def leavesF (P : Program) (f : TypeId → Option (List (Nat × Nat))) : List Field → Option (List (Nat × Nat))
  | [] => some []
  | x :: r => if x.name = "_" then none else match f x.type, sizeAt P x.type, aggOf P x.type, leavesF P f r with
    | some a, some s, some g, some b => if a.all (fun p => p.1 < s) && (g || s == 1) then some (a.map (fun p => (x.offset + p.1, p.2)) ++ b) else none
    | _, _, _, _ => none
def fitsIn (P : Program) (s : Nat) (fs : List Field) : Bool := fs.all fun f => match sizeAt P f.type with | some k => f.offset + k ≤ s | none => false
def leaves (P : Program) : Nat → TypeId → Option (List (Nat × Nat))
  | 0, _ => none
  | d + 1, t =>
    match P.underlying t with
    | some .bool => some [(0, 0)]
    | some (.int _) => some [(0, 1)]
    | some .string => some [(0, 2)]
    | some (.struct fs) => match sizeAt P t with
      | some s => if P.stoodInHeld t || !fitsIn P s fs.toList then none else leavesF P (leaves P d) fs.toList
      | none => none
    | _ => none

def nilLit : X → Bool
  | .c (.fsl _ 0 _) => true
  | _ => false

def trOp (vv : Nat → Bool) (P : Program) : Op → Option LOp
  | .move x | .assign x => (trX vv x).map .mov
  | .pick c a b => match trX vv c, trX vv a, trX vv b with
    | some c, some a, some b => some (.pick c a b)
    | _, _, _ => none
  | .build t parts => match P.underlying t, zeroOf P t with
    | some (.struct fs), some z => match fs.toList.mapM (fun f => (sizeAt P f.type).map fun s => (f.offset, s)) with
      | some pl => (trParts vv (pl[·]?) parts.toList).map (.build z)
      | none => none
    | some (.array _ e), some z => match sizeAt P e with
      | some s => (trParts vv (fun i => some (i * s, s)) parts.toList).map (.build z)
      | none => none
    | _, _ => none
  | .load t x => match aggOf P t, sizeAt P t, trX vv x with
    | some g, some s, some x => if g || s == 1 then some (.load g s x) else none
    | _, _, _ => none
  | .nilCheck x => (trX vv x).map .nilc
  | .binOp op t x y _ => match trX vv x, trX vv y with
    | some x, some y =>
      match op with
      | .eql | .neq => match P.underlying t with
        | some (.int _) | some .string => some (.bin op x y)
        | some .bool => some (.eqB (op == .neq) x y)
        | some (.pointer _) => some (.eqN (op == .neq) x y)
        | some (.slice _) => if nilLit y then some (.isNil (op == .neq) x) else none
        | some (.struct _) | some (.array _ _) =>
          if P.eqGuardType P.depth t then none
          else match leaves P 30 t, sizeAt P t with
            | some ls, some s => some (.eqS (op == .neq) s ls x y)
            | _, _ => none
        | _ => none
      | _ => some (.bin op x y)
    | _, _ => none
  | .unOp op _ x => (trX vv x).map (.un op)
  | .convert s d x => match P.underlying s, P.underlying d, trX vv x with
    | some _, some (.int k), some x => some (.conv k x)
    | some .string, some .string, some x => some (.same x)
    | some (.slice e), some .string, some x => match P.underlying e with
      | some (.int .u8) => some (.b2s x)
      | _ => none
    | some .string, some (.slice e), some x => match P.underlying e with
      | some (.int .u8) => some (.s2b x)
      | _ => none
    | some (.slice _), some (.slice e), some x => match P.underlying e with
      | some (.int .u8) => if s = d then some (.cvS x) else none
      | _ => none
    | _, _, _ => none
  | .slice t x lo hi mx => match P.underlying t, trX vv x, trO vv lo, trO vv hi, trO vv mx with
    | some .string, some x, some lo, some hi, some none => some (.slS x lo hi)
    | some (.slice e), some x, some lo, some hi, some mx => (sizeAt P e).map fun s => .slL s x lo hi mx
    | some (.array n e), some x, some lo, some hi, some mx => (sizeAt P e).map fun s => .slA n s x lo hi mx
    | _, _, _, _, _ => none
  | .fieldAddr t x f => match P.underlying t, trX vv x with
    | some (.struct fs), some x => match fs[f]? with
      | some f => match sizeAt P f.type with
        | some s => if s = 0 then none else some (.faddr f.offset x)
        | none => none
      | none => none
    | _, _ => none
  | .field t x f => match P.underlying t, trX vv x with
    | some (.struct fs), some x => match fs[f]? with
      | some f => match aggOf P f.type, sizeAt P f.type with
        | some g, some s => if g || s == 1 then some (.fld g s f.offset x) else none
        | _, _ => none
      | none => none
    | _, _ => none
  | .indexAddr t x i => match P.underlying t, trX vv x, trX vv i with
    | some (.slice e), some x, some i => (sizeAt P e).map fun s => .iaS s x i
    | some (.array n e), some x, some i => (sizeAt P e).map fun s => .iaA n s x i
    | _, _, _ => none
  | .index t x i => match P.underlying t, trX vv x, trX vv i with
    | some .string, some x, some i => some (.ixS x i)
    | some (.array n e), some x, some i => match aggOf P e, sizeAt P e with
      | some g, some s => if g || s == 1 then some (.ixA g n s x i) else none
      | _, _ => none
    | _, _, _ => none
  | .extract x i => (trX vv x).map fun x => .ext x i
  | .makeFunc (.func f) first captured => if first.isEmpty then (trXs vv captured.toList).map (.mkf f) else none
  | .box _ x => (trX vv x).map .box
  | .alloc t => (zeroOf P t).map .zero
  | .buildSlice t n parts => match P.underlying t with
    | some (.slice e) => match sizeAt P e, zeroOf P e with
      | some s, some z => if n * s > 2 ^ 24 then none else (trParts vv (fun i => some (i * s, s)) parts.toList).map (if vv 1000000 then .mkN s n z else .mkS s n z)
      | _, _ => none
    | _ => none
  | .makeSlice t l c => match P.underlying t, trX vv l, trX vv c with
    | some (.slice e), some l, some c => match sizeAt P e, bytesAt P e, zeroOf P e with
      | some s, some b, some z => some (.make s b z l c)
      | _, _, _ => none
    | _, _, _ => none
  | .store t a x => match sizeAt P t, trX vv a, trX vv x with
    | some s, some a, some x => some (.store s a x)
    | _, _, _ => none
  | .makeMap t r => match P.underlying t, r with
    | some (.map _ _), none => some .mkMap
    | some (.map _ _), some (.const (.int _ _)) => some .mkMap
    | _, _ => none
  | .lookup t x i ok => match P.underlying t, trX vv x, trX vv i with
    | some (.map k e), some x, some i => match zero1 P e with
      | some z => some (.look ok k z x i)
      | none => none
    | _, _, _ => none
  | .mapUpdate t x i v => match P.underlying t, trX vv x, trX vv i, trX vv v with
    | some (.map k _), some x, some i, some v => some (.upd k x i v)
    | _, _, _, _ => none
  | .call { callee := .value (.func f), args, argTypes := _ } => match P.funcs[f]? with
    | some fn => if fn.name = "runtime.NumGoroutine" then none else (trXs vv args.toList).map (.call f)
    | none => none
  | .call { callee := .value x, args, argTypes := _ } => match trX vv x, trXs vv args.toList with
    | some x, some as => some (.callV x as)
    | _, _ => none
  | .call { callee := .builtin b, args, argTypes } =>
    match b, args.toList, argTypes.toList with
    | .len, [x], [t] => match P.underlying t, trX vv x with
      | some .string, some x => some (.len x)
      | some (.slice _), some x => some (.lenL x)
      | some (.array n _), some _ => some (.lenA n)
      | _, _ => none
    | .cap, [x], [t] => match P.underlying t, trX vv x with
      | some (.slice _), some x => some (.cap x)
      | _, _ => none
    | .clear, [x], [t] => match P.underlying t, trX vv x with
      | some (.slice e), some x => match sizeAt P e, zeroOf P e with
        | some s, some z => if z.length = s then some (.clear s z x) else none
        | _, _ => none
      | _, _ => none
    | .append, [x, y], [t, u] => match P.underlying t, P.underlying u, trX vv x, trX vv y with
      | some (.slice e), some (.slice _), some x, some y => match sizeAt P e, bytesAt P e, zeroOf P e with
        | some s, some b, some _ => if b = 0 || s = 0 then none else some (if vv 1000001 && !vv (1100000 + b) then .appF s b x y else .app s b x y)
        | _, _, _ => none
      | some (.slice e), some .string, some x, some y => match sizeAt P e, bytesAt P e, zeroOf P e with
        | some s, some b, some _ => if b = 0 || s = 0 then none else some (.app s b x y)
        | _, _, _ => none
      | some (.slice e), some (.int _), some x, some y => match sizeAt P e, bytesAt P e, zeroOf P e with
        | some s, some b, some z => if b = 0 || s = 0 || z.length != s then none else some (.appZ s b z x y)
        | _, _, _ => none
      | _, _, _, _ => none
    | .copy, [x, y], [t, _] => match P.underlying t, trX vv x, trX vv y with
      | some (.slice e), some x, some y => (sizeAt P e).map fun s => .copy s x y
      | _, _, _ => none
    | .min, x :: r, _ => match trX vv x, trXs vv r with
      | some x, some r => some (.mm false x r)
      | _, _ => none
    | .max, x :: r, _ => match trX vv x, trXs vv r with
      | some x, some r => some (.mm true x r)
      | _, _ => none
    | _, _, _ => none
  | _ => none

/-! ### The logical heap -/
def getH : Heap → Nat → Option Ent
  | [], _ => none
  | (i, e) :: H, id => if i = id then some e else getH H id
def setH : Heap → Nat → Ent → Heap
  | [], _, _ => []
  | (i, e) :: H, id, e' => if i = id then (i, e') :: H else (i, e) :: setH H id e'
def delH : Heap → Nat → Heap
  | [], _ => []
  | (i, e) :: H, id => if i = id then H else (i, e) :: delH H id

theorem getH_parts {id : Nat} {e : Ent} : ∀ {H : Heap}, getH H id = some e → ∃ H1 H2, H = H1 ++ (id, e) :: H2 ∧ (∀ e', setH H id e' = H1 ++ (id, e') :: H2) ∧ delH H id = H1 ++ H2
  | [], h => by simp [getH] at h
  | (i, e0) :: H, h => by
    simp only [getH] at h
    split at h
    · rename_i hi
      cases h; subst hi
      exact ⟨[], H, rfl, fun e' => by simp [setH], by simp [delH]⟩
    · rename_i hi
      obtain ⟨H1, H2, h1, h2, h3⟩ := getH_parts h
      exact ⟨(i, e0) :: H1, H2, by simp [h1], fun e' => by simp [setH, hi, h2], by simp [delH, hi, h3]⟩

theorem getH_perm {id : Nat} {e : Ent} {H : Heap} (h : getH H id = some e) : H.Perm ((id, e) :: delH H id) ∧ ∀ e', (setH H id e').Perm ((id, e') :: delH H id) := by
  obtain ⟨H1, H2, h1, h2, h3⟩ := getH_parts h
  refine ⟨?_, fun e' => ?_⟩
  · rw [h3, h1]; exact List.perm_middle
  · rw [h3, h2]; exact List.perm_middle

theorem getH_mem {id : Nat} {e : Ent} {H : Heap} (h : getH H id = some e) : (id, e) ∈ H := by
  obtain ⟨H1, H2, h1, _⟩ := getH_parts h
  rw [h1]; simp

/-! ### Maps -/
/-- the entries of a map -/
def getMap : Heap → Nat → Option (List (LV × LV))
  | [], _ => none
  | (_, .map b es) :: H, b0 => if b = b0 then some es else getMap H b0
  | _ :: H, b0 => getMap H b0
def setMap : Heap → Nat → List (LV × LV) → Heap
  | [], _, _ => []
  | (i, .map b es) :: H, b0, es' => if b = b0 then (i, .map b es') :: H else (i, .map b es) :: setMap H b0 es'
  | e :: H, b0, es' => e :: setMap H b0 es'
theorem getMap_parts {b : Nat} {es : List (LV × LV)} : ∀ {H : Heap}, getMap H b = some es → ∃ i H1 H2, H = H1 ++ (i, .map b es) :: H2 ∧ ∀ es', setMap H b es' = H1 ++ (i, .map b es') :: H2
  | [], h => by simp [getMap] at h
  | (i, .map b1 es1) :: H, h => by
    simp only [getMap] at h
    split at h
    · rename_i hi
      cases h; subst hi
      exact ⟨i, [], H, rfl, fun es' => by simp [setMap]⟩
    · rename_i hi
      obtain ⟨j, H1, H2, h1, h2⟩ := getMap_parts h
      exact ⟨j, (i, .map b1 es1) :: H1, H2, by simp [h1], fun es' => by simp [setMap, hi, h2]⟩
  | (i, .blk b1 cs) :: H, h => by
    simp only [getMap] at h
    obtain ⟨j, H1, H2, h1, h2⟩ := getMap_parts h
    exact ⟨j, (i, .blk b1 cs) :: H1, H2, by simp [h1], fun es' => by simp [setMap, h2]⟩
  | (i, .tok t) :: H, h => by
    simp only [getMap] at h
    obtain ⟨j, H1, H2, h1, h2⟩ := getMap_parts h
    exact ⟨j, (i, .tok t) :: H1, H2, by simp [h1], fun es' => by simp [setMap, h2]⟩
theorem getMap_perm {b : Nat} {es : List (LV × LV)} {H : Heap} (h : getMap H b = some es) : ∃ i R, H.Perm ((i, .map b es) :: R) ∧ ∀ es', (setMap H b es').Perm ((i, .map b es') :: R) := by
  obtain ⟨i, H1, H2, h1, h2⟩ := getMap_parts h
  refine ⟨i, H1 ++ H2, ?_, fun es' => ?_⟩
  · rw [h1]; exact List.perm_middle
  · rw [h2]; exact List.perm_middle
/-- equality of keys -/
def eqK1 : LV → LV → Bool
  | .int k a, .int k' b => decide (k = k') && decide (a = b)
  | .bool a, .bool b => decide (a = b)
  | .str a, .str b => decide (a = b)
  | _, _ => false
def eqKs : List LV → List LV → Bool
  | [], [] => true
  | x :: xs, y :: ys => eqK1 x y && eqKs xs ys
  | _, _ => false
def eqK : LV → LV → Bool
  | .agg xs, .agg ys => eqKs xs ys
  | x, y => eqK1 x y
theorem eqK1_iff {x y : LV} {u v : Value} (hx : kvOf1 x = some u) (hy : kvOf1 y = some v) : eqK1 x y = true ↔ u = v := by
  cases x <;> simp only [kvOf1, Option.some.injEq, reduceCtorEq] at hx <;> subst hx <;> cases y <;> simp only [kvOf1, Option.some.injEq, reduceCtorEq] at hy <;> subst hy <;> simp [eqK1]
theorem eqKs_iff : ∀ {xs ys : List LV} {us vs : List Value}, kvOfs xs = some us → kvOfs ys = some vs → (eqKs xs ys = true ↔ us = vs)
  | [], [], us, vs, hx, hy => by
    simp only [kvOfs, Option.some.injEq] at hx hy
    subst hx; subst hy
    simp [eqKs]
  | [], y :: ys, us, vs, hx, hy => by
    simp only [kvOfs, Option.some.injEq] at hx hy
    subst hx
    split at hy
    · cases hy; simp [eqKs]
    · cases hy
  | x :: xs, [], us, vs, hx, hy => by
    simp only [kvOfs, Option.some.injEq] at hx hy
    subst hy
    split at hx
    · cases hx; simp [eqKs]
    · cases hx
  | x :: xs, y :: ys, us, vs, hx, hy => by
    simp only [kvOfs] at hx hy
    split at hx
    · rename_i u us' h1 h2
      cases hx
      split at hy
      · rename_i v vs' h3 h4
        cases hy
        simp only [eqKs, Bool.and_eq_true, eqK1_iff h1 h3, eqKs_iff h2 h4, List.cons.injEq]
      · cases hy
    · cases hx
theorem eqK_iff {x y : LV} {u v : Value} (hx : kvOf x = some u) (hy : kvOf y = some v) : eqK x y = true ↔ u = v := by
  by_cases ha : ∃ xs, x = .agg xs
  · obtain ⟨xs, rfl⟩ := ha
    simp only [kvOf, Option.map_eq_some_iff] at hx
    obtain ⟨us, h1, rfl⟩ := hx
    by_cases hb : ∃ ys, y = .agg ys
    · obtain ⟨ys, rfl⟩ := hb
      simp only [kvOf, Option.map_eq_some_iff] at hy
      obtain ⟨vs, h2, rfl⟩ := hy
      simp only [eqK, eqKs_iff h1 h2, Value.agg.injEq]
      exact ⟨fun h => by rw [h], fun h => by simpa using congrArg Array.toList h⟩
    · cases y <;> first
        | exact (hb ⟨_, rfl⟩).elim
        | (simp only [kvOf, kvOf1, Option.some.injEq, reduceCtorEq] at hy; subst hy; simp [eqK, eqK1])
        | (simp only [kvOf, kvOf1, reduceCtorEq] at hy)
  · have h1 : kvOf1 x = some u := by
      cases x <;> first
        | exact (ha ⟨_, rfl⟩).elim
        | simpa only [kvOf] using hx
    by_cases hb : ∃ ys, y = .agg ys
    · obtain ⟨ys, rfl⟩ := hb
      simp only [kvOf, Option.map_eq_some_iff] at hy
      obtain ⟨vs, h2, rfl⟩ := hy
      cases x <;> simp only [kvOf1, Option.some.injEq, reduceCtorEq] at h1 <;> subst h1 <;> simp [eqK, eqK1]
    · have h2 : kvOf1 y = some v := by
        cases y <;> first
          | exact (hb ⟨_, rfl⟩).elim
          | simpa only [kvOf] using hy
      have he : eqK x y = eqK1 x y := by
        cases x <;> first
          | exact (ha ⟨_, rfl⟩).elim
          | rfl
      rw [he]
      exact eqK1_iff h1 h2
def lookL (es : List (LV × LV)) (k : LV) : Option LV := (es.find? fun p => eqK k p.1).map (·.2)
def updL : List (LV × LV) → LV → LV → List (LV × LV)
  | [], k, v => [(k, v)]
  | p :: es, k, v => if eqK k p.1 then (p.1, v) :: es else p :: updL es k v

/-! ### Operands -/
def ev (gl : Glob) (env tmp : Env) : X → LV
  | .t s => get env s
  | .u s => get tmp s
  | .c v => v
  | .g g => match gl g with
    | some cs => .rp cs 0
    | none => .any

theorem ev_sound {vv : Nat → Bool} {gl : Glob} {n : Nat} {M : Imm} {a : Act} {env tmp : Env} (hF : Fr vv n env tmp M a) (hg : ∀ g cs, gl g = some cs → RCs M g 0 cs) {x : Operand} {y : X} (h : trX vv x = some y) : RV M (ev gl env tmp y) (a.eval x) := by
  cases x with
  | tmp t =>
    simp only [trX, Option.some.injEq] at h
    subst h
    cases hv : vv t with
    | true => simpa only [ev, Act.eval, if_true] using hF.vars t hv
    | false => simpa only [ev, Act.eval, Bool.false_eq_true, if_false] using hF.tmps t hv
  | const v => simp only [trX, Option.map_eq_some_iff] at h; obtain ⟨z, h1, rfl⟩ := h; simpa only [ev, Act.eval] using ofVal_sound h1
  | global g =>
    simp only [trX, Option.some.injEq] at h; subst h
    simp only [ev, Act.eval]
    cases hc : gl g with
    | none => simp [RV]
    | some cs => simp only [RV]; exact ⟨g, 0, rfl, hg g cs hc⟩
  | func f => simp only [trX, Option.some.injEq] at h; subst h; simp [ev, Act.eval, RV]

/-! ### What the quiet operations compute: an obligation and a value -/
def LV.v : LV → LV
  | .opt _ x => x
  | x => x
def LV.g : LV → Prop
  | .opt g _ => g = true
  | _ => True

theorem strip {M : Imm} {x : LV} {v : Value} (h : RV M x v) (hg : x.g) : RV M x.v v := by
  cases x <;> first | exact h | (simp only [RV] at h; exact h.1 hg)

def cellsL : LV → Option (List LV)
  | .agg cs => some cs
  | x => if x.scalar then some [x] else none

theorem cellsL_sound {M : Imm} {x : LV} {v : Value} {cs : List LV} (h : RV M x v) (hc : cellsL x = some cs) : RVs M cs v.cells.toList ∧ ∀ u ∈ v.cells.toList, u.oneCell' = true := by
  unfold cellsL at hc
  split at hc
  · cases hc
    simp only [RV] at h
    obtain ⟨vs, rfl, h, h1⟩ := h
    exact ⟨by simpa [Value.cells] using h, by simpa [Value.cells] using h1⟩
  · rename_i hne
    split at hc
    · rename_i hs
      cases hc
      have h1 := oneCell_of_scalar h hs
      have : v.cells = #[v] := by cases v <;> first | rfl | (simp [Value.oneCell'] at h1)
      rw [this]
      exact ⟨by simp only [RVs]; exact ⟨v, [], by simp, h, rfl⟩, fun u hu => by simp at hu; subst hu; exact h1⟩
    · cases hc

/-- A part of a row of cells: a struct or an array, or one cell. -/
def partL (agg : Bool) (sz off : Nat) (cs : List LV) : LV := if agg then .agg ((cs.drop off).take sz) else cs.getD off .any

def binQ (op : BinOp) (x y : LV) : Prop × LV :=
  match x, y with
  | .int k a, .int k' b => match op with
    | .add => (k = k', .int k (k.wrap (a + b)))
    | .sub => (k = k', .int k (k.wrap (a - b)))
    | .mul => (k = k', .int k (k.wrap (a * b)))
    | .quo => (k = k' ∧ b ≠ 0, .int k (k.wrap (a.tdiv b)))
    | .rem => (k = k' ∧ b ≠ 0, .int k (a.tmod b))
    | .and => (k = k', .int k (k.wrap (BitVec.ofInt k.bits a &&& BitVec.ofInt k.bits b).toNat))
    | .or => (k = k', .int k (k.wrap (BitVec.ofInt k.bits a ||| BitVec.ofInt k.bits b).toNat))
    | .xor => (k = k', .int k (k.wrap (BitVec.ofInt k.bits a ^^^ BitVec.ofInt k.bits b).toNat))
    | .andNot => (k = k', .int k (k.wrap (BitVec.ofInt k.bits a &&& ~~~ BitVec.ofInt k.bits b).toNat))
    | .shl => (0 ≤ b, .int k (k.wrap (a * 2 ^ min b.toNat k.bits)))
    | .shr => (0 ≤ b, .int k (a.fdiv (2 ^ min b.toNat k.bits)))
    | .eql => (k = k', .bool (a == b))
    | .neq => (k = k', .bool (a != b))
    | .lss => (k = k', .bool (decide (a < b)))
    | .leq => (k = k', .bool (decide (a ≤ b)))
    | .gtr => (k = k', .bool (decide (b < a)))
    | .geq => (k = k', .bool (decide (b ≤ a)))
  | .str a, .str b => match op with
    | .add => (a.length + b.length ≤ 9223372036854775807, .str (a ++ b))
    | .eql => (True, .bool (a == b))
    | .neq => (True, .bool (!(a == b)))
    | .lss => (True, .bool (Op.bytesLess a b))
    | .leq => (True, .bool (Op.bytesLess a b || a == b))
    | .gtr => (True, .bool (!(Op.bytesLess a b || a == b)))
    | .geq => (True, .bool (!(Op.bytesLess a b)))
    | _ => (False, .any)
  | _, _ => (False, .any)

def unQ (op : UnOp) (x : LV) : Prop × LV :=
  match op, x with
  | .not, .bool b => (True, .bool (!b))
  | .neg, .int k n => (True, .int k (k.wrap (0 - n)))
  | .xor, .int k n => (True, .int k (k.wrap (BitVec.ofInt k.bits (if k.signed then -1 else k.max) ^^^ BitVec.ofInt k.bits n).toNat))
  | _, _ => (False, .any)

def loadQ (agg : Bool) (sz : Nat) (x : LV) (H : Heap) : Prop × LV :=
  match x with
  | .rp cs off => (off + sz ≤ cs.length, partL agg sz off cs)
  | .ptr id b off => match getH H id with
    | some (.blk b' cs) => (b' = b ∧ off + sz ≤ cs.length, partL agg sz off cs)
    | _ => (False, .any)
  | _ => (False, .any)

def faddrQ (off : Nat) (x : LV) : Prop × LV :=
  match x with
  | .rp cs o => (True, .rp cs (o + off))
  | .ptr id b o => (True, .ptr id b (o + off))
  | _ => (False, .any)

def fillL : List LV → List (Nat × Nat × LV) → Option (List LV)
  | cs, [] => some cs
  | cs, (o, s, x) :: r => match cellsL x with
    | some ds => if ds.length = s ∧ o + ds.length ≤ cs.length then fillL (splice cs ds o) r else none
    | none => none

def gParts (ρ : X → LV) (parts : List (Nat × Nat × X)) : Prop := ∀ p ∈ parts, (ρ p.2.2).g
def vParts (ρ : X → LV) (parts : List (Nat × Nat × X)) : List (Nat × Nat × LV) := parts.map fun p => (p.1, p.2.1, (ρ p.2.2).v)

def optI (ρ : X → LV) (d : Int) : Option X → Prop × Int
  | none => (True, d)
  | some x => match (ρ x).v with
    | .int _ i => ((ρ x).g, i)
    | _ => (False, 0)

def slSQ (s : List UInt8) (l h : Int) : Prop × LV :=
  (0 ≤ l ∧ l ≤ h ∧ h ≤ s.length, .str ((s.drop l.toNat).take (h.toNat - l.toNat)))

def slLQ (sz : Nat) (x : LV) (lo : Option X) (hi mx : Option X) (ρ : X → LV) : Prop × LV :=
  let l := optI ρ 0 lo
  match x with
  | .sl sz' n cs =>
    let h := optI ρ n hi
    match mx with
    | none => (l.1 ∧ h.1 ∧ sz' = sz ∧ 0 ≤ l.2 ∧ l.2 ≤ h.2 ∧ h.2 ≤ n, .sl sz (h.2.toNat - l.2.toNat) ((cs.drop (l.2.toNat * sz)).take ((h.2.toNat - l.2.toNat) * sz)))
    | some _ =>
      let m := optI ρ n mx
      (l.1 ∧ h.1 ∧ m.1 ∧ hi.isSome ∧ sz' = sz ∧ 0 ≤ l.2 ∧ l.2 ≤ h.2 ∧ h.2 = m.2 ∧ h.2 ≤ n, .fsl sz (h.2.toNat - l.2.toNat) ((cs.drop (l.2.toNat * sz)).take ((h.2.toNat - l.2.toNat) * sz)))
  | .fsl sz' n cs =>
    let h := optI ρ n hi
    match hi, mx with
    | none, none => (l.1 ∧ sz' = sz ∧ 0 ≤ l.2 ∧ l.2 ≤ n, .fsl sz (n - l.2.toNat) (cs.drop (l.2.toNat * sz)))
    | _, none => (l.1 ∧ h.1 ∧ sz' = sz ∧ 0 ≤ l.2 ∧ l.2 ≤ h.2 ∧ h.2 ≤ n, .sl sz (h.2.toNat - l.2.toNat) ((cs.drop (l.2.toNat * sz)).take ((h.2.toNat - l.2.toNat) * sz)))
    | _, some _ =>
      let m := optI ρ n mx
      (l.1 ∧ h.1 ∧ m.1 ∧ hi.isSome ∧ sz' = sz ∧ 0 ≤ l.2 ∧ l.2 ≤ h.2 ∧ h.2 = m.2 ∧ h.2 ≤ n, .fsl sz (h.2.toNat - l.2.toNat) ((cs.drop (l.2.toNat * sz)).take ((h.2.toNat - l.2.toNat) * sz)))
  | .osl id τ sz' n cs =>
    let h := optI ρ n hi
    match hi, mx with
    | none, none => (l.1 ∧ sz' = sz ∧ 0 ≤ l.2 ∧ l.2 ≤ n, .osl id τ sz (n - l.2.toNat) (cs.drop (l.2.toNat * sz)))
    | _, none => (l.1 ∧ h.1 ∧ sz' = sz ∧ 0 ≤ l.2 ∧ l.2 ≤ h.2 ∧ h.2 ≤ n, .sl sz (h.2.toNat - l.2.toNat) ((cs.drop (l.2.toNat * sz)).take ((h.2.toNat - l.2.toNat) * sz)))
    | _, some _ =>
      let m := optI ρ n mx
      (l.1 ∧ h.1 ∧ m.1 ∧ hi.isSome ∧ sz' = sz ∧ 0 ≤ l.2 ∧ l.2 ≤ h.2 ∧ h.2 = m.2 ∧ h.2 ≤ n, .fsl sz (h.2.toNat - l.2.toNat) ((cs.drop (l.2.toNat * sz)).take ((h.2.toNat - l.2.toNat) * sz)))
  | .msl id sz' b off len cap =>
    let h := optI ρ len hi
    match mx with
    | none => (l.1 ∧ h.1 ∧ sz' = sz ∧ 0 ≤ l.2 ∧ l.2 ≤ h.2 ∧ h.2 ≤ cap, .msl id sz b (if cap = l.2.toNat then off else off + l.2.toNat * sz) (h.2.toNat - l.2.toNat) (cap - l.2.toNat))
    | some _ =>
      let m := optI ρ len mx
      (l.1 ∧ h.1 ∧ m.1 ∧ hi.isSome ∧ sz' = sz ∧ 0 ≤ l.2 ∧ l.2 ≤ h.2 ∧ h.2 ≤ m.2 ∧ m.2 ≤ cap, if m.2 = l.2 then .fsl sz 0 [] else .msl id sz b (off + l.2.toNat * sz) (h.2.toNat - l.2.toNat) (m.2.toNat - l.2.toNat))
  | _ => (False, .any)

def slAQ (n sz : Nat) (x : LV) (lo hi mx : Option X) (ρ : X → LV) : Prop × LV :=
  let l := optI ρ 0 lo
  let h := optI ρ n hi
  match mx, x with
  | none, .ptr id b off => (l.1 ∧ h.1 ∧ 0 ≤ l.2 ∧ l.2 ≤ h.2 ∧ h.2 ≤ n ∧ l.2 < n, .msl id sz b (off + l.2.toNat * sz) (h.2.toNat - l.2.toNat) (n - l.2.toNat))
  | none, .rp cs off => (l.1 ∧ h.1 ∧ 0 ≤ l.2 ∧ l.2 ≤ h.2 ∧ h.2 ≤ n ∧ l.2 < n ∧ off + n * sz ≤ cs.length, .sl sz (h.2.toNat - l.2.toNat) ((cs.drop (off + l.2.toNat * sz)).take ((h.2.toNat - l.2.toNat) * sz)))
  | _, _ => (False, .any)

def idxI (i : LV) : Prop × Int := match i with | .int _ n => (True, n) | _ => (False, 0)

def iaAQ (n sz : Nat) (x i : LV) : Prop × LV :=
  let j := idxI i
  match x with
  | .rp cs o => (j.1 ∧ 0 ≤ j.2 ∧ j.2 < n, .rp cs (o + j.2.toNat * sz))
  | .ptr id b o => (j.1 ∧ 0 ≤ j.2 ∧ j.2 < n, .ptr id b (o + j.2.toNat * sz))
  | _ => (False, .any)

def iaSQ (sz : Nat) (x i : LV) : Prop × LV :=
  let j := idxI i
  match x with
  | .sl sz' n cs => (j.1 ∧ sz' = sz ∧ 0 ≤ j.2 ∧ j.2 < n, .rp cs (j.2.toNat * sz))
  | .fsl sz' n cs => (j.1 ∧ sz' = sz ∧ 0 ≤ j.2 ∧ j.2 < n, .rp cs (j.2.toNat * sz))
  | .osl _ _ sz' n cs => (j.1 ∧ sz' = sz ∧ 0 ≤ j.2 ∧ j.2 < n, .rp cs (j.2.toNat * sz))
  | .msl id sz' b off len _ => (j.1 ∧ sz' = sz ∧ 0 ≤ j.2 ∧ j.2 < len, .ptr id b (off + j.2.toNat * sz))
  | _ => (False, .any)

def ixSQ (x i : LV) : Prop × LV :=
  let j := idxI i
  match x with
  | .str s => (j.1 ∧ 0 ≤ j.2 ∧ j.2 < s.length, .int .u8 (s.getD j.2.toNat 0).toNat)
  | _ => (False, .any)

def ixAQ (agg : Bool) (n sz : Nat) (x i : LV) : Prop × LV :=
  let j := idxI i
  match x with
  | .agg cs => (j.1 ∧ 0 ≤ j.2 ∧ j.2 < n ∧ cs.length = n * sz, partL agg sz (j.2.toNat * sz) cs)
  | _ => (False, .any)

def fldQ (agg : Bool) (sz off : Nat) (x : LV) : Prop × LV :=
  match x with
  | .agg cs => (off + sz ≤ cs.length, partL agg sz off cs)
  | _ => (False, .any)

def extQ (x : LV) (i : Nat) : Prop × LV :=
  match x with
  | .tup vs => (i < vs.length, vs.getD i .any)
  | _ => (False, .any)

def lenQ (x : LV) : Prop × LV :=
  match x with
  | .str s => (True, .int .i64 s.length)
  | _ => (False, .any)

def lenLQ (x : LV) : Prop × LV :=
  match x with
  | .sl _ n _ => (True, .int .i64 n)
  | .osl _ _ _ n _ => (True, .int .i64 n)
  | .fsl _ n _ => (True, .int .i64 n)
  | .msl _ _ _ _ n _ => (True, .int .i64 n)
  | _ => (False, .any)

def capQ (x : LV) : Prop × LV :=
  match x with
  | .fsl _ n _ => (True, .int .i64 n)
  | .msl _ _ _ _ _ c => (True, .int .i64 c)
  | _ => (False, .any)

def nilcQ (x : LV) : Prop × LV :=
  match x with
  | .ptr id b o => (True, .ptr id b o)
  | .rp cs o => (True, .rp cs o)
  | .fn f => (True, .fn f)
  | .sl a b c => (True, .sl a b c)
  | .osl a b c d e => (True, .osl a b c d e)
  | .fsl a b c => (True, .fsl a b c)
  | .msl a b c d e f => (True, .msl a b c d e f)
  | .clo f cs => (True, .clo f cs)
  | _ => (False, .any)

def eqNQ (neg : Bool) (x y : LV) : Prop × LV :=
  match x, y with
  | .nil, .nil => (True, .bool (!neg))
  | .nil, .ptr .. => (True, .bool neg)
  | .nil, .rp .. => (True, .bool neg)
  | .ptr .., .nil => (True, .bool neg)
  | .rp .., .nil => (True, .bool neg)
  | _, _ => (False, .any)

def leafQ (k : Nat) (x y : LV) : Prop × Bool :=
  match x, y with
  | .int k1 a, .int k2 b => (k = 1 ∧ k1 = k2, a == b)
  | .str a, .str b => (k = 2, a == b)
  | .bool a, .bool b => (k = 0, a == b)
  | _, _ => (False, true)

def leavesQ (xs ys : List LV) : List (Nat × Nat) → Prop × Bool
  | [] => (True, true)
  | i :: r => ((leafQ i.2 (xs.getD i.1 .any) (ys.getD i.1 .any)).1 ∧ (leavesQ xs ys r).1, (leafQ i.2 (xs.getD i.1 .any) (ys.getD i.1 .any)).2 && (leavesQ xs ys r).2)

def eqSQ (neg : Bool) (s : Nat) (ls : List (Nat × Nat)) (x y : LV) : Prop × LV :=
  match x, y with
  | .agg xs, .agg ys => (xs.length = s ∧ ys.length = s ∧ (leavesQ xs ys ls).1, .bool (if neg then !(leavesQ xs ys ls).2 else (leavesQ xs ys ls).2))
  | _, _ => (False, .any)

def pickQ (c a b : LV) : Prop × LV :=
  match c.v, a.v, b.v with
  | .bool c', .bool a', .bool b' => (c.g ∧ (c' = true → a.g) ∧ (c' = false → b.g), .bool (cond c' a' b'))
  | .bool c', .any, .bool b' => (c.g ∧ c' = false ∧ b.g, .bool b')
  | .bool c', .bool a', .any => (c.g ∧ c' = true ∧ a.g, .bool a')
  | _, _, _ => (False, .any)

def eqBQ (neg : Bool) (x y : LV) : Prop × LV :=
  match x, y with
  | .bool a, .bool b => (True, .bool (if neg then !(a == b) else a == b))
  | _, _ => (False, .any)

def convQ (k : IntKind) (x : LV) : Prop × LV :=
  match x with
  | .int _ n => (True, .int k (k.wrap n))
  | _ => (False, .any)

def sameQ (x : LV) : Prop × LV :=
  match x with
  | .str s => (True, .str s)
  | _ => (False, .any)

def toByte : LV → UInt8
  | .int _ n => UInt8.ofNat n.toNat
  | _ => 0
def isByte : LV → Bool
  | .int .u8 _ => true
  | _ => false

def b2sQ (x : LV) (H : Heap) : Prop × LV :=
  match x with
  | .sl 1 _ cs => (∀ c ∈ cs, isByte c = true, .str (cs.map toByte))
  | .fsl 1 _ cs => (∀ c ∈ cs, isByte c = true, .str (cs.map toByte))
  | .osl _ _ 1 _ cs => (∀ c ∈ cs, isByte c = true, .str (cs.map toByte))
  | .msl id 1 b off len _ => match getH H id with
    | some (.blk b' cs) => (b' = b ∧ off + len ≤ cs.length ∧ ∀ c ∈ (cs.drop off).take len, isByte c = true, .str (((cs.drop off).take len).map toByte))
    | _ => (False, .any)
  | _ => (False, .any)

def mm2 (mx : Bool) (x y : LV) : Prop × LV :=
  match x, y with
  | .int k a, .int k' b => (k = k', .int k (if mx then (if a < b then b else a) else (if b < a then b else a)))
  | _, _ => (False, .any)
def mmQ (mx : Bool) (ρ : X → LV) : LV → List X → Prop × LV
  | x, [] => (True, x)
  | x, y :: r => ((ρ y).g ∧ (mm2 mx x (ρ y).v).1 ∧ (mmQ mx ρ (mm2 mx x (ρ y).v).2 r).1, (mmQ mx ρ (mm2 mx x (ρ y).v).2 r).2)

def q (o : LOp) (ρ : X → LV) (H : Heap) : Prop × LV :=
  match o with
  | .mov x => ((ρ x).g, (ρ x).v)
  | .pick c a b => pickQ (ρ c) (ρ a) (ρ b)
  | .build z parts => (gParts ρ parts ∧ (fillL z (vParts ρ parts)).isSome = true, .agg ((fillL z (vParts ρ parts)).getD []))
  | .load agg sz x => ((ρ x).g ∧ (loadQ agg sz (ρ x).v H).1, (loadQ agg sz (ρ x).v H).2)
  | .nilc x => ((ρ x).g ∧ (nilcQ (ρ x).v).1, (nilcQ (ρ x).v).2)
  | .bin op x y => ((ρ x).g ∧ (ρ y).g ∧ (binQ op (ρ x).v (ρ y).v).1, (binQ op (ρ x).v (ρ y).v).2)
  | .eqB neg x y => ((ρ x).g ∧ (ρ y).g ∧ (eqBQ neg (ρ x).v (ρ y).v).1, (eqBQ neg (ρ x).v (ρ y).v).2)
  | .eqN neg x y => ((ρ x).g ∧ (ρ y).g ∧ (eqNQ neg (ρ x).v (ρ y).v).1, (eqNQ neg (ρ x).v (ρ y).v).2)
  | .eqS neg s ls x y => ((ρ x).g ∧ (ρ y).g ∧ (eqSQ neg s ls (ρ x).v (ρ y).v).1, (eqSQ neg s ls (ρ x).v (ρ y).v).2)
  | .un op x => ((ρ x).g ∧ (unQ op (ρ x).v).1, (unQ op (ρ x).v).2)
  | .conv k x => ((ρ x).g ∧ (convQ k (ρ x).v).1, (convQ k (ρ x).v).2)
  | .same x => ((ρ x).g ∧ (sameQ (ρ x).v).1, (sameQ (ρ x).v).2)
  | .b2s x => ((ρ x).g ∧ (b2sQ (ρ x).v H).1, (b2sQ (ρ x).v H).2)
  | .slS x lo hi => match (ρ x).v with
    | .str s => ((ρ x).g ∧ (optI ρ 0 lo).1 ∧ (optI ρ s.length hi).1 ∧ (slSQ s (optI ρ 0 lo).2 (optI ρ s.length hi).2).1, (slSQ s (optI ρ 0 lo).2 (optI ρ s.length hi).2).2)
    | _ => (False, .any)
  | .slL sz x lo hi mx => ((ρ x).g ∧ (slLQ sz (ρ x).v lo hi mx ρ).1, (slLQ sz (ρ x).v lo hi mx ρ).2)
  | .slA n sz x lo hi mx => ((ρ x).g ∧ (slAQ n sz (ρ x).v lo hi mx ρ).1, (slAQ n sz (ρ x).v lo hi mx ρ).2)
  | .faddr off x => ((ρ x).g ∧ (faddrQ off (ρ x).v).1, (faddrQ off (ρ x).v).2)
  | .fld agg sz off x => ((ρ x).g ∧ (fldQ agg sz off (ρ x).v).1, (fldQ agg sz off (ρ x).v).2)
  | .iaA n sz x i => ((ρ x).g ∧ (ρ i).g ∧ (iaAQ n sz (ρ x).v (ρ i).v).1, (iaAQ n sz (ρ x).v (ρ i).v).2)
  | .iaS sz x i => ((ρ x).g ∧ (ρ i).g ∧ (iaSQ sz (ρ x).v (ρ i).v).1, (iaSQ sz (ρ x).v (ρ i).v).2)
  | .ixA agg n sz x i => ((ρ x).g ∧ (ρ i).g ∧ (ixAQ agg n sz (ρ x).v (ρ i).v).1, (ixAQ agg n sz (ρ x).v (ρ i).v).2)
  | .ixS x i => ((ρ x).g ∧ (ρ i).g ∧ (ixSQ (ρ x).v (ρ i).v).1, (ixSQ (ρ x).v (ρ i).v).2)
  | .ext x i => ((ρ x).g ∧ (extQ (ρ x).v i).1, (extQ (ρ x).v i).2)
  | .len x => ((ρ x).g ∧ (lenQ (ρ x).v).1, (lenQ (ρ x).v).2)
  | .lenL x => ((ρ x).g ∧ (lenLQ (ρ x).v).1, (lenLQ (ρ x).v).2)
  | .lenA n => (True, .int .i64 n)
  | .cap x => ((ρ x).g ∧ (capQ (ρ x).v).1, (capQ (ρ x).v).2)
  | .mkf f xs => (∀ x ∈ xs, (ρ x).g, .clo f (xs.map fun x => (ρ x).v))
  | .mm mx x xs => ((ρ x).g ∧ (mmQ mx ρ (ρ x).v xs).1, (mmQ mx ρ (ρ x).v xs).2)
  | _ => (False, .any)

/-- an operation that is never reached -/
theorem q_never (ρ : X → LV) (H : Heap) : ¬ (q (.build [] [(0, 1, .c .any)]) ρ H).1 := by
  simp only [q, vParts, List.map_cons, List.map_nil, fillL]
  rintro ⟨_, h⟩
  cases hc : cellsL (ρ (.c .any)).v with
  | none => rw [hc] at h; simp at h
  | some ds =>
    rw [hc] at h
    simp only at h
    rw [if_neg (by simp only [List.length_nil]; omega)] at h
    simp at h
end Go.Lx
