/- The rules by which logical code is computed: each is true by definition. Written by program. -/
import Derived.Test.YtfheeghkajihoaaDoorLxL
namespace Go.Lx
set_option linter.unusedSimpArgs false
set_option linter.unusedVariables false

theorem Bd_mk {α : Type} (a : Prop) (x : α) (k : α → Prop) : Bd (a, x) k = (a ∧ k x) := rfl

/-- A part of the code that waits for its turn. -/
def Susp (F : Env → Heap → Prop) (env : Env) (H : Heap) : Prop := F env H
def kT (F : Env → Env → Heap → Prop) (d : Nat) (env tmp : Env) (H : Heap) (u : LV) : Prop := F ((d, u) :: env) tmp H
def kU (F : Env → Env → Heap → Prop) (d : Nat) (env tmp : Env) (H : Heap) (u : LV) : Prop := F env ((d, u) :: tmp) H
def kcT (F : Env → Env → Heap → Prop) (d : Nat) (env tmp : Env) (u : LV) (H : Heap) : Prop := F ((d, u) :: env) tmp H
def kcU (F : Env → Env → Heap → Prop) (d : Nat) (env tmp : Env) (u : LV) (H : Heap) : Prop := F env ((d, u) :: tmp) H
def kKT (F : List Lg → Env → Env → Heap → Prop) (i : Nat) (o : LOper) (e1 e2 : Env) (lg : List Lg) (d : Nat) (env tmp : Env) (H : Heap) (u : LV) : Prop := F (⟨i, o, e1, e2, u⟩ :: lg) ((d, u) :: env) tmp H
def kKU (F : List Lg → Env → Env → Heap → Prop) (i : Nat) (o : LOper) (e1 e2 : Env) (lg : List Lg) (d : Nat) (env tmp : Env) (H : Heap) (u : LV) : Prop := F (⟨i, o, e1, e2, u⟩ :: lg) env ((d, u) :: tmp) H
def kR (gl : Glob) (pend : List Nat) (lg : List Lg) (F : List Lg → Env → Env → Heap → Prop) (env tmp : Env) (H : Heap) : Prop := recheck gl H (keepL pend lg) ∧ F (keepL pend lg) env tmp H
def kvT (gl : Glob) (F : Env → Env → Heap → Prop) (d : Nat) (env tmp : Env) (u : LV) (H : Heap) : Prop := Vw gl F ((d, u) :: env) tmp H
def kvU (gl : Glob) (F : Env → Env → Heap → Prop) (d : Nat) (env tmp : Env) (u : LV) (H : Heap) : Prop := Vw gl F env ((d, u) :: tmp) H
def kvN (gl : Glob) (F : Env → Env → Heap → Prop) (env tmp : Env) (_ : LV) (H : Heap) : Prop := Vw gl F env tmp H
def kLk (P : Program) (kt : Nat) (ok : Bool) (z x i : LV) (k : LV → Heap → Prop) (_ : Env) (H : Heap) : Prop := x.g ∧ i.g ∧ lookV P kt ok z i.v x.v H k
def kLn (k : LV → Heap → Prop) (_ : Env) (H : Heap) : Prop := k (.opt false .any) H
def kVk (P : Program) (gl : Glob) (ρ : X → LV) (x : X) (as : List X) (k : LV → Heap → Prop) (_ : Env) (H : Heap) : Prop := Bd ((ρ x).g ∧ (∀ y ∈ as, (ρ y).g) ∧ (calleeQ (ρ x).v).1, (calleeQ (ρ x).v).2.1, (as.map fun y => (ρ y).v) ++ (calleeQ (ρ x).v).2.2) fun p => LCallsV P gl p.1 p.2 H k
def kBT (F : Env → Env → Heap → Prop) (d : Nat) (env tmp : Env) (H : Heap) (cs : List LV) : Prop := ∀ b, F ((d, .ptr d b 0) :: env) tmp ((d, .blk b cs) :: H)
def kBU (F : Env → Env → Heap → Prop) (d : Nat) (env tmp : Env) (H : Heap) (cs : List LV) : Prop := ∀ b, F env ((d, .ptr d b 0) :: tmp) ((d, .blk b cs) :: H)
def kA (d sz bytes : Nat) (x : LV) (H : Heap) (k : LV → Heap → Prop) (p : Nat × List LV) : Prop := appV d sz bytes p.1 x p.2 H k
def kAF (d sz bytes : Nat) (x : LV) (H : Heap) (k : LV → Heap → Prop) (p : Nat × List LV) : Prop := appFV d sz bytes p.1 x p.2 H k
def kZ (d sz bytes : Nat) (z : List LV) (x : LV) (H : Heap) (k : LV → Heap → Prop) (m : Nat) : Prop := appZV d sz bytes m x (zeros z (m * sz)) H k
def kY (sz : Nat) (x : LV) (H : Heap) (k : LV → Heap → Prop) (p : Nat × List LV) : Prop := copyV sz p.1 x p.2 H k
def kXD (k : LV → Prop) (s : List UInt8) : Prop := k (.sl 1 s.length (s.map fun u => .int .u8 u.toNat))
def kCV (P : Program) (gl : Glob) (H : Heap) (k : LV → Heap → Prop) (p : Nat × List LV) : Prop := LCallsV P gl p.1 p.2 H k
def kS (sz n : Nat) (k : LV → Prop) (cs : List LV) : Prop := k (.fsl sz n cs)
def kN (sz n : Nat) (k : LV → Prop) (cs : List LV) : Prop := k (.nsl sz n cs)
def kX (d : Nat) (H : Heap) (k : LV → Heap → Prop) (s : List UInt8) : Prop := s2bE d s H k
def kM (d sz : Nat) (z : List LV) (H : Heap) (k : LV → Heap → Prop) (p : Nat × Nat) : Prop := makeE d sz z p.1 p.2 H k
def kC (P : Program) (gl : Glob) (f : Nat) (H : Heap) (k : LV → Heap → Prop) (vs : List LV) : Prop := LCalls P gl f vs H k
def kG (P : Program) (gl : Glob) (f : Nat) (H : Heap) (k : LV → Heap → Prop) (p : Bool × List LV) : Prop := callG P gl p.1 f p.2 H k
def kH (F : Env → Env → Heap → Prop) (env tmp : Env) (H : Heap) : Prop := F env tmp H
def kcN (F : Env → Env → Heap → Prop) (env tmp : Env) (_ : LV) (H : Heap) : Prop := F env tmp H

variable {P : Program} {gl : Glob} {H : Heap} {env tmp : Env} {K : Env → Heap → Prop} {d : Nat} {x : X} {i : Nat} {lg : List Lg} {r : List DIt} {ss pend : List Nat} {wt : Bool} {sg : X} {cs : List LV} {y : X} {g : Bool} {ρ : X → LV} {z : List LV} {lo : Option X} {hi : Option X} {mx : Option X}
theorem rr {α : Sort _} {a : α} : a = a := Eq.trans rfl rfl
theorem condT (c b : Bool) : cond c true b = (c || b) := by cases c <;> rfl
theorem condF (c a : Bool) : cond c a false = (c && a) := by cases c <;> rfl

/-- bit operations, shifts and complements, as functions of numbers -/
def bitop (op : BinOp) (k : IntKind) (a b : Int) : Int :=
  match op with
  | .and => k.wrap (BitVec.ofInt k.bits a &&& BitVec.ofInt k.bits b).toNat
  | .or => k.wrap (BitVec.ofInt k.bits a ||| BitVec.ofInt k.bits b).toNat
  | .xor => k.wrap (BitVec.ofInt k.bits a ^^^ BitVec.ofInt k.bits b).toNat
  | _ => k.wrap (BitVec.ofInt k.bits a &&& ~~~ BitVec.ofInt k.bits b).toNat
def shl (k : IntKind) (a b : Int) : Int := k.wrap (a * 2 ^ min b.toNat k.bits)
def shr (k : IntKind) (a b : Int) : Int := a.fdiv (2 ^ min b.toNat k.bits)
def compl (k : IntKind) (n : Int) : Int := k.wrap (BitVec.ofInt k.bits (if k.signed then -1 else k.max) ^^^ BitVec.ofInt k.bits n).toNat
def evG (x : Option (List LV)) : LV :=
  match x with
  | some cs => .rp cs 0
  | none => .any
def slSE (g : Prop) (x : LV) (lo hi : Option X) (ρ : X → LV) : Prop × LV :=
  match x with
  | .str s => (g ∧ (optI ρ 0 lo).1 ∧ (optI ρ s.length hi).1 ∧ (slSQ s (optI ρ 0 lo).2 (optI ρ s.length hi).2).1, (slSQ s (optI ρ 0 lo).2 (optI ρ s.length hi).2).2)
  | _ => (False, .any)
def fillO (cs : List LV) (o s : Nat) (c : Option (List LV)) (r : List (Nat × Nat × LV)) : Option (List LV) :=
  match c with
  | some ds => if ds.length = s ∧ o + ds.length ≤ cs.length then fillL (splice cs ds o) r else none
  | none => none
def loadE (g : Bool) (sz b o : Nat) (e : Option Ent) : Prop × LV :=
  match e with
  | some (.blk b' cs) => (b' = b ∧ o + sz ≤ cs.length, partL g sz o cs)
  | _ => (False, .any)
def b2sE (b o l : Nat) (e : Option Ent) : Prop × LV :=
  match e with
  | some (.blk b' cs) => (b' = b ∧ o + l ≤ cs.length ∧ ∀ c ∈ (cs.drop o).take l, isByte c = true, .str (((cs.drop o).take l).map toByte))
  | _ => (False, .any)
def optE (x : LV) : Prop × Int :=
  match x.v with
  | .int _ i => (x.g, i)
  | _ => (False, 0)
def fillE (x : Option (List LV)) : Prop × List LV :=
  match x with
  | some cs => (True, cs)
  | none => (False, [])
def stoE (sz b o i : Nat) (H : Heap) (e : Option Ent) (c : Option (List LV)) : Prop × Heap :=
  match e, c with
  | some (.blk b' cs), some ds => (b' = b ∧ ds.length = sz ∧ o + ds.length ≤ cs.length, setH H i (.blk b' (splice cs ds o)))
  | _, _ => (False, [])
def appO (i : Nat) (t : Tok) (sz bytes s n m : Nat) (cs ys : List LV) (H : Heap) (K : LV → Heap → Prop) (e : Option Ent) : Prop :=
  match e with
  | some (.tok t') => (t' = t ∧ s = sz ∧ roomy (n + m) bytes) ∧ ∀ τ, K (.osl i τ sz (n + m) (cs ++ ys)) ((i, .tok τ) :: delH H i)
  | _ => False
def elE (sz s b o l : Nat) (e : Option Ent) : Prop × Nat × List LV :=
  match e with
  | some (.blk b' cs) => (s = sz ∧ b' = b ∧ o + l * sz ≤ cs.length, l, (cs.drop o).take (l * sz))
  | _ => (False, 0, [])
theorem v_int (k : IntKind) (n : Int) : LV.v (.int k n) = (.int k n) := rr
theorem g_int (k : IntKind) (n : Int) : LV.g (.int k n) = True := rr
theorem v_bool (b : Bool) : LV.v (.bool b) = (.bool b) := rr
theorem g_bool (b : Bool) : LV.g (.bool b) = True := rr
theorem v_str (s : List UInt8) : LV.v (.str s) = (.str s) := rr
theorem g_str (s : List UInt8) : LV.g (.str s) = True := rr
theorem v_nil  : LV.v .nil = .nil := rr
theorem g_nil  : LV.g .nil = True := rr
theorem v_ptr (i b o : Nat) : LV.v (.ptr i b o) = (.ptr i b o) := rr
theorem g_ptr (i b o : Nat) : LV.g (.ptr i b o) = True := rr
theorem v_rp (o : Nat) : LV.v (.rp cs o) = (.rp cs o) := rr
theorem g_rp (o : Nat) : LV.g (.rp cs o) = True := rr
theorem v_agg : LV.v (.agg cs) = (.agg cs) := rr
theorem g_agg : LV.g (.agg cs) = True := rr
theorem v_tup : LV.v (.tup cs) = (.tup cs) := rr
theorem g_tup : LV.g (.tup cs) = True := rr
theorem v_sl (a b : Nat) : LV.v (.sl a b cs) = (.sl a b cs) := rr
theorem g_sl (a b : Nat) : LV.g (.sl a b cs) = True := rr
theorem v_osl (t : Tok) (a b : Nat) : LV.v (.osl i t a b cs) = (.osl i t a b cs) := rr
theorem g_osl (t : Tok) (a b : Nat) : LV.g (.osl i t a b cs) = True := rr
theorem v_fsl (a b : Nat) : LV.v (.fsl a b cs) = (.fsl a b cs) := rr
theorem g_fsl (a b : Nat) : LV.g (.fsl a b cs) = True := rr
theorem v_msl (i s b o l c : Nat) : LV.v (.msl i s b o l c) = (.msl i s b o l c) := rr
theorem g_msl (i s b o l c : Nat) : LV.g (.msl i s b o l c) = True := rr
theorem v_clo (f : Nat) : LV.v (.clo f cs) = (.clo f cs) := rr
theorem g_clo (f : Nat) : LV.g (.clo f cs) = True := rr
theorem v_raw (v : Value) : LV.v (.raw v) = (.raw v) := rr
theorem g_raw (v : Value) : LV.g (.raw v) = True := rr
theorem v_fn (f : Nat) : LV.v (.fn f) = (.fn f) := rr
theorem g_fn (f : Nat) : LV.g (.fn f) = True := rr
theorem v_any  : LV.v .any = .any := rr
theorem g_any  : LV.g .any = True := rr
theorem v_nsl (s m : Nat) : LV.v (.nsl s m cs) = (.nsl s m cs) := rr
theorem g_nsl (s m : Nat) : LV.g (.nsl s m cs) = True := rr
theorem v_opt (x : LV) : LV.v (.opt g x) = x := rr
theorem g_opt (x : LV) : LV.g (.opt g x) = (g = true) := rr
theorem cells_int (k : IntKind) (n : Int) : cellsL (.int k n) = some [.int k n] := rr
theorem cellsQ_int (k : IntKind) (n : Int) : cellsQ (.int k n) = (True, [.int k n]) := rr
theorem cells_bool (b : Bool) : cellsL (.bool b) = some [.bool b] := rr
theorem cellsQ_bool (b : Bool) : cellsQ (.bool b) = (True, [.bool b]) := rr
theorem cells_str (s : List UInt8) : cellsL (.str s) = some [.str s] := rr
theorem cellsQ_str (s : List UInt8) : cellsQ (.str s) = (True, [.str s]) := rr
theorem cells_nil  : cellsL .nil = some [.nil] := rr
theorem cellsQ_nil  : cellsQ .nil = (True, [.nil]) := rr
theorem cells_ptr (i b o : Nat) : cellsL (.ptr i b o) = some [.ptr i b o] := rr
theorem cellsQ_ptr (i b o : Nat) : cellsQ (.ptr i b o) = (True, [.ptr i b o]) := rr
theorem cells_rp (o : Nat) : cellsL (.rp cs o) = some [.rp cs o] := rr
theorem cellsQ_rp (o : Nat) : cellsQ (.rp cs o) = (True, [.rp cs o]) := rr
theorem cells_agg : cellsL (.agg cs) = some cs := rr
theorem cellsQ_agg : cellsQ (.agg cs) = (True, cs) := rr
theorem cells_sl (a b : Nat) : cellsL (.sl a b cs) = some [.sl a b cs] := rr
theorem cellsQ_sl (a b : Nat) : cellsQ (.sl a b cs) = (True, [.sl a b cs]) := rr
theorem cells_osl (t : Tok) (a b : Nat) : cellsL (.osl i t a b cs) = some [.osl i t a b cs] := rr
theorem cellsQ_osl (t : Tok) (a b : Nat) : cellsQ (.osl i t a b cs) = (True, [.osl i t a b cs]) := rr
theorem cells_fsl (a b : Nat) : cellsL (.fsl a b cs) = some [.fsl a b cs] := rr
theorem cellsQ_fsl (a b : Nat) : cellsQ (.fsl a b cs) = (True, [.fsl a b cs]) := rr
theorem cells_msl (i s b o l c : Nat) : cellsL (.msl i s b o l c) = some [.msl i s b o l c] := rr
theorem cellsQ_msl (i s b o l c : Nat) : cellsQ (.msl i s b o l c) = (True, [.msl i s b o l c]) := rr
theorem cells_clo (f : Nat) : cellsL (.clo f cs) = some [.clo f cs] := rr
theorem cellsQ_clo (f : Nat) : cellsQ (.clo f cs) = (True, [.clo f cs]) := rr
theorem cells_fn (f : Nat) : cellsL (.fn f) = some [.fn f] := rr
theorem cellsQ_fn (f : Nat) : cellsQ (.fn f) = (True, [.fn f]) := rr
theorem cells_nsl (s m : Nat) : cellsL (.nsl s m cs) = some [.nsl s m cs] := rr
theorem cellsQ_nsl (s m : Nat) : cellsQ (.nsl s m cs) = (True, [.nsl s m cs]) := rr
theorem get_nil (t : Nat) : Lx.get [] t = .any := rr
theorem get_eq (t : Nat) (v : LV) (r : Env) : Lx.get ((t, v) :: r) t = v := by simp [Lx.get]
theorem get_ne {i t : Nat} (v : LV) (r : Env) (h : i ≠ t) : Lx.get ((i, v) :: r) t = Lx.get r t := by simp [Lx.get, h]
theorem restr_nil (env : Env) : restr [] env = [] := rr
theorem restr_cons (s : Nat) (r : List Nat) (env : Env) : restr (s :: r) env = (s, Lx.get env s) :: restr r env := rr
theorem ev_t (s : Nat) : ev gl env tmp (.t s) = Lx.get env s := rr
theorem ev_u (s : Nat) : ev gl env tmp (.u s) = Lx.get tmp s := rr
theorem ev_c (v : LV) : ev gl env tmp (.c v) = v := rr
theorem ev_g (g : Nat) : ev gl env tmp (.g g) = evG (gl g) := rr
theorem evG_some : evG (some cs) = .rp cs 0 := rr
theorem getH_eq (e : Ent) : getH ((i, e) :: H) i = some e := by simp [getH]
theorem getH_ne {i j : Nat} (e : Ent) (h : i ≠ j) : getH ((i, e) :: H) j = getH H j := by simp [getH, h]
theorem setH_eq (e e' : Ent) : setH ((i, e) :: H) i e' = (i, e') :: H := by simp [setH]
theorem setH_ne {i j : Nat} (e e' : Ent) (h : i ≠ j) : setH ((i, e) :: H) j e' = (i, e) :: setH H j e' := by simp [setH, h]
theorem delH_eq (e : Ent) : delH ((i, e) :: H) i = H := by simp [delH]
theorem delH_ne {i j : Nat} (e : Ent) (h : i ≠ j) : delH ((i, e) :: H) j = (i, e) :: delH H j := by simp [delH, h]
theorem partL_t (sz off : Nat) : partL true sz off cs = .agg ((cs.drop off).take sz) := rr
theorem partL_f (sz off : Nat) : partL false sz off cs = cs.getD off .any := rr
theorem bin_add (k k' : IntKind) (a b : Int) : binQ .add (.int k a) (.int k' b) = (k = k', .int k (k.wrap (a + b))) := rr
theorem bin_sub (k k' : IntKind) (a b : Int) : binQ .sub (.int k a) (.int k' b) = (k = k', .int k (k.wrap (a - b))) := rr
theorem bin_mul (k k' : IntKind) (a b : Int) : binQ .mul (.int k a) (.int k' b) = (k = k', .int k (k.wrap (a * b))) := rr
theorem bin_quo (k k' : IntKind) (a b : Int) : binQ .quo (.int k a) (.int k' b) = (k = k' ∧ b ≠ 0, .int k (k.wrap (a.tdiv b))) := rr
theorem bin_rem (k k' : IntKind) (a b : Int) : binQ .rem (.int k a) (.int k' b) = (k = k' ∧ b ≠ 0, .int k (a.tmod b)) := rr
theorem bin_and (k k' : IntKind) (a b : Int) : binQ .and (.int k a) (.int k' b) = (k = k', .int k (bitop .and k a b)) := rr
theorem bin_or (k k' : IntKind) (a b : Int) : binQ .or (.int k a) (.int k' b) = (k = k', .int k (bitop .or k a b)) := rr
theorem bin_xor (k k' : IntKind) (a b : Int) : binQ .xor (.int k a) (.int k' b) = (k = k', .int k (bitop .xor k a b)) := rr
theorem bin_andNot (k k' : IntKind) (a b : Int) : binQ .andNot (.int k a) (.int k' b) = (k = k', .int k (bitop .andNot k a b)) := rr
theorem bin_shl (k k' : IntKind) (a b : Int) : binQ .shl (.int k a) (.int k' b) = (0 ≤ b, .int k (shl k a b)) := rr
theorem bin_shr (k k' : IntKind) (a b : Int) : binQ .shr (.int k a) (.int k' b) = (0 ≤ b, .int k (shr k a b)) := rr
theorem bin_eql (k k' : IntKind) (a b : Int) : binQ .eql (.int k a) (.int k' b) = (k = k', .bool (a == b)) := rr
theorem bin_neq (k k' : IntKind) (a b : Int) : binQ .neq (.int k a) (.int k' b) = (k = k', .bool (a != b)) := rr
theorem bin_lss (k k' : IntKind) (a b : Int) : binQ .lss (.int k a) (.int k' b) = (k = k', .bool (decide (a < b))) := rr
theorem bin_leq (k k' : IntKind) (a b : Int) : binQ .leq (.int k a) (.int k' b) = (k = k', .bool (decide (a ≤ b))) := rr
theorem bin_gtr (k k' : IntKind) (a b : Int) : binQ .gtr (.int k a) (.int k' b) = (k = k', .bool (decide (b < a))) := rr
theorem bin_geq (k k' : IntKind) (a b : Int) : binQ .geq (.int k a) (.int k' b) = (k = k', .bool (decide (b ≤ a))) := rr
theorem bin_sadd (a b : List UInt8) : binQ .add (.str a) (.str b) = (a.length + b.length ≤ 9223372036854775807, .str (a ++ b)) := rr
theorem bin_seql (a b : List UInt8) : binQ .eql (.str a) (.str b) = (True, .bool (a == b)) := rr
theorem bin_sneq (a b : List UInt8) : binQ .neq (.str a) (.str b) = (True, .bool (!(a == b))) := rr
theorem bin_slss (a b : List UInt8) : binQ .lss (.str a) (.str b) = (True, .bool (Op.bytesLess a b)) := rr
theorem bin_sleq (a b : List UInt8) : binQ .leq (.str a) (.str b) = (True, .bool (Op.bytesLess a b || a == b)) := rr
theorem bin_sgtr (a b : List UInt8) : binQ .gtr (.str a) (.str b) = (True, .bool (!(Op.bytesLess a b || a == b))) := rr
theorem bin_sgeq (a b : List UInt8) : binQ .geq (.str a) (.str b) = (True, .bool (!(Op.bytesLess a b))) := rr
theorem un_not (b : Bool) : unQ .not (.bool b) = (True, .bool (!b)) := rr
theorem un_neg (k : IntKind) (n : Int) : unQ .neg (.int k n) = (True, .int k (k.wrap (0 - n))) := rr
theorem un_xor (k : IntKind) (n : Int) : unQ .xor (.int k n) = (True, .int k (compl k n)) := rr
theorem load_rp (sz : Nat) (o : Nat) : loadQ g sz (.rp cs o) H = (o + sz ≤ cs.length, partL g sz o cs) := rr
theorem load_ptr (sz i b o : Nat) : loadQ g sz (.ptr i b o) H = loadE g sz b o (getH H i) := rr
theorem loadE_blk (sz b o b' : Nat) : loadE g sz b o (some (.blk b' cs)) = (b' = b ∧ o + sz ≤ cs.length, partL g sz o cs) := rr
theorem faddr_rp (f : Nat) (o : Nat) : faddrQ f (.rp cs o) = (True, .rp cs (o + f)) := rr
theorem faddr_ptr (f i b o : Nat) : faddrQ f (.ptr i b o) = (True, .ptr i b (o + f)) := rr
theorem fld_agg (sz o : Nat) : fldQ g sz o (.agg cs) = (o + sz ≤ cs.length, partL g sz o cs) := rr
theorem idx_int (k : IntKind) (n : Int) : idxI (.int k n) = (True, n) := rr
theorem iaA_rp (n sz : Nat) (o : Nat) (i : LV) : iaAQ n sz (.rp cs o) i = ((idxI i).1 ∧ 0 ≤ (idxI i).2 ∧ (idxI i).2 < n, .rp cs (o + (idxI i).2.toNat * sz)) := rr
theorem iaA_ptr (n sz j b o : Nat) (i : LV) : iaAQ n sz (.ptr j b o) i = ((idxI i).1 ∧ 0 ≤ (idxI i).2 ∧ (idxI i).2 < n, .ptr j b (o + (idxI i).2.toNat * sz)) := rr
theorem iaS_sl (sz : Nat) (s n : Nat) (i : LV) : iaSQ sz (.sl s n cs) i = ((idxI i).1 ∧ s = sz ∧ 0 ≤ (idxI i).2 ∧ (idxI i).2 < n, .rp cs ((idxI i).2.toNat * sz)) := rr
theorem lenL_sl (s n : Nat) : lenLQ (.sl s n cs) = (True, .int .i64 n) := rr
theorem iaS_fsl (sz : Nat) (s n : Nat) (i : LV) : iaSQ sz (.fsl s n cs) i = ((idxI i).1 ∧ s = sz ∧ 0 ≤ (idxI i).2 ∧ (idxI i).2 < n, .rp cs ((idxI i).2.toNat * sz)) := rr
theorem lenL_fsl (s n : Nat) : lenLQ (.fsl s n cs) = (True, .int .i64 n) := rr
theorem iaS_osl (sz : Nat) (j : Nat) (t : Tok) (s n : Nat) (i : LV) : iaSQ sz (.osl j t s n cs) i = ((idxI i).1 ∧ s = sz ∧ 0 ≤ (idxI i).2 ∧ (idxI i).2 < n, .rp cs ((idxI i).2.toNat * sz)) := rr
theorem lenL_osl (j : Nat) (t : Tok) (s n : Nat) : lenLQ (.osl j t s n cs) = (True, .int .i64 n) := rr
theorem iaS_msl (sz j s b o l c : Nat) (i : LV) : iaSQ sz (.msl j s b o l c) i = ((idxI i).1 ∧ s = sz ∧ 0 ≤ (idxI i).2 ∧ (idxI i).2 < l, .ptr j b (o + (idxI i).2.toNat * sz)) := rr
theorem lenL_msl (j s b o l c : Nat) : lenLQ (.msl j s b o l c) = (True, .int .i64 l) := rr
theorem cap_fsl (s n : Nat) : capQ (.fsl s n cs) = (True, .int .i64 n) := rr
theorem cap_msl (j s b o l c : Nat) : capQ (.msl j s b o l c) = (True, .int .i64 c) := rr
theorem len_str (s : List UInt8) : lenQ (.str s) = (True, .int .i64 s.length) := rr
theorem ixS_str (s : List UInt8) (i : LV) : ixSQ (.str s) i = ((idxI i).1 ∧ 0 ≤ (idxI i).2 ∧ (idxI i).2 < s.length, .int .u8 (s.getD (idxI i).2.toNat 0).toNat) := rr
theorem ixA_agg (n sz : Nat) (i : LV) : ixAQ g n sz (.agg cs) i = ((idxI i).1 ∧ 0 ≤ (idxI i).2 ∧ (idxI i).2 < n ∧ cs.length = n * sz, partL g sz ((idxI i).2.toNat * sz) cs) := rr
theorem ext_tup (vs : List LV) : extQ (.tup vs) i = (i < vs.length, vs.getD i .any) := rr
theorem nilc_ptr (i b o : Nat) : nilcQ (.ptr i b o) = (True, .ptr i b o) := rr
theorem nilc_rp (o : Nat) : nilcQ (.rp cs o) = (True, .rp cs o) := rr
theorem nilc_sl (a b : Nat) : nilcQ (.sl a b cs) = (True, .sl a b cs) := rr
theorem nilc_osl (t : Tok) (a b : Nat) : nilcQ (.osl i t a b cs) = (True, .osl i t a b cs) := rr
theorem nilc_fsl (a b : Nat) : nilcQ (.fsl a b cs) = (True, .fsl a b cs) := rr
theorem nilc_msl (i s b o l c : Nat) : nilcQ (.msl i s b o l c) = (True, .msl i s b o l c) := rr
theorem nilc_clo (f : Nat) : nilcQ (.clo f cs) = (True, .clo f cs) := rr
theorem nilc_fn (f : Nat) : nilcQ (.fn f) = (True, .fn f) := rr
theorem eqN_nn : eqNQ g .nil .nil = (True, .bool (!g)) := rr
theorem eqN_nptr (i b o : Nat) : eqNQ g .nil (.ptr i b o) = (True, .bool g) := rr
theorem eqN_ptrn (i b o : Nat) : eqNQ g (.ptr i b o) .nil = (True, .bool g) := rr
theorem eqN_nrp (o : Nat) : eqNQ g .nil (.rp cs o) = (True, .bool g) := rr
theorem eqN_rpn (o : Nat) : eqNQ g (.rp cs o) .nil = (True, .bool g) := rr
theorem eqB_bb (g a b : Bool) : eqBQ g (.bool a) (.bool b) = (True, .bool (if g then !(a == b) else a == b)) := rr
theorem eqS_aa (s : Nat) (ls : List (Nat × Nat)) (xs ys : List LV) : eqSQ g s ls (.agg xs) (.agg ys) = (xs.length = s ∧ ys.length = s ∧ (leavesQ xs ys ls).1, .bool (if g then !(leavesQ xs ys ls).2 else (leavesQ xs ys ls).2)) := rr
theorem leaves_nil (xs ys : List LV) : leavesQ xs ys [] = (True, true) := rr
theorem leaves_cons (xs ys : List LV) (i k : Nat) (r : List (Nat × Nat)) : leavesQ xs ys ((i, k) :: r) = ((leafQ k (xs.getD i .any) (ys.getD i .any)).1 ∧ (leavesQ xs ys r).1, (leafQ k (xs.getD i .any) (ys.getD i .any)).2 && (leavesQ xs ys r).2) := rr
theorem leaf_int (k : Nat) (k1 k2 : IntKind) (a b : Int) : leafQ k (.int k1 a) (.int k2 b) = (k = 1 ∧ k1 = k2, a == b) := rr
theorem leaf_str (k : Nat) (a b : List UInt8) : leafQ k (.str a) (.str b) = (k = 2, a == b) := rr
theorem leaf_bool (k : Nat) (a b : Bool) : leafQ k (.bool a) (.bool b) = (k = 0, a == b) := rr
theorem pick_000 (c a b : Bool) : pickQ (.bool c) (.bool a) (.bool b) = (True, .bool (cond c a b)) := by simp [pickQ, LV.v, LV.g]
theorem pick_001 (c a b g2 : Bool) : pickQ (.bool c) (.bool a) (.opt g2 (.bool b)) = ((c = false → g2 = true), .bool (cond c a b)) := by simp [pickQ, LV.v, LV.g]
theorem pick_010 (c a b g1 : Bool) : pickQ (.bool c) (.opt g1 (.bool a)) (.bool b) = ((c = true → g1 = true), .bool (cond c a b)) := by simp [pickQ, LV.v, LV.g]
theorem pick_011 (c a b g1 g2 : Bool) : pickQ (.bool c) (.opt g1 (.bool a)) (.opt g2 (.bool b)) = ((c = true → g1 = true) ∧ (c = false → g2 = true), .bool (cond c a b)) := by simp [pickQ, LV.v, LV.g]
theorem pick_100 (c a b g0 : Bool) : pickQ (.opt g0 (.bool c)) (.bool a) (.bool b) = (g0 = true, .bool (cond c a b)) := by simp [pickQ, LV.v, LV.g]
theorem pick_101 (c a b g0 g2 : Bool) : pickQ (.opt g0 (.bool c)) (.bool a) (.opt g2 (.bool b)) = (g0 = true ∧ (c = false → g2 = true), .bool (cond c a b)) := by simp [pickQ, LV.v, LV.g]
theorem pick_110 (c a b g0 g1 : Bool) : pickQ (.opt g0 (.bool c)) (.opt g1 (.bool a)) (.bool b) = (g0 = true ∧ (c = true → g1 = true), .bool (cond c a b)) := by simp [pickQ, LV.v, LV.g]
theorem pick_111 (c a b g0 g1 g2 : Bool) : pickQ (.opt g0 (.bool c)) (.opt g1 (.bool a)) (.opt g2 (.bool b)) = (g0 = true ∧ (c = true → g1 = true) ∧ (c = false → g2 = true), .bool (cond c a b)) := by simp [pickQ, LV.v, LV.g]
theorem conv_int (k k' : IntKind) (n : Int) : convQ k (.int k' n) = (True, .int k (k.wrap n)) := rr
theorem same_str (s : List UInt8) : sameQ (.str s) = (True, .str s) := rr
theorem b2s_sl (n : Nat) : b2sQ (.sl 1 n cs) H = (∀ c ∈ cs, isByte c = true, .str (cs.map toByte)) := rr
theorem b2s_fsl (n : Nat) : b2sQ (.fsl 1 n cs) H = (∀ c ∈ cs, isByte c = true, .str (cs.map toByte)) := rr
theorem b2s_osl (j : Nat) (t : Tok) (n : Nat) : b2sQ (.osl j t 1 n cs) H = (∀ c ∈ cs, isByte c = true, .str (cs.map toByte)) := rr
theorem b2s_msl (i b o l c : Nat) : b2sQ (.msl i 1 b o l c) H = b2sE b o l (getH H i) := rr
theorem b2sE_blk (b o l b' : Nat) : b2sE b o l (some (.blk b' cs)) = (b' = b ∧ o + l ≤ cs.length ∧ ∀ c ∈ (cs.drop o).take l, isByte c = true, .str (((cs.drop o).take l).map toByte)) := rr
theorem mm_nil (m : Bool) (x : LV) : mmQ m ρ x [] = (True, x) := rr
theorem mm_cons (m : Bool) (x : LV) (r : List X) : mmQ m ρ x (y :: r) = ((ρ y).g ∧ (mm2 m x (ρ y).v).1 ∧ (mmQ m ρ (mm2 m x (ρ y).v).2 r).1, (mmQ m ρ (mm2 m x (ρ y).v).2 r).2) := rr
theorem mm2_max (k k' : IntKind) (a b : Int) : mm2 true (.int k a) (.int k' b) = (k = k', .int k (if a < b then b else a)) := rr
theorem mm2_min (k k' : IntKind) (a b : Int) : mm2 false (.int k a) (.int k' b) = (k = k', .int k (if b < a then b else a)) := rr
theorem opt_none (d : Int) : optI ρ d none = (True, d) := rr
theorem opt_some (d : Int) : optI ρ d (some x) = optE (ρ x) := rr
theorem optE_int (k : IntKind) (n : Int) : optE (.int k n) = (True, n) := rr
theorem optE_opt (k : IntKind) (n : Int) : optE (.opt g (.int k n)) = (g = true, n) := rr
theorem slS_eq (s : List UInt8) (l h : Int) : slSQ s l h = (0 ≤ l ∧ l ≤ h ∧ h ≤ s.length, .str ((s.drop l.toNat).take (h.toNat - l.toNat))) := rr
theorem slL_sl (sz s n : Nat) (lo hi : Option X) : slLQ sz (.sl s n cs) lo hi none ρ = ((optI ρ 0 lo).1 ∧ (optI ρ n hi).1 ∧ s = sz ∧ 0 ≤ (optI ρ 0 lo).2 ∧ (optI ρ 0 lo).2 ≤ (optI ρ n hi).2 ∧ (optI ρ n hi).2 ≤ n, .sl sz ((optI ρ n hi).2.toNat - (optI ρ 0 lo).2.toNat) ((cs.drop ((optI ρ 0 lo).2.toNat * sz)).take (((optI ρ n hi).2.toNat - (optI ρ 0 lo).2.toNat) * sz))) := rr
theorem slL_fsl_lo (sz : Nat) (s n : Nat) : slLQ sz (.fsl s n cs) lo none none ρ = ((optI ρ 0 lo).1 ∧ s = sz ∧ 0 ≤ (optI ρ 0 lo).2 ∧ (optI ρ 0 lo).2 ≤ n, .fsl sz (n - (optI ρ 0 lo).2.toNat) (cs.drop ((optI ρ 0 lo).2.toNat * sz))) := rr
theorem slL_fsl_hi (sz : Nat) (s n : Nat) (h : X) : slLQ sz (.fsl s n cs) lo (some h) none ρ = ((optI ρ 0 lo).1 ∧ (optI ρ n (some h)).1 ∧ s = sz ∧ 0 ≤ (optI ρ 0 lo).2 ∧ (optI ρ 0 lo).2 ≤ (optI ρ n (some h)).2 ∧ (optI ρ n (some h)).2 ≤ n, .sl sz ((optI ρ n (some h)).2.toNat - (optI ρ 0 lo).2.toNat) ((cs.drop ((optI ρ 0 lo).2.toNat * sz)).take (((optI ρ n (some h)).2.toNat - (optI ρ 0 lo).2.toNat) * sz))) := rr
theorem slL_osl_lo (sz : Nat) (j : Nat) (t : Tok) (s n : Nat) : slLQ sz (.osl j t s n cs) lo none none ρ = ((optI ρ 0 lo).1 ∧ s = sz ∧ 0 ≤ (optI ρ 0 lo).2 ∧ (optI ρ 0 lo).2 ≤ n, .osl j t sz (n - (optI ρ 0 lo).2.toNat) (cs.drop ((optI ρ 0 lo).2.toNat * sz))) := rr
theorem slL_osl_hi (sz : Nat) (j : Nat) (t : Tok) (s n : Nat) (h : X) : slLQ sz (.osl j t s n cs) lo (some h) none ρ = ((optI ρ 0 lo).1 ∧ (optI ρ n (some h)).1 ∧ s = sz ∧ 0 ≤ (optI ρ 0 lo).2 ∧ (optI ρ 0 lo).2 ≤ (optI ρ n (some h)).2 ∧ (optI ρ n (some h)).2 ≤ n, .sl sz ((optI ρ n (some h)).2.toNat - (optI ρ 0 lo).2.toNat) ((cs.drop ((optI ρ 0 lo).2.toNat * sz)).take (((optI ρ n (some h)).2.toNat - (optI ρ 0 lo).2.toNat) * sz))) := rr
theorem slL_sl_mx (sz : Nat) (s n : Nat) (h m : X) : slLQ sz (.sl s n cs) lo (some h) (some m) ρ = ((optI ρ 0 lo).1 ∧ (optI ρ n (some h)).1 ∧ (optI ρ n (some m)).1 ∧ (some h).isSome ∧ s = sz ∧ 0 ≤ (optI ρ 0 lo).2 ∧ (optI ρ 0 lo).2 ≤ (optI ρ n (some h)).2 ∧ (optI ρ n (some h)).2 = (optI ρ n (some m)).2 ∧ (optI ρ n (some h)).2 ≤ n, .fsl sz ((optI ρ n (some h)).2.toNat - (optI ρ 0 lo).2.toNat) ((cs.drop ((optI ρ 0 lo).2.toNat * sz)).take (((optI ρ n (some h)).2.toNat - (optI ρ 0 lo).2.toNat) * sz))) := rr
theorem slL_fsl_mx (sz : Nat) (s n : Nat) (h m : X) : slLQ sz (.fsl s n cs) lo (some h) (some m) ρ = ((optI ρ 0 lo).1 ∧ (optI ρ n (some h)).1 ∧ (optI ρ n (some m)).1 ∧ (some h).isSome ∧ s = sz ∧ 0 ≤ (optI ρ 0 lo).2 ∧ (optI ρ 0 lo).2 ≤ (optI ρ n (some h)).2 ∧ (optI ρ n (some h)).2 = (optI ρ n (some m)).2 ∧ (optI ρ n (some h)).2 ≤ n, .fsl sz ((optI ρ n (some h)).2.toNat - (optI ρ 0 lo).2.toNat) ((cs.drop ((optI ρ 0 lo).2.toNat * sz)).take (((optI ρ n (some h)).2.toNat - (optI ρ 0 lo).2.toNat) * sz))) := rr
theorem slL_osl_mx (sz : Nat) (j : Nat) (t : Tok) (s n : Nat) (h m : X) : slLQ sz (.osl j t s n cs) lo (some h) (some m) ρ = ((optI ρ 0 lo).1 ∧ (optI ρ n (some h)).1 ∧ (optI ρ n (some m)).1 ∧ (some h).isSome ∧ s = sz ∧ 0 ≤ (optI ρ 0 lo).2 ∧ (optI ρ 0 lo).2 ≤ (optI ρ n (some h)).2 ∧ (optI ρ n (some h)).2 = (optI ρ n (some m)).2 ∧ (optI ρ n (some h)).2 ≤ n, .fsl sz ((optI ρ n (some h)).2.toNat - (optI ρ 0 lo).2.toNat) ((cs.drop ((optI ρ 0 lo).2.toNat * sz)).take (((optI ρ n (some h)).2.toNat - (optI ρ 0 lo).2.toNat) * sz))) := rr
theorem slL_msl (sz i s b o l c : Nat) (lo hi : Option X) : slLQ sz (.msl i s b o l c) lo hi none ρ = ((optI ρ 0 lo).1 ∧ (optI ρ l hi).1 ∧ s = sz ∧ 0 ≤ (optI ρ 0 lo).2 ∧ (optI ρ 0 lo).2 ≤ (optI ρ l hi).2 ∧ (optI ρ l hi).2 ≤ c, .msl i sz b (if c = (optI ρ 0 lo).2.toNat then o else o + (optI ρ 0 lo).2.toNat * sz) ((optI ρ l hi).2.toNat - (optI ρ 0 lo).2.toNat) (c - (optI ρ 0 lo).2.toNat)) := rr
theorem slL_msl3 (sz i s b o l c : Nat) (h m : X) : slLQ sz (.msl i s b o l c) lo (some h) (some m) ρ = ((optI ρ 0 lo).1 ∧ (optI ρ l (some h)).1 ∧ (optI ρ l (some m)).1 ∧ (some h).isSome ∧ s = sz ∧ 0 ≤ (optI ρ 0 lo).2 ∧ (optI ρ 0 lo).2 ≤ (optI ρ l (some h)).2 ∧ (optI ρ l (some h)).2 ≤ (optI ρ l (some m)).2 ∧ (optI ρ l (some m)).2 ≤ c, if (optI ρ l (some m)).2 = (optI ρ 0 lo).2 then .fsl sz 0 [] else .msl i sz b (o + (optI ρ 0 lo).2.toNat * sz) ((optI ρ l (some h)).2.toNat - (optI ρ 0 lo).2.toNat) ((optI ρ l (some m)).2.toNat - (optI ρ 0 lo).2.toNat)) := rr
theorem slA_ptr (n sz i b o : Nat) (lo hi : Option X) : slAQ n sz (.ptr i b o) lo hi none ρ = ((optI ρ 0 lo).1 ∧ (optI ρ n hi).1 ∧ 0 ≤ (optI ρ 0 lo).2 ∧ (optI ρ 0 lo).2 ≤ (optI ρ n hi).2 ∧ (optI ρ n hi).2 ≤ n ∧ (optI ρ 0 lo).2 < n, .msl i sz b (o + (optI ρ 0 lo).2.toNat * sz) ((optI ρ n hi).2.toNat - (optI ρ 0 lo).2.toNat) (n - (optI ρ 0 lo).2.toNat)) := rr
theorem slA_rp (n sz : Nat) (o : Nat) (lo hi : Option X) : slAQ n sz (.rp cs o) lo hi none ρ = ((optI ρ 0 lo).1 ∧ (optI ρ n hi).1 ∧ 0 ≤ (optI ρ 0 lo).2 ∧ (optI ρ 0 lo).2 ≤ (optI ρ n hi).2 ∧ (optI ρ n hi).2 ≤ n ∧ (optI ρ 0 lo).2 < n ∧ o + n * sz ≤ cs.length, .sl sz ((optI ρ n hi).2.toNat - (optI ρ 0 lo).2.toNat) ((cs.drop (o + (optI ρ 0 lo).2.toNat * sz)).take (((optI ρ n hi).2.toNat - (optI ρ 0 lo).2.toNat) * sz))) := rr
theorem fill_nil : fillL cs [] = some cs := rr
theorem fill_cons (o s : Nat) (x : LV) (r : List (Nat × Nat × LV)) : fillL cs ((o, s, x) :: r) = fillO cs o s (cellsL x) r := rr
theorem fillO_some {cs ds : List LV} {o s : Nat} (r : List (Nat × Nat × LV)) (h1 : ds.length = s) (h2 : o + ds.length ≤ cs.length) : fillO cs o s (some ds) r = fillL (splice cs ds o) r := by simp only [fillO]; rw [if_pos ⟨h1, h2⟩]
theorem fillQ_eq (ps : List (Nat × Nat × LV)) : fillQ z ps = fillE (fillL z ps) := rr
theorem fillE_some : fillE (some cs) = (True, cs) := rr
theorem gParts_nil : gParts ρ [] = True := by simp [gParts]
theorem gParts_cons (o s : Nat) (r : List (Nat × Nat × X)) : gParts ρ ((o, s, x) :: r) = ((ρ x).g ∧ gParts ρ r) := by simp [gParts]
theorem vParts_nil : vParts ρ [] = [] := rr
theorem vParts_cons (o s : Nat) (r : List (Nat × Nat × X)) : vParts ρ ((o, s, x) :: r) = (o, s, (ρ x).v) :: vParts ρ r := rr
theorem q_mov : q (.mov x) ρ H = ((ρ x).g, (ρ x).v) := rr
theorem q_pick (c a b : X) : q (.pick c a b) ρ H = pickQ (ρ c) (ρ a) (ρ b) := rr
theorem q_build (ps : List (Nat × Nat × X)) : q (.build z ps) ρ H = (gParts ρ ps ∧ (fillL z (vParts ρ ps)).isSome = true, .agg ((fillL z (vParts ρ ps)).getD [])) := rr
theorem q_load (s : Nat) : q (.load g s x) ρ H = ((ρ x).g ∧ (loadQ g s (ρ x).v H).1, (loadQ g s (ρ x).v H).2) := rr
theorem q_nilc : q (.nilc x) ρ H = ((ρ x).g ∧ (nilcQ (ρ x).v).1, (nilcQ (ρ x).v).2) := rr
theorem q_un (o : UnOp) : q (.un o x) ρ H = ((ρ x).g ∧ (unQ o (ρ x).v).1, (unQ o (ρ x).v).2) := rr
theorem q_conv (k : IntKind) : q (.conv k x) ρ H = ((ρ x).g ∧ (convQ k (ρ x).v).1, (convQ k (ρ x).v).2) := rr
theorem q_same : q (.same x) ρ H = ((ρ x).g ∧ (sameQ (ρ x).v).1, (sameQ (ρ x).v).2) := rr
theorem q_b2s : q (.b2s x) ρ H = ((ρ x).g ∧ (b2sQ (ρ x).v H).1, (b2sQ (ρ x).v H).2) := rr
theorem q_faddr (o : Nat) : q (.faddr o x) ρ H = ((ρ x).g ∧ (faddrQ o (ρ x).v).1, (faddrQ o (ρ x).v).2) := rr
theorem q_fld (s : Nat) (o : Nat) : q (.fld g s o x) ρ H = ((ρ x).g ∧ (fldQ g s o (ρ x).v).1, (fldQ g s o (ρ x).v).2) := rr
theorem q_ext : q (.ext x i) ρ H = ((ρ x).g ∧ (extQ (ρ x).v i).1, (extQ (ρ x).v i).2) := rr
theorem q_len : q (.len x) ρ H = ((ρ x).g ∧ (lenQ (ρ x).v).1, (lenQ (ρ x).v).2) := rr
theorem q_lenL : q (.lenL x) ρ H = ((ρ x).g ∧ (lenLQ (ρ x).v).1, (lenLQ (ρ x).v).2) := rr
theorem q_cap : q (.cap x) ρ H = ((ρ x).g ∧ (capQ (ρ x).v).1, (capQ (ρ x).v).2) := rr
theorem q_slL (s : Nat) : q (.slL s x lo hi mx) ρ H = ((ρ x).g ∧ (slLQ s (ρ x).v lo hi mx ρ).1, (slLQ s (ρ x).v lo hi mx ρ).2) := rr
theorem q_slA (n : Nat) (s : Nat) : q (.slA n s x lo hi mx) ρ H = ((ρ x).g ∧ (slAQ n s (ρ x).v lo hi mx ρ).1, (slAQ n s (ρ x).v lo hi mx ρ).2) := rr
theorem q_mm (m : Bool) (xs : List X) : q (.mm m x xs) ρ H = ((ρ x).g ∧ (mmQ m ρ (ρ x).v xs).1, (mmQ m ρ (ρ x).v xs).2) := rr
theorem q_bin (o : BinOp) : q (.bin o x y) ρ H = ((ρ x).g ∧ (ρ y).g ∧ (binQ o (ρ x).v (ρ y).v).1, (binQ o (ρ x).v (ρ y).v).2) := rr
theorem q_eqB : q (.eqB g x y) ρ H = ((ρ x).g ∧ (ρ y).g ∧ (eqBQ g (ρ x).v (ρ y).v).1, (eqBQ g (ρ x).v (ρ y).v).2) := rr
theorem q_eqN : q (.eqN g x y) ρ H = ((ρ x).g ∧ (ρ y).g ∧ (eqNQ g (ρ x).v (ρ y).v).1, (eqNQ g (ρ x).v (ρ y).v).2) := rr
theorem q_eqS (s : Nat) (ls : List (Nat × Nat)) : q (.eqS g s ls x y) ρ H = ((ρ x).g ∧ (ρ y).g ∧ (eqSQ g s ls (ρ x).v (ρ y).v).1, (eqSQ g s ls (ρ x).v (ρ y).v).2) := rr
theorem q_iaA (n : Nat) (s : Nat) : q (.iaA n s x y) ρ H = ((ρ x).g ∧ (ρ y).g ∧ (iaAQ n s (ρ x).v (ρ y).v).1, (iaAQ n s (ρ x).v (ρ y).v).2) := rr
theorem q_iaS (s : Nat) : q (.iaS s x y) ρ H = ((ρ x).g ∧ (ρ y).g ∧ (iaSQ s (ρ x).v (ρ y).v).1, (iaSQ s (ρ x).v (ρ y).v).2) := rr
theorem q_ixA (n : Nat) (s : Nat) : q (.ixA g n s x y) ρ H = ((ρ x).g ∧ (ρ y).g ∧ (ixAQ g n s (ρ x).v (ρ y).v).1, (ixAQ g n s (ρ x).v (ρ y).v).2) := rr
theorem q_ixS : q (.ixS x y) ρ H = ((ρ x).g ∧ (ρ y).g ∧ (ixSQ (ρ x).v (ρ y).v).1, (ixSQ (ρ x).v (ρ y).v).2) := rr
theorem q_lenA (n : Nat) : q (.lenA n) ρ H = (True, .int .i64 n) := rr
theorem q_mkf (f : Nat) (xs : List X) : q (.mkf f xs) ρ H = (∀ x ∈ xs, (ρ x).g, .clo f (xs.map fun x => (ρ x).v)) := rr
theorem q_slS (lo hi : Option X) : q (.slS x lo hi) ρ H = slSE (ρ x).g (ρ x).v lo hi ρ := rr
theorem slSE_str (g : Prop) (s : List UInt8) (lo hi : Option X) : slSE g (.str s) lo hi ρ = (g ∧ (optI ρ 0 lo).1 ∧ (optI ρ s.length hi).1 ∧ (slSQ s (optI ρ 0 lo).2 (optI ρ s.length hi).2).1, (slSQ s (optI ρ 0 lo).2 (optI ρ s.length hi).2).2) := rr
theorem gB_t (b : Bool) : gBool (.bool b) true = (True, b) := rr
theorem gB_f (b : Bool) : gBool (.bool b) false = (True, !b) := rr
theorem gBo_t (g b : Bool) : gBool (.opt g (.bool b)) true = (True, g && b) := rr
theorem gBo_f (g b : Bool) : gBool (.opt g (.bool b)) false = (True, g && !b) := rr
theorem quietG_eq (x : LV) (want : Bool) (p : Prop × LV) : quietG x want p = ((gBool x want).1 ∧ ((gBool x want).2 = true → p.1), .opt (gBool x want).2 p.2) := rr
theorem store_ptr (sz i b o : Nat) (y : LV) : storeQ sz (.ptr i b o) y H = stoE sz b o i H (getH H i) (cellsL y) := rr
theorem stoE_blk (sz b o i b' : Nat) (cs ds : List LV) : stoE sz b o i H (some (.blk b' cs)) (some ds) = (b' = b ∧ ds.length = sz ∧ o + ds.length ≤ cs.length, setH H i (.blk b' (splice cs ds o))) := rr
theorem appV_fsl (id sz bytes m s n : Nat) (cs ys : List LV) (K : LV → Heap → Prop) : appV id sz bytes m (.fsl s n cs) ys H K = (((s = sz ∨ n = 0) ∧ roomy (n + m) bytes) ∧ ∀ τ, K (.osl id τ sz (n + m) (cs ++ ys)) ((id, .tok τ) :: H)) := rr
theorem appV_osl (id sz bytes m i : Nat) (t : Tok) (s n : Nat) (cs ys : List LV) (K : LV → Heap → Prop) : appV id sz bytes m (.osl i t s n cs) ys H K = appO i t sz bytes s n m cs ys H K (getH H i) := rr
theorem appO_tok (t t' : Tok) (sz bytes s n m : Nat) (cs ys : List LV) (K : LV → Heap → Prop) : appO i t sz bytes s n m cs ys H K (some (.tok t')) = ((t' = t ∧ s = sz ∧ roomy (n + m) bytes) ∧ ∀ τ, K (.osl i τ sz (n + m) (cs ++ ys)) ((i, .tok τ) :: delH H i)) := rr
theorem appV_msl (id sz bytes m i s b off n cap : Nat) (ys : List LV) (K : LV → Heap → Prop) : appV id sz bytes m (.msl i s b off n cap) ys H K = appM i sz bytes s b off n cap m ys H (getH H i) K := rr
theorem appM_blk (i sz bytes s b off n cap m b' : Nat) (ys cs : List LV) (K : LV → Heap → Prop) : appM i sz bytes s b off n cap m ys H (some (.blk b' cs)) K = Either i (s = sz ∧ b' = b ∧ off = 0 ∧ n * sz ≤ cs.length ∧ cap * sz ≤ cs.length ∧ roomy (n + m) bytes ∧ ∀ b2 c2, n + m ≤ c2 → K (.msl i sz b2 0 (n + m) c2) ((i, .blk b2 (cs.take (n * sz) ++ ys ++ List.replicate ((c2 - (n + m)) * sz) .any)) :: delH H i)) (s = sz ∧ b' = b ∧ n + m ≤ cap ∧ off + n * sz + ys.length ≤ cs.length ∧ K (.msl i sz b off (n + m) cap) (setH H i (.blk b (splice cs ys (off + n * sz))))) := rr
theorem appZ_int (bytes : Nat) (n : Int) : appZQ bytes (.int .i64 n) = (0 ≤ n ∧ n < 2 ^ 63 ∧ n * bytes ≤ 2 ^ 48, n.toNat) := rr
theorem copyV_msl (sz m i s b off n c : Nat) (ys : List LV) (K : LV → Heap → Prop) : copyV sz m (.msl i s b off n c) ys H K = (s = sz ∧ copyE i sz b off n m ys H (getH H i) K) := rr
theorem copyV_fsl (sz m s n : Nat) (cs ys : List LV) (K : LV → Heap → Prop) : copyV sz m (.fsl s n cs) ys H K = (n = 0 ∧ K (.int .i64 0) H) := rr
theorem copyE_blk (i sz b off n m b' : Nat) (ys cs : List LV) (K : LV → Heap → Prop) : copyE i sz b off n m ys H (some (.blk b' cs)) K = ((b' = b ∧ off + n * sz ≤ cs.length) ∧ K (.int .i64 (min m n : Nat)) (setH H i (.blk b (splice cs (ys.take (min m n * sz)) off)))) := rr
theorem clearV_msl (sz i s b off n c : Nat) (K : LV → Heap → Prop) : clearV sz z (.msl i s b off n c) H K = (s = sz ∧ clearE i sz z b off n H (getH H i) K) := rr
theorem clearV_fsl (sz s n : Nat) (z cs : List LV) (K : LV → Heap → Prop) : clearV sz z (.fsl s n cs) H K = (n = 0 ∧ K (.tup []) H) := rr
theorem clearE_blk (i sz b off n b' : Nat) (z cs : List LV) (K : LV → Heap → Prop) : clearE i sz z b off n H (some (.blk b' cs)) K = ((b' = b ∧ off + n * sz ≤ cs.length) ∧ K (.tup []) (setH H i (.blk b (splice cs (zeros z (n * sz)) off)))) := rr
theorem isNil_sl (neg : Bool) (s n : Nat) (K : LV → Heap → Prop) : isNilV neg (.sl s n cs) H K = ∀ r : Bool, (r = true → n = 0) → K (.bool (r != neg)) H := rr
theorem isNil_fsl (neg : Bool) (s n : Nat) (K : LV → Heap → Prop) : isNilV neg (.fsl s n cs) H K = ∀ r : Bool, (r = true → n = 0) → K (.bool (r != neg)) H := rr
theorem isNil_osl (neg : Bool) (j : Nat) (t : Tok) (s n : Nat) (K : LV → Heap → Prop) : isNilV neg (.osl j t s n cs) H K = ∀ r : Bool, (r = true → n = 0) → K (.bool (r != neg)) H := rr
theorem isNil_msl (neg : Bool) (i s b o n c : Nat) (K : LV → Heap → Prop) : isNilV neg (.msl i s b o n c) H K = ∀ r : Bool, (r = true → n = 0) → K (.bool (r != neg)) H := rr
theorem callee_clo (f : Nat) : calleeQ (.clo f cs) = (True, f, cs) := rr
theorem callee_fn (f : Nat) : calleeQ (.fn f) = (True, f, []) := rr
theorem el_sl (sz : Nat) (s m : Nat) (ys : List LV) : elems sz (.sl s m ys) H = (s = sz ∨ m = 0, m, ys) := rr
theorem el_fsl (sz : Nat) (s m : Nat) (ys : List LV) : elems sz (.fsl s m ys) H = (s = sz ∨ m = 0, m, ys) := rr
theorem el_osl (sz : Nat) (j : Nat) (t : Tok) (s m : Nat) (ys : List LV) : elems sz (.osl j t s m ys) H = (s = sz ∨ m = 0, m, ys) := rr
theorem el_str (sz : Nat) (s : List UInt8) : elems sz (.str s) H = (sz = 1, s.length, s.map fun u => .int .u8 u.toNat) := rr
theorem el_msl (sz i s b o l c : Nat) : elems sz (.msl i s b o l c) H = elE sz s b o l (getH H i) := rr
theorem elE_blk (sz s b o l b' : Nat) : elE sz s b o l (some (.blk b' cs)) = (s = sz ∧ b' = b ∧ o + l * sz ≤ cs.length, l, (cs.drop o).take (l * sz)) := rr
theorem str_str (s : List UInt8) : strQ (.str s) = (True, s) := rr
theorem make_ii (sz bytes : Nat) (l c : Int) : makeQ sz bytes z (.int .i64 l) (.int .i64 c) = (0 ≤ l ∧ l ≤ c ∧ c < 2 ^ 63 ∧ c * bytes ≤ 2 ^ 48 ∧ z.length = sz, l.toNat, c.toNat) := rr
theorem x_nil : execL P gl [] K env tmp H = K env H := rr
theorem d_nil : execE P gl [] K lg env tmp H = K env H := rr
theorem x_qT_mov (r : List LOper) : execL P gl (⟨some d, true, none, (.mov x)⟩ :: r) K env tmp H = Bd (q (.mov x) (ev gl env tmp) H) (kT (execL P gl r K) d env tmp H) := rr
theorem x_gT_mov (r : List LOper) : execL P gl (⟨some d, true, some (sg, wt), (.mov x)⟩ :: r) K env tmp H = Bd (quietG ((ev gl env tmp) sg) wt (q (.mov x) (ev gl env tmp) H)) (kT (execL P gl r K) d env tmp H) := rr
theorem x_qT_pick (c a b : X) (r : List LOper) : execL P gl (⟨some d, true, none, (.pick c a b)⟩ :: r) K env tmp H = Bd (q (.pick c a b) (ev gl env tmp) H) (kT (execL P gl r K) d env tmp H) := rr
theorem x_gT_pick (c a b : X) (r : List LOper) : execL P gl (⟨some d, true, some (sg, wt), (.pick c a b)⟩ :: r) K env tmp H = Bd (quietG ((ev gl env tmp) sg) wt (q (.pick c a b) (ev gl env tmp) H)) (kT (execL P gl r K) d env tmp H) := rr
theorem x_qT_build (ps : List (Nat × Nat × X)) (r : List LOper) : execL P gl (⟨some d, true, none, (.build z ps)⟩ :: r) K env tmp H = Bd (q (.build z ps) (ev gl env tmp) H) (kT (execL P gl r K) d env tmp H) := rr
theorem x_gT_build (ps : List (Nat × Nat × X)) (r : List LOper) : execL P gl (⟨some d, true, some (sg, wt), (.build z ps)⟩ :: r) K env tmp H = Bd (quietG ((ev gl env tmp) sg) wt (q (.build z ps) (ev gl env tmp) H)) (kT (execL P gl r K) d env tmp H) := rr
theorem x_qT_load (s : Nat) (r : List LOper) : execL P gl (⟨some d, true, none, (.load g s x)⟩ :: r) K env tmp H = Bd (q (.load g s x) (ev gl env tmp) H) (kT (execL P gl r K) d env tmp H) := rr
theorem x_gT_load (s : Nat) (r : List LOper) : execL P gl (⟨some d, true, some (sg, wt), (.load g s x)⟩ :: r) K env tmp H = Bd (quietG ((ev gl env tmp) sg) wt (q (.load g s x) (ev gl env tmp) H)) (kT (execL P gl r K) d env tmp H) := rr
theorem x_qT_nilc (r : List LOper) : execL P gl (⟨some d, true, none, (.nilc x)⟩ :: r) K env tmp H = Bd (q (.nilc x) (ev gl env tmp) H) (kT (execL P gl r K) d env tmp H) := rr
theorem x_gT_nilc (r : List LOper) : execL P gl (⟨some d, true, some (sg, wt), (.nilc x)⟩ :: r) K env tmp H = Bd (quietG ((ev gl env tmp) sg) wt (q (.nilc x) (ev gl env tmp) H)) (kT (execL P gl r K) d env tmp H) := rr
theorem x_qT_un (o : UnOp) (r : List LOper) : execL P gl (⟨some d, true, none, (.un o x)⟩ :: r) K env tmp H = Bd (q (.un o x) (ev gl env tmp) H) (kT (execL P gl r K) d env tmp H) := rr
theorem x_gT_un (o : UnOp) (r : List LOper) : execL P gl (⟨some d, true, some (sg, wt), (.un o x)⟩ :: r) K env tmp H = Bd (quietG ((ev gl env tmp) sg) wt (q (.un o x) (ev gl env tmp) H)) (kT (execL P gl r K) d env tmp H) := rr
theorem x_qT_conv (k : IntKind) (r : List LOper) : execL P gl (⟨some d, true, none, (.conv k x)⟩ :: r) K env tmp H = Bd (q (.conv k x) (ev gl env tmp) H) (kT (execL P gl r K) d env tmp H) := rr
theorem x_gT_conv (k : IntKind) (r : List LOper) : execL P gl (⟨some d, true, some (sg, wt), (.conv k x)⟩ :: r) K env tmp H = Bd (quietG ((ev gl env tmp) sg) wt (q (.conv k x) (ev gl env tmp) H)) (kT (execL P gl r K) d env tmp H) := rr
theorem x_qT_same (r : List LOper) : execL P gl (⟨some d, true, none, (.same x)⟩ :: r) K env tmp H = Bd (q (.same x) (ev gl env tmp) H) (kT (execL P gl r K) d env tmp H) := rr
theorem x_gT_same (r : List LOper) : execL P gl (⟨some d, true, some (sg, wt), (.same x)⟩ :: r) K env tmp H = Bd (quietG ((ev gl env tmp) sg) wt (q (.same x) (ev gl env tmp) H)) (kT (execL P gl r K) d env tmp H) := rr
theorem x_qT_b2s (r : List LOper) : execL P gl (⟨some d, true, none, (.b2s x)⟩ :: r) K env tmp H = Bd (q (.b2s x) (ev gl env tmp) H) (kT (execL P gl r K) d env tmp H) := rr
theorem x_gT_b2s (r : List LOper) : execL P gl (⟨some d, true, some (sg, wt), (.b2s x)⟩ :: r) K env tmp H = Bd (quietG ((ev gl env tmp) sg) wt (q (.b2s x) (ev gl env tmp) H)) (kT (execL P gl r K) d env tmp H) := rr
theorem x_qT_faddr (o : Nat) (r : List LOper) : execL P gl (⟨some d, true, none, (.faddr o x)⟩ :: r) K env tmp H = Bd (q (.faddr o x) (ev gl env tmp) H) (kT (execL P gl r K) d env tmp H) := rr
theorem x_gT_faddr (o : Nat) (r : List LOper) : execL P gl (⟨some d, true, some (sg, wt), (.faddr o x)⟩ :: r) K env tmp H = Bd (quietG ((ev gl env tmp) sg) wt (q (.faddr o x) (ev gl env tmp) H)) (kT (execL P gl r K) d env tmp H) := rr
theorem x_qT_fld (s : Nat) (o : Nat) (r : List LOper) : execL P gl (⟨some d, true, none, (.fld g s o x)⟩ :: r) K env tmp H = Bd (q (.fld g s o x) (ev gl env tmp) H) (kT (execL P gl r K) d env tmp H) := rr
theorem x_gT_fld (s : Nat) (o : Nat) (r : List LOper) : execL P gl (⟨some d, true, some (sg, wt), (.fld g s o x)⟩ :: r) K env tmp H = Bd (quietG ((ev gl env tmp) sg) wt (q (.fld g s o x) (ev gl env tmp) H)) (kT (execL P gl r K) d env tmp H) := rr
theorem x_qT_ext (ix : Nat) (r : List LOper) : execL P gl (⟨some d, true, none, (.ext x ix)⟩ :: r) K env tmp H = Bd (q (.ext x ix) (ev gl env tmp) H) (kT (execL P gl r K) d env tmp H) := rr
theorem x_gT_ext (ix : Nat) (r : List LOper) : execL P gl (⟨some d, true, some (sg, wt), (.ext x ix)⟩ :: r) K env tmp H = Bd (quietG ((ev gl env tmp) sg) wt (q (.ext x ix) (ev gl env tmp) H)) (kT (execL P gl r K) d env tmp H) := rr
theorem x_qT_len (r : List LOper) : execL P gl (⟨some d, true, none, (.len x)⟩ :: r) K env tmp H = Bd (q (.len x) (ev gl env tmp) H) (kT (execL P gl r K) d env tmp H) := rr
theorem x_gT_len (r : List LOper) : execL P gl (⟨some d, true, some (sg, wt), (.len x)⟩ :: r) K env tmp H = Bd (quietG ((ev gl env tmp) sg) wt (q (.len x) (ev gl env tmp) H)) (kT (execL P gl r K) d env tmp H) := rr
theorem x_qT_lenL (r : List LOper) : execL P gl (⟨some d, true, none, (.lenL x)⟩ :: r) K env tmp H = Bd (q (.lenL x) (ev gl env tmp) H) (kT (execL P gl r K) d env tmp H) := rr
theorem x_gT_lenL (r : List LOper) : execL P gl (⟨some d, true, some (sg, wt), (.lenL x)⟩ :: r) K env tmp H = Bd (quietG ((ev gl env tmp) sg) wt (q (.lenL x) (ev gl env tmp) H)) (kT (execL P gl r K) d env tmp H) := rr
theorem x_qT_cap (r : List LOper) : execL P gl (⟨some d, true, none, (.cap x)⟩ :: r) K env tmp H = Bd (q (.cap x) (ev gl env tmp) H) (kT (execL P gl r K) d env tmp H) := rr
theorem x_gT_cap (r : List LOper) : execL P gl (⟨some d, true, some (sg, wt), (.cap x)⟩ :: r) K env tmp H = Bd (quietG ((ev gl env tmp) sg) wt (q (.cap x) (ev gl env tmp) H)) (kT (execL P gl r K) d env tmp H) := rr
theorem x_qT_slL (s : Nat) (r : List LOper) : execL P gl (⟨some d, true, none, (.slL s x lo hi mx)⟩ :: r) K env tmp H = Bd (q (.slL s x lo hi mx) (ev gl env tmp) H) (kT (execL P gl r K) d env tmp H) := rr
theorem x_gT_slL (s : Nat) (r : List LOper) : execL P gl (⟨some d, true, some (sg, wt), (.slL s x lo hi mx)⟩ :: r) K env tmp H = Bd (quietG ((ev gl env tmp) sg) wt (q (.slL s x lo hi mx) (ev gl env tmp) H)) (kT (execL P gl r K) d env tmp H) := rr
theorem x_qT_slA (n : Nat) (s : Nat) (r : List LOper) : execL P gl (⟨some d, true, none, (.slA n s x lo hi mx)⟩ :: r) K env tmp H = Bd (q (.slA n s x lo hi mx) (ev gl env tmp) H) (kT (execL P gl r K) d env tmp H) := rr
theorem x_gT_slA (n : Nat) (s : Nat) (r : List LOper) : execL P gl (⟨some d, true, some (sg, wt), (.slA n s x lo hi mx)⟩ :: r) K env tmp H = Bd (quietG ((ev gl env tmp) sg) wt (q (.slA n s x lo hi mx) (ev gl env tmp) H)) (kT (execL P gl r K) d env tmp H) := rr
theorem x_qT_mm (m : Bool) (xs : List X) (r : List LOper) : execL P gl (⟨some d, true, none, (.mm m x xs)⟩ :: r) K env tmp H = Bd (q (.mm m x xs) (ev gl env tmp) H) (kT (execL P gl r K) d env tmp H) := rr
theorem x_gT_mm (m : Bool) (xs : List X) (r : List LOper) : execL P gl (⟨some d, true, some (sg, wt), (.mm m x xs)⟩ :: r) K env tmp H = Bd (quietG ((ev gl env tmp) sg) wt (q (.mm m x xs) (ev gl env tmp) H)) (kT (execL P gl r K) d env tmp H) := rr
theorem x_qT_bin (o : BinOp) (r : List LOper) : execL P gl (⟨some d, true, none, (.bin o x y)⟩ :: r) K env tmp H = Bd (q (.bin o x y) (ev gl env tmp) H) (kT (execL P gl r K) d env tmp H) := rr
theorem x_gT_bin (o : BinOp) (r : List LOper) : execL P gl (⟨some d, true, some (sg, wt), (.bin o x y)⟩ :: r) K env tmp H = Bd (quietG ((ev gl env tmp) sg) wt (q (.bin o x y) (ev gl env tmp) H)) (kT (execL P gl r K) d env tmp H) := rr
theorem x_qT_eqB (r : List LOper) : execL P gl (⟨some d, true, none, (.eqB g x y)⟩ :: r) K env tmp H = Bd (q (.eqB g x y) (ev gl env tmp) H) (kT (execL P gl r K) d env tmp H) := rr
theorem x_gT_eqB (r : List LOper) : execL P gl (⟨some d, true, some (sg, wt), (.eqB g x y)⟩ :: r) K env tmp H = Bd (quietG ((ev gl env tmp) sg) wt (q (.eqB g x y) (ev gl env tmp) H)) (kT (execL P gl r K) d env tmp H) := rr
theorem x_qT_eqN (r : List LOper) : execL P gl (⟨some d, true, none, (.eqN g x y)⟩ :: r) K env tmp H = Bd (q (.eqN g x y) (ev gl env tmp) H) (kT (execL P gl r K) d env tmp H) := rr
theorem x_gT_eqN (r : List LOper) : execL P gl (⟨some d, true, some (sg, wt), (.eqN g x y)⟩ :: r) K env tmp H = Bd (quietG ((ev gl env tmp) sg) wt (q (.eqN g x y) (ev gl env tmp) H)) (kT (execL P gl r K) d env tmp H) := rr
theorem x_qT_eqS (s : Nat) (ls : List (Nat × Nat)) (r : List LOper) : execL P gl (⟨some d, true, none, (.eqS g s ls x y)⟩ :: r) K env tmp H = Bd (q (.eqS g s ls x y) (ev gl env tmp) H) (kT (execL P gl r K) d env tmp H) := rr
theorem x_gT_eqS (s : Nat) (ls : List (Nat × Nat)) (r : List LOper) : execL P gl (⟨some d, true, some (sg, wt), (.eqS g s ls x y)⟩ :: r) K env tmp H = Bd (quietG ((ev gl env tmp) sg) wt (q (.eqS g s ls x y) (ev gl env tmp) H)) (kT (execL P gl r K) d env tmp H) := rr
theorem x_qT_iaA (n : Nat) (s : Nat) (r : List LOper) : execL P gl (⟨some d, true, none, (.iaA n s x y)⟩ :: r) K env tmp H = Bd (q (.iaA n s x y) (ev gl env tmp) H) (kT (execL P gl r K) d env tmp H) := rr
theorem x_gT_iaA (n : Nat) (s : Nat) (r : List LOper) : execL P gl (⟨some d, true, some (sg, wt), (.iaA n s x y)⟩ :: r) K env tmp H = Bd (quietG ((ev gl env tmp) sg) wt (q (.iaA n s x y) (ev gl env tmp) H)) (kT (execL P gl r K) d env tmp H) := rr
theorem x_qT_iaS (s : Nat) (r : List LOper) : execL P gl (⟨some d, true, none, (.iaS s x y)⟩ :: r) K env tmp H = Bd (q (.iaS s x y) (ev gl env tmp) H) (kT (execL P gl r K) d env tmp H) := rr
theorem x_gT_iaS (s : Nat) (r : List LOper) : execL P gl (⟨some d, true, some (sg, wt), (.iaS s x y)⟩ :: r) K env tmp H = Bd (quietG ((ev gl env tmp) sg) wt (q (.iaS s x y) (ev gl env tmp) H)) (kT (execL P gl r K) d env tmp H) := rr
theorem x_qT_ixA (n : Nat) (s : Nat) (r : List LOper) : execL P gl (⟨some d, true, none, (.ixA g n s x y)⟩ :: r) K env tmp H = Bd (q (.ixA g n s x y) (ev gl env tmp) H) (kT (execL P gl r K) d env tmp H) := rr
theorem x_gT_ixA (n : Nat) (s : Nat) (r : List LOper) : execL P gl (⟨some d, true, some (sg, wt), (.ixA g n s x y)⟩ :: r) K env tmp H = Bd (quietG ((ev gl env tmp) sg) wt (q (.ixA g n s x y) (ev gl env tmp) H)) (kT (execL P gl r K) d env tmp H) := rr
theorem x_qT_ixS (r : List LOper) : execL P gl (⟨some d, true, none, (.ixS x y)⟩ :: r) K env tmp H = Bd (q (.ixS x y) (ev gl env tmp) H) (kT (execL P gl r K) d env tmp H) := rr
theorem x_gT_ixS (r : List LOper) : execL P gl (⟨some d, true, some (sg, wt), (.ixS x y)⟩ :: r) K env tmp H = Bd (quietG ((ev gl env tmp) sg) wt (q (.ixS x y) (ev gl env tmp) H)) (kT (execL P gl r K) d env tmp H) := rr
theorem x_qT_lenA (n : Nat) (r : List LOper) : execL P gl (⟨some d, true, none, (.lenA n)⟩ :: r) K env tmp H = Bd (q (.lenA n) (ev gl env tmp) H) (kT (execL P gl r K) d env tmp H) := rr
theorem x_gT_lenA (n : Nat) (r : List LOper) : execL P gl (⟨some d, true, some (sg, wt), (.lenA n)⟩ :: r) K env tmp H = Bd (quietG ((ev gl env tmp) sg) wt (q (.lenA n) (ev gl env tmp) H)) (kT (execL P gl r K) d env tmp H) := rr
theorem x_qT_mkf (f : Nat) (xs : List X) (r : List LOper) : execL P gl (⟨some d, true, none, (.mkf f xs)⟩ :: r) K env tmp H = Bd (q (.mkf f xs) (ev gl env tmp) H) (kT (execL P gl r K) d env tmp H) := rr
theorem x_gT_mkf (f : Nat) (xs : List X) (r : List LOper) : execL P gl (⟨some d, true, some (sg, wt), (.mkf f xs)⟩ :: r) K env tmp H = Bd (quietG ((ev gl env tmp) sg) wt (q (.mkf f xs) (ev gl env tmp) H)) (kT (execL P gl r K) d env tmp H) := rr
theorem x_qT_slS (lo hi : Option X) (r : List LOper) : execL P gl (⟨some d, true, none, (.slS x lo hi)⟩ :: r) K env tmp H = Bd (q (.slS x lo hi) (ev gl env tmp) H) (kT (execL P gl r K) d env tmp H) := rr
theorem x_gT_slS (lo hi : Option X) (r : List LOper) : execL P gl (⟨some d, true, some (sg, wt), (.slS x lo hi)⟩ :: r) K env tmp H = Bd (quietG ((ev gl env tmp) sg) wt (q (.slS x lo hi) (ev gl env tmp) H)) (kT (execL P gl r K) d env tmp H) := rr
theorem x_boxT (r : List LOper) : execL P gl (⟨some d, true, none, .box x⟩ :: r) K env tmp H = Bd (((ev gl env tmp) x).g ∧ (cellsQ ((ev gl env tmp) x).v).1, (cellsQ ((ev gl env tmp) x).v).2) (kBT (execL P gl r K) d env tmp H) := rr
theorem x_zeroT (r : List LOper) : execL P gl (⟨some d, true, none, .zero cs⟩ :: r) K env tmp H = ∀ b, (kcT (execL P gl r K) d env tmp) (.ptr d b 0) ((d, .blk b cs) :: H) := rr
theorem x_makeT (sz bytes : Nat) (l c : X) (r : List LOper) : execL P gl (⟨some d, true, none, .make sz bytes z l c⟩ :: r) K env tmp H = Bd (((ev gl env tmp) l).g ∧ ((ev gl env tmp) c).g ∧ (makeQ sz bytes z ((ev gl env tmp) l).v ((ev gl env tmp) c).v).1, (makeQ sz bytes z ((ev gl env tmp) l).v ((ev gl env tmp) c).v).2) (kM d sz z H (kcT (execL P gl r K) d env tmp)) := rr
theorem x_appT (sz bytes : Nat) (x y : X) (r : List LOper) : execL P gl (⟨some d, true, none, .app sz bytes x y⟩ :: r) K env tmp H = Bd (((ev gl env tmp) x).g ∧ ((ev gl env tmp) y).g ∧ (elems sz ((ev gl env tmp) y).v H).1, (elems sz ((ev gl env tmp) y).v H).2) (kA d sz bytes ((ev gl env tmp) x).v H (kcT (execL P gl r K) d env tmp)) := rr
theorem x_appFT (sz bytes : Nat) (x y : X) (r : List LOper) : execL P gl (⟨some d, true, none, .appF sz bytes x y⟩ :: r) K env tmp H = Bd (((ev gl env tmp) x).g ∧ ((ev gl env tmp) y).g ∧ (elems sz ((ev gl env tmp) y).v H).1, (elems sz ((ev gl env tmp) y).v H).2) (kAF d sz bytes ((ev gl env tmp) x).v H (kcT (execL P gl r K) d env tmp)) := rr
theorem x_appZT (sz bytes : Nat) (x y : X) (r : List LOper) : execL P gl (⟨some d, true, none, .appZ sz bytes z x y⟩ :: r) K env tmp H = Bd (((ev gl env tmp) x).g ∧ ((ev gl env tmp) y).g ∧ (appZQ bytes ((ev gl env tmp) y).v).1, (appZQ bytes ((ev gl env tmp) y).v).2) (kZ d sz bytes z ((ev gl env tmp) x).v H (kcT (execL P gl r K) d env tmp)) := rr
theorem x_copyT (sz : Nat) (x y : X) (r : List LOper) : execL P gl (⟨some d, true, none, .copy sz x y⟩ :: r) K env tmp H = Bd (((ev gl env tmp) x).g ∧ ((ev gl env tmp) y).g ∧ (elems sz ((ev gl env tmp) y).v H).1, (elems sz ((ev gl env tmp) y).v H).2) (kY sz ((ev gl env tmp) x).v H (kcT (execL P gl r K) d env tmp)) := rr
theorem x_clearT (sz : Nat) (r : List LOper) : execL P gl (⟨some d, true, none, .clear sz z x⟩ :: r) K env tmp H = (((ev gl env tmp) x).g ∧ clearV sz z ((ev gl env tmp) x).v H (kcT (execL P gl r K) d env tmp)) := rr
theorem x_mkMapT  (r : List LOper) : execL P gl (⟨some d, true, none, .mkMap⟩ :: r) K env tmp H = ∀ b, (kcT (execL P gl r K) d env tmp) (.raw (.map (some b))) ((d, .map b []) :: H) := rr
theorem x_lookT (ok : Bool) (kt : Nat) (z : LV) (x ky : X) (r : List LOper) : execL P gl (⟨some d, true, none, .look ok kt z x ky⟩ :: r) K env tmp H = (((ev gl env tmp) x).g ∧ ((ev gl env tmp) ky).g ∧ lookV P kt ok z ((ev gl env tmp) ky).v ((ev gl env tmp) x).v H (kcT (execL P gl r K) d env tmp)) := rr
theorem x_lookGT (ok : Bool) (kt : Nat) (z : LV) (x ky sg : X) (r : List LOper) : execL P gl (⟨some d, true, some (sg, wt), .look ok kt z x ky⟩ :: r) K env tmp H = Branch (gBool ((ev gl env tmp) sg) wt) (Susp (kLk P kt ok z ((ev gl env tmp) x) ((ev gl env tmp) ky) (kcT (execL P gl r K) d env tmp)) [] H) (Susp (kLn (kcT (execL P gl r K) d env tmp)) [] H) := rr
theorem x_isNilT (neg : Bool) (r : List LOper) : execL P gl (⟨some d, true, none, .isNil neg x⟩ :: r) K env tmp H = (((ev gl env tmp) x).g ∧ isNilV neg ((ev gl env tmp) x).v H (kcT (execL P gl r K) d env tmp)) := rr
theorem x_mkST (d sz m : Nat) (ps : List (Nat × Nat × X)) (r : List LOper) : execL P gl (⟨some d, true, none, .mkS sz m z ps⟩ :: r) K env tmp H = Bd (gParts (ev gl env tmp) ps ∧ z.length = sz ∧ (fillQ (zeros z (m * sz)) (vParts (ev gl env tmp) ps)).1, (fillQ (zeros z (m * sz)) (vParts (ev gl env tmp) ps)).2) (kS sz m (kT (execL P gl r K) d env tmp H)) := rr
theorem x_mkNT (d sz m : Nat) (ps : List (Nat × Nat × X)) (r : List LOper) : execL P gl (⟨some d, true, none, .mkN sz m z ps⟩ :: r) K env tmp H = Bd (gParts (ev gl env tmp) ps ∧ z.length = sz ∧ (fillQ (zeros z (m * sz)) (vParts (ev gl env tmp) ps)).1, (fillQ (zeros z (m * sz)) (vParts (ev gl env tmp) ps)).2) (kN sz m (kT (execL P gl r K) d env tmp H)) := rr
theorem x_cvST (r : List LOper) : execL P gl (⟨some d, true, none, .cvS x⟩ :: r) K env tmp H = Bd (((ev gl env tmp) x).g ∧ (cvQ ((ev gl env tmp) x).v).1, (cvQ ((ev gl env tmp) x).v).2) (kT (execL P gl r K) d env tmp H) := rr
theorem x_s2bT (r : List LOper) : execL P gl (⟨some d, true, none, .s2b x⟩ :: r) K env tmp H = Bd (((ev gl env tmp) x).g ∧ (strQ ((ev gl env tmp) x).v).1, (strQ ((ev gl env tmp) x).v).2) (kX d H (kcT (execL P gl r K) d env tmp)) := rr
theorem x_callT (f : Nat) (as : List X) (r : List LOper) : execL P gl (⟨some d, true, none, .call f as⟩ :: r) K env tmp H = Bd (∀ x ∈ as, ((ev gl env tmp) x).g, as.map fun x => ((ev gl env tmp) x).v) (kC P gl f H (kvT gl (execL P gl r K) d env tmp)) := rr
theorem x_callVT (as : List X) (r : List LOper) : execL P gl (⟨some d, true, none, .callV x as⟩ :: r) K env tmp H = Bd (((ev gl env tmp) x).g ∧ (∀ y ∈ as, ((ev gl env tmp) y).g) ∧ (calleeQ ((ev gl env tmp) x).v).1, (calleeQ ((ev gl env tmp) x).v).2.1, (as.map fun y => ((ev gl env tmp) y).v) ++ (calleeQ ((ev gl env tmp) x).v).2.2) (kCV P gl H (kvT gl (execL P gl r K) d env tmp)) := rr
theorem x_callVGT (as : List X) (r : List LOper) : execL P gl (⟨some d, true, some (sg, wt), .callV x as⟩ :: r) K env tmp H = Branch (gBool ((ev gl env tmp) sg) wt) (Susp (kVk P gl (ev gl env tmp) x as (kvT gl (execL P gl r K) d env tmp)) [] H) (Susp (kLn (kvT gl (execL P gl r K) d env tmp)) [] H) := rr
theorem x_callGT (d f : Nat) (as : List X) (r : List LOper) : execL P gl (⟨some d, true, some (sg, wt), .call f as⟩ :: r) K env tmp H = Bd ((gBool ((ev gl env tmp) sg) wt).1 ∧ ((gBool ((ev gl env tmp) sg) wt).2 = true → ∀ x ∈ as, ((ev gl env tmp) x).g), (gBool ((ev gl env tmp) sg) wt).2, as.map fun x => ((ev gl env tmp) x).v) (kG P gl f H (kvT gl (execL P gl r K) d env tmp)) := rr
theorem x_qU_mov (r : List LOper) : execL P gl (⟨some d, false, none, (.mov x)⟩ :: r) K env tmp H = Bd (q (.mov x) (ev gl env tmp) H) (kU (execL P gl r K) d env tmp H) := rr
theorem x_gU_mov (r : List LOper) : execL P gl (⟨some d, false, some (sg, wt), (.mov x)⟩ :: r) K env tmp H = Bd (quietG ((ev gl env tmp) sg) wt (q (.mov x) (ev gl env tmp) H)) (kU (execL P gl r K) d env tmp H) := rr
theorem x_qU_pick (c a b : X) (r : List LOper) : execL P gl (⟨some d, false, none, (.pick c a b)⟩ :: r) K env tmp H = Bd (q (.pick c a b) (ev gl env tmp) H) (kU (execL P gl r K) d env tmp H) := rr
theorem x_gU_pick (c a b : X) (r : List LOper) : execL P gl (⟨some d, false, some (sg, wt), (.pick c a b)⟩ :: r) K env tmp H = Bd (quietG ((ev gl env tmp) sg) wt (q (.pick c a b) (ev gl env tmp) H)) (kU (execL P gl r K) d env tmp H) := rr
theorem x_qU_build (ps : List (Nat × Nat × X)) (r : List LOper) : execL P gl (⟨some d, false, none, (.build z ps)⟩ :: r) K env tmp H = Bd (q (.build z ps) (ev gl env tmp) H) (kU (execL P gl r K) d env tmp H) := rr
theorem x_gU_build (ps : List (Nat × Nat × X)) (r : List LOper) : execL P gl (⟨some d, false, some (sg, wt), (.build z ps)⟩ :: r) K env tmp H = Bd (quietG ((ev gl env tmp) sg) wt (q (.build z ps) (ev gl env tmp) H)) (kU (execL P gl r K) d env tmp H) := rr
theorem x_qU_load (s : Nat) (r : List LOper) : execL P gl (⟨some d, false, none, (.load g s x)⟩ :: r) K env tmp H = Bd (q (.load g s x) (ev gl env tmp) H) (kU (execL P gl r K) d env tmp H) := rr
theorem x_gU_load (s : Nat) (r : List LOper) : execL P gl (⟨some d, false, some (sg, wt), (.load g s x)⟩ :: r) K env tmp H = Bd (quietG ((ev gl env tmp) sg) wt (q (.load g s x) (ev gl env tmp) H)) (kU (execL P gl r K) d env tmp H) := rr
theorem x_qU_nilc (r : List LOper) : execL P gl (⟨some d, false, none, (.nilc x)⟩ :: r) K env tmp H = Bd (q (.nilc x) (ev gl env tmp) H) (kU (execL P gl r K) d env tmp H) := rr
theorem x_gU_nilc (r : List LOper) : execL P gl (⟨some d, false, some (sg, wt), (.nilc x)⟩ :: r) K env tmp H = Bd (quietG ((ev gl env tmp) sg) wt (q (.nilc x) (ev gl env tmp) H)) (kU (execL P gl r K) d env tmp H) := rr
theorem x_qU_un (o : UnOp) (r : List LOper) : execL P gl (⟨some d, false, none, (.un o x)⟩ :: r) K env tmp H = Bd (q (.un o x) (ev gl env tmp) H) (kU (execL P gl r K) d env tmp H) := rr
theorem x_gU_un (o : UnOp) (r : List LOper) : execL P gl (⟨some d, false, some (sg, wt), (.un o x)⟩ :: r) K env tmp H = Bd (quietG ((ev gl env tmp) sg) wt (q (.un o x) (ev gl env tmp) H)) (kU (execL P gl r K) d env tmp H) := rr
theorem x_qU_conv (k : IntKind) (r : List LOper) : execL P gl (⟨some d, false, none, (.conv k x)⟩ :: r) K env tmp H = Bd (q (.conv k x) (ev gl env tmp) H) (kU (execL P gl r K) d env tmp H) := rr
theorem x_gU_conv (k : IntKind) (r : List LOper) : execL P gl (⟨some d, false, some (sg, wt), (.conv k x)⟩ :: r) K env tmp H = Bd (quietG ((ev gl env tmp) sg) wt (q (.conv k x) (ev gl env tmp) H)) (kU (execL P gl r K) d env tmp H) := rr
theorem x_qU_same (r : List LOper) : execL P gl (⟨some d, false, none, (.same x)⟩ :: r) K env tmp H = Bd (q (.same x) (ev gl env tmp) H) (kU (execL P gl r K) d env tmp H) := rr
theorem x_gU_same (r : List LOper) : execL P gl (⟨some d, false, some (sg, wt), (.same x)⟩ :: r) K env tmp H = Bd (quietG ((ev gl env tmp) sg) wt (q (.same x) (ev gl env tmp) H)) (kU (execL P gl r K) d env tmp H) := rr
theorem x_qU_b2s (r : List LOper) : execL P gl (⟨some d, false, none, (.b2s x)⟩ :: r) K env tmp H = Bd (q (.b2s x) (ev gl env tmp) H) (kU (execL P gl r K) d env tmp H) := rr
theorem x_gU_b2s (r : List LOper) : execL P gl (⟨some d, false, some (sg, wt), (.b2s x)⟩ :: r) K env tmp H = Bd (quietG ((ev gl env tmp) sg) wt (q (.b2s x) (ev gl env tmp) H)) (kU (execL P gl r K) d env tmp H) := rr
theorem x_qU_faddr (o : Nat) (r : List LOper) : execL P gl (⟨some d, false, none, (.faddr o x)⟩ :: r) K env tmp H = Bd (q (.faddr o x) (ev gl env tmp) H) (kU (execL P gl r K) d env tmp H) := rr
theorem x_gU_faddr (o : Nat) (r : List LOper) : execL P gl (⟨some d, false, some (sg, wt), (.faddr o x)⟩ :: r) K env tmp H = Bd (quietG ((ev gl env tmp) sg) wt (q (.faddr o x) (ev gl env tmp) H)) (kU (execL P gl r K) d env tmp H) := rr
theorem x_qU_fld (s : Nat) (o : Nat) (r : List LOper) : execL P gl (⟨some d, false, none, (.fld g s o x)⟩ :: r) K env tmp H = Bd (q (.fld g s o x) (ev gl env tmp) H) (kU (execL P gl r K) d env tmp H) := rr
theorem x_gU_fld (s : Nat) (o : Nat) (r : List LOper) : execL P gl (⟨some d, false, some (sg, wt), (.fld g s o x)⟩ :: r) K env tmp H = Bd (quietG ((ev gl env tmp) sg) wt (q (.fld g s o x) (ev gl env tmp) H)) (kU (execL P gl r K) d env tmp H) := rr
theorem x_qU_ext (ix : Nat) (r : List LOper) : execL P gl (⟨some d, false, none, (.ext x ix)⟩ :: r) K env tmp H = Bd (q (.ext x ix) (ev gl env tmp) H) (kU (execL P gl r K) d env tmp H) := rr
theorem x_gU_ext (ix : Nat) (r : List LOper) : execL P gl (⟨some d, false, some (sg, wt), (.ext x ix)⟩ :: r) K env tmp H = Bd (quietG ((ev gl env tmp) sg) wt (q (.ext x ix) (ev gl env tmp) H)) (kU (execL P gl r K) d env tmp H) := rr
theorem x_qU_len (r : List LOper) : execL P gl (⟨some d, false, none, (.len x)⟩ :: r) K env tmp H = Bd (q (.len x) (ev gl env tmp) H) (kU (execL P gl r K) d env tmp H) := rr
theorem x_gU_len (r : List LOper) : execL P gl (⟨some d, false, some (sg, wt), (.len x)⟩ :: r) K env tmp H = Bd (quietG ((ev gl env tmp) sg) wt (q (.len x) (ev gl env tmp) H)) (kU (execL P gl r K) d env tmp H) := rr
theorem x_qU_lenL (r : List LOper) : execL P gl (⟨some d, false, none, (.lenL x)⟩ :: r) K env tmp H = Bd (q (.lenL x) (ev gl env tmp) H) (kU (execL P gl r K) d env tmp H) := rr
theorem x_gU_lenL (r : List LOper) : execL P gl (⟨some d, false, some (sg, wt), (.lenL x)⟩ :: r) K env tmp H = Bd (quietG ((ev gl env tmp) sg) wt (q (.lenL x) (ev gl env tmp) H)) (kU (execL P gl r K) d env tmp H) := rr
theorem x_qU_cap (r : List LOper) : execL P gl (⟨some d, false, none, (.cap x)⟩ :: r) K env tmp H = Bd (q (.cap x) (ev gl env tmp) H) (kU (execL P gl r K) d env tmp H) := rr
theorem x_gU_cap (r : List LOper) : execL P gl (⟨some d, false, some (sg, wt), (.cap x)⟩ :: r) K env tmp H = Bd (quietG ((ev gl env tmp) sg) wt (q (.cap x) (ev gl env tmp) H)) (kU (execL P gl r K) d env tmp H) := rr
theorem x_qU_slL (s : Nat) (r : List LOper) : execL P gl (⟨some d, false, none, (.slL s x lo hi mx)⟩ :: r) K env tmp H = Bd (q (.slL s x lo hi mx) (ev gl env tmp) H) (kU (execL P gl r K) d env tmp H) := rr
theorem x_gU_slL (s : Nat) (r : List LOper) : execL P gl (⟨some d, false, some (sg, wt), (.slL s x lo hi mx)⟩ :: r) K env tmp H = Bd (quietG ((ev gl env tmp) sg) wt (q (.slL s x lo hi mx) (ev gl env tmp) H)) (kU (execL P gl r K) d env tmp H) := rr
theorem x_qU_slA (n : Nat) (s : Nat) (r : List LOper) : execL P gl (⟨some d, false, none, (.slA n s x lo hi mx)⟩ :: r) K env tmp H = Bd (q (.slA n s x lo hi mx) (ev gl env tmp) H) (kU (execL P gl r K) d env tmp H) := rr
theorem x_gU_slA (n : Nat) (s : Nat) (r : List LOper) : execL P gl (⟨some d, false, some (sg, wt), (.slA n s x lo hi mx)⟩ :: r) K env tmp H = Bd (quietG ((ev gl env tmp) sg) wt (q (.slA n s x lo hi mx) (ev gl env tmp) H)) (kU (execL P gl r K) d env tmp H) := rr
theorem x_qU_mm (m : Bool) (xs : List X) (r : List LOper) : execL P gl (⟨some d, false, none, (.mm m x xs)⟩ :: r) K env tmp H = Bd (q (.mm m x xs) (ev gl env tmp) H) (kU (execL P gl r K) d env tmp H) := rr
theorem x_gU_mm (m : Bool) (xs : List X) (r : List LOper) : execL P gl (⟨some d, false, some (sg, wt), (.mm m x xs)⟩ :: r) K env tmp H = Bd (quietG ((ev gl env tmp) sg) wt (q (.mm m x xs) (ev gl env tmp) H)) (kU (execL P gl r K) d env tmp H) := rr
theorem x_qU_bin (o : BinOp) (r : List LOper) : execL P gl (⟨some d, false, none, (.bin o x y)⟩ :: r) K env tmp H = Bd (q (.bin o x y) (ev gl env tmp) H) (kU (execL P gl r K) d env tmp H) := rr
theorem x_gU_bin (o : BinOp) (r : List LOper) : execL P gl (⟨some d, false, some (sg, wt), (.bin o x y)⟩ :: r) K env tmp H = Bd (quietG ((ev gl env tmp) sg) wt (q (.bin o x y) (ev gl env tmp) H)) (kU (execL P gl r K) d env tmp H) := rr
theorem x_qU_eqB (r : List LOper) : execL P gl (⟨some d, false, none, (.eqB g x y)⟩ :: r) K env tmp H = Bd (q (.eqB g x y) (ev gl env tmp) H) (kU (execL P gl r K) d env tmp H) := rr
theorem x_gU_eqB (r : List LOper) : execL P gl (⟨some d, false, some (sg, wt), (.eqB g x y)⟩ :: r) K env tmp H = Bd (quietG ((ev gl env tmp) sg) wt (q (.eqB g x y) (ev gl env tmp) H)) (kU (execL P gl r K) d env tmp H) := rr
theorem x_qU_eqN (r : List LOper) : execL P gl (⟨some d, false, none, (.eqN g x y)⟩ :: r) K env tmp H = Bd (q (.eqN g x y) (ev gl env tmp) H) (kU (execL P gl r K) d env tmp H) := rr
theorem x_gU_eqN (r : List LOper) : execL P gl (⟨some d, false, some (sg, wt), (.eqN g x y)⟩ :: r) K env tmp H = Bd (quietG ((ev gl env tmp) sg) wt (q (.eqN g x y) (ev gl env tmp) H)) (kU (execL P gl r K) d env tmp H) := rr
theorem x_qU_eqS (s : Nat) (ls : List (Nat × Nat)) (r : List LOper) : execL P gl (⟨some d, false, none, (.eqS g s ls x y)⟩ :: r) K env tmp H = Bd (q (.eqS g s ls x y) (ev gl env tmp) H) (kU (execL P gl r K) d env tmp H) := rr
theorem x_gU_eqS (s : Nat) (ls : List (Nat × Nat)) (r : List LOper) : execL P gl (⟨some d, false, some (sg, wt), (.eqS g s ls x y)⟩ :: r) K env tmp H = Bd (quietG ((ev gl env tmp) sg) wt (q (.eqS g s ls x y) (ev gl env tmp) H)) (kU (execL P gl r K) d env tmp H) := rr
theorem x_qU_iaA (n : Nat) (s : Nat) (r : List LOper) : execL P gl (⟨some d, false, none, (.iaA n s x y)⟩ :: r) K env tmp H = Bd (q (.iaA n s x y) (ev gl env tmp) H) (kU (execL P gl r K) d env tmp H) := rr
theorem x_gU_iaA (n : Nat) (s : Nat) (r : List LOper) : execL P gl (⟨some d, false, some (sg, wt), (.iaA n s x y)⟩ :: r) K env tmp H = Bd (quietG ((ev gl env tmp) sg) wt (q (.iaA n s x y) (ev gl env tmp) H)) (kU (execL P gl r K) d env tmp H) := rr
theorem x_qU_iaS (s : Nat) (r : List LOper) : execL P gl (⟨some d, false, none, (.iaS s x y)⟩ :: r) K env tmp H = Bd (q (.iaS s x y) (ev gl env tmp) H) (kU (execL P gl r K) d env tmp H) := rr
theorem x_gU_iaS (s : Nat) (r : List LOper) : execL P gl (⟨some d, false, some (sg, wt), (.iaS s x y)⟩ :: r) K env tmp H = Bd (quietG ((ev gl env tmp) sg) wt (q (.iaS s x y) (ev gl env tmp) H)) (kU (execL P gl r K) d env tmp H) := rr
theorem x_qU_ixA (n : Nat) (s : Nat) (r : List LOper) : execL P gl (⟨some d, false, none, (.ixA g n s x y)⟩ :: r) K env tmp H = Bd (q (.ixA g n s x y) (ev gl env tmp) H) (kU (execL P gl r K) d env tmp H) := rr
theorem x_gU_ixA (n : Nat) (s : Nat) (r : List LOper) : execL P gl (⟨some d, false, some (sg, wt), (.ixA g n s x y)⟩ :: r) K env tmp H = Bd (quietG ((ev gl env tmp) sg) wt (q (.ixA g n s x y) (ev gl env tmp) H)) (kU (execL P gl r K) d env tmp H) := rr
theorem x_qU_ixS (r : List LOper) : execL P gl (⟨some d, false, none, (.ixS x y)⟩ :: r) K env tmp H = Bd (q (.ixS x y) (ev gl env tmp) H) (kU (execL P gl r K) d env tmp H) := rr
theorem x_gU_ixS (r : List LOper) : execL P gl (⟨some d, false, some (sg, wt), (.ixS x y)⟩ :: r) K env tmp H = Bd (quietG ((ev gl env tmp) sg) wt (q (.ixS x y) (ev gl env tmp) H)) (kU (execL P gl r K) d env tmp H) := rr
theorem x_qU_lenA (n : Nat) (r : List LOper) : execL P gl (⟨some d, false, none, (.lenA n)⟩ :: r) K env tmp H = Bd (q (.lenA n) (ev gl env tmp) H) (kU (execL P gl r K) d env tmp H) := rr
theorem x_gU_lenA (n : Nat) (r : List LOper) : execL P gl (⟨some d, false, some (sg, wt), (.lenA n)⟩ :: r) K env tmp H = Bd (quietG ((ev gl env tmp) sg) wt (q (.lenA n) (ev gl env tmp) H)) (kU (execL P gl r K) d env tmp H) := rr
theorem x_qU_mkf (f : Nat) (xs : List X) (r : List LOper) : execL P gl (⟨some d, false, none, (.mkf f xs)⟩ :: r) K env tmp H = Bd (q (.mkf f xs) (ev gl env tmp) H) (kU (execL P gl r K) d env tmp H) := rr
theorem x_gU_mkf (f : Nat) (xs : List X) (r : List LOper) : execL P gl (⟨some d, false, some (sg, wt), (.mkf f xs)⟩ :: r) K env tmp H = Bd (quietG ((ev gl env tmp) sg) wt (q (.mkf f xs) (ev gl env tmp) H)) (kU (execL P gl r K) d env tmp H) := rr
theorem x_qU_slS (lo hi : Option X) (r : List LOper) : execL P gl (⟨some d, false, none, (.slS x lo hi)⟩ :: r) K env tmp H = Bd (q (.slS x lo hi) (ev gl env tmp) H) (kU (execL P gl r K) d env tmp H) := rr
theorem x_gU_slS (lo hi : Option X) (r : List LOper) : execL P gl (⟨some d, false, some (sg, wt), (.slS x lo hi)⟩ :: r) K env tmp H = Bd (quietG ((ev gl env tmp) sg) wt (q (.slS x lo hi) (ev gl env tmp) H)) (kU (execL P gl r K) d env tmp H) := rr
theorem x_boxU (r : List LOper) : execL P gl (⟨some d, false, none, .box x⟩ :: r) K env tmp H = Bd (((ev gl env tmp) x).g ∧ (cellsQ ((ev gl env tmp) x).v).1, (cellsQ ((ev gl env tmp) x).v).2) (kBU (execL P gl r K) d env tmp H) := rr
theorem x_zeroU (r : List LOper) : execL P gl (⟨some d, false, none, .zero cs⟩ :: r) K env tmp H = ∀ b, (kcU (execL P gl r K) d env tmp) (.ptr d b 0) ((d, .blk b cs) :: H) := rr
theorem x_makeU (sz bytes : Nat) (l c : X) (r : List LOper) : execL P gl (⟨some d, false, none, .make sz bytes z l c⟩ :: r) K env tmp H = Bd (((ev gl env tmp) l).g ∧ ((ev gl env tmp) c).g ∧ (makeQ sz bytes z ((ev gl env tmp) l).v ((ev gl env tmp) c).v).1, (makeQ sz bytes z ((ev gl env tmp) l).v ((ev gl env tmp) c).v).2) (kM d sz z H (kcU (execL P gl r K) d env tmp)) := rr
theorem x_appU (sz bytes : Nat) (x y : X) (r : List LOper) : execL P gl (⟨some d, false, none, .app sz bytes x y⟩ :: r) K env tmp H = Bd (((ev gl env tmp) x).g ∧ ((ev gl env tmp) y).g ∧ (elems sz ((ev gl env tmp) y).v H).1, (elems sz ((ev gl env tmp) y).v H).2) (kA d sz bytes ((ev gl env tmp) x).v H (kcU (execL P gl r K) d env tmp)) := rr
theorem x_appFU (sz bytes : Nat) (x y : X) (r : List LOper) : execL P gl (⟨some d, false, none, .appF sz bytes x y⟩ :: r) K env tmp H = Bd (((ev gl env tmp) x).g ∧ ((ev gl env tmp) y).g ∧ (elems sz ((ev gl env tmp) y).v H).1, (elems sz ((ev gl env tmp) y).v H).2) (kAF d sz bytes ((ev gl env tmp) x).v H (kcU (execL P gl r K) d env tmp)) := rr
theorem x_appZU (sz bytes : Nat) (x y : X) (r : List LOper) : execL P gl (⟨some d, false, none, .appZ sz bytes z x y⟩ :: r) K env tmp H = Bd (((ev gl env tmp) x).g ∧ ((ev gl env tmp) y).g ∧ (appZQ bytes ((ev gl env tmp) y).v).1, (appZQ bytes ((ev gl env tmp) y).v).2) (kZ d sz bytes z ((ev gl env tmp) x).v H (kcU (execL P gl r K) d env tmp)) := rr
theorem x_copyU (sz : Nat) (x y : X) (r : List LOper) : execL P gl (⟨some d, false, none, .copy sz x y⟩ :: r) K env tmp H = Bd (((ev gl env tmp) x).g ∧ ((ev gl env tmp) y).g ∧ (elems sz ((ev gl env tmp) y).v H).1, (elems sz ((ev gl env tmp) y).v H).2) (kY sz ((ev gl env tmp) x).v H (kcU (execL P gl r K) d env tmp)) := rr
theorem x_clearU (sz : Nat) (r : List LOper) : execL P gl (⟨some d, false, none, .clear sz z x⟩ :: r) K env tmp H = (((ev gl env tmp) x).g ∧ clearV sz z ((ev gl env tmp) x).v H (kcU (execL P gl r K) d env tmp)) := rr
theorem x_mkMapU  (r : List LOper) : execL P gl (⟨some d, false, none, .mkMap⟩ :: r) K env tmp H = ∀ b, (kcU (execL P gl r K) d env tmp) (.raw (.map (some b))) ((d, .map b []) :: H) := rr
theorem x_lookU (ok : Bool) (kt : Nat) (z : LV) (x ky : X) (r : List LOper) : execL P gl (⟨some d, false, none, .look ok kt z x ky⟩ :: r) K env tmp H = (((ev gl env tmp) x).g ∧ ((ev gl env tmp) ky).g ∧ lookV P kt ok z ((ev gl env tmp) ky).v ((ev gl env tmp) x).v H (kcU (execL P gl r K) d env tmp)) := rr
theorem x_lookGU (ok : Bool) (kt : Nat) (z : LV) (x ky sg : X) (r : List LOper) : execL P gl (⟨some d, false, some (sg, wt), .look ok kt z x ky⟩ :: r) K env tmp H = Branch (gBool ((ev gl env tmp) sg) wt) (Susp (kLk P kt ok z ((ev gl env tmp) x) ((ev gl env tmp) ky) (kcU (execL P gl r K) d env tmp)) [] H) (Susp (kLn (kcU (execL P gl r K) d env tmp)) [] H) := rr
theorem x_isNilU (neg : Bool) (r : List LOper) : execL P gl (⟨some d, false, none, .isNil neg x⟩ :: r) K env tmp H = (((ev gl env tmp) x).g ∧ isNilV neg ((ev gl env tmp) x).v H (kcU (execL P gl r K) d env tmp)) := rr
theorem x_mkSU (d sz m : Nat) (ps : List (Nat × Nat × X)) (r : List LOper) : execL P gl (⟨some d, false, none, .mkS sz m z ps⟩ :: r) K env tmp H = Bd (gParts (ev gl env tmp) ps ∧ z.length = sz ∧ (fillQ (zeros z (m * sz)) (vParts (ev gl env tmp) ps)).1, (fillQ (zeros z (m * sz)) (vParts (ev gl env tmp) ps)).2) (kS sz m (kU (execL P gl r K) d env tmp H)) := rr
theorem x_mkNU (d sz m : Nat) (ps : List (Nat × Nat × X)) (r : List LOper) : execL P gl (⟨some d, false, none, .mkN sz m z ps⟩ :: r) K env tmp H = Bd (gParts (ev gl env tmp) ps ∧ z.length = sz ∧ (fillQ (zeros z (m * sz)) (vParts (ev gl env tmp) ps)).1, (fillQ (zeros z (m * sz)) (vParts (ev gl env tmp) ps)).2) (kN sz m (kU (execL P gl r K) d env tmp H)) := rr
theorem x_cvSU (r : List LOper) : execL P gl (⟨some d, false, none, .cvS x⟩ :: r) K env tmp H = Bd (((ev gl env tmp) x).g ∧ (cvQ ((ev gl env tmp) x).v).1, (cvQ ((ev gl env tmp) x).v).2) (kU (execL P gl r K) d env tmp H) := rr
theorem x_s2bU (r : List LOper) : execL P gl (⟨some d, false, none, .s2b x⟩ :: r) K env tmp H = Bd (((ev gl env tmp) x).g ∧ (strQ ((ev gl env tmp) x).v).1, (strQ ((ev gl env tmp) x).v).2) (kX d H (kcU (execL P gl r K) d env tmp)) := rr
theorem x_callU (f : Nat) (as : List X) (r : List LOper) : execL P gl (⟨some d, false, none, .call f as⟩ :: r) K env tmp H = Bd (∀ x ∈ as, ((ev gl env tmp) x).g, as.map fun x => ((ev gl env tmp) x).v) (kC P gl f H (kvU gl (execL P gl r K) d env tmp)) := rr
theorem x_callVU (as : List X) (r : List LOper) : execL P gl (⟨some d, false, none, .callV x as⟩ :: r) K env tmp H = Bd (((ev gl env tmp) x).g ∧ (∀ y ∈ as, ((ev gl env tmp) y).g) ∧ (calleeQ ((ev gl env tmp) x).v).1, (calleeQ ((ev gl env tmp) x).v).2.1, (as.map fun y => ((ev gl env tmp) y).v) ++ (calleeQ ((ev gl env tmp) x).v).2.2) (kCV P gl H (kvU gl (execL P gl r K) d env tmp)) := rr
theorem x_callVGU (as : List X) (r : List LOper) : execL P gl (⟨some d, false, some (sg, wt), .callV x as⟩ :: r) K env tmp H = Branch (gBool ((ev gl env tmp) sg) wt) (Susp (kVk P gl (ev gl env tmp) x as (kvU gl (execL P gl r K) d env tmp)) [] H) (Susp (kLn (kvU gl (execL P gl r K) d env tmp)) [] H) := rr
theorem x_callGU (d f : Nat) (as : List X) (r : List LOper) : execL P gl (⟨some d, false, some (sg, wt), .call f as⟩ :: r) K env tmp H = Bd ((gBool ((ev gl env tmp) sg) wt).1 ∧ ((gBool ((ev gl env tmp) sg) wt).2 = true → ∀ x ∈ as, ((ev gl env tmp) x).g), (gBool ((ev gl env tmp) sg) wt).2, as.map fun x => ((ev gl env tmp) x).v) (kG P gl f H (kvU gl (execL P gl r K) d env tmp)) := rr
theorem d_qT_mov : execE P gl (⟨i, ss, false, pend, ⟨some d, true, none, (.mov x)⟩⟩ :: r) K lg env tmp H = Bd (q (.mov x) (ev gl (restr ss env) (restr ss tmp)) H) (kT (execE P gl r K lg) d env tmp H) := rr
theorem d_gT_mov : execE P gl (⟨i, ss, false, pend, ⟨some d, true, some (sg, wt), (.mov x)⟩⟩ :: r) K lg env tmp H = Bd (quietG ((ev gl (restr ss env) (restr ss tmp)) sg) wt (q (.mov x) (ev gl (restr ss env) (restr ss tmp)) H)) (kT (execE P gl r K lg) d env tmp H) := rr
theorem d_qT_pick (c a b : X) : execE P gl (⟨i, ss, false, pend, ⟨some d, true, none, (.pick c a b)⟩⟩ :: r) K lg env tmp H = Bd (q (.pick c a b) (ev gl (restr ss env) (restr ss tmp)) H) (kT (execE P gl r K lg) d env tmp H) := rr
theorem d_gT_pick (c a b : X) : execE P gl (⟨i, ss, false, pend, ⟨some d, true, some (sg, wt), (.pick c a b)⟩⟩ :: r) K lg env tmp H = Bd (quietG ((ev gl (restr ss env) (restr ss tmp)) sg) wt (q (.pick c a b) (ev gl (restr ss env) (restr ss tmp)) H)) (kT (execE P gl r K lg) d env tmp H) := rr
theorem d_qT_build (ps : List (Nat × Nat × X)) : execE P gl (⟨i, ss, false, pend, ⟨some d, true, none, (.build z ps)⟩⟩ :: r) K lg env tmp H = Bd (q (.build z ps) (ev gl (restr ss env) (restr ss tmp)) H) (kT (execE P gl r K lg) d env tmp H) := rr
theorem d_gT_build (ps : List (Nat × Nat × X)) : execE P gl (⟨i, ss, false, pend, ⟨some d, true, some (sg, wt), (.build z ps)⟩⟩ :: r) K lg env tmp H = Bd (quietG ((ev gl (restr ss env) (restr ss tmp)) sg) wt (q (.build z ps) (ev gl (restr ss env) (restr ss tmp)) H)) (kT (execE P gl r K lg) d env tmp H) := rr
theorem d_qT_load (s : Nat) : execE P gl (⟨i, ss, true, pend, ⟨some d, true, none, (.load g s x)⟩⟩ :: r) K lg env tmp H = Bd (q (.load g s x) (ev gl (restr ss env) (restr ss tmp)) H) (kKT (execE P gl r K) i ⟨some d, true, none, (.load g s x)⟩ (restr ss env) (restr ss tmp) lg d env tmp H) := rr
theorem d_gT_load (s : Nat) : execE P gl (⟨i, ss, true, pend, ⟨some d, true, some (sg, wt), (.load g s x)⟩⟩ :: r) K lg env tmp H = Bd (quietG ((ev gl (restr ss env) (restr ss tmp)) sg) wt (q (.load g s x) (ev gl (restr ss env) (restr ss tmp)) H)) (kKT (execE P gl r K) i ⟨some d, true, some (sg, wt), (.load g s x)⟩ (restr ss env) (restr ss tmp) lg d env tmp H) := rr
theorem d_qT_nilc : execE P gl (⟨i, ss, false, pend, ⟨some d, true, none, (.nilc x)⟩⟩ :: r) K lg env tmp H = Bd (q (.nilc x) (ev gl (restr ss env) (restr ss tmp)) H) (kT (execE P gl r K lg) d env tmp H) := rr
theorem d_gT_nilc : execE P gl (⟨i, ss, false, pend, ⟨some d, true, some (sg, wt), (.nilc x)⟩⟩ :: r) K lg env tmp H = Bd (quietG ((ev gl (restr ss env) (restr ss tmp)) sg) wt (q (.nilc x) (ev gl (restr ss env) (restr ss tmp)) H)) (kT (execE P gl r K lg) d env tmp H) := rr
theorem d_qT_un (o : UnOp) : execE P gl (⟨i, ss, false, pend, ⟨some d, true, none, (.un o x)⟩⟩ :: r) K lg env tmp H = Bd (q (.un o x) (ev gl (restr ss env) (restr ss tmp)) H) (kT (execE P gl r K lg) d env tmp H) := rr
theorem d_gT_un (o : UnOp) : execE P gl (⟨i, ss, false, pend, ⟨some d, true, some (sg, wt), (.un o x)⟩⟩ :: r) K lg env tmp H = Bd (quietG ((ev gl (restr ss env) (restr ss tmp)) sg) wt (q (.un o x) (ev gl (restr ss env) (restr ss tmp)) H)) (kT (execE P gl r K lg) d env tmp H) := rr
theorem d_qT_conv (k : IntKind) : execE P gl (⟨i, ss, false, pend, ⟨some d, true, none, (.conv k x)⟩⟩ :: r) K lg env tmp H = Bd (q (.conv k x) (ev gl (restr ss env) (restr ss tmp)) H) (kT (execE P gl r K lg) d env tmp H) := rr
theorem d_gT_conv (k : IntKind) : execE P gl (⟨i, ss, false, pend, ⟨some d, true, some (sg, wt), (.conv k x)⟩⟩ :: r) K lg env tmp H = Bd (quietG ((ev gl (restr ss env) (restr ss tmp)) sg) wt (q (.conv k x) (ev gl (restr ss env) (restr ss tmp)) H)) (kT (execE P gl r K lg) d env tmp H) := rr
theorem d_qT_same : execE P gl (⟨i, ss, false, pend, ⟨some d, true, none, (.same x)⟩⟩ :: r) K lg env tmp H = Bd (q (.same x) (ev gl (restr ss env) (restr ss tmp)) H) (kT (execE P gl r K lg) d env tmp H) := rr
theorem d_gT_same : execE P gl (⟨i, ss, false, pend, ⟨some d, true, some (sg, wt), (.same x)⟩⟩ :: r) K lg env tmp H = Bd (quietG ((ev gl (restr ss env) (restr ss tmp)) sg) wt (q (.same x) (ev gl (restr ss env) (restr ss tmp)) H)) (kT (execE P gl r K lg) d env tmp H) := rr
theorem d_qT_b2s : execE P gl (⟨i, ss, true, pend, ⟨some d, true, none, (.b2s x)⟩⟩ :: r) K lg env tmp H = Bd (q (.b2s x) (ev gl (restr ss env) (restr ss tmp)) H) (kKT (execE P gl r K) i ⟨some d, true, none, (.b2s x)⟩ (restr ss env) (restr ss tmp) lg d env tmp H) := rr
theorem d_gT_b2s : execE P gl (⟨i, ss, true, pend, ⟨some d, true, some (sg, wt), (.b2s x)⟩⟩ :: r) K lg env tmp H = Bd (quietG ((ev gl (restr ss env) (restr ss tmp)) sg) wt (q (.b2s x) (ev gl (restr ss env) (restr ss tmp)) H)) (kKT (execE P gl r K) i ⟨some d, true, some (sg, wt), (.b2s x)⟩ (restr ss env) (restr ss tmp) lg d env tmp H) := rr
theorem d_qT_faddr (o : Nat) : execE P gl (⟨i, ss, false, pend, ⟨some d, true, none, (.faddr o x)⟩⟩ :: r) K lg env tmp H = Bd (q (.faddr o x) (ev gl (restr ss env) (restr ss tmp)) H) (kT (execE P gl r K lg) d env tmp H) := rr
theorem d_gT_faddr (o : Nat) : execE P gl (⟨i, ss, false, pend, ⟨some d, true, some (sg, wt), (.faddr o x)⟩⟩ :: r) K lg env tmp H = Bd (quietG ((ev gl (restr ss env) (restr ss tmp)) sg) wt (q (.faddr o x) (ev gl (restr ss env) (restr ss tmp)) H)) (kT (execE P gl r K lg) d env tmp H) := rr
theorem d_qT_fld (s : Nat) (o : Nat) : execE P gl (⟨i, ss, false, pend, ⟨some d, true, none, (.fld g s o x)⟩⟩ :: r) K lg env tmp H = Bd (q (.fld g s o x) (ev gl (restr ss env) (restr ss tmp)) H) (kT (execE P gl r K lg) d env tmp H) := rr
theorem d_gT_fld (s : Nat) (o : Nat) : execE P gl (⟨i, ss, false, pend, ⟨some d, true, some (sg, wt), (.fld g s o x)⟩⟩ :: r) K lg env tmp H = Bd (quietG ((ev gl (restr ss env) (restr ss tmp)) sg) wt (q (.fld g s o x) (ev gl (restr ss env) (restr ss tmp)) H)) (kT (execE P gl r K lg) d env tmp H) := rr
theorem d_qT_ext (ix : Nat) : execE P gl (⟨i, ss, false, pend, ⟨some d, true, none, (.ext x ix)⟩⟩ :: r) K lg env tmp H = Bd (q (.ext x ix) (ev gl (restr ss env) (restr ss tmp)) H) (kT (execE P gl r K lg) d env tmp H) := rr
theorem d_gT_ext (ix : Nat) : execE P gl (⟨i, ss, false, pend, ⟨some d, true, some (sg, wt), (.ext x ix)⟩⟩ :: r) K lg env tmp H = Bd (quietG ((ev gl (restr ss env) (restr ss tmp)) sg) wt (q (.ext x ix) (ev gl (restr ss env) (restr ss tmp)) H)) (kT (execE P gl r K lg) d env tmp H) := rr
theorem d_qT_len : execE P gl (⟨i, ss, false, pend, ⟨some d, true, none, (.len x)⟩⟩ :: r) K lg env tmp H = Bd (q (.len x) (ev gl (restr ss env) (restr ss tmp)) H) (kT (execE P gl r K lg) d env tmp H) := rr
theorem d_gT_len : execE P gl (⟨i, ss, false, pend, ⟨some d, true, some (sg, wt), (.len x)⟩⟩ :: r) K lg env tmp H = Bd (quietG ((ev gl (restr ss env) (restr ss tmp)) sg) wt (q (.len x) (ev gl (restr ss env) (restr ss tmp)) H)) (kT (execE P gl r K lg) d env tmp H) := rr
theorem d_qT_lenL : execE P gl (⟨i, ss, false, pend, ⟨some d, true, none, (.lenL x)⟩⟩ :: r) K lg env tmp H = Bd (q (.lenL x) (ev gl (restr ss env) (restr ss tmp)) H) (kT (execE P gl r K lg) d env tmp H) := rr
theorem d_gT_lenL : execE P gl (⟨i, ss, false, pend, ⟨some d, true, some (sg, wt), (.lenL x)⟩⟩ :: r) K lg env tmp H = Bd (quietG ((ev gl (restr ss env) (restr ss tmp)) sg) wt (q (.lenL x) (ev gl (restr ss env) (restr ss tmp)) H)) (kT (execE P gl r K lg) d env tmp H) := rr
theorem d_qT_cap : execE P gl (⟨i, ss, false, pend, ⟨some d, true, none, (.cap x)⟩⟩ :: r) K lg env tmp H = Bd (q (.cap x) (ev gl (restr ss env) (restr ss tmp)) H) (kT (execE P gl r K lg) d env tmp H) := rr
theorem d_gT_cap : execE P gl (⟨i, ss, false, pend, ⟨some d, true, some (sg, wt), (.cap x)⟩⟩ :: r) K lg env tmp H = Bd (quietG ((ev gl (restr ss env) (restr ss tmp)) sg) wt (q (.cap x) (ev gl (restr ss env) (restr ss tmp)) H)) (kT (execE P gl r K lg) d env tmp H) := rr
theorem d_qT_slL (s : Nat) : execE P gl (⟨i, ss, false, pend, ⟨some d, true, none, (.slL s x lo hi mx)⟩⟩ :: r) K lg env tmp H = Bd (q (.slL s x lo hi mx) (ev gl (restr ss env) (restr ss tmp)) H) (kT (execE P gl r K lg) d env tmp H) := rr
theorem d_gT_slL (s : Nat) : execE P gl (⟨i, ss, false, pend, ⟨some d, true, some (sg, wt), (.slL s x lo hi mx)⟩⟩ :: r) K lg env tmp H = Bd (quietG ((ev gl (restr ss env) (restr ss tmp)) sg) wt (q (.slL s x lo hi mx) (ev gl (restr ss env) (restr ss tmp)) H)) (kT (execE P gl r K lg) d env tmp H) := rr
theorem d_qT_slA (n : Nat) (s : Nat) : execE P gl (⟨i, ss, false, pend, ⟨some d, true, none, (.slA n s x lo hi mx)⟩⟩ :: r) K lg env tmp H = Bd (q (.slA n s x lo hi mx) (ev gl (restr ss env) (restr ss tmp)) H) (kT (execE P gl r K lg) d env tmp H) := rr
theorem d_gT_slA (n : Nat) (s : Nat) : execE P gl (⟨i, ss, false, pend, ⟨some d, true, some (sg, wt), (.slA n s x lo hi mx)⟩⟩ :: r) K lg env tmp H = Bd (quietG ((ev gl (restr ss env) (restr ss tmp)) sg) wt (q (.slA n s x lo hi mx) (ev gl (restr ss env) (restr ss tmp)) H)) (kT (execE P gl r K lg) d env tmp H) := rr
theorem d_qT_mm (m : Bool) (xs : List X) : execE P gl (⟨i, ss, false, pend, ⟨some d, true, none, (.mm m x xs)⟩⟩ :: r) K lg env tmp H = Bd (q (.mm m x xs) (ev gl (restr ss env) (restr ss tmp)) H) (kT (execE P gl r K lg) d env tmp H) := rr
theorem d_gT_mm (m : Bool) (xs : List X) : execE P gl (⟨i, ss, false, pend, ⟨some d, true, some (sg, wt), (.mm m x xs)⟩⟩ :: r) K lg env tmp H = Bd (quietG ((ev gl (restr ss env) (restr ss tmp)) sg) wt (q (.mm m x xs) (ev gl (restr ss env) (restr ss tmp)) H)) (kT (execE P gl r K lg) d env tmp H) := rr
theorem d_qT_bin (o : BinOp) : execE P gl (⟨i, ss, false, pend, ⟨some d, true, none, (.bin o x y)⟩⟩ :: r) K lg env tmp H = Bd (q (.bin o x y) (ev gl (restr ss env) (restr ss tmp)) H) (kT (execE P gl r K lg) d env tmp H) := rr
theorem d_gT_bin (o : BinOp) : execE P gl (⟨i, ss, false, pend, ⟨some d, true, some (sg, wt), (.bin o x y)⟩⟩ :: r) K lg env tmp H = Bd (quietG ((ev gl (restr ss env) (restr ss tmp)) sg) wt (q (.bin o x y) (ev gl (restr ss env) (restr ss tmp)) H)) (kT (execE P gl r K lg) d env tmp H) := rr
theorem d_qT_eqB : execE P gl (⟨i, ss, false, pend, ⟨some d, true, none, (.eqB g x y)⟩⟩ :: r) K lg env tmp H = Bd (q (.eqB g x y) (ev gl (restr ss env) (restr ss tmp)) H) (kT (execE P gl r K lg) d env tmp H) := rr
theorem d_gT_eqB : execE P gl (⟨i, ss, false, pend, ⟨some d, true, some (sg, wt), (.eqB g x y)⟩⟩ :: r) K lg env tmp H = Bd (quietG ((ev gl (restr ss env) (restr ss tmp)) sg) wt (q (.eqB g x y) (ev gl (restr ss env) (restr ss tmp)) H)) (kT (execE P gl r K lg) d env tmp H) := rr
theorem d_qT_eqN : execE P gl (⟨i, ss, false, pend, ⟨some d, true, none, (.eqN g x y)⟩⟩ :: r) K lg env tmp H = Bd (q (.eqN g x y) (ev gl (restr ss env) (restr ss tmp)) H) (kT (execE P gl r K lg) d env tmp H) := rr
theorem d_gT_eqN : execE P gl (⟨i, ss, false, pend, ⟨some d, true, some (sg, wt), (.eqN g x y)⟩⟩ :: r) K lg env tmp H = Bd (quietG ((ev gl (restr ss env) (restr ss tmp)) sg) wt (q (.eqN g x y) (ev gl (restr ss env) (restr ss tmp)) H)) (kT (execE P gl r K lg) d env tmp H) := rr
theorem d_qT_eqS (s : Nat) (ls : List (Nat × Nat)) : execE P gl (⟨i, ss, false, pend, ⟨some d, true, none, (.eqS g s ls x y)⟩⟩ :: r) K lg env tmp H = Bd (q (.eqS g s ls x y) (ev gl (restr ss env) (restr ss tmp)) H) (kT (execE P gl r K lg) d env tmp H) := rr
theorem d_gT_eqS (s : Nat) (ls : List (Nat × Nat)) : execE P gl (⟨i, ss, false, pend, ⟨some d, true, some (sg, wt), (.eqS g s ls x y)⟩⟩ :: r) K lg env tmp H = Bd (quietG ((ev gl (restr ss env) (restr ss tmp)) sg) wt (q (.eqS g s ls x y) (ev gl (restr ss env) (restr ss tmp)) H)) (kT (execE P gl r K lg) d env tmp H) := rr
theorem d_qT_iaA (n : Nat) (s : Nat) : execE P gl (⟨i, ss, false, pend, ⟨some d, true, none, (.iaA n s x y)⟩⟩ :: r) K lg env tmp H = Bd (q (.iaA n s x y) (ev gl (restr ss env) (restr ss tmp)) H) (kT (execE P gl r K lg) d env tmp H) := rr
theorem d_gT_iaA (n : Nat) (s : Nat) : execE P gl (⟨i, ss, false, pend, ⟨some d, true, some (sg, wt), (.iaA n s x y)⟩⟩ :: r) K lg env tmp H = Bd (quietG ((ev gl (restr ss env) (restr ss tmp)) sg) wt (q (.iaA n s x y) (ev gl (restr ss env) (restr ss tmp)) H)) (kT (execE P gl r K lg) d env tmp H) := rr
theorem d_qT_iaS (s : Nat) : execE P gl (⟨i, ss, false, pend, ⟨some d, true, none, (.iaS s x y)⟩⟩ :: r) K lg env tmp H = Bd (q (.iaS s x y) (ev gl (restr ss env) (restr ss tmp)) H) (kT (execE P gl r K lg) d env tmp H) := rr
theorem d_gT_iaS (s : Nat) : execE P gl (⟨i, ss, false, pend, ⟨some d, true, some (sg, wt), (.iaS s x y)⟩⟩ :: r) K lg env tmp H = Bd (quietG ((ev gl (restr ss env) (restr ss tmp)) sg) wt (q (.iaS s x y) (ev gl (restr ss env) (restr ss tmp)) H)) (kT (execE P gl r K lg) d env tmp H) := rr
theorem d_qT_ixA (n : Nat) (s : Nat) : execE P gl (⟨i, ss, false, pend, ⟨some d, true, none, (.ixA g n s x y)⟩⟩ :: r) K lg env tmp H = Bd (q (.ixA g n s x y) (ev gl (restr ss env) (restr ss tmp)) H) (kT (execE P gl r K lg) d env tmp H) := rr
theorem d_gT_ixA (n : Nat) (s : Nat) : execE P gl (⟨i, ss, false, pend, ⟨some d, true, some (sg, wt), (.ixA g n s x y)⟩⟩ :: r) K lg env tmp H = Bd (quietG ((ev gl (restr ss env) (restr ss tmp)) sg) wt (q (.ixA g n s x y) (ev gl (restr ss env) (restr ss tmp)) H)) (kT (execE P gl r K lg) d env tmp H) := rr
theorem d_qT_ixS : execE P gl (⟨i, ss, false, pend, ⟨some d, true, none, (.ixS x y)⟩⟩ :: r) K lg env tmp H = Bd (q (.ixS x y) (ev gl (restr ss env) (restr ss tmp)) H) (kT (execE P gl r K lg) d env tmp H) := rr
theorem d_gT_ixS : execE P gl (⟨i, ss, false, pend, ⟨some d, true, some (sg, wt), (.ixS x y)⟩⟩ :: r) K lg env tmp H = Bd (quietG ((ev gl (restr ss env) (restr ss tmp)) sg) wt (q (.ixS x y) (ev gl (restr ss env) (restr ss tmp)) H)) (kT (execE P gl r K lg) d env tmp H) := rr
theorem d_qT_lenA (n : Nat) : execE P gl (⟨i, ss, false, pend, ⟨some d, true, none, (.lenA n)⟩⟩ :: r) K lg env tmp H = Bd (q (.lenA n) (ev gl (restr ss env) (restr ss tmp)) H) (kT (execE P gl r K lg) d env tmp H) := rr
theorem d_gT_lenA (n : Nat) : execE P gl (⟨i, ss, false, pend, ⟨some d, true, some (sg, wt), (.lenA n)⟩⟩ :: r) K lg env tmp H = Bd (quietG ((ev gl (restr ss env) (restr ss tmp)) sg) wt (q (.lenA n) (ev gl (restr ss env) (restr ss tmp)) H)) (kT (execE P gl r K lg) d env tmp H) := rr
theorem d_qT_mkf (f : Nat) (xs : List X) : execE P gl (⟨i, ss, false, pend, ⟨some d, true, none, (.mkf f xs)⟩⟩ :: r) K lg env tmp H = Bd (q (.mkf f xs) (ev gl (restr ss env) (restr ss tmp)) H) (kT (execE P gl r K lg) d env tmp H) := rr
theorem d_gT_mkf (f : Nat) (xs : List X) : execE P gl (⟨i, ss, false, pend, ⟨some d, true, some (sg, wt), (.mkf f xs)⟩⟩ :: r) K lg env tmp H = Bd (quietG ((ev gl (restr ss env) (restr ss tmp)) sg) wt (q (.mkf f xs) (ev gl (restr ss env) (restr ss tmp)) H)) (kT (execE P gl r K lg) d env tmp H) := rr
theorem d_qT_slS (lo hi : Option X) : execE P gl (⟨i, ss, false, pend, ⟨some d, true, none, (.slS x lo hi)⟩⟩ :: r) K lg env tmp H = Bd (q (.slS x lo hi) (ev gl (restr ss env) (restr ss tmp)) H) (kT (execE P gl r K lg) d env tmp H) := rr
theorem d_gT_slS (lo hi : Option X) : execE P gl (⟨i, ss, false, pend, ⟨some d, true, some (sg, wt), (.slS x lo hi)⟩⟩ :: r) K lg env tmp H = Bd (quietG ((ev gl (restr ss env) (restr ss tmp)) sg) wt (q (.slS x lo hi) (ev gl (restr ss env) (restr ss tmp)) H)) (kT (execE P gl r K lg) d env tmp H) := rr
theorem d_boxT : execE P gl (⟨i, ss, false, pend, ⟨some d, true, none, .box x⟩⟩ :: r) K lg env tmp H = Bd (((ev gl (restr ss env) (restr ss tmp)) x).g ∧ (cellsQ ((ev gl (restr ss env) (restr ss tmp)) x).v).1, (cellsQ ((ev gl (restr ss env) (restr ss tmp)) x).v).2) (kBT (kR gl pend lg (execE P gl r K)) d env tmp H) := rr
theorem d_zeroT : execE P gl (⟨i, ss, false, pend, ⟨some d, true, none, .zero cs⟩⟩ :: r) K lg env tmp H = ∀ b, (kcT (kR gl pend lg (execE P gl r K)) d env tmp) (.ptr d b 0) ((d, .blk b cs) :: H) := rr
theorem d_makeT (sz bytes : Nat) (l c : X) : execE P gl (⟨i, ss, false, pend, ⟨some d, true, none, .make sz bytes z l c⟩⟩ :: r) K lg env tmp H = Bd (((ev gl (restr ss env) (restr ss tmp)) l).g ∧ ((ev gl (restr ss env) (restr ss tmp)) c).g ∧ (makeQ sz bytes z ((ev gl (restr ss env) (restr ss tmp)) l).v ((ev gl (restr ss env) (restr ss tmp)) c).v).1, (makeQ sz bytes z ((ev gl (restr ss env) (restr ss tmp)) l).v ((ev gl (restr ss env) (restr ss tmp)) c).v).2) (kM d sz z H (kcT (kR gl pend lg (execE P gl r K)) d env tmp)) := rr
theorem d_appT (sz bytes : Nat) (x y : X) : execE P gl (⟨i, ss, false, pend, ⟨some d, true, none, .app sz bytes x y⟩⟩ :: r) K lg env tmp H = Bd (((ev gl (restr ss env) (restr ss tmp)) x).g ∧ ((ev gl (restr ss env) (restr ss tmp)) y).g ∧ (elems sz ((ev gl (restr ss env) (restr ss tmp)) y).v H).1, (elems sz ((ev gl (restr ss env) (restr ss tmp)) y).v H).2) (kA d sz bytes ((ev gl (restr ss env) (restr ss tmp)) x).v H (kcT (kR gl pend lg (execE P gl r K)) d env tmp)) := rr
theorem d_appFT (sz bytes : Nat) (x y : X) : execE P gl (⟨i, ss, false, pend, ⟨some d, true, none, .appF sz bytes x y⟩⟩ :: r) K lg env tmp H = Bd (((ev gl (restr ss env) (restr ss tmp)) x).g ∧ ((ev gl (restr ss env) (restr ss tmp)) y).g ∧ (elems sz ((ev gl (restr ss env) (restr ss tmp)) y).v H).1, (elems sz ((ev gl (restr ss env) (restr ss tmp)) y).v H).2) (kAF d sz bytes ((ev gl (restr ss env) (restr ss tmp)) x).v H (kcT (kR gl pend lg (execE P gl r K)) d env tmp)) := rr
theorem d_appZT (sz bytes : Nat) (x y : X) : execE P gl (⟨i, ss, false, pend, ⟨some d, true, none, .appZ sz bytes z x y⟩⟩ :: r) K lg env tmp H = Bd (((ev gl (restr ss env) (restr ss tmp)) x).g ∧ ((ev gl (restr ss env) (restr ss tmp)) y).g ∧ (appZQ bytes ((ev gl (restr ss env) (restr ss tmp)) y).v).1, (appZQ bytes ((ev gl (restr ss env) (restr ss tmp)) y).v).2) (kZ d sz bytes z ((ev gl (restr ss env) (restr ss tmp)) x).v H (kcT (kR gl pend lg (execE P gl r K)) d env tmp)) := rr
theorem d_copyT (sz : Nat) (x y : X) : execE P gl (⟨i, ss, false, pend, ⟨some d, true, none, .copy sz x y⟩⟩ :: r) K lg env tmp H = Bd (((ev gl (restr ss env) (restr ss tmp)) x).g ∧ ((ev gl (restr ss env) (restr ss tmp)) y).g ∧ (elems sz ((ev gl (restr ss env) (restr ss tmp)) y).v H).1, (elems sz ((ev gl (restr ss env) (restr ss tmp)) y).v H).2) (kY sz ((ev gl (restr ss env) (restr ss tmp)) x).v H (kcT (kR gl pend lg (execE P gl r K)) d env tmp)) := rr
theorem d_clearT (sz : Nat) : execE P gl (⟨i, ss, false, pend, ⟨some d, true, none, .clear sz z x⟩⟩ :: r) K lg env tmp H = (((ev gl (restr ss env) (restr ss tmp)) x).g ∧ clearV sz z ((ev gl (restr ss env) (restr ss tmp)) x).v H (kcT (kR gl pend lg (execE P gl r K)) d env tmp)) := rr
theorem d_mkMapT  : execE P gl (⟨i, ss, false, pend, ⟨some d, true, none, .mkMap⟩⟩ :: r) K lg env tmp H = ∀ b, (kcT (kR gl pend lg (execE P gl r K)) d env tmp) (.raw (.map (some b))) ((d, .map b []) :: H) := rr
theorem d_lookT (ok : Bool) (kt : Nat) (z : LV) (x ky : X) : execE P gl (⟨i, ss, false, pend, ⟨some d, true, none, .look ok kt z x ky⟩⟩ :: r) K lg env tmp H = (((ev gl (restr ss env) (restr ss tmp)) x).g ∧ ((ev gl (restr ss env) (restr ss tmp)) ky).g ∧ lookV P kt ok z ((ev gl (restr ss env) (restr ss tmp)) ky).v ((ev gl (restr ss env) (restr ss tmp)) x).v H (kcT (kR gl pend lg (execE P gl r K)) d env tmp)) := rr
theorem d_lookGT (ok : Bool) (kt : Nat) (z : LV) (x ky sg : X) : execE P gl (⟨i, ss, false, pend, ⟨some d, true, some (sg, wt), .look ok kt z x ky⟩⟩ :: r) K lg env tmp H = Branch (gBool ((ev gl (restr ss env) (restr ss tmp)) sg) wt) (Susp (kLk P kt ok z ((ev gl (restr ss env) (restr ss tmp)) x) ((ev gl (restr ss env) (restr ss tmp)) ky) (kcT (kR gl pend lg (execE P gl r K)) d env tmp)) [] H) (Susp (kLn (kcT (kR gl pend lg (execE P gl r K)) d env tmp)) [] H) := rr
theorem d_isNilT (neg : Bool) : execE P gl (⟨i, ss, false, pend, ⟨some d, true, none, .isNil neg x⟩⟩ :: r) K lg env tmp H = (((ev gl (restr ss env) (restr ss tmp)) x).g ∧ isNilV neg ((ev gl (restr ss env) (restr ss tmp)) x).v H (kcT (kR gl pend lg (execE P gl r K)) d env tmp)) := rr
theorem d_mkST (d sz m : Nat) (ps : List (Nat × Nat × X)) : execE P gl (⟨i, ss, false, pend, ⟨some d, true, none, .mkS sz m z ps⟩⟩ :: r) K lg env tmp H = Bd (gParts (ev gl (restr ss env) (restr ss tmp)) ps ∧ z.length = sz ∧ (fillQ (zeros z (m * sz)) (vParts (ev gl (restr ss env) (restr ss tmp)) ps)).1, (fillQ (zeros z (m * sz)) (vParts (ev gl (restr ss env) (restr ss tmp)) ps)).2) (kS sz m (kT (execE P gl r K lg) d env tmp H)) := rr
theorem d_mkSgT (d sz m : Nat) (ps : List (Nat × Nat × X)) : execE P gl (⟨i, ss, false, pend, ⟨some d, true, some (sg, wt), .mkS sz m z ps⟩⟩ :: r) K lg env tmp H = Bd (quietG ((ev gl (restr ss env) (restr ss tmp)) sg) wt (mkSQ (ev gl (restr ss env) (restr ss tmp)) sz m z ps)) (kT (execE P gl r K lg) d env tmp H) := rr
theorem d_mkNT (d sz m : Nat) (ps : List (Nat × Nat × X)) : execE P gl (⟨i, ss, false, pend, ⟨some d, true, none, .mkN sz m z ps⟩⟩ :: r) K lg env tmp H = Bd (gParts (ev gl (restr ss env) (restr ss tmp)) ps ∧ z.length = sz ∧ (fillQ (zeros z (m * sz)) (vParts (ev gl (restr ss env) (restr ss tmp)) ps)).1, (fillQ (zeros z (m * sz)) (vParts (ev gl (restr ss env) (restr ss tmp)) ps)).2) (kN sz m (kT (execE P gl r K lg) d env tmp H)) := rr
theorem d_cvST : execE P gl (⟨i, ss, false, pend, ⟨some d, true, none, .cvS x⟩⟩ :: r) K lg env tmp H = Bd (((ev gl (restr ss env) (restr ss tmp)) x).g ∧ (cvQ ((ev gl (restr ss env) (restr ss tmp)) x).v).1, (cvQ ((ev gl (restr ss env) (restr ss tmp)) x).v).2) (kT (execE P gl r K lg) d env tmp H) := rr
theorem d_s2bT : execE P gl (⟨i, ss, false, pend, ⟨some d, true, none, .s2b x⟩⟩ :: r) K lg env tmp H = Bd (((ev gl (restr ss env) (restr ss tmp)) x).g ∧ (strQ ((ev gl (restr ss env) (restr ss tmp)) x).v).1, (strQ ((ev gl (restr ss env) (restr ss tmp)) x).v).2) (kXD (kT (execE P gl r K lg) d env tmp H)) := rr
theorem d_callT (f : Nat) (as : List X) : execE P gl (⟨i, ss, false, pend, ⟨some d, true, none, .call f as⟩⟩ :: r) K lg env tmp H = Bd (∀ x ∈ as, ((ev gl (restr ss env) (restr ss tmp)) x).g, as.map fun x => ((ev gl (restr ss env) (restr ss tmp)) x).v) (kC P gl f H (kcT (kR gl pend lg (execE P gl r K)) d env tmp)) := rr
theorem d_callVT (as : List X) : execE P gl (⟨i, ss, false, pend, ⟨some d, true, none, .callV x as⟩⟩ :: r) K lg env tmp H = Bd (((ev gl (restr ss env) (restr ss tmp)) x).g ∧ (∀ y ∈ as, ((ev gl (restr ss env) (restr ss tmp)) y).g) ∧ (calleeQ ((ev gl (restr ss env) (restr ss tmp)) x).v).1, (calleeQ ((ev gl (restr ss env) (restr ss tmp)) x).v).2.1, (as.map fun y => ((ev gl (restr ss env) (restr ss tmp)) y).v) ++ (calleeQ ((ev gl (restr ss env) (restr ss tmp)) x).v).2.2) (kCV P gl H (kcT (kR gl pend lg (execE P gl r K)) d env tmp)) := rr
theorem d_callVGT (as : List X) : execE P gl (⟨i, ss, false, pend, ⟨some d, true, some (sg, wt), .callV x as⟩⟩ :: r) K lg env tmp H = Branch (gBool ((ev gl (restr ss env) (restr ss tmp)) sg) wt) (Susp (kVk P gl (ev gl (restr ss env) (restr ss tmp)) x as (kcT (kR gl pend lg (execE P gl r K)) d env tmp)) [] H) (Susp (kLn (kcT (kR gl pend lg (execE P gl r K)) d env tmp)) [] H) := rr
theorem d_callGT (d f : Nat) (as : List X) : execE P gl (⟨i, ss, false, pend, ⟨some d, true, some (sg, wt), .call f as⟩⟩ :: r) K lg env tmp H = Bd ((gBool ((ev gl (restr ss env) (restr ss tmp)) sg) wt).1 ∧ ((gBool ((ev gl (restr ss env) (restr ss tmp)) sg) wt).2 = true → ∀ x ∈ as, ((ev gl (restr ss env) (restr ss tmp)) x).g), (gBool ((ev gl (restr ss env) (restr ss tmp)) sg) wt).2, as.map fun x => ((ev gl (restr ss env) (restr ss tmp)) x).v) (kG P gl f H (kcT (kR gl pend lg (execE P gl r K)) d env tmp)) := rr
theorem d_qU_mov : execE P gl (⟨i, ss, false, pend, ⟨some d, false, none, (.mov x)⟩⟩ :: r) K lg env tmp H = Bd (q (.mov x) (ev gl (restr ss env) (restr ss tmp)) H) (kU (execE P gl r K lg) d env tmp H) := rr
theorem d_gU_mov : execE P gl (⟨i, ss, false, pend, ⟨some d, false, some (sg, wt), (.mov x)⟩⟩ :: r) K lg env tmp H = Bd (quietG ((ev gl (restr ss env) (restr ss tmp)) sg) wt (q (.mov x) (ev gl (restr ss env) (restr ss tmp)) H)) (kU (execE P gl r K lg) d env tmp H) := rr
theorem d_qU_pick (c a b : X) : execE P gl (⟨i, ss, false, pend, ⟨some d, false, none, (.pick c a b)⟩⟩ :: r) K lg env tmp H = Bd (q (.pick c a b) (ev gl (restr ss env) (restr ss tmp)) H) (kU (execE P gl r K lg) d env tmp H) := rr
theorem d_gU_pick (c a b : X) : execE P gl (⟨i, ss, false, pend, ⟨some d, false, some (sg, wt), (.pick c a b)⟩⟩ :: r) K lg env tmp H = Bd (quietG ((ev gl (restr ss env) (restr ss tmp)) sg) wt (q (.pick c a b) (ev gl (restr ss env) (restr ss tmp)) H)) (kU (execE P gl r K lg) d env tmp H) := rr
theorem d_qU_build (ps : List (Nat × Nat × X)) : execE P gl (⟨i, ss, false, pend, ⟨some d, false, none, (.build z ps)⟩⟩ :: r) K lg env tmp H = Bd (q (.build z ps) (ev gl (restr ss env) (restr ss tmp)) H) (kU (execE P gl r K lg) d env tmp H) := rr
theorem d_gU_build (ps : List (Nat × Nat × X)) : execE P gl (⟨i, ss, false, pend, ⟨some d, false, some (sg, wt), (.build z ps)⟩⟩ :: r) K lg env tmp H = Bd (quietG ((ev gl (restr ss env) (restr ss tmp)) sg) wt (q (.build z ps) (ev gl (restr ss env) (restr ss tmp)) H)) (kU (execE P gl r K lg) d env tmp H) := rr
theorem d_qU_load (s : Nat) : execE P gl (⟨i, ss, true, pend, ⟨some d, false, none, (.load g s x)⟩⟩ :: r) K lg env tmp H = Bd (q (.load g s x) (ev gl (restr ss env) (restr ss tmp)) H) (kKU (execE P gl r K) i ⟨some d, false, none, (.load g s x)⟩ (restr ss env) (restr ss tmp) lg d env tmp H) := rr
theorem d_gU_load (s : Nat) : execE P gl (⟨i, ss, true, pend, ⟨some d, false, some (sg, wt), (.load g s x)⟩⟩ :: r) K lg env tmp H = Bd (quietG ((ev gl (restr ss env) (restr ss tmp)) sg) wt (q (.load g s x) (ev gl (restr ss env) (restr ss tmp)) H)) (kKU (execE P gl r K) i ⟨some d, false, some (sg, wt), (.load g s x)⟩ (restr ss env) (restr ss tmp) lg d env tmp H) := rr
theorem d_qU_nilc : execE P gl (⟨i, ss, false, pend, ⟨some d, false, none, (.nilc x)⟩⟩ :: r) K lg env tmp H = Bd (q (.nilc x) (ev gl (restr ss env) (restr ss tmp)) H) (kU (execE P gl r K lg) d env tmp H) := rr
theorem d_gU_nilc : execE P gl (⟨i, ss, false, pend, ⟨some d, false, some (sg, wt), (.nilc x)⟩⟩ :: r) K lg env tmp H = Bd (quietG ((ev gl (restr ss env) (restr ss tmp)) sg) wt (q (.nilc x) (ev gl (restr ss env) (restr ss tmp)) H)) (kU (execE P gl r K lg) d env tmp H) := rr
theorem d_qU_un (o : UnOp) : execE P gl (⟨i, ss, false, pend, ⟨some d, false, none, (.un o x)⟩⟩ :: r) K lg env tmp H = Bd (q (.un o x) (ev gl (restr ss env) (restr ss tmp)) H) (kU (execE P gl r K lg) d env tmp H) := rr
theorem d_gU_un (o : UnOp) : execE P gl (⟨i, ss, false, pend, ⟨some d, false, some (sg, wt), (.un o x)⟩⟩ :: r) K lg env tmp H = Bd (quietG ((ev gl (restr ss env) (restr ss tmp)) sg) wt (q (.un o x) (ev gl (restr ss env) (restr ss tmp)) H)) (kU (execE P gl r K lg) d env tmp H) := rr
theorem d_qU_conv (k : IntKind) : execE P gl (⟨i, ss, false, pend, ⟨some d, false, none, (.conv k x)⟩⟩ :: r) K lg env tmp H = Bd (q (.conv k x) (ev gl (restr ss env) (restr ss tmp)) H) (kU (execE P gl r K lg) d env tmp H) := rr
theorem d_gU_conv (k : IntKind) : execE P gl (⟨i, ss, false, pend, ⟨some d, false, some (sg, wt), (.conv k x)⟩⟩ :: r) K lg env tmp H = Bd (quietG ((ev gl (restr ss env) (restr ss tmp)) sg) wt (q (.conv k x) (ev gl (restr ss env) (restr ss tmp)) H)) (kU (execE P gl r K lg) d env tmp H) := rr
theorem d_qU_same : execE P gl (⟨i, ss, false, pend, ⟨some d, false, none, (.same x)⟩⟩ :: r) K lg env tmp H = Bd (q (.same x) (ev gl (restr ss env) (restr ss tmp)) H) (kU (execE P gl r K lg) d env tmp H) := rr
theorem d_gU_same : execE P gl (⟨i, ss, false, pend, ⟨some d, false, some (sg, wt), (.same x)⟩⟩ :: r) K lg env tmp H = Bd (quietG ((ev gl (restr ss env) (restr ss tmp)) sg) wt (q (.same x) (ev gl (restr ss env) (restr ss tmp)) H)) (kU (execE P gl r K lg) d env tmp H) := rr
theorem d_qU_b2s : execE P gl (⟨i, ss, true, pend, ⟨some d, false, none, (.b2s x)⟩⟩ :: r) K lg env tmp H = Bd (q (.b2s x) (ev gl (restr ss env) (restr ss tmp)) H) (kKU (execE P gl r K) i ⟨some d, false, none, (.b2s x)⟩ (restr ss env) (restr ss tmp) lg d env tmp H) := rr
theorem d_gU_b2s : execE P gl (⟨i, ss, true, pend, ⟨some d, false, some (sg, wt), (.b2s x)⟩⟩ :: r) K lg env tmp H = Bd (quietG ((ev gl (restr ss env) (restr ss tmp)) sg) wt (q (.b2s x) (ev gl (restr ss env) (restr ss tmp)) H)) (kKU (execE P gl r K) i ⟨some d, false, some (sg, wt), (.b2s x)⟩ (restr ss env) (restr ss tmp) lg d env tmp H) := rr
theorem d_qU_faddr (o : Nat) : execE P gl (⟨i, ss, false, pend, ⟨some d, false, none, (.faddr o x)⟩⟩ :: r) K lg env tmp H = Bd (q (.faddr o x) (ev gl (restr ss env) (restr ss tmp)) H) (kU (execE P gl r K lg) d env tmp H) := rr
theorem d_gU_faddr (o : Nat) : execE P gl (⟨i, ss, false, pend, ⟨some d, false, some (sg, wt), (.faddr o x)⟩⟩ :: r) K lg env tmp H = Bd (quietG ((ev gl (restr ss env) (restr ss tmp)) sg) wt (q (.faddr o x) (ev gl (restr ss env) (restr ss tmp)) H)) (kU (execE P gl r K lg) d env tmp H) := rr
theorem d_qU_fld (s : Nat) (o : Nat) : execE P gl (⟨i, ss, false, pend, ⟨some d, false, none, (.fld g s o x)⟩⟩ :: r) K lg env tmp H = Bd (q (.fld g s o x) (ev gl (restr ss env) (restr ss tmp)) H) (kU (execE P gl r K lg) d env tmp H) := rr
theorem d_gU_fld (s : Nat) (o : Nat) : execE P gl (⟨i, ss, false, pend, ⟨some d, false, some (sg, wt), (.fld g s o x)⟩⟩ :: r) K lg env tmp H = Bd (quietG ((ev gl (restr ss env) (restr ss tmp)) sg) wt (q (.fld g s o x) (ev gl (restr ss env) (restr ss tmp)) H)) (kU (execE P gl r K lg) d env tmp H) := rr
theorem d_qU_ext (ix : Nat) : execE P gl (⟨i, ss, false, pend, ⟨some d, false, none, (.ext x ix)⟩⟩ :: r) K lg env tmp H = Bd (q (.ext x ix) (ev gl (restr ss env) (restr ss tmp)) H) (kU (execE P gl r K lg) d env tmp H) := rr
theorem d_gU_ext (ix : Nat) : execE P gl (⟨i, ss, false, pend, ⟨some d, false, some (sg, wt), (.ext x ix)⟩⟩ :: r) K lg env tmp H = Bd (quietG ((ev gl (restr ss env) (restr ss tmp)) sg) wt (q (.ext x ix) (ev gl (restr ss env) (restr ss tmp)) H)) (kU (execE P gl r K lg) d env tmp H) := rr
theorem d_qU_len : execE P gl (⟨i, ss, false, pend, ⟨some d, false, none, (.len x)⟩⟩ :: r) K lg env tmp H = Bd (q (.len x) (ev gl (restr ss env) (restr ss tmp)) H) (kU (execE P gl r K lg) d env tmp H) := rr
theorem d_gU_len : execE P gl (⟨i, ss, false, pend, ⟨some d, false, some (sg, wt), (.len x)⟩⟩ :: r) K lg env tmp H = Bd (quietG ((ev gl (restr ss env) (restr ss tmp)) sg) wt (q (.len x) (ev gl (restr ss env) (restr ss tmp)) H)) (kU (execE P gl r K lg) d env tmp H) := rr
theorem d_qU_lenL : execE P gl (⟨i, ss, false, pend, ⟨some d, false, none, (.lenL x)⟩⟩ :: r) K lg env tmp H = Bd (q (.lenL x) (ev gl (restr ss env) (restr ss tmp)) H) (kU (execE P gl r K lg) d env tmp H) := rr
theorem d_gU_lenL : execE P gl (⟨i, ss, false, pend, ⟨some d, false, some (sg, wt), (.lenL x)⟩⟩ :: r) K lg env tmp H = Bd (quietG ((ev gl (restr ss env) (restr ss tmp)) sg) wt (q (.lenL x) (ev gl (restr ss env) (restr ss tmp)) H)) (kU (execE P gl r K lg) d env tmp H) := rr
theorem d_qU_cap : execE P gl (⟨i, ss, false, pend, ⟨some d, false, none, (.cap x)⟩⟩ :: r) K lg env tmp H = Bd (q (.cap x) (ev gl (restr ss env) (restr ss tmp)) H) (kU (execE P gl r K lg) d env tmp H) := rr
theorem d_gU_cap : execE P gl (⟨i, ss, false, pend, ⟨some d, false, some (sg, wt), (.cap x)⟩⟩ :: r) K lg env tmp H = Bd (quietG ((ev gl (restr ss env) (restr ss tmp)) sg) wt (q (.cap x) (ev gl (restr ss env) (restr ss tmp)) H)) (kU (execE P gl r K lg) d env tmp H) := rr
theorem d_qU_slL (s : Nat) : execE P gl (⟨i, ss, false, pend, ⟨some d, false, none, (.slL s x lo hi mx)⟩⟩ :: r) K lg env tmp H = Bd (q (.slL s x lo hi mx) (ev gl (restr ss env) (restr ss tmp)) H) (kU (execE P gl r K lg) d env tmp H) := rr
theorem d_gU_slL (s : Nat) : execE P gl (⟨i, ss, false, pend, ⟨some d, false, some (sg, wt), (.slL s x lo hi mx)⟩⟩ :: r) K lg env tmp H = Bd (quietG ((ev gl (restr ss env) (restr ss tmp)) sg) wt (q (.slL s x lo hi mx) (ev gl (restr ss env) (restr ss tmp)) H)) (kU (execE P gl r K lg) d env tmp H) := rr
theorem d_qU_slA (n : Nat) (s : Nat) : execE P gl (⟨i, ss, false, pend, ⟨some d, false, none, (.slA n s x lo hi mx)⟩⟩ :: r) K lg env tmp H = Bd (q (.slA n s x lo hi mx) (ev gl (restr ss env) (restr ss tmp)) H) (kU (execE P gl r K lg) d env tmp H) := rr
theorem d_gU_slA (n : Nat) (s : Nat) : execE P gl (⟨i, ss, false, pend, ⟨some d, false, some (sg, wt), (.slA n s x lo hi mx)⟩⟩ :: r) K lg env tmp H = Bd (quietG ((ev gl (restr ss env) (restr ss tmp)) sg) wt (q (.slA n s x lo hi mx) (ev gl (restr ss env) (restr ss tmp)) H)) (kU (execE P gl r K lg) d env tmp H) := rr
theorem d_qU_mm (m : Bool) (xs : List X) : execE P gl (⟨i, ss, false, pend, ⟨some d, false, none, (.mm m x xs)⟩⟩ :: r) K lg env tmp H = Bd (q (.mm m x xs) (ev gl (restr ss env) (restr ss tmp)) H) (kU (execE P gl r K lg) d env tmp H) := rr
theorem d_gU_mm (m : Bool) (xs : List X) : execE P gl (⟨i, ss, false, pend, ⟨some d, false, some (sg, wt), (.mm m x xs)⟩⟩ :: r) K lg env tmp H = Bd (quietG ((ev gl (restr ss env) (restr ss tmp)) sg) wt (q (.mm m x xs) (ev gl (restr ss env) (restr ss tmp)) H)) (kU (execE P gl r K lg) d env tmp H) := rr
theorem d_qU_bin (o : BinOp) : execE P gl (⟨i, ss, false, pend, ⟨some d, false, none, (.bin o x y)⟩⟩ :: r) K lg env tmp H = Bd (q (.bin o x y) (ev gl (restr ss env) (restr ss tmp)) H) (kU (execE P gl r K lg) d env tmp H) := rr
theorem d_gU_bin (o : BinOp) : execE P gl (⟨i, ss, false, pend, ⟨some d, false, some (sg, wt), (.bin o x y)⟩⟩ :: r) K lg env tmp H = Bd (quietG ((ev gl (restr ss env) (restr ss tmp)) sg) wt (q (.bin o x y) (ev gl (restr ss env) (restr ss tmp)) H)) (kU (execE P gl r K lg) d env tmp H) := rr
theorem d_qU_eqB : execE P gl (⟨i, ss, false, pend, ⟨some d, false, none, (.eqB g x y)⟩⟩ :: r) K lg env tmp H = Bd (q (.eqB g x y) (ev gl (restr ss env) (restr ss tmp)) H) (kU (execE P gl r K lg) d env tmp H) := rr
theorem d_gU_eqB : execE P gl (⟨i, ss, false, pend, ⟨some d, false, some (sg, wt), (.eqB g x y)⟩⟩ :: r) K lg env tmp H = Bd (quietG ((ev gl (restr ss env) (restr ss tmp)) sg) wt (q (.eqB g x y) (ev gl (restr ss env) (restr ss tmp)) H)) (kU (execE P gl r K lg) d env tmp H) := rr
theorem d_qU_eqN : execE P gl (⟨i, ss, false, pend, ⟨some d, false, none, (.eqN g x y)⟩⟩ :: r) K lg env tmp H = Bd (q (.eqN g x y) (ev gl (restr ss env) (restr ss tmp)) H) (kU (execE P gl r K lg) d env tmp H) := rr
theorem d_gU_eqN : execE P gl (⟨i, ss, false, pend, ⟨some d, false, some (sg, wt), (.eqN g x y)⟩⟩ :: r) K lg env tmp H = Bd (quietG ((ev gl (restr ss env) (restr ss tmp)) sg) wt (q (.eqN g x y) (ev gl (restr ss env) (restr ss tmp)) H)) (kU (execE P gl r K lg) d env tmp H) := rr
theorem d_qU_eqS (s : Nat) (ls : List (Nat × Nat)) : execE P gl (⟨i, ss, false, pend, ⟨some d, false, none, (.eqS g s ls x y)⟩⟩ :: r) K lg env tmp H = Bd (q (.eqS g s ls x y) (ev gl (restr ss env) (restr ss tmp)) H) (kU (execE P gl r K lg) d env tmp H) := rr
theorem d_gU_eqS (s : Nat) (ls : List (Nat × Nat)) : execE P gl (⟨i, ss, false, pend, ⟨some d, false, some (sg, wt), (.eqS g s ls x y)⟩⟩ :: r) K lg env tmp H = Bd (quietG ((ev gl (restr ss env) (restr ss tmp)) sg) wt (q (.eqS g s ls x y) (ev gl (restr ss env) (restr ss tmp)) H)) (kU (execE P gl r K lg) d env tmp H) := rr
theorem d_qU_iaA (n : Nat) (s : Nat) : execE P gl (⟨i, ss, false, pend, ⟨some d, false, none, (.iaA n s x y)⟩⟩ :: r) K lg env tmp H = Bd (q (.iaA n s x y) (ev gl (restr ss env) (restr ss tmp)) H) (kU (execE P gl r K lg) d env tmp H) := rr
theorem d_gU_iaA (n : Nat) (s : Nat) : execE P gl (⟨i, ss, false, pend, ⟨some d, false, some (sg, wt), (.iaA n s x y)⟩⟩ :: r) K lg env tmp H = Bd (quietG ((ev gl (restr ss env) (restr ss tmp)) sg) wt (q (.iaA n s x y) (ev gl (restr ss env) (restr ss tmp)) H)) (kU (execE P gl r K lg) d env tmp H) := rr
theorem d_qU_iaS (s : Nat) : execE P gl (⟨i, ss, false, pend, ⟨some d, false, none, (.iaS s x y)⟩⟩ :: r) K lg env tmp H = Bd (q (.iaS s x y) (ev gl (restr ss env) (restr ss tmp)) H) (kU (execE P gl r K lg) d env tmp H) := rr
theorem d_gU_iaS (s : Nat) : execE P gl (⟨i, ss, false, pend, ⟨some d, false, some (sg, wt), (.iaS s x y)⟩⟩ :: r) K lg env tmp H = Bd (quietG ((ev gl (restr ss env) (restr ss tmp)) sg) wt (q (.iaS s x y) (ev gl (restr ss env) (restr ss tmp)) H)) (kU (execE P gl r K lg) d env tmp H) := rr
theorem d_qU_ixA (n : Nat) (s : Nat) : execE P gl (⟨i, ss, false, pend, ⟨some d, false, none, (.ixA g n s x y)⟩⟩ :: r) K lg env tmp H = Bd (q (.ixA g n s x y) (ev gl (restr ss env) (restr ss tmp)) H) (kU (execE P gl r K lg) d env tmp H) := rr
theorem d_gU_ixA (n : Nat) (s : Nat) : execE P gl (⟨i, ss, false, pend, ⟨some d, false, some (sg, wt), (.ixA g n s x y)⟩⟩ :: r) K lg env tmp H = Bd (quietG ((ev gl (restr ss env) (restr ss tmp)) sg) wt (q (.ixA g n s x y) (ev gl (restr ss env) (restr ss tmp)) H)) (kU (execE P gl r K lg) d env tmp H) := rr
theorem d_qU_ixS : execE P gl (⟨i, ss, false, pend, ⟨some d, false, none, (.ixS x y)⟩⟩ :: r) K lg env tmp H = Bd (q (.ixS x y) (ev gl (restr ss env) (restr ss tmp)) H) (kU (execE P gl r K lg) d env tmp H) := rr
theorem d_gU_ixS : execE P gl (⟨i, ss, false, pend, ⟨some d, false, some (sg, wt), (.ixS x y)⟩⟩ :: r) K lg env tmp H = Bd (quietG ((ev gl (restr ss env) (restr ss tmp)) sg) wt (q (.ixS x y) (ev gl (restr ss env) (restr ss tmp)) H)) (kU (execE P gl r K lg) d env tmp H) := rr
theorem d_qU_lenA (n : Nat) : execE P gl (⟨i, ss, false, pend, ⟨some d, false, none, (.lenA n)⟩⟩ :: r) K lg env tmp H = Bd (q (.lenA n) (ev gl (restr ss env) (restr ss tmp)) H) (kU (execE P gl r K lg) d env tmp H) := rr
theorem d_gU_lenA (n : Nat) : execE P gl (⟨i, ss, false, pend, ⟨some d, false, some (sg, wt), (.lenA n)⟩⟩ :: r) K lg env tmp H = Bd (quietG ((ev gl (restr ss env) (restr ss tmp)) sg) wt (q (.lenA n) (ev gl (restr ss env) (restr ss tmp)) H)) (kU (execE P gl r K lg) d env tmp H) := rr
theorem d_qU_mkf (f : Nat) (xs : List X) : execE P gl (⟨i, ss, false, pend, ⟨some d, false, none, (.mkf f xs)⟩⟩ :: r) K lg env tmp H = Bd (q (.mkf f xs) (ev gl (restr ss env) (restr ss tmp)) H) (kU (execE P gl r K lg) d env tmp H) := rr
theorem d_gU_mkf (f : Nat) (xs : List X) : execE P gl (⟨i, ss, false, pend, ⟨some d, false, some (sg, wt), (.mkf f xs)⟩⟩ :: r) K lg env tmp H = Bd (quietG ((ev gl (restr ss env) (restr ss tmp)) sg) wt (q (.mkf f xs) (ev gl (restr ss env) (restr ss tmp)) H)) (kU (execE P gl r K lg) d env tmp H) := rr
theorem d_qU_slS (lo hi : Option X) : execE P gl (⟨i, ss, false, pend, ⟨some d, false, none, (.slS x lo hi)⟩⟩ :: r) K lg env tmp H = Bd (q (.slS x lo hi) (ev gl (restr ss env) (restr ss tmp)) H) (kU (execE P gl r K lg) d env tmp H) := rr
theorem d_gU_slS (lo hi : Option X) : execE P gl (⟨i, ss, false, pend, ⟨some d, false, some (sg, wt), (.slS x lo hi)⟩⟩ :: r) K lg env tmp H = Bd (quietG ((ev gl (restr ss env) (restr ss tmp)) sg) wt (q (.slS x lo hi) (ev gl (restr ss env) (restr ss tmp)) H)) (kU (execE P gl r K lg) d env tmp H) := rr
theorem d_boxU : execE P gl (⟨i, ss, false, pend, ⟨some d, false, none, .box x⟩⟩ :: r) K lg env tmp H = Bd (((ev gl (restr ss env) (restr ss tmp)) x).g ∧ (cellsQ ((ev gl (restr ss env) (restr ss tmp)) x).v).1, (cellsQ ((ev gl (restr ss env) (restr ss tmp)) x).v).2) (kBU (kR gl pend lg (execE P gl r K)) d env tmp H) := rr
theorem d_zeroU : execE P gl (⟨i, ss, false, pend, ⟨some d, false, none, .zero cs⟩⟩ :: r) K lg env tmp H = ∀ b, (kcU (kR gl pend lg (execE P gl r K)) d env tmp) (.ptr d b 0) ((d, .blk b cs) :: H) := rr
theorem d_makeU (sz bytes : Nat) (l c : X) : execE P gl (⟨i, ss, false, pend, ⟨some d, false, none, .make sz bytes z l c⟩⟩ :: r) K lg env tmp H = Bd (((ev gl (restr ss env) (restr ss tmp)) l).g ∧ ((ev gl (restr ss env) (restr ss tmp)) c).g ∧ (makeQ sz bytes z ((ev gl (restr ss env) (restr ss tmp)) l).v ((ev gl (restr ss env) (restr ss tmp)) c).v).1, (makeQ sz bytes z ((ev gl (restr ss env) (restr ss tmp)) l).v ((ev gl (restr ss env) (restr ss tmp)) c).v).2) (kM d sz z H (kcU (kR gl pend lg (execE P gl r K)) d env tmp)) := rr
theorem d_appU (sz bytes : Nat) (x y : X) : execE P gl (⟨i, ss, false, pend, ⟨some d, false, none, .app sz bytes x y⟩⟩ :: r) K lg env tmp H = Bd (((ev gl (restr ss env) (restr ss tmp)) x).g ∧ ((ev gl (restr ss env) (restr ss tmp)) y).g ∧ (elems sz ((ev gl (restr ss env) (restr ss tmp)) y).v H).1, (elems sz ((ev gl (restr ss env) (restr ss tmp)) y).v H).2) (kA d sz bytes ((ev gl (restr ss env) (restr ss tmp)) x).v H (kcU (kR gl pend lg (execE P gl r K)) d env tmp)) := rr
theorem d_appFU (sz bytes : Nat) (x y : X) : execE P gl (⟨i, ss, false, pend, ⟨some d, false, none, .appF sz bytes x y⟩⟩ :: r) K lg env tmp H = Bd (((ev gl (restr ss env) (restr ss tmp)) x).g ∧ ((ev gl (restr ss env) (restr ss tmp)) y).g ∧ (elems sz ((ev gl (restr ss env) (restr ss tmp)) y).v H).1, (elems sz ((ev gl (restr ss env) (restr ss tmp)) y).v H).2) (kAF d sz bytes ((ev gl (restr ss env) (restr ss tmp)) x).v H (kcU (kR gl pend lg (execE P gl r K)) d env tmp)) := rr
theorem d_appZU (sz bytes : Nat) (x y : X) : execE P gl (⟨i, ss, false, pend, ⟨some d, false, none, .appZ sz bytes z x y⟩⟩ :: r) K lg env tmp H = Bd (((ev gl (restr ss env) (restr ss tmp)) x).g ∧ ((ev gl (restr ss env) (restr ss tmp)) y).g ∧ (appZQ bytes ((ev gl (restr ss env) (restr ss tmp)) y).v).1, (appZQ bytes ((ev gl (restr ss env) (restr ss tmp)) y).v).2) (kZ d sz bytes z ((ev gl (restr ss env) (restr ss tmp)) x).v H (kcU (kR gl pend lg (execE P gl r K)) d env tmp)) := rr
theorem d_copyU (sz : Nat) (x y : X) : execE P gl (⟨i, ss, false, pend, ⟨some d, false, none, .copy sz x y⟩⟩ :: r) K lg env tmp H = Bd (((ev gl (restr ss env) (restr ss tmp)) x).g ∧ ((ev gl (restr ss env) (restr ss tmp)) y).g ∧ (elems sz ((ev gl (restr ss env) (restr ss tmp)) y).v H).1, (elems sz ((ev gl (restr ss env) (restr ss tmp)) y).v H).2) (kY sz ((ev gl (restr ss env) (restr ss tmp)) x).v H (kcU (kR gl pend lg (execE P gl r K)) d env tmp)) := rr
theorem d_clearU (sz : Nat) : execE P gl (⟨i, ss, false, pend, ⟨some d, false, none, .clear sz z x⟩⟩ :: r) K lg env tmp H = (((ev gl (restr ss env) (restr ss tmp)) x).g ∧ clearV sz z ((ev gl (restr ss env) (restr ss tmp)) x).v H (kcU (kR gl pend lg (execE P gl r K)) d env tmp)) := rr
theorem d_mkMapU  : execE P gl (⟨i, ss, false, pend, ⟨some d, false, none, .mkMap⟩⟩ :: r) K lg env tmp H = ∀ b, (kcU (kR gl pend lg (execE P gl r K)) d env tmp) (.raw (.map (some b))) ((d, .map b []) :: H) := rr
theorem d_lookU (ok : Bool) (kt : Nat) (z : LV) (x ky : X) : execE P gl (⟨i, ss, false, pend, ⟨some d, false, none, .look ok kt z x ky⟩⟩ :: r) K lg env tmp H = (((ev gl (restr ss env) (restr ss tmp)) x).g ∧ ((ev gl (restr ss env) (restr ss tmp)) ky).g ∧ lookV P kt ok z ((ev gl (restr ss env) (restr ss tmp)) ky).v ((ev gl (restr ss env) (restr ss tmp)) x).v H (kcU (kR gl pend lg (execE P gl r K)) d env tmp)) := rr
theorem d_lookGU (ok : Bool) (kt : Nat) (z : LV) (x ky sg : X) : execE P gl (⟨i, ss, false, pend, ⟨some d, false, some (sg, wt), .look ok kt z x ky⟩⟩ :: r) K lg env tmp H = Branch (gBool ((ev gl (restr ss env) (restr ss tmp)) sg) wt) (Susp (kLk P kt ok z ((ev gl (restr ss env) (restr ss tmp)) x) ((ev gl (restr ss env) (restr ss tmp)) ky) (kcU (kR gl pend lg (execE P gl r K)) d env tmp)) [] H) (Susp (kLn (kcU (kR gl pend lg (execE P gl r K)) d env tmp)) [] H) := rr
theorem d_isNilU (neg : Bool) : execE P gl (⟨i, ss, false, pend, ⟨some d, false, none, .isNil neg x⟩⟩ :: r) K lg env tmp H = (((ev gl (restr ss env) (restr ss tmp)) x).g ∧ isNilV neg ((ev gl (restr ss env) (restr ss tmp)) x).v H (kcU (kR gl pend lg (execE P gl r K)) d env tmp)) := rr
theorem d_mkSU (d sz m : Nat) (ps : List (Nat × Nat × X)) : execE P gl (⟨i, ss, false, pend, ⟨some d, false, none, .mkS sz m z ps⟩⟩ :: r) K lg env tmp H = Bd (gParts (ev gl (restr ss env) (restr ss tmp)) ps ∧ z.length = sz ∧ (fillQ (zeros z (m * sz)) (vParts (ev gl (restr ss env) (restr ss tmp)) ps)).1, (fillQ (zeros z (m * sz)) (vParts (ev gl (restr ss env) (restr ss tmp)) ps)).2) (kS sz m (kU (execE P gl r K lg) d env tmp H)) := rr
theorem d_mkSgU (d sz m : Nat) (ps : List (Nat × Nat × X)) : execE P gl (⟨i, ss, false, pend, ⟨some d, false, some (sg, wt), .mkS sz m z ps⟩⟩ :: r) K lg env tmp H = Bd (quietG ((ev gl (restr ss env) (restr ss tmp)) sg) wt (mkSQ (ev gl (restr ss env) (restr ss tmp)) sz m z ps)) (kU (execE P gl r K lg) d env tmp H) := rr
theorem d_mkNU (d sz m : Nat) (ps : List (Nat × Nat × X)) : execE P gl (⟨i, ss, false, pend, ⟨some d, false, none, .mkN sz m z ps⟩⟩ :: r) K lg env tmp H = Bd (gParts (ev gl (restr ss env) (restr ss tmp)) ps ∧ z.length = sz ∧ (fillQ (zeros z (m * sz)) (vParts (ev gl (restr ss env) (restr ss tmp)) ps)).1, (fillQ (zeros z (m * sz)) (vParts (ev gl (restr ss env) (restr ss tmp)) ps)).2) (kN sz m (kU (execE P gl r K lg) d env tmp H)) := rr
theorem d_cvSU : execE P gl (⟨i, ss, false, pend, ⟨some d, false, none, .cvS x⟩⟩ :: r) K lg env tmp H = Bd (((ev gl (restr ss env) (restr ss tmp)) x).g ∧ (cvQ ((ev gl (restr ss env) (restr ss tmp)) x).v).1, (cvQ ((ev gl (restr ss env) (restr ss tmp)) x).v).2) (kU (execE P gl r K lg) d env tmp H) := rr
theorem d_s2bU : execE P gl (⟨i, ss, false, pend, ⟨some d, false, none, .s2b x⟩⟩ :: r) K lg env tmp H = Bd (((ev gl (restr ss env) (restr ss tmp)) x).g ∧ (strQ ((ev gl (restr ss env) (restr ss tmp)) x).v).1, (strQ ((ev gl (restr ss env) (restr ss tmp)) x).v).2) (kXD (kU (execE P gl r K lg) d env tmp H)) := rr
theorem d_callU (f : Nat) (as : List X) : execE P gl (⟨i, ss, false, pend, ⟨some d, false, none, .call f as⟩⟩ :: r) K lg env tmp H = Bd (∀ x ∈ as, ((ev gl (restr ss env) (restr ss tmp)) x).g, as.map fun x => ((ev gl (restr ss env) (restr ss tmp)) x).v) (kC P gl f H (kcU (kR gl pend lg (execE P gl r K)) d env tmp)) := rr
theorem d_callVU (as : List X) : execE P gl (⟨i, ss, false, pend, ⟨some d, false, none, .callV x as⟩⟩ :: r) K lg env tmp H = Bd (((ev gl (restr ss env) (restr ss tmp)) x).g ∧ (∀ y ∈ as, ((ev gl (restr ss env) (restr ss tmp)) y).g) ∧ (calleeQ ((ev gl (restr ss env) (restr ss tmp)) x).v).1, (calleeQ ((ev gl (restr ss env) (restr ss tmp)) x).v).2.1, (as.map fun y => ((ev gl (restr ss env) (restr ss tmp)) y).v) ++ (calleeQ ((ev gl (restr ss env) (restr ss tmp)) x).v).2.2) (kCV P gl H (kcU (kR gl pend lg (execE P gl r K)) d env tmp)) := rr
theorem d_callVGU (as : List X) : execE P gl (⟨i, ss, false, pend, ⟨some d, false, some (sg, wt), .callV x as⟩⟩ :: r) K lg env tmp H = Branch (gBool ((ev gl (restr ss env) (restr ss tmp)) sg) wt) (Susp (kVk P gl (ev gl (restr ss env) (restr ss tmp)) x as (kcU (kR gl pend lg (execE P gl r K)) d env tmp)) [] H) (Susp (kLn (kcU (kR gl pend lg (execE P gl r K)) d env tmp)) [] H) := rr
theorem d_callGU (d f : Nat) (as : List X) : execE P gl (⟨i, ss, false, pend, ⟨some d, false, some (sg, wt), .call f as⟩⟩ :: r) K lg env tmp H = Bd ((gBool ((ev gl (restr ss env) (restr ss tmp)) sg) wt).1 ∧ ((gBool ((ev gl (restr ss env) (restr ss tmp)) sg) wt).2 = true → ∀ x ∈ as, ((ev gl (restr ss env) (restr ss tmp)) x).g), (gBool ((ev gl (restr ss env) (restr ss tmp)) sg) wt).2, as.map fun x => ((ev gl (restr ss env) (restr ss tmp)) x).v) (kG P gl f H (kcU (kR gl pend lg (execE P gl r K)) d env tmp)) := rr
theorem x_store (v : Bool) (sz : Nat) (a x : X) (r : List LOper) : execL P gl (⟨none, v, none, .store sz a x⟩ :: r) K env tmp H = Bd (((ev gl env tmp) a).g ∧ ((ev gl env tmp) x).g ∧ (storeQ sz ((ev gl env tmp) a).v ((ev gl env tmp) x).v H).1, (storeQ sz ((ev gl env tmp) a).v ((ev gl env tmp) x).v H).2) (kH (execL P gl r K) env tmp) := by cases v <;> rfl
theorem x_callN (v : Bool) (f : Nat) (as : List X) (r : List LOper) : execL P gl (⟨none, v, none, .call f as⟩ :: r) K env tmp H = Bd (∀ x ∈ as, ((ev gl env tmp) x).g, as.map fun x => ((ev gl env tmp) x).v) (kC P gl f H (kvN gl (execL P gl r K) env tmp)) := by cases v <;> rfl
theorem x_callVN (v : Bool) (as : List X) (r : List LOper) : execL P gl (⟨none, v, none, .callV x as⟩ :: r) K env tmp H = Bd (((ev gl env tmp) x).g ∧ (∀ y ∈ as, ((ev gl env tmp) y).g) ∧ (calleeQ ((ev gl env tmp) x).v).1, (calleeQ ((ev gl env tmp) x).v).2.1, (as.map fun y => ((ev gl env tmp) y).v) ++ (calleeQ ((ev gl env tmp) x).v).2.2) (kCV P gl H (kvN gl (execL P gl r K) env tmp)) := by cases v <;> rfl
theorem x_clearN (v : Bool) (sz : Nat) (r : List LOper) : execL P gl (⟨none, v, none, .clear sz z x⟩ :: r) K env tmp H = (((ev gl env tmp) x).g ∧ clearV sz z ((ev gl env tmp) x).v H (kcN (execL P gl r K) env tmp)) := by cases v <;> rfl
theorem x_copyN (v : Bool) (sz : Nat) (x y : X) (r : List LOper) : execL P gl (⟨none, v, none, .copy sz x y⟩ :: r) K env tmp H = Bd (((ev gl env tmp) x).g ∧ ((ev gl env tmp) y).g ∧ (elems sz ((ev gl env tmp) y).v H).1, (elems sz ((ev gl env tmp) y).v H).2) (kY sz ((ev gl env tmp) x).v H (kcN (execL P gl r K) env tmp)) := by cases v <;> rfl
theorem x_updN (v : Bool) (kt : Nat) (x ky y : X) (r : List LOper) : execL P gl (⟨none, v, none, .upd kt x ky y⟩ :: r) K env tmp H = (((ev gl env tmp) x).g ∧ ((ev gl env tmp) ky).g ∧ ((ev gl env tmp) y).g ∧ updV P kt ((ev gl env tmp) ky).v ((ev gl env tmp) y).v ((ev gl env tmp) x).v H (kcN (execL P gl r K) env tmp)) := by cases v <;> rfl
theorem d_store (v : Bool) (sz : Nat) (a x : X) : execE P gl (⟨i, ss, false, pend, ⟨none, v, none, .store sz a x⟩⟩ :: r) K lg env tmp H = Bd (((ev gl (restr ss env) (restr ss tmp)) a).g ∧ ((ev gl (restr ss env) (restr ss tmp)) x).g ∧ (storeQ sz ((ev gl (restr ss env) (restr ss tmp)) a).v ((ev gl (restr ss env) (restr ss tmp)) x).v H).1, (storeQ sz ((ev gl (restr ss env) (restr ss tmp)) a).v ((ev gl (restr ss env) (restr ss tmp)) x).v H).2) (kH (kR gl pend lg (execE P gl r K)) env tmp) := by cases v <;> rfl
theorem d_callN (v : Bool) (f : Nat) (as : List X) : execE P gl (⟨i, ss, false, pend, ⟨none, v, none, .call f as⟩⟩ :: r) K lg env tmp H = Bd (∀ x ∈ as, ((ev gl (restr ss env) (restr ss tmp)) x).g, as.map fun x => ((ev gl (restr ss env) (restr ss tmp)) x).v) (kC P gl f H (kcN (kR gl pend lg (execE P gl r K)) env tmp)) := by cases v <;> rfl
theorem d_callVN (v : Bool) (as : List X) : execE P gl (⟨i, ss, false, pend, ⟨none, v, none, .callV x as⟩⟩ :: r) K lg env tmp H = Bd (((ev gl (restr ss env) (restr ss tmp)) x).g ∧ (∀ y ∈ as, ((ev gl (restr ss env) (restr ss tmp)) y).g) ∧ (calleeQ ((ev gl (restr ss env) (restr ss tmp)) x).v).1, (calleeQ ((ev gl (restr ss env) (restr ss tmp)) x).v).2.1, (as.map fun y => ((ev gl (restr ss env) (restr ss tmp)) y).v) ++ (calleeQ ((ev gl (restr ss env) (restr ss tmp)) x).v).2.2) (kCV P gl H (kcN (kR gl pend lg (execE P gl r K)) env tmp)) := by cases v <;> rfl
theorem d_clearN (v : Bool) (sz : Nat) : execE P gl (⟨i, ss, false, pend, ⟨none, v, none, .clear sz z x⟩⟩ :: r) K lg env tmp H = (((ev gl (restr ss env) (restr ss tmp)) x).g ∧ clearV sz z ((ev gl (restr ss env) (restr ss tmp)) x).v H (kcN (kR gl pend lg (execE P gl r K)) env tmp)) := by cases v <;> rfl
theorem d_copyN (v : Bool) (sz : Nat) (x y : X) : execE P gl (⟨i, ss, false, pend, ⟨none, v, none, .copy sz x y⟩⟩ :: r) K lg env tmp H = Bd (((ev gl (restr ss env) (restr ss tmp)) x).g ∧ ((ev gl (restr ss env) (restr ss tmp)) y).g ∧ (elems sz ((ev gl (restr ss env) (restr ss tmp)) y).v H).1, (elems sz ((ev gl (restr ss env) (restr ss tmp)) y).v H).2) (kY sz ((ev gl (restr ss env) (restr ss tmp)) x).v H (kcN (kR gl pend lg (execE P gl r K)) env tmp)) := by cases v <;> rfl
theorem d_updN (v : Bool) (kt : Nat) (x ky y : X) : execE P gl (⟨i, ss, false, pend, ⟨none, v, none, .upd kt x ky y⟩⟩ :: r) K lg env tmp H = (((ev gl (restr ss env) (restr ss tmp)) x).g ∧ ((ev gl (restr ss env) (restr ss tmp)) ky).g ∧ ((ev gl (restr ss env) (restr ss tmp)) y).g ∧ updV P kt ((ev gl (restr ss env) (restr ss tmp)) ky).v ((ev gl (restr ss env) (restr ss tmp)) y).v ((ev gl (restr ss env) (restr ss tmp)) x).v H (kcN (kR gl pend lg (execE P gl r K)) env tmp)) := by cases v <;> rfl
theorem kLk_eq (kt : Nat) (ok : Bool) (z x i : LV) (k : LV → Heap → Prop) (env : Env) : kLk P kt ok z x i k env H = (x.g ∧ i.g ∧ lookV P kt ok z i.v x.v H k) := rr
theorem kVk_eq (as : List X) (k : LV → Heap → Prop) (env : Env) : kVk P gl ρ x as k env H = Bd ((ρ x).g ∧ (∀ y ∈ as, (ρ y).g) ∧ (calleeQ (ρ x).v).1, (calleeQ (ρ x).v).2.1, (as.map fun y => (ρ y).v) ++ (calleeQ (ρ x).v).2.2) (kCV P gl H k) := rr
theorem kLn_eq (k : LV → Heap → Prop) (env : Env) : kLn k env H = k (.opt false .any) H := rr
theorem lookV_raw (kt : Nat) (ok : Bool) (z i : LV) (b : Nat) (K : LV → Heap → Prop) : lookV P kt ok z i (.raw (.map (some b))) H K = lookE P kt ok z i (getMap H b) H K := rr
theorem lookE_some (kt : Nat) (ok : Bool) (z i : LV) (es : List (LV × LV)) (K : LV → Heap → Prop) : lookE P kt ok z i (some es) H K = (KeysOK P kt i es ∧ K (lookR ok z (lookL es i)) H) := rr
theorem lookR_t (z : LV) (r : Option LV) : lookR true z r = .tup [r.getD z, .bool r.isSome] := rr
theorem lookR_f (z : LV) (r : Option LV) : lookR false z r = r.getD z := rr
theorem updV_raw (kt : Nat) (i v : LV) (b : Nat) (K : LV → Heap → Prop) : updV P kt i v (.raw (.map (some b))) H K = updE P kt i v b (getMap H b) H K := rr
theorem updE_some (kt : Nat) (i v : LV) (b : Nat) (es : List (LV × LV)) (K : LV → Heap → Prop) : updE P kt i v b (some es) H K = ((KeysOK P kt i es ∧ (kvOf v).isSome = true) ∧ K .any (setMap H b (updL es i v))) := rr
theorem getMap_hit (i b : Nat) (es : List (LV × LV)) : getMap ((i, .map b es) :: H) b = some es := by simp [getMap]
theorem getMap_blk (i b b0 : Nat) : getMap ((i, .blk b cs) :: H) b0 = getMap H b0 := rr
theorem getMap_tok (i b0 : Nat) (t : Tok) : getMap ((i, .tok t) :: H) b0 = getMap H b0 := rr
theorem setMap_hit (i b : Nat) (es es' : List (LV × LV)) : setMap ((i, .map b es) :: H) b es' = (i, .map b es') :: H := by simp [setMap]
theorem setMap_blk (i b b0 : Nat) (es' : List (LV × LV)) : setMap ((i, .blk b cs) :: H) b0 es' = (i, .blk b cs) :: setMap H b0 es' := rr
theorem setMap_tok (i b0 : Nat) (t : Tok) (es' : List (LV × LV)) : setMap ((i, .tok t) :: H) b0 es' = (i, .tok t) :: setMap H b0 es' := rr
theorem kR_eq (pend : List Nat) (F : List Lg → Env → Env → Heap → Prop) : kR gl pend lg F env tmp H = (recheck gl H (keepL pend lg) ∧ F (keepL pend lg) env tmp H) := rr
theorem keep_pnil : keepL [] lg = [] := by induction lg with | nil => rfl | cons g r ih => simp [keepL, ih]
theorem keep_nil (pend : List Nat) : keepL pend [] = [] := rr
theorem keep_cons (pend : List Nat) (o : LOper) (v : LV) (r : List Lg) : keepL pend (⟨i, o, env, tmp, v⟩ :: r) = if pend.contains i then ⟨i, o, env, tmp, v⟩ :: keepL pend r else keepL pend r := rr
theorem re_nil : recheck gl H [] = True := rr
theorem re_load (d : Option Nat) (vr : Bool) (s : Nat) (v : LV) (r : List Lg) : recheck gl H (⟨i, ⟨d, vr, none, (.load g s x)⟩, env, tmp, v⟩ :: r) = (((q (.load g s x) (ev gl env tmp) H).1 ∧ (q (.load g s x) (ev gl env tmp) H).2 = v) ∧ recheck gl H r) := rr
theorem reG_load (d : Option Nat) (vr : Bool) (s : Nat) (v : LV) (r : List Lg) : recheck gl H (⟨i, ⟨d, vr, some (sg, wt), (.load g s x)⟩, env, tmp, v⟩ :: r) = (((quietG (ev gl env tmp sg) wt (q (.load g s x) (ev gl env tmp) H)).1 ∧ (quietG (ev gl env tmp sg) wt (q (.load g s x) (ev gl env tmp) H)).2 = v) ∧ recheck gl H r) := rr
theorem re_b2s (d : Option Nat) (vr : Bool) (v : LV) (r : List Lg) : recheck gl H (⟨i, ⟨d, vr, none, (.b2s x)⟩, env, tmp, v⟩ :: r) = (((q (.b2s x) (ev gl env tmp) H).1 ∧ (q (.b2s x) (ev gl env tmp) H).2 = v) ∧ recheck gl H r) := rr
theorem reG_b2s (d : Option Nat) (vr : Bool) (v : LV) (r : List Lg) : recheck gl H (⟨i, ⟨d, vr, some (sg, wt), (.b2s x)⟩, env, tmp, v⟩ :: r) = (((quietG (ev gl env tmp sg) wt (q (.b2s x) (ev gl env tmp) H)).1 ∧ (quietG (ev gl env tmp sg) wt (q (.b2s x) (ev gl env tmp) H)).2 = v) ∧ recheck gl H r) := rr
theorem kT_eq (F : Env → Env → Heap → Prop) (u : LV) : kT F d env tmp H u = F ((d, u) :: env) tmp H := rr
theorem kcT_eq (F : Env → Env → Heap → Prop) (u : LV) : kcT F d env tmp u H = F ((d, u) :: env) tmp H := rr
theorem kBT_eq (F : Env → Env → Heap → Prop) : kBT F d env tmp H cs = ∀ b, F ((d, .ptr d b 0) :: env) tmp ((d, .blk b cs) :: H) := rr
theorem kKT_eq (F : List Lg → Env → Env → Heap → Prop) (o : LOper) (e1 e2 : Env) (u : LV) : kKT F i o e1 e2 lg d env tmp H u = F (⟨i, o, e1, e2, u⟩ :: lg) ((d, u) :: env) tmp H := rr
theorem kU_eq (F : Env → Env → Heap → Prop) (u : LV) : kU F d env tmp H u = F env ((d, u) :: tmp) H := rr
theorem kcU_eq (F : Env → Env → Heap → Prop) (u : LV) : kcU F d env tmp u H = F env ((d, u) :: tmp) H := rr
theorem kBU_eq (F : Env → Env → Heap → Prop) : kBU F d env tmp H cs = ∀ b, F env ((d, .ptr d b 0) :: tmp) ((d, .blk b cs) :: H) := rr
theorem kKU_eq (F : List Lg → Env → Env → Heap → Prop) (o : LOper) (e1 e2 : Env) (u : LV) : kKU F i o e1 e2 lg d env tmp H u = F (⟨i, o, e1, e2, u⟩ :: lg) env ((d, u) :: tmp) H := rr
theorem mkSQ_eq (sz n : Nat) (ps : List (Nat × Nat × X)) : mkSQ ρ sz n z ps = (gParts ρ ps ∧ z.length = sz ∧ (fillQ (zeros z (n * sz)) (vParts ρ ps)).1, .fsl sz n (fillQ (zeros z (n * sz)) (vParts ρ ps)).2) := rr
theorem kS_eq (sz n : Nat) (k : LV → Prop) : kS sz n k cs = k (.fsl sz n cs) := rr
theorem kN_eq (sz n : Nat) (k : LV → Prop) : kN sz n k cs = k (.nsl sz n cs) := rr
theorem cv_nsl (sz n : Nat) : cvQ (.nsl sz n cs) = (sz = 1, .fsl 1 n cs) := rr
theorem kX_eq (k : LV → Heap → Prop) (s : List UInt8) : kX d H k s = s2bE d s H k := rr
theorem kXD_eq (k : LV → Prop) (s : List UInt8) : kXD k s = k (.sl 1 s.length (s.map fun u => .int .u8 u.toNat)) := rr
theorem kM_eq (d sz : Nat) (k : LV → Heap → Prop) (l c : Nat) : kM d sz z H k (l, c) = makeE d sz z l c H k := rr
theorem kA_eq (d sz bytes : Nat) (x : LV) (k : LV → Heap → Prop) (m : Nat) (ys : List LV) : kA d sz bytes x H k (m, ys) = appV d sz bytes m x ys H k := rr
theorem kAF_eq (d sz bytes : Nat) (x : LV) (k : LV → Heap → Prop) (m : Nat) (ys : List LV) : kAF d sz bytes x H k (m, ys) = appFV d sz bytes m x ys H k := rr
theorem appF_fsl (id sz bytes m s : Nat) (cs ys : List LV) (K : LV → Heap → Prop) : appFV id sz bytes m (.fsl s 0 cs) ys H K = (roomy m bytes ∧ ∀ b2 c2, m ≤ c2 → K (.msl id sz b2 0 m c2) ((id, .blk b2 (ys ++ List.replicate ((c2 - m) * sz) .any)) :: H)) := rr
theorem appF_msl (id sz bytes m i s b off n cap : Nat) (ys : List LV) (K : LV → Heap → Prop) : appFV id sz bytes m (.msl i s b off n cap) ys H K = appV id sz bytes m (.msl i s b off n cap) ys H K := rr
theorem appF_osl (id sz bytes m i s n : Nat) (t : Tok) (cs ys : List LV) (K : LV → Heap → Prop) : appFV id sz bytes m (.osl i t s n cs) ys H K = appV id sz bytes m (.osl i t s n cs) ys H K := rr
theorem kZ_eq (d sz bytes : Nat) (x : LV) (k : LV → Heap → Prop) (m : Nat) : kZ d sz bytes z x H k m = appZV d sz bytes m x (zeros z (m * sz)) H k := rr
theorem appZV_msl (id sz bytes m i s b off n cap : Nat) (ys : List LV) (K : LV → Heap → Prop) : appZV id sz bytes m (.msl i s b off n cap) ys H K = Either i (appM i sz bytes s b off n cap m ys H (getH H i) K) (appN id i sz bytes s b off n cap m ys H (getH H i) K) := rr
theorem appZV_fsl (id sz bytes m s n : Nat) (cs ys : List LV) (K : LV → Heap → Prop) : appZV id sz bytes m (.fsl s n cs) ys H K = appV id sz bytes m (.fsl s n cs) ys H K := rr
theorem appZV_osl (id sz bytes m i s n : Nat) (t : Tok) (cs ys : List LV) (K : LV → Heap → Prop) : appZV id sz bytes m (.osl i t s n cs) ys H K = appV id sz bytes m (.osl i t s n cs) ys H K := rr
theorem appN_blk (id i sz bytes s b off n cap m b' : Nat) (ys cs : List LV) (K : LV → Heap → Prop) : appN id i sz bytes s b off n cap m ys H (some (.blk b' cs)) K = ((s = sz ∧ b' = b ∧ off = 0 ∧ n * sz ≤ cs.length ∧ cap < n + m ∧ roomy (n + m) bytes) ∧ ∀ b2 c2, n + m ≤ c2 → K (.msl id sz b2 0 (n + m) c2) ((id, .blk b2 (cs.take (n * sz) ++ ys ++ List.replicate ((c2 - (n + m)) * sz) .any)) :: H)) := rr
theorem kY_eq (sz : Nat) (x : LV) (k : LV → Heap → Prop) (m : Nat) (ys : List LV) : kY sz x H k (m, ys) = copyV sz m x ys H k := rr
theorem kC_eq (f : Nat) (k : LV → Heap → Prop) (vs : List LV) : kC P gl f H k vs = LCalls P gl f vs H k := rr
theorem kCV_eq (k : LV → Heap → Prop) (f : Nat) (vs : List LV) : kCV P gl H k (f, vs) = LCallsV P gl f vs H k := rr
theorem kG_eq (f : Nat) (k : LV → Heap → Prop) (vs : List LV) : kG P gl f H k (g, vs) = callG P gl g f vs H k := rr
theorem kH_eq (F : Env → Env → Heap → Prop) : kH F env tmp H = F env tmp H := rr
theorem kcN_eq (F : Env → Env → Heap → Prop) (u : LV) : kcN F env tmp u H = F env tmp H := rr
theorem w_skip  (Q : Ex → Env → Heap → Prop) (env : Env) : wpL P gl .skip Q env H = Q .normal env H := rr
theorem w_region (ops : List LOper) (Q : Ex → Env → Heap → Prop) (env : Env) : wpL P gl (.region ops) Q env H = execL P gl ops (Q .normal) env [] H := rr
theorem w_regionD (ops : List DIt) (Q : Ex → Env → Heap → Prop) (env : Env) : wpL P gl (.regionD ops) Q env H = execE P gl ops (Q .normal) [] env [] H := rr
theorem w_seq (a b : LCode) (Q : Ex → Env → Heap → Prop) (env : Env) : wpL P gl (.seq a b) Q env H = wpL P gl a (seqQ (wpL P gl b Q) Q) env H := rr
theorem w_cond (c : X) (a b : LCode) (Q : Ex → Env → Heap → Prop) (env : Env) : wpL P gl (.cond c a b) Q env H = Branch (condQ (ev gl env [] c)) (Susp (wpL P gl a Q) env H) (Susp (wpL P gl b Q) env H) := rr
theorem w_block (c : LCode) (Q : Ex → Env → Heap → Prop) (env : Env) : wpL P gl (.block i c) Q env H = wpL P gl c (blockQ i Q) env H := rr
theorem w_exit (Q : Ex → Env → Heap → Prop) (env : Env) : wpL P gl (.exit i) Q env H = Q (.exit i) env H := rr
theorem w_ret  (Q : Ex → Env → Heap → Prop) (env : Env) : wpL P gl .ret Q env H = Q .ret env H := rr
theorem w_loop (c : LCode) (Q : Ex → Env → Heap → Prop) (env : Env) : wpL P gl (.loop c) Q env H = LoopL gl (wpL P gl c) Q env H := rr
theorem seq_n (Q : Ex → Env → Heap → Prop) (env : Env) : seqQ K Q .normal env H = K env H := rr
theorem seq_e (Q : Ex → Env → Heap → Prop) (env : Env) : seqQ K Q (.exit i) env H = Q (.exit i) env H := rr
theorem seq_r (Q : Ex → Env → Heap → Prop) (env : Env) : seqQ K Q .ret env H = Q .ret env H := rr
theorem blk_n (Q : Ex → Env → Heap → Prop) (env : Env) : blockQ i Q .normal env H = Q .normal env H := rr
theorem blk_r (Q : Ex → Env → Heap → Prop) (env : Env) : blockQ i Q .ret env H = Q .ret env H := rr
theorem blk_eq (Q : Ex → Env → Heap → Prop) (env : Env) : blockQ i Q (.exit i) env H = Q .normal env H := by simp [blockQ]
theorem blk_ne {i j : Nat} (h : j ≠ i) (Q : Ex → Env → Heap → Prop) (env : Env) : blockQ i Q (.exit j) env H = Q (.exit j) env H := by simp [blockQ, h]
theorem loop_e {ι : Type} (I : ι → Env) (J : ι → Heap) (μ : ι → Nat) (i : ι) (Q : Ex → Env → Heap → Prop) (env : Env) (k : Nat) : loopQ gl I J μ i Q (.exit k) env H = Q (.exit k) env H := rr
theorem loop_r {ι : Type} (I : ι → Env) (J : ι → Heap) (μ : ι → Nat) (i : ι) (Q : Ex → Env → Heap → Prop) (env : Env) : loopQ gl I J μ i Q .ret env H = Q .ret env H := rr
theorem cond_b (b : Bool) : condQ (.bool b) = (True, b) := rr
theorem cond_o (g b : Bool) : condQ (.opt g (.bool b)) = (g = true, b) := rr
theorem wrap_i8 {n : Int} (h : -128 ≤ n) (h' : n ≤ 127) : IntKind.wrap .i8 n = n := by simp only [IntKind.wrap, IntKind.bits, IntKind.signed]; simp; omega
theorem wrap_i16 {n : Int} (h : -32768 ≤ n) (h' : n ≤ 32767) : IntKind.wrap .i16 n = n := by simp only [IntKind.wrap, IntKind.bits, IntKind.signed]; simp; omega
theorem wrap_i32 {n : Int} (h : -2147483648 ≤ n) (h' : n ≤ 2147483647) : IntKind.wrap .i32 n = n := by simp only [IntKind.wrap, IntKind.bits, IntKind.signed]; simp; omega
theorem wrap_i64 {n : Int} (h : -9223372036854775808 ≤ n) (h' : n ≤ 9223372036854775807) : IntKind.wrap .i64 n = n := by simp only [IntKind.wrap, IntKind.bits, IntKind.signed]; simp; omega
theorem wrap_u8 {n : Int} (h : 0 ≤ n) (h' : n ≤ 255) : IntKind.wrap .u8 n = n := by simp only [IntKind.wrap, IntKind.bits, IntKind.signed]; simp; omega
theorem wrap_u16 {n : Int} (h : 0 ≤ n) (h' : n ≤ 65535) : IntKind.wrap .u16 n = n := by simp only [IntKind.wrap, IntKind.bits, IntKind.signed]; simp; omega
theorem wrap_u32 {n : Int} (h : 0 ≤ n) (h' : n ≤ 4294967295) : IntKind.wrap .u32 n = n := by simp only [IntKind.wrap, IntKind.bits, IntKind.signed]; simp; omega
theorem wrap_u64 {n : Int} (h : 0 ≤ n) (h' : n ≤ 18446744073709551615) : IntKind.wrap .u64 n = n := by simp only [IntKind.wrap, IntKind.bits, IntKind.signed]; simp; omega
theorem isByte_u8 (n : Int) : isByte (.int .u8 n) = true := rr
theorem toByte_int (k : IntKind) (n : Int) : toByte (.int k n) = UInt8.ofNat n.toNat := rr
theorem pure_r (rs : List LRes) (r : LV) (env : Env) : pureQ rs r .ret env H = ((resQ env H rs).1 ∧ leV (oneOr (resQ env H rs).2) r) := rr
theorem pure_n (rs : List LRes) (r : LV) (env : Env) : pureQ rs r .normal env H = ((resQ env H rs).1 ∧ leV (oneOr (resQ env H rs).2) r) := rr
theorem view_r (rs : List LRes) (K : LV → Heap → Prop) (env : Env) : viewQ gl rs K .ret env H = ((resQ env H rs).1 ∧ ∃ r' H', leVH gl (oneOr (resQ env H rs).2) H r' H' ∧ K r' H') := rr
theorem view_n (rs : List LRes) (K : LV → Heap → Prop) (env : Env) : viewQ gl rs K .normal env H = ((resQ env H rs).1 ∧ ∃ r' H', leVH gl (oneOr (resQ env H rs).2) H r' H' ∧ K r' H') := rr
theorem fn_r (rs : List LRes) (K : LV → Heap → Prop) (env : Env) : fnQ rs K .ret env H = ((resQ env H rs).1 ∧ ∃ H', H'.Sublist H ∧ K (oneOr (resQ env H rs).2) H') := rr
theorem fn_n (rs : List LRes) (K : LV → Heap → Prop) (env : Env) : fnQ rs K .normal env H = ((resQ env H rs).1 ∧ ∃ H', H'.Sublist H ∧ K (oneOr (resQ env H rs).2) H') := rr
theorem res_nil (env : Env) : resQ env H [] = (True, []) := rr
theorem res_slot (env : Env) (t : Nat) (r : List LRes) : resQ env H (.slot t :: r) = ((Lx.get env t).g ∧ (resQ env H r).1, (Lx.get env t).v :: (resQ env H r).2) := rr
theorem res_cell (env : Env) (s t : Nat) (r : List LRes) : resQ env H (.cell g s t :: r) = ((Lx.get env t).g ∧ (loadQ g s (Lx.get env t).v H).1 ∧ (resQ env H r).1, (loadQ g s (Lx.get env t).v H).2 :: (resQ env H r).2) := rr
theorem pubC_eq (id b : Nat) (s b' o n c : Nat) : pubC id b cs (.msl id s b' o n c) = (b' = b ∧ o + n * s ≤ cs.length ∧ n ≤ c, .sl s n ((cs.drop o).take (n * s))) := by simp [pubC]
theorem pubC_ne {id i : Nat} (h : i ≠ id) (b : Nat) (s b' o n c : Nat) : pubC id b cs (.msl i s b' o n c) = (True, .msl i s b' o n c) := by simp [pubC, h]
theorem pubC_int (id b0 : Nat) (cs0 : List LV) (k : IntKind) (n : Int) : pubC id b0 cs0 (.int k n) = (True, (.int k n)) := rr
theorem pubA_int (id b0 : Nat) (cs0 : List LV) (k : IntKind) (n : Int) : pubA id b0 cs0 (.int k n) = pubC id b0 cs0 (.int k n) := rr
theorem pubV_int (id b0 : Nat) (cs0 : List LV) (k : IntKind) (n : Int) : pubV id b0 cs0 (.int k n) = pubC id b0 cs0 (.int k n) := rr
theorem pubC_bool (id b0 : Nat) (cs0 : List LV) (b : Bool) : pubC id b0 cs0 (.bool b) = (True, (.bool b)) := rr
theorem pubA_bool (id b0 : Nat) (cs0 : List LV) (b : Bool) : pubA id b0 cs0 (.bool b) = pubC id b0 cs0 (.bool b) := rr
theorem pubV_bool (id b0 : Nat) (cs0 : List LV) (b : Bool) : pubV id b0 cs0 (.bool b) = pubC id b0 cs0 (.bool b) := rr
theorem pubC_str (id b0 : Nat) (cs0 : List LV) (s : List UInt8) : pubC id b0 cs0 (.str s) = (True, (.str s)) := rr
theorem pubA_str (id b0 : Nat) (cs0 : List LV) (s : List UInt8) : pubA id b0 cs0 (.str s) = pubC id b0 cs0 (.str s) := rr
theorem pubV_str (id b0 : Nat) (cs0 : List LV) (s : List UInt8) : pubV id b0 cs0 (.str s) = pubC id b0 cs0 (.str s) := rr
theorem pubC_nil (id b0 : Nat) (cs0 : List LV)  : pubC id b0 cs0 .nil = (True, .nil) := rr
theorem pubA_nil (id b0 : Nat) (cs0 : List LV)  : pubA id b0 cs0 .nil = pubC id b0 cs0 .nil := rr
theorem pubV_nil (id b0 : Nat) (cs0 : List LV)  : pubV id b0 cs0 .nil = pubC id b0 cs0 .nil := rr
theorem pubC_ptr (id b0 : Nat) (cs0 : List LV) (i b o : Nat) : pubC id b0 cs0 (.ptr i b o) = (True, (.ptr i b o)) := rr
theorem pubA_ptr (id b0 : Nat) (cs0 : List LV) (i b o : Nat) : pubA id b0 cs0 (.ptr i b o) = pubC id b0 cs0 (.ptr i b o) := rr
theorem pubV_ptr (id b0 : Nat) (cs0 : List LV) (i b o : Nat) : pubV id b0 cs0 (.ptr i b o) = pubC id b0 cs0 (.ptr i b o) := rr
theorem pubC_rp (id b0 : Nat) (cs0 : List LV) (o : Nat) : pubC id b0 cs0 (.rp cs o) = (True, (.rp cs o)) := rr
theorem pubA_rp (id b0 : Nat) (cs0 : List LV) (o : Nat) : pubA id b0 cs0 (.rp cs o) = pubC id b0 cs0 (.rp cs o) := rr
theorem pubV_rp (id b0 : Nat) (cs0 : List LV) (o : Nat) : pubV id b0 cs0 (.rp cs o) = pubC id b0 cs0 (.rp cs o) := rr
theorem pubC_agg (id b0 : Nat) (cs0 : List LV) : pubC id b0 cs0 (.agg cs) = (True, (.agg cs)) := rr
theorem pubC_tup (id b0 : Nat) (cs0 : List LV) : pubC id b0 cs0 (.tup cs) = (True, (.tup cs)) := rr
theorem pubC_sl (id b0 : Nat) (cs0 : List LV) (a b : Nat) : pubC id b0 cs0 (.sl a b cs) = (True, (.sl a b cs)) := rr
theorem pubA_sl (id b0 : Nat) (cs0 : List LV) (a b : Nat) : pubA id b0 cs0 (.sl a b cs) = pubC id b0 cs0 (.sl a b cs) := rr
theorem pubV_sl (id b0 : Nat) (cs0 : List LV) (a b : Nat) : pubV id b0 cs0 (.sl a b cs) = pubC id b0 cs0 (.sl a b cs) := rr
theorem pubC_osl (id b0 : Nat) (cs0 : List LV) (t : Tok) (a b : Nat) : pubC id b0 cs0 (.osl i t a b cs) = (True, (.osl i t a b cs)) := rr
theorem pubA_osl (id b0 : Nat) (cs0 : List LV) (t : Tok) (a b : Nat) : pubA id b0 cs0 (.osl i t a b cs) = pubC id b0 cs0 (.osl i t a b cs) := rr
theorem pubV_osl (id b0 : Nat) (cs0 : List LV) (t : Tok) (a b : Nat) : pubV id b0 cs0 (.osl i t a b cs) = pubC id b0 cs0 (.osl i t a b cs) := rr
theorem pubC_fsl (id b0 : Nat) (cs0 : List LV) (a b : Nat) : pubC id b0 cs0 (.fsl a b cs) = (True, (.fsl a b cs)) := rr
theorem pubA_fsl (id b0 : Nat) (cs0 : List LV) (a b : Nat) : pubA id b0 cs0 (.fsl a b cs) = pubC id b0 cs0 (.fsl a b cs) := rr
theorem pubV_fsl (id b0 : Nat) (cs0 : List LV) (a b : Nat) : pubV id b0 cs0 (.fsl a b cs) = pubC id b0 cs0 (.fsl a b cs) := rr
theorem pubA_msl (id b0 : Nat) (cs0 : List LV) (i s b o l c : Nat) : pubA id b0 cs0 (.msl i s b o l c) = pubC id b0 cs0 (.msl i s b o l c) := rr
theorem pubV_msl (id b0 : Nat) (cs0 : List LV) (i s b o l c : Nat) : pubV id b0 cs0 (.msl i s b o l c) = pubC id b0 cs0 (.msl i s b o l c) := rr
theorem pubC_clo (id b0 : Nat) (cs0 : List LV) (f : Nat) : pubC id b0 cs0 (.clo f cs) = (True, (.clo f cs)) := rr
theorem pubA_clo (id b0 : Nat) (cs0 : List LV) (f : Nat) : pubA id b0 cs0 (.clo f cs) = pubC id b0 cs0 (.clo f cs) := rr
theorem pubV_clo (id b0 : Nat) (cs0 : List LV) (f : Nat) : pubV id b0 cs0 (.clo f cs) = pubC id b0 cs0 (.clo f cs) := rr
theorem pubC_raw (id b0 : Nat) (cs0 : List LV) (v : Value) : pubC id b0 cs0 (.raw v) = (True, (.raw v)) := rr
theorem pubA_raw (id b0 : Nat) (cs0 : List LV) (v : Value) : pubA id b0 cs0 (.raw v) = pubC id b0 cs0 (.raw v) := rr
theorem pubV_raw (id b0 : Nat) (cs0 : List LV) (v : Value) : pubV id b0 cs0 (.raw v) = pubC id b0 cs0 (.raw v) := rr
theorem pubC_fn (id b0 : Nat) (cs0 : List LV) (f : Nat) : pubC id b0 cs0 (.fn f) = (True, (.fn f)) := rr
theorem pubA_fn (id b0 : Nat) (cs0 : List LV) (f : Nat) : pubA id b0 cs0 (.fn f) = pubC id b0 cs0 (.fn f) := rr
theorem pubV_fn (id b0 : Nat) (cs0 : List LV) (f : Nat) : pubV id b0 cs0 (.fn f) = pubC id b0 cs0 (.fn f) := rr
theorem pubC_any (id b0 : Nat) (cs0 : List LV)  : pubC id b0 cs0 .any = (True, .any) := rr
theorem pubA_any (id b0 : Nat) (cs0 : List LV)  : pubA id b0 cs0 .any = pubC id b0 cs0 .any := rr
theorem pubV_any (id b0 : Nat) (cs0 : List LV)  : pubV id b0 cs0 .any = pubC id b0 cs0 .any := rr
theorem pubC_nsl (id b0 : Nat) (cs0 : List LV) (s m : Nat) : pubC id b0 cs0 (.nsl s m cs) = (True, (.nsl s m cs)) := rr
theorem pubA_nsl (id b0 : Nat) (cs0 : List LV) (s m : Nat) : pubA id b0 cs0 (.nsl s m cs) = pubC id b0 cs0 (.nsl s m cs) := rr
theorem pubV_nsl (id b0 : Nat) (cs0 : List LV) (s m : Nat) : pubV id b0 cs0 (.nsl s m cs) = pubC id b0 cs0 (.nsl s m cs) := rr
theorem pubA_agg (id b0 : Nat) (cs0 xs : List LV) : pubA id b0 cs0 (.agg xs) = ((pubCs id b0 cs0 xs).1, .agg (pubCs id b0 cs0 xs).2) := rr
theorem pubV_agg (id b0 : Nat) (cs0 xs : List LV) : pubV id b0 cs0 (.agg xs) = ((pubCs id b0 cs0 xs).1, .agg (pubCs id b0 cs0 xs).2) := rr
theorem pubV_tup (id b0 : Nat) (cs0 xs : List LV) : pubV id b0 cs0 (.tup xs) = ((pubAs id b0 cs0 xs).1, .tup (pubAs id b0 cs0 xs).2) := rr
theorem pubCs_nil (id b : Nat) : pubCs id b cs [] = (True, []) := rr
theorem pubCs_cons (id b : Nat) (x : LV) (r : List LV) : pubCs id b cs (x :: r) = ((pubC id b cs x).1 ∧ (pubCs id b cs r).1, (pubC id b cs x).2 :: (pubCs id b cs r).2) := rr
theorem pubAs_nil (id b : Nat) : pubAs id b cs [] = (True, []) := rr
theorem pubAs_cons (id b : Nat) (x : LV) (r : List LV) : pubAs id b cs (x :: r) = ((pubA id b cs x).1 ∧ (pubAs id b cs r).1, (pubA id b cs x).2 :: (pubAs id b cs r).2) := rr
theorem pubE_nil (id b : Nat) : pubEnv id b cs [] = (True, []) := rr
theorem pubE_cons (id b : Nat) (t : Nat) (x : LV) (r : Env) : pubEnv id b cs ((t, x) :: r) = ((pubV id b cs x).1 ∧ (pubEnv id b cs r).1, (t, (pubV id b cs x).2) :: (pubEnv id b cs r).2) := rr
theorem pubH_nil (id b : Nat) : pubEnt id b cs [] = (True, []) := rr
theorem pubH_blk (id b : Nat) (i b' : Nat) (ds : List LV) (r : Heap) : pubEnt id b cs ((i, .blk b' ds) :: r) = ((pubCs id b cs ds).1 ∧ (pubEnt id b cs r).1, (i, .blk b' (pubCs id b cs ds).2) :: (pubEnt id b cs r).2) := rr
theorem pubH_tok (id b : Nat) (t : Tok) (r : Heap) : pubEnt id b cs ((i, .tok t) :: r) = ((pubEnt id b cs r).1, (i, .tok t) :: (pubEnt id b cs r).2) := rr
theorem one_1 (x : LV) : oneOr [x] = x := rr
theorem one_0 : oneOr [] = .tup [] := rr
theorem one_2 (x y : LV) (r : List LV) : oneOr (x :: y :: r) = .tup (x :: y :: r) := rr
theorem arg_nil (k : Nat) : argEnv k [] = [] := rr
theorem arg_cons (k : Nat) (x : LV) (r : List LV) : argEnv k (x :: r) = (k, x) :: argEnv (k + 1) r := rr
theorem splice_eq (cs ds : List LV) (o : Nat) : splice cs ds o = cs.take o ++ ds ++ cs.drop (o + ds.length) := rr
theorem zeros_0 : zeros z 0 = [] := rr
theorem zeros_s (n : Nat) : zeros z (n + 1) = zeros z n ++ [z.getD (n % z.length) .any] := by simp [zeros, List.range_succ]

attribute [go_sem ↓] x_nil d_nil x_qT_mov x_gT_mov x_qT_pick x_gT_pick x_qT_build x_gT_build x_qT_load x_gT_load x_qT_nilc x_gT_nilc x_qT_un x_gT_un x_qT_conv x_gT_conv x_qT_same x_gT_same x_qT_b2s x_gT_b2s x_qT_faddr x_gT_faddr x_qT_fld x_gT_fld x_qT_ext x_gT_ext x_qT_len x_gT_len x_qT_lenL x_gT_lenL x_qT_cap x_gT_cap x_qT_slL x_gT_slL x_qT_slA x_gT_slA x_qT_mm x_gT_mm x_qT_bin x_gT_bin x_qT_eqB x_gT_eqB x_qT_eqN x_gT_eqN x_qT_eqS x_gT_eqS x_qT_iaA x_gT_iaA x_qT_iaS x_gT_iaS x_qT_ixA x_gT_ixA x_qT_ixS x_gT_ixS x_qT_lenA x_gT_lenA x_qT_mkf x_gT_mkf x_qT_slS x_gT_slS x_boxT x_zeroT x_makeT x_appT x_appFT x_appZT x_copyT x_clearT x_mkMapT x_lookT x_lookGT x_isNilT x_mkST x_mkNT x_cvST x_s2bT x_callT x_callVT x_callVGT x_callGT x_qU_mov x_gU_mov x_qU_pick x_gU_pick x_qU_build x_gU_build x_qU_load x_gU_load x_qU_nilc x_gU_nilc x_qU_un x_gU_un x_qU_conv x_gU_conv x_qU_same x_gU_same x_qU_b2s x_gU_b2s x_qU_faddr x_gU_faddr x_qU_fld x_gU_fld x_qU_ext x_gU_ext x_qU_len x_gU_len x_qU_lenL x_gU_lenL x_qU_cap x_gU_cap x_qU_slL x_gU_slL x_qU_slA x_gU_slA x_qU_mm x_gU_mm x_qU_bin x_gU_bin x_qU_eqB x_gU_eqB x_qU_eqN x_gU_eqN x_qU_eqS x_gU_eqS x_qU_iaA x_gU_iaA x_qU_iaS x_gU_iaS x_qU_ixA x_gU_ixA x_qU_ixS x_gU_ixS x_qU_lenA x_gU_lenA x_qU_mkf x_gU_mkf x_qU_slS x_gU_slS x_boxU x_zeroU x_makeU x_appU x_appFU x_appZU x_copyU x_clearU x_mkMapU x_lookU x_lookGU x_isNilU x_mkSU x_mkNU x_cvSU x_s2bU x_callU x_callVU x_callVGU x_callGU d_qT_mov d_gT_mov d_qT_pick d_gT_pick d_qT_build d_gT_build d_qT_load d_gT_load d_qT_nilc d_gT_nilc d_qT_un d_gT_un d_qT_conv d_gT_conv d_qT_same d_gT_same d_qT_b2s d_gT_b2s d_qT_faddr d_gT_faddr d_qT_fld d_gT_fld d_qT_ext d_gT_ext d_qT_len d_gT_len d_qT_lenL d_gT_lenL d_qT_cap d_gT_cap d_qT_slL d_gT_slL d_qT_slA d_gT_slA d_qT_mm d_gT_mm d_qT_bin d_gT_bin d_qT_eqB d_gT_eqB d_qT_eqN d_gT_eqN d_qT_eqS d_gT_eqS d_qT_iaA d_gT_iaA d_qT_iaS d_gT_iaS d_qT_ixA d_gT_ixA d_qT_ixS d_gT_ixS d_qT_lenA d_gT_lenA d_qT_mkf d_gT_mkf d_qT_slS d_gT_slS d_boxT d_zeroT d_makeT d_appT d_appFT d_appZT d_copyT d_clearT d_mkMapT d_lookT d_lookGT d_isNilT d_mkST d_mkSgT d_mkNT d_cvST d_s2bT d_callT d_callVT d_callVGT d_callGT d_qU_mov d_gU_mov d_qU_pick d_gU_pick d_qU_build d_gU_build d_qU_load d_gU_load d_qU_nilc d_gU_nilc d_qU_un d_gU_un d_qU_conv d_gU_conv d_qU_same d_gU_same d_qU_b2s d_gU_b2s d_qU_faddr d_gU_faddr d_qU_fld d_gU_fld d_qU_ext d_gU_ext d_qU_len d_gU_len d_qU_lenL d_gU_lenL d_qU_cap d_gU_cap d_qU_slL d_gU_slL d_qU_slA d_gU_slA d_qU_mm d_gU_mm d_qU_bin d_gU_bin d_qU_eqB d_gU_eqB d_qU_eqN d_gU_eqN d_qU_eqS d_gU_eqS d_qU_iaA d_gU_iaA d_qU_iaS d_gU_iaS d_qU_ixA d_gU_ixA d_qU_ixS d_gU_ixS d_qU_lenA d_gU_lenA d_qU_mkf d_gU_mkf d_qU_slS d_gU_slS d_boxU d_zeroU d_makeU d_appU d_appFU d_appZU d_copyU d_clearU d_mkMapU d_lookU d_lookGU d_isNilU d_mkSU d_mkSgU d_mkNU d_cvSU d_s2bU d_callU d_callVU d_callVGU d_callGU x_store x_callN x_callVN x_clearN x_copyN x_updN d_store d_callN d_callVN d_clearN d_copyN d_updN kLk_eq kVk_eq kLn_eq kR_eq keep_pnil keep_nil keep_cons re_nil re_load reG_load re_b2s reG_b2s kT_eq kcT_eq kBT_eq kKT_eq kU_eq kcU_eq kBU_eq kKU_eq mkSQ_eq kS_eq kN_eq kX_eq kXD_eq kM_eq kA_eq kAF_eq kZ_eq kY_eq kC_eq kCV_eq kG_eq kH_eq kcN_eq w_skip w_region w_regionD w_seq w_cond w_block w_exit w_ret w_loop seq_n seq_e seq_r blk_n blk_r blk_eq blk_ne loop_e loop_r
attribute [go_sem] Bd_mk v_int g_int v_bool g_bool v_str g_str v_nil g_nil v_ptr g_ptr v_rp g_rp v_agg g_agg v_tup g_tup v_sl g_sl v_osl g_osl v_fsl g_fsl v_msl g_msl v_clo g_clo v_raw g_raw v_fn g_fn v_any g_any v_nsl g_nsl v_opt g_opt cells_int cellsQ_int cells_bool cellsQ_bool cells_str cellsQ_str cells_nil cellsQ_nil cells_ptr cellsQ_ptr cells_rp cellsQ_rp cells_agg cellsQ_agg cells_sl cellsQ_sl cells_osl cellsQ_osl cells_fsl cellsQ_fsl cells_msl cellsQ_msl cells_clo cellsQ_clo cells_fn cellsQ_fn cells_nsl cellsQ_nsl get_nil get_eq get_ne restr_nil restr_cons ev_t ev_u ev_c ev_g evG_some getH_eq getH_ne setH_eq setH_ne delH_eq delH_ne partL_t partL_f bin_add bin_sub bin_mul bin_quo bin_rem bin_and bin_or bin_xor bin_andNot bin_shl bin_shr bin_eql bin_neq bin_lss bin_leq bin_gtr bin_geq bin_sadd bin_seql bin_sneq bin_slss bin_sleq bin_sgtr bin_sgeq un_not un_neg un_xor load_rp load_ptr loadE_blk faddr_rp faddr_ptr fld_agg idx_int iaA_rp iaA_ptr iaS_sl lenL_sl iaS_fsl lenL_fsl iaS_osl lenL_osl iaS_msl lenL_msl cap_fsl cap_msl len_str ixS_str ixA_agg ext_tup nilc_ptr nilc_rp nilc_sl nilc_osl nilc_fsl nilc_msl nilc_clo nilc_fn eqN_nn eqN_nptr eqN_ptrn eqN_nrp eqN_rpn eqB_bb eqS_aa leaves_nil leaves_cons leaf_int leaf_str leaf_bool pick_000 pick_001 pick_010 pick_011 pick_100 pick_101 pick_110 pick_111 conv_int same_str b2s_sl b2s_fsl b2s_osl b2s_msl b2sE_blk mm_nil mm_cons mm2_max mm2_min opt_none opt_some optE_int optE_opt slS_eq slL_sl slL_fsl_lo slL_fsl_hi slL_osl_lo slL_osl_hi slL_sl_mx slL_fsl_mx slL_osl_mx slL_msl slL_msl3 slA_ptr slA_rp fill_nil fill_cons fillO_some fillQ_eq fillE_some gParts_nil gParts_cons vParts_nil vParts_cons q_mov q_pick q_build q_load q_nilc q_un q_conv q_same q_b2s q_faddr q_fld q_ext q_len q_lenL q_cap q_slL q_slA q_mm q_bin q_eqB q_eqN q_eqS q_iaA q_iaS q_ixA q_ixS q_lenA q_mkf q_slS slSE_str gB_t gB_f gBo_t gBo_f quietG_eq store_ptr stoE_blk appV_fsl appV_osl appO_tok appV_msl appM_blk appZ_int copyV_msl copyV_fsl copyE_blk clearV_msl clearV_fsl clearE_blk isNil_sl isNil_fsl isNil_osl isNil_msl callee_clo callee_fn el_sl el_fsl el_osl el_str el_msl elE_blk str_str make_ii lookV_raw lookE_some lookR_t lookR_f updV_raw updE_some getMap_hit getMap_blk getMap_tok setMap_hit setMap_blk setMap_tok cv_nsl appF_fsl appF_msl appF_osl appZV_msl appZV_fsl appZV_osl appN_blk cond_b cond_o wrap_i8 wrap_i16 wrap_i32 wrap_i64 wrap_u8 wrap_u16 wrap_u32 wrap_u64 isByte_u8 toByte_int pure_r pure_n view_r view_n fn_r fn_n res_nil res_slot res_cell pubC_eq pubC_ne pubC_int pubA_int pubV_int pubC_bool pubA_bool pubV_bool pubC_str pubA_str pubV_str pubC_nil pubA_nil pubV_nil pubC_ptr pubA_ptr pubV_ptr pubC_rp pubA_rp pubV_rp pubC_agg pubC_tup pubC_sl pubA_sl pubV_sl pubC_osl pubA_osl pubV_osl pubC_fsl pubA_fsl pubV_fsl pubA_msl pubV_msl pubC_clo pubA_clo pubV_clo pubC_raw pubA_raw pubV_raw pubC_fn pubA_fn pubV_fn pubC_any pubA_any pubV_any pubC_nsl pubA_nsl pubV_nsl pubA_agg pubV_agg pubV_tup pubCs_nil pubCs_cons pubAs_nil pubAs_cons pubE_nil pubE_cons pubH_nil pubH_blk pubH_tok one_1 one_0 one_2 arg_nil arg_cons splice_eq
attribute [go_sem] s2bE makeE Option.getD_some Option.getD_none Option.isSome_some List.map_cons List.map_nil List.forall_mem_cons List.not_mem_nil false_implies forall_const List.take_succ_cons List.take_zero List.take_nil List.drop_succ_cons List.drop_zero List.drop_nil List.getD_cons_zero List.getD_cons_succ List.getD_nil List.length_cons List.length_nil List.nil_append List.cons_append List.append_nil
attribute [go_sem] if_true if_false and_true true_and and_self ite_true ite_false Nat.zero_add Nat.add_zero Nat.le_refl Bool.true_eq Bool.false_eq_true reduceCtorEq implies_true Bool.not_true Bool.not_false Bool.or_true Bool.true_or Bool.or_false Bool.false_or beq_self_eq_true eq_self imp_self Bool.not_eq_true' Bool.not_eq_false' Bool.cond_true Bool.cond_false condT condF Bool.true_and Bool.and_true Bool.false_and Bool.and_false or_true true_or or_false false_or
theorem zgx : (∀ {α : Type} [BEq α] [LawfulBEq α] {a b : α}, ((a == b) = false) = ¬a = b) ∧ (∀ {α : Type} [BEq α] [LawfulBEq α] {a b : α}, ((a == b) = true) = (a = b)) ∧ (∀ {p : Prop} [Decidable p], (decide p = true) = p) ∧ (∀ {p : Prop} [Decidable p], (decide p = false) = ¬p) ∧ (∀ {α : Type} [BEq α] [LawfulBEq α] {a b : α}, ((a != b) = true) = ¬a = b) ∧ (∀ {α : Type} {a b : α}, (a ≠ b) = ¬a = b) ∧ (∀ {a b : Bool}, ((a && b) = true) = (a = true ∧ b = true)) ∧ (∀ {a b : Bool}, ((a || b) = false) = (a = false ∧ b = false)) ∧ (∀ {a b : Bool}, ((a || b) = true) = (a = true ∨ b = true)) ∧ ∀ {a b : Bool}, ((a && b) = false) = (a = false ∨ b = false) := by
  and_intros <;> intros <;> first | (simp; done) | exact propext Bool.and_eq_false_iff
theorem zbx : (∀ {a : Bool}, ((!a) = true) = (a = false)) ∧ (∀ {a : Bool}, ((!a) = false) = (a = true)) ∧ (∀ {a b : Int}, (¬a < b) = (b ≤ a)) ∧ ∀ {a b : Int}, (¬a ≤ b) = (b < a) := by
  and_intros <;> intros <;> first | (simp; done) | exact propext Bool.and_eq_false_iff
attribute [go_sem] Int.toNat_natCast Int.cast_ofNat_Int not_false_eq_true ne_eq beq_self_eq_true bne_self_eq_false List.contains_cons List.contains_nil
attribute [go_sem] Nat.reduceAdd Nat.reduceMul Nat.reduceSub Nat.reduceEqDiff Nat.reduceLeDiff Nat.reduceMod Nat.reduceLT Int.reduceToNat Int.reduceAdd Int.reduceSub Int.reduceMul Int.reduceNeg Int.reduceLE Int.reduceLT Int.reduceNe Int.reduceEq Int.reduceBEq Int.reduceBNe Int.reduceTMod Int.reduceTDiv Nat.reduceBEq
end Go.Lx
