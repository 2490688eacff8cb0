/- The rules by which logical code is computed: each is true by definition. Written by program. -/
import Derived.Test.YtkdblnejpmbnfaaGreatW06
namespace Go.Lx
set_option linter.unusedSimpArgs false
set_option linter.unusedVariables false
theorem Bd_mk {α : Type} (a : Prop) (x : α) (k : α → Prop) : Bd (a, x) k = (a ∧ k x) := rfl
def Susp (F : Env → Heap → Prop) (env : Env) (H : Heap) : Prop := F env H
def kT (F : Env → Env → Heap → Prop) (d : Nat) (env tmp : Env) (H : Heap) (u : LV) : Prop := F ((d, u) :: env) tmp H
def kU (F : Env → Env → Heap → Prop) (d : Nat) (env tmp : Env) (H : Heap) (u : LV) : Prop := F env ((d, u) :: tmp) H
def kcT (F : Env → Env → Heap → Prop) (d : Nat) (env tmp : Env) (u : LV) (H : Heap) : Prop := F ((d, u) :: env) tmp H
def kcU (F : Env → Env → Heap → Prop) (d : Nat) (env tmp : Env) (u : LV) (H : Heap) : Prop := F env ((d, u) :: tmp) H
def kKU (F : List Lg → Env → Env → Heap → Prop) (i : Nat) (o : LOper) (e1 e2 : Env) (lg : List Lg) (d : Nat) (env tmp : Env) (H : Heap) (u : LV) : Prop := F (⟨i, o, e1, e2, u⟩ :: lg) env ((d, u) :: tmp) H
def kR (gl : Glob) (pend : List Nat) (lg : List Lg) (F : List Lg → Env → Env → Heap → Prop) (env tmp : Env) (H : Heap) : Prop := recheck gl H (keepL pend lg) ∧ F (keepL pend lg) env tmp H
def kvT (gl : Glob) (F : Env → Env → Heap → Prop) (d : Nat) (env tmp : Env) (u : LV) (H : Heap) : Prop := Vw gl F ((d, u) :: env) tmp H
def kvU (gl : Glob) (F : Env → Env → Heap → Prop) (d : Nat) (env tmp : Env) (u : LV) (H : Heap) : Prop := Vw gl F env ((d, u) :: tmp) H
def kvN (gl : Glob) (F : Env → Env → Heap → Prop) (env tmp : Env) (_ : LV) (H : Heap) : Prop := Vw gl F env tmp H
def kBT (F : Env → Env → Heap → Prop) (d : Nat) (env tmp : Env) (H : Heap) (cs : List LV) : Prop := ∀ b, F ((d, .ptr d b 0) :: env) tmp ((d, .blk b cs) :: H)
def kBU (F : Env → Env → Heap → Prop) (d : Nat) (env tmp : Env) (H : Heap) (cs : List LV) : Prop := ∀ b, F env ((d, .ptr d b 0) :: tmp) ((d, .blk b cs) :: H)
def kA (d sz bytes : Nat) (x : LV) (H : Heap) (k : LV → Heap → Prop) (p : Nat × List LV) : Prop := appV d sz bytes p.1 x p.2 H k
def kZ (d sz bytes : Nat) (z : List LV) (x : LV) (H : Heap) (k : LV → Heap → Prop) (m : Nat) : Prop := appZV d sz bytes m x (zeros z (m * sz)) H k
def kY (sz : Nat) (x : LV) (H : Heap) (k : LV → Heap → Prop) (p : Nat × List LV) : Prop := copyV sz p.1 x p.2 H k
def kCV (P : Program) (gl : Glob) (H : Heap) (k : LV → Heap → Prop) (p : Nat × List LV) : Prop := LCallsV P gl p.1 p.2 H k
def kS (sz n : Nat) (k : LV → Prop) (cs : List LV) : Prop := k (.fsl sz n cs)
def kN (sz n : Nat) (k : LV → Prop) (cs : List LV) : Prop := k (.nsl sz n cs)
def kM (d sz : Nat) (z : List LV) (H : Heap) (k : LV → Heap → Prop) (p : Nat × Nat) : Prop := makeE d sz z p.1 p.2 H k
def kC (P : Program) (gl : Glob) (f : Nat) (H : Heap) (k : LV → Heap → Prop) (vs : List LV) : Prop := LCalls P gl f vs H k
def kG (P : Program) (gl : Glob) (f : Nat) (H : Heap) (k : LV → Heap → Prop) (p : Bool × List LV) : Prop := callG P gl p.1 f p.2 H k
def kH (F : Env → Env → Heap → Prop) (env tmp : Env) (H : Heap) : Prop := F env tmp H
def kcN (F : Env → Env → Heap → Prop) (env tmp : Env) (_ : LV) (H : Heap) : Prop := F env tmp H
variable {P : Program} {gl : Glob} {H : Heap} {env tmp : Env} {K : Env → Heap → Prop} {d : Nat} {x : X} {i : Nat} {lg : List Lg} {r : List DIt} {ss pend : List Nat} {wt : Bool} {sg : X} {cs : List LV} {y : X} {g : Bool} {ρ : X → LV} {z : List LV} {lo : Option X} {hi : Option X} {mx : Option X}
theorem rr {α : Sort _} {a : α} : a = a := Eq.trans rfl rfl
theorem condT (c b : Bool) : cond c true b = (c || b) := by cases c <;> rfl
theorem condF (c a : Bool) : cond c a false = (c && a) := by cases c <;> rfl
def bitop (op : BinOp) (k : IntKind) (a b : Int) : Int :=
  match op with
  | .and => k.wrap (BitVec.ofInt k.bits a &&& BitVec.ofInt k.bits b).toNat
  | .or => k.wrap (BitVec.ofInt k.bits a ||| BitVec.ofInt k.bits b).toNat
  | .xor => k.wrap (BitVec.ofInt k.bits a ^^^ BitVec.ofInt k.bits b).toNat
  | _ => k.wrap (BitVec.ofInt k.bits a &&& ~~~ BitVec.ofInt k.bits b).toNat
def shl (k : IntKind) (a b : Int) : Int := k.wrap (a * 2 ^ min b.toNat k.bits)
def shr (k : IntKind) (a b : Int) : Int := a.fdiv (2 ^ min b.toNat k.bits)
def evG (x : Option (List LV)) : LV :=
  match x with
  | some cs => .rp cs 0
  | none => .any
def slSE (g : Prop) (x : LV) (lo hi : Option X) (ρ : X → LV) : Prop × LV :=
  match x with
  | .str s => (g ∧ (optI ρ 0 lo).1 ∧ (optI ρ s.length hi).1 ∧ (slSQ s (optI ρ 0 lo).2 (optI ρ s.length hi).2).1, (slSQ s (optI ρ 0 lo).2 (optI ρ s.length hi).2).2)
  | _ => (False, .any)
def fillO (cs : List LV) (o s : Nat) (c : Option (List LV)) (r : List (Nat × Nat × LV)) : Option (List LV) :=
  match c with
  | some ds => if ds.length = s ∧ o + ds.length ≤ cs.length then fillL (splice cs ds o) r else none
  | none => none
def loadE (g : Bool) (sz b o : Nat) (e : Option Ent) : Prop × LV :=
  match e with
  | some (.blk b' cs) => (b' = b ∧ o + sz ≤ cs.length, partL g sz o cs)
  | _ => (False, .any)
def optE (x : LV) : Prop × Int :=
  match x.v with
  | .int _ i => (x.g, i)
  | _ => (False, 0)
def fillE (x : Option (List LV)) : Prop × List LV :=
  match x with
  | some cs => (True, cs)
  | none => (False, [])
def stoE (sz b o i : Nat) (H : Heap) (e : Option Ent) (c : Option (List LV)) : Prop × Heap :=
  match e, c with
  | some (.blk b' cs), some ds => (b' = b ∧ ds.length = sz ∧ o + ds.length ≤ cs.length, setH H i (.blk b' (splice cs ds o)))
  | _, _ => (False, [])
def appO (i : Nat) (t : Tok) (sz bytes s n m : Nat) (cs ys : List LV) (H : Heap) (K : LV → Heap → Prop) (e : Option Ent) : Prop :=
  match e with
  | some (.tok t') => (t' = t ∧ s = sz ∧ roomy (n + m) bytes) ∧ ∀ τ, K (.osl i τ sz (n + m) (cs ++ ys)) ((i, .tok τ) :: delH H i)
  | _ => False
def elE (sz s b o l : Nat) (e : Option Ent) : Prop × Nat × List LV :=
  match e with
  | some (.blk b' cs) => (s = sz ∧ b' = b ∧ o + l * sz ≤ cs.length, l, (cs.drop o).take (l * sz))
  | _ => (False, 0, [])
theorem v_int (k : IntKind) (n : Int) : LV.v (.int k n) = (.int k n) := rr
theorem g_int (k : IntKind) (n : Int) : LV.g (.int k n) = True := rr
theorem v_bool (b : Bool) : LV.v (.bool b) = (.bool b) := rr
theorem g_bool (b : Bool) : LV.g (.bool b) = True := rr
theorem v_str (s : List UInt8) : LV.v (.str s) = (.str s) := rr
theorem g_str (s : List UInt8) : LV.g (.str s) = True := rr
theorem v_nil  : LV.v .nil = .nil := rr
theorem g_nil  : LV.g .nil = True := rr
theorem v_ptr (i b o : Nat) : LV.v (.ptr i b o) = (.ptr i b o) := rr
theorem g_ptr (i b o : Nat) : LV.g (.ptr i b o) = True := rr
theorem v_rp (o : Nat) : LV.v (.rp cs o) = (.rp cs o) := rr
theorem g_rp (o : Nat) : LV.g (.rp cs o) = True := rr
theorem v_agg : LV.v (.agg cs) = (.agg cs) := rr
theorem g_agg : LV.g (.agg cs) = True := rr
theorem v_tup : LV.v (.tup cs) = (.tup cs) := rr
theorem g_tup : LV.g (.tup cs) = True := rr
theorem v_sl (a b : Nat) : LV.v (.sl a b cs) = (.sl a b cs) := rr
theorem g_sl (a b : Nat) : LV.g (.sl a b cs) = True := rr
theorem v_osl (t : Tok) (a b : Nat) : LV.v (.osl i t a b cs) = (.osl i t a b cs) := rr
theorem g_osl (t : Tok) (a b : Nat) : LV.g (.osl i t a b cs) = True := rr
theorem v_fsl (a b : Nat) : LV.v (.fsl a b cs) = (.fsl a b cs) := rr
theorem g_fsl (a b : Nat) : LV.g (.fsl a b cs) = True := rr
theorem v_msl (i s b o l c : Nat) : LV.v (.msl i s b o l c) = (.msl i s b o l c) := rr
theorem g_msl (i s b o l c : Nat) : LV.g (.msl i s b o l c) = True := rr
theorem v_clo (f : Nat) : LV.v (.clo f cs) = (.clo f cs) := rr
theorem g_clo (f : Nat) : LV.g (.clo f cs) = True := rr
theorem v_fn (f : Nat) : LV.v (.fn f) = (.fn f) := rr
theorem g_fn (f : Nat) : LV.g (.fn f) = True := rr
theorem v_any  : LV.v .any = .any := rr
theorem g_any  : LV.g .any = True := rr
theorem v_opt (x : LV) : LV.v (.opt g x) = x := rr
theorem g_opt (x : LV) : LV.g (.opt g x) = (g = true) := rr
theorem cells_int (k : IntKind) (n : Int) : cellsL (.int k n) = some [.int k n] := rr
theorem cellsQ_int (k : IntKind) (n : Int) : cellsQ (.int k n) = (True, [.int k n]) := rr
theorem cells_bool (b : Bool) : cellsL (.bool b) = some [.bool b] := rr
theorem cellsQ_bool (b : Bool) : cellsQ (.bool b) = (True, [.bool b]) := rr
theorem cells_str (s : List UInt8) : cellsL (.str s) = some [.str s] := rr
theorem cellsQ_str (s : List UInt8) : cellsQ (.str s) = (True, [.str s]) := rr
theorem cells_agg : cellsL (.agg cs) = some cs := rr
theorem cellsQ_agg : cellsQ (.agg cs) = (True, cs) := rr
theorem cells_sl (a b : Nat) : cellsL (.sl a b cs) = some [.sl a b cs] := rr
theorem cells_osl (t : Tok) (a b : Nat) : cellsL (.osl i t a b cs) = some [.osl i t a b cs] := rr
theorem cells_fsl (a b : Nat) : cellsL (.fsl a b cs) = some [.fsl a b cs] := rr
theorem cells_msl (i s b o l c : Nat) : cellsL (.msl i s b o l c) = some [.msl i s b o l c] := rr
theorem get_nil (t : Nat) : Lx.get [] t = .any := rr
theorem get_eq (t : Nat) (v : LV) (r : Env) : Lx.get ((t, v) :: r) t = v := by simp [Lx.get]
theorem get_ne {i t : Nat} (v : LV) (r : Env) (h : i ≠ t) : Lx.get ((i, v) :: r) t = Lx.get r t := by simp [Lx.get, h]
theorem restr_nil (env : Env) : restr [] env = [] := rr
theorem restr_cons (s : Nat) (r : List Nat) (env : Env) : restr (s :: r) env = (s, Lx.get env s) :: restr r env := rr
theorem ev_t (s : Nat) : ev gl env tmp (.t s) = Lx.get env s := rr
theorem ev_u (s : Nat) : ev gl env tmp (.u s) = Lx.get tmp s := rr
theorem ev_c (v : LV) : ev gl env tmp (.c v) = v := rr
theorem getH_eq (e : Ent) : getH ((i, e) :: H) i = some e := by simp [getH]
theorem getH_ne {i j : Nat} (e : Ent) (h : i ≠ j) : getH ((i, e) :: H) j = getH H j := by simp [getH, h]
theorem setH_eq (e e' : Ent) : setH ((i, e) :: H) i e' = (i, e') :: H := by simp [setH]
theorem setH_ne {i j : Nat} (e e' : Ent) (h : i ≠ j) : setH ((i, e) :: H) j e' = (i, e) :: setH H j e' := by simp [setH, h]
theorem delH_eq (e : Ent) : delH ((i, e) :: H) i = H := by simp [delH]
theorem delH_ne {i j : Nat} (e : Ent) (h : i ≠ j) : delH ((i, e) :: H) j = (i, e) :: delH H j := by simp [delH, h]
theorem partL_t (sz off : Nat) : partL true sz off cs = .agg ((cs.drop off).take sz) := rr
theorem partL_f (sz off : Nat) : partL false sz off cs = cs.getD off .any := rr
theorem bin_add (k k' : IntKind) (a b : Int) : binQ .add (.int k a) (.int k' b) = (k = k', .int k (k.wrap (a + b))) := rr
theorem bin_sub (k k' : IntKind) (a b : Int) : binQ .sub (.int k a) (.int k' b) = (k = k', .int k (k.wrap (a - b))) := rr
theorem bin_mul (k k' : IntKind) (a b : Int) : binQ .mul (.int k a) (.int k' b) = (k = k', .int k (k.wrap (a * b))) := rr
theorem bin_rem (k k' : IntKind) (a b : Int) : binQ .rem (.int k a) (.int k' b) = (k = k' ∧ b ≠ 0, .int k (a.tmod b)) := rr
theorem bin_and (k k' : IntKind) (a b : Int) : binQ .and (.int k a) (.int k' b) = (k = k', .int k (bitop .and k a b)) := rr
theorem bin_shr (k k' : IntKind) (a b : Int) : binQ .shr (.int k a) (.int k' b) = (0 ≤ b, .int k (shr k a b)) := rr
theorem bin_eql (k k' : IntKind) (a b : Int) : binQ .eql (.int k a) (.int k' b) = (k = k', .bool (a == b)) := rr
theorem bin_neq (k k' : IntKind) (a b : Int) : binQ .neq (.int k a) (.int k' b) = (k = k', .bool (a != b)) := rr
theorem bin_lss (k k' : IntKind) (a b : Int) : binQ .lss (.int k a) (.int k' b) = (k = k', .bool (decide (a < b))) := rr
theorem bin_leq (k k' : IntKind) (a b : Int) : binQ .leq (.int k a) (.int k' b) = (k = k', .bool (decide (a ≤ b))) := rr
theorem bin_gtr (k k' : IntKind) (a b : Int) : binQ .gtr (.int k a) (.int k' b) = (k = k', .bool (decide (b < a))) := rr
theorem bin_geq (k k' : IntKind) (a b : Int) : binQ .geq (.int k a) (.int k' b) = (k = k', .bool (decide (b ≤ a))) := rr
theorem bin_sadd (a b : List UInt8) : binQ .add (.str a) (.str b) = (a.length + b.length ≤ 9223372036854775807, .str (a ++ b)) := rr
theorem bin_seql (a b : List UInt8) : binQ .eql (.str a) (.str b) = (True, .bool (a == b)) := rr
theorem bin_sneq (a b : List UInt8) : binQ .neq (.str a) (.str b) = (True, .bool (!(a == b))) := rr
theorem bin_sgeq (a b : List UInt8) : binQ .geq (.str a) (.str b) = (True, .bool (!(Op.bytesLess a b))) := rr
theorem un_not (b : Bool) : unQ .not (.bool b) = (True, .bool (!b)) := rr
theorem un_neg (k : IntKind) (n : Int) : unQ .neg (.int k n) = (True, .int k (k.wrap (0 - n))) := rr
theorem load_rp (sz : Nat) (o : Nat) : loadQ g sz (.rp cs o) H = (o + sz ≤ cs.length, partL g sz o cs) := rr
theorem load_ptr (sz i b o : Nat) : loadQ g sz (.ptr i b o) H = loadE g sz b o (getH H i) := rr
theorem loadE_blk (sz b o b' : Nat) : loadE g sz b o (some (.blk b' cs)) = (b' = b ∧ o + sz ≤ cs.length, partL g sz o cs) := rr
theorem faddr_rp (f : Nat) (o : Nat) : faddrQ f (.rp cs o) = (True, .rp cs (o + f)) := rr
theorem faddr_ptr (f i b o : Nat) : faddrQ f (.ptr i b o) = (True, .ptr i b (o + f)) := rr
theorem fld_agg (sz o : Nat) : fldQ g sz o (.agg cs) = (o + sz ≤ cs.length, partL g sz o cs) := rr
theorem idx_int (k : IntKind) (n : Int) : idxI (.int k n) = (True, n) := rr
theorem iaA_ptr (n sz j b o : Nat) (i : LV) : iaAQ n sz (.ptr j b o) i = ((idxI i).1 ∧ 0 ≤ (idxI i).2 ∧ (idxI i).2 < n, .ptr j b (o + (idxI i).2.toNat * sz)) := rr
theorem iaS_sl (sz : Nat) (s n : Nat) (i : LV) : iaSQ sz (.sl s n cs) i = ((idxI i).1 ∧ s = sz ∧ 0 ≤ (idxI i).2 ∧ (idxI i).2 < n, .rp cs ((idxI i).2.toNat * sz)) := rr
theorem lenL_sl (s n : Nat) : lenLQ (.sl s n cs) = (True, .int .i64 n) := rr
theorem iaS_fsl (sz : Nat) (s n : Nat) (i : LV) : iaSQ sz (.fsl s n cs) i = ((idxI i).1 ∧ s = sz ∧ 0 ≤ (idxI i).2 ∧ (idxI i).2 < n, .rp cs ((idxI i).2.toNat * sz)) := rr
theorem lenL_fsl (s n : Nat) : lenLQ (.fsl s n cs) = (True, .int .i64 n) := rr
theorem iaS_osl (sz : Nat) (j : Nat) (t : Tok) (s n : Nat) (i : LV) : iaSQ sz (.osl j t s n cs) i = ((idxI i).1 ∧ s = sz ∧ 0 ≤ (idxI i).2 ∧ (idxI i).2 < n, .rp cs ((idxI i).2.toNat * sz)) := rr
theorem lenL_osl (j : Nat) (t : Tok) (s n : Nat) : lenLQ (.osl j t s n cs) = (True, .int .i64 n) := rr
theorem iaS_msl (sz j s b o l c : Nat) (i : LV) : iaSQ sz (.msl j s b o l c) i = ((idxI i).1 ∧ s = sz ∧ 0 ≤ (idxI i).2 ∧ (idxI i).2 < l, .ptr j b (o + (idxI i).2.toNat * sz)) := rr
theorem lenL_msl (j s b o l c : Nat) : lenLQ (.msl j s b o l c) = (True, .int .i64 l) := rr
theorem cap_msl (j s b o l c : Nat) : capQ (.msl j s b o l c) = (True, .int .i64 c) := rr
theorem len_str (s : List UInt8) : lenQ (.str s) = (True, .int .i64 s.length) := rr
theorem ixS_str (s : List UInt8) (i : LV) : ixSQ (.str s) i = ((idxI i).1 ∧ 0 ≤ (idxI i).2 ∧ (idxI i).2 < s.length, .int .u8 (s.getD (idxI i).2.toNat 0).toNat) := rr
theorem ext_tup (vs : List LV) : extQ (.tup vs) i = (i < vs.length, vs.getD i .any) := rr
theorem nilc_ptr (i b o : Nat) : nilcQ (.ptr i b o) = (True, .ptr i b o) := rr
theorem eqB_bb (g a b : Bool) : eqBQ g (.bool a) (.bool b) = (True, .bool (if g then !(a == b) else a == b)) := rr
theorem eqS_aa (s : Nat) (ls : List (Nat × Nat)) (xs ys : List LV) : eqSQ g s ls (.agg xs) (.agg ys) = (xs.length = s ∧ ys.length = s ∧ (leavesQ xs ys ls).1, .bool (if g then !(leavesQ xs ys ls).2 else (leavesQ xs ys ls).2)) := rr
theorem leaves_nil (xs ys : List LV) : leavesQ xs ys [] = (True, true) := rr
theorem leaves_cons (xs ys : List LV) (i k : Nat) (r : List (Nat × Nat)) : leavesQ xs ys ((i, k) :: r) = ((leafQ k (xs.getD i .any) (ys.getD i .any)).1 ∧ (leavesQ xs ys r).1, (leafQ k (xs.getD i .any) (ys.getD i .any)).2 && (leavesQ xs ys r).2) := rr
theorem leaf_int (k : Nat) (k1 k2 : IntKind) (a b : Int) : leafQ k (.int k1 a) (.int k2 b) = (k = 1 ∧ k1 = k2, a == b) := rr
theorem pick_000 (c a b : Bool) : pickQ (.bool c) (.bool a) (.bool b) = (True, .bool (cond c a b)) := by simp [pickQ, LV.v, LV.g]
theorem pick_001 (c a b g2 : Bool) : pickQ (.bool c) (.bool a) (.opt g2 (.bool b)) = ((c = false → g2 = true), .bool (cond c a b)) := by simp [pickQ, LV.v, LV.g]
theorem pick_010 (c a b g1 : Bool) : pickQ (.bool c) (.opt g1 (.bool a)) (.bool b) = ((c = true → g1 = true), .bool (cond c a b)) := by simp [pickQ, LV.v, LV.g]
theorem pick_101 (c a b g0 g2 : Bool) : pickQ (.opt g0 (.bool c)) (.bool a) (.opt g2 (.bool b)) = (g0 = true ∧ (c = false → g2 = true), .bool (cond c a b)) := by simp [pickQ, LV.v, LV.g]
theorem pick_110 (c a b g0 g1 : Bool) : pickQ (.opt g0 (.bool c)) (.opt g1 (.bool a)) (.bool b) = (g0 = true ∧ (c = true → g1 = true), .bool (cond c a b)) := by simp [pickQ, LV.v, LV.g]
theorem opt_none (d : Int) : optI ρ d none = (True, d) := rr
theorem opt_some (d : Int) : optI ρ d (some x) = optE (ρ x) := rr
theorem optE_int (k : IntKind) (n : Int) : optE (.int k n) = (True, n) := rr
theorem slS_eq (s : List UInt8) (l h : Int) : slSQ s l h = (0 ≤ l ∧ l ≤ h ∧ h ≤ s.length, .str ((s.drop l.toNat).take (h.toNat - l.toNat))) := rr
theorem slL_sl (sz s n : Nat) (lo hi : Option X) : slLQ sz (.sl s n cs) lo hi none ρ = ((optI ρ 0 lo).1 ∧ (optI ρ n hi).1 ∧ s = sz ∧ 0 ≤ (optI ρ 0 lo).2 ∧ (optI ρ 0 lo).2 ≤ (optI ρ n hi).2 ∧ (optI ρ n hi).2 ≤ n, .sl sz ((optI ρ n hi).2.toNat - (optI ρ 0 lo).2.toNat) ((cs.drop ((optI ρ 0 lo).2.toNat * sz)).take (((optI ρ n hi).2.toNat - (optI ρ 0 lo).2.toNat) * sz))) := rr
theorem slL_msl (sz i s b o l c : Nat) (lo hi : Option X) : slLQ sz (.msl i s b o l c) lo hi none ρ = ((optI ρ 0 lo).1 ∧ (optI ρ l hi).1 ∧ s = sz ∧ 0 ≤ (optI ρ 0 lo).2 ∧ (optI ρ 0 lo).2 ≤ (optI ρ l hi).2 ∧ (optI ρ l hi).2 ≤ c, .msl i sz b (if c = (optI ρ 0 lo).2.toNat then o else o + (optI ρ 0 lo).2.toNat * sz) ((optI ρ l hi).2.toNat - (optI ρ 0 lo).2.toNat) (c - (optI ρ 0 lo).2.toNat)) := rr
theorem slL_msl3 (sz i s b o l c : Nat) (h m : X) : slLQ sz (.msl i s b o l c) lo (some h) (some m) ρ = ((optI ρ 0 lo).1 ∧ (optI ρ l (some h)).1 ∧ (optI ρ l (some m)).1 ∧ (some h).isSome ∧ s = sz ∧ 0 ≤ (optI ρ 0 lo).2 ∧ (optI ρ 0 lo).2 ≤ (optI ρ l (some h)).2 ∧ (optI ρ l (some h)).2 ≤ (optI ρ l (some m)).2 ∧ (optI ρ l (some m)).2 ≤ c, if (optI ρ l (some m)).2 = (optI ρ 0 lo).2 then .fsl sz 0 [] else .msl i sz b (o + (optI ρ 0 lo).2.toNat * sz) ((optI ρ l (some h)).2.toNat - (optI ρ 0 lo).2.toNat) ((optI ρ l (some m)).2.toNat - (optI ρ 0 lo).2.toNat)) := rr
theorem fill_nil : fillL cs [] = some cs := rr
theorem fill_cons (o s : Nat) (x : LV) (r : List (Nat × Nat × LV)) : fillL cs ((o, s, x) :: r) = fillO cs o s (cellsL x) r := rr
theorem fillO_some {cs ds : List LV} {o s : Nat} (r : List (Nat × Nat × LV)) (h1 : ds.length = s) (h2 : o + ds.length ≤ cs.length) : fillO cs o s (some ds) r = fillL (splice cs ds o) r := by simp only [fillO]; rw [if_pos ⟨h1, h2⟩]
theorem fillQ_eq (ps : List (Nat × Nat × LV)) : fillQ z ps = fillE (fillL z ps) := rr
theorem fillE_some : fillE (some cs) = (True, cs) := rr
theorem gParts_nil : gParts ρ [] = True := by simp [gParts]
theorem gParts_cons (o s : Nat) (r : List (Nat × Nat × X)) : gParts ρ ((o, s, x) :: r) = ((ρ x).g ∧ gParts ρ r) := by simp [gParts]
theorem vParts_nil : vParts ρ [] = [] := rr
theorem vParts_cons (o s : Nat) (r : List (Nat × Nat × X)) : vParts ρ ((o, s, x) :: r) = (o, s, (ρ x).v) :: vParts ρ r := rr
theorem q_mov : q (.mov x) ρ H = ((ρ x).g, (ρ x).v) := rr
theorem q_pick (c a b : X) : q (.pick c a b) ρ H = pickQ (ρ c) (ρ a) (ρ b) := rr
theorem q_build (ps : List (Nat × Nat × X)) : q (.build z ps) ρ H = (gParts ρ ps ∧ (fillL z (vParts ρ ps)).isSome = true, .agg ((fillL z (vParts ρ ps)).getD [])) := rr
theorem q_load (s : Nat) : q (.load g s x) ρ H = ((ρ x).g ∧ (loadQ g s (ρ x).v H).1, (loadQ g s (ρ x).v H).2) := rr
theorem q_nilc : q (.nilc x) ρ H = ((ρ x).g ∧ (nilcQ (ρ x).v).1, (nilcQ (ρ x).v).2) := rr
theorem q_un (o : UnOp) : q (.un o x) ρ H = ((ρ x).g ∧ (unQ o (ρ x).v).1, (unQ o (ρ x).v).2) := rr
theorem q_faddr (o : Nat) : q (.faddr o x) ρ H = ((ρ x).g ∧ (faddrQ o (ρ x).v).1, (faddrQ o (ρ x).v).2) := rr
theorem q_fld (s : Nat) (o : Nat) : q (.fld g s o x) ρ H = ((ρ x).g ∧ (fldQ g s o (ρ x).v).1, (fldQ g s o (ρ x).v).2) := rr
theorem q_ext : q (.ext x i) ρ H = ((ρ x).g ∧ (extQ (ρ x).v i).1, (extQ (ρ x).v i).2) := rr
theorem q_len : q (.len x) ρ H = ((ρ x).g ∧ (lenQ (ρ x).v).1, (lenQ (ρ x).v).2) := rr
theorem q_lenL : q (.lenL x) ρ H = ((ρ x).g ∧ (lenLQ (ρ x).v).1, (lenLQ (ρ x).v).2) := rr
theorem q_cap : q (.cap x) ρ H = ((ρ x).g ∧ (capQ (ρ x).v).1, (capQ (ρ x).v).2) := rr
theorem q_slL (s : Nat) : q (.slL s x lo hi mx) ρ H = ((ρ x).g ∧ (slLQ s (ρ x).v lo hi mx ρ).1, (slLQ s (ρ x).v lo hi mx ρ).2) := rr
theorem q_bin (o : BinOp) : q (.bin o x y) ρ H = ((ρ x).g ∧ (ρ y).g ∧ (binQ o (ρ x).v (ρ y).v).1, (binQ o (ρ x).v (ρ y).v).2) := rr
theorem q_eqB : q (.eqB g x y) ρ H = ((ρ x).g ∧ (ρ y).g ∧ (eqBQ g (ρ x).v (ρ y).v).1, (eqBQ g (ρ x).v (ρ y).v).2) := rr
theorem q_eqS (s : Nat) (ls : List (Nat × Nat)) : q (.eqS g s ls x y) ρ H = ((ρ x).g ∧ (ρ y).g ∧ (eqSQ g s ls (ρ x).v (ρ y).v).1, (eqSQ g s ls (ρ x).v (ρ y).v).2) := rr
theorem q_iaA (n : Nat) (s : Nat) : q (.iaA n s x y) ρ H = ((ρ x).g ∧ (ρ y).g ∧ (iaAQ n s (ρ x).v (ρ y).v).1, (iaAQ n s (ρ x).v (ρ y).v).2) := rr
theorem q_iaS (s : Nat) : q (.iaS s x y) ρ H = ((ρ x).g ∧ (ρ y).g ∧ (iaSQ s (ρ x).v (ρ y).v).1, (iaSQ s (ρ x).v (ρ y).v).2) := rr
theorem q_ixS : q (.ixS x y) ρ H = ((ρ x).g ∧ (ρ y).g ∧ (ixSQ (ρ x).v (ρ y).v).1, (ixSQ (ρ x).v (ρ y).v).2) := rr
theorem q_mkf (f : Nat) (xs : List X) : q (.mkf f xs) ρ H = (∀ x ∈ xs, (ρ x).g, .clo f (xs.map fun x => (ρ x).v)) := rr
theorem q_slS (lo hi : Option X) : q (.slS x lo hi) ρ H = slSE (ρ x).g (ρ x).v lo hi ρ := rr
theorem slSE_str (g : Prop) (s : List UInt8) (lo hi : Option X) : slSE g (.str s) lo hi ρ = (g ∧ (optI ρ 0 lo).1 ∧ (optI ρ s.length hi).1 ∧ (slSQ s (optI ρ 0 lo).2 (optI ρ s.length hi).2).1, (slSQ s (optI ρ 0 lo).2 (optI ρ s.length hi).2).2) := rr
theorem gB_t (b : Bool) : gBool (.bool b) true = (True, b) := rr
theorem gB_f (b : Bool) : gBool (.bool b) false = (True, !b) := rr
theorem gBo_t (g b : Bool) : gBool (.opt g (.bool b)) true = (True, g && b) := rr
theorem gBo_f (g b : Bool) : gBool (.opt g (.bool b)) false = (True, g && !b) := rr
theorem quietG_eq (x : LV) (want : Bool) (p : Prop × LV) : quietG x want p = ((gBool x want).1 ∧ ((gBool x want).2 = true → p.1), .opt (gBool x want).2 p.2) := rr
theorem store_ptr (sz i b o : Nat) (y : LV) : storeQ sz (.ptr i b o) y H = stoE sz b o i H (getH H i) (cellsL y) := rr
theorem stoE_blk (sz b o i b' : Nat) (cs ds : List LV) : stoE sz b o i H (some (.blk b' cs)) (some ds) = (b' = b ∧ ds.length = sz ∧ o + ds.length ≤ cs.length, setH H i (.blk b' (splice cs ds o))) := rr
theorem appV_fsl (id sz bytes m s n : Nat) (cs ys : List LV) (K : LV → Heap → Prop) : appV id sz bytes m (.fsl s n cs) ys H K = (((s = sz ∨ n = 0) ∧ roomy (n + m) bytes) ∧ ∀ τ, K (.osl id τ sz (n + m) (cs ++ ys)) ((id, .tok τ) :: H)) := rr
theorem appV_osl (id sz bytes m i : Nat) (t : Tok) (s n : Nat) (cs ys : List LV) (K : LV → Heap → Prop) : appV id sz bytes m (.osl i t s n cs) ys H K = appO i t sz bytes s n m cs ys H K (getH H i) := rr
theorem appO_tok (t t' : Tok) (sz bytes s n m : Nat) (cs ys : List LV) (K : LV → Heap → Prop) : appO i t sz bytes s n m cs ys H K (some (.tok t')) = ((t' = t ∧ s = sz ∧ roomy (n + m) bytes) ∧ ∀ τ, K (.osl i τ sz (n + m) (cs ++ ys)) ((i, .tok τ) :: delH H i)) := rr
theorem appV_msl (id sz bytes m i s b off n cap : Nat) (ys : List LV) (K : LV → Heap → Prop) : appV id sz bytes m (.msl i s b off n cap) ys H K = appM i sz bytes s b off n cap m ys H (getH H i) K := rr
theorem appM_blk (i sz bytes s b off n cap m b' : Nat) (ys cs : List LV) (K : LV → Heap → Prop) : appM i sz bytes s b off n cap m ys H (some (.blk b' cs)) K = Either i (s = sz ∧ b' = b ∧ off = 0 ∧ n * sz ≤ cs.length ∧ cap * sz ≤ cs.length ∧ roomy (n + m) bytes ∧ ∀ b2 c2, n + m ≤ c2 → K (.msl i sz b2 0 (n + m) c2) ((i, .blk b2 (cs.take (n * sz) ++ ys ++ List.replicate ((c2 - (n + m)) * sz) .any)) :: delH H i)) (s = sz ∧ b' = b ∧ n + m ≤ cap ∧ off + n * sz + ys.length ≤ cs.length ∧ K (.msl i sz b off (n + m) cap) (setH H i (.blk b (splice cs ys (off + n * sz))))) := rr
theorem appZ_int (bytes : Nat) (n : Int) : appZQ bytes (.int .i64 n) = (0 ≤ n ∧ n < 2 ^ 63 ∧ n * bytes ≤ 2 ^ 48, n.toNat) := rr
theorem copyV_msl (sz m i s b off n c : Nat) (ys : List LV) (K : LV → Heap → Prop) : copyV sz m (.msl i s b off n c) ys H K = (s = sz ∧ copyE i sz b off n m ys H (getH H i) K) := rr
theorem copyE_blk (i sz b off n m b' : Nat) (ys cs : List LV) (K : LV → Heap → Prop) : copyE i sz b off n m ys H (some (.blk b' cs)) K = ((b' = b ∧ off + n * sz ≤ cs.length) ∧ K (.int .i64 (min m n : Nat)) (setH H i (.blk b (splice cs (ys.take (min m n * sz)) off)))) := rr
theorem clearV_msl (sz i s b off n c : Nat) (K : LV → Heap → Prop) : clearV sz z (.msl i s b off n c) H K = (s = sz ∧ clearE i sz z b off n H (getH H i) K) := rr
theorem clearE_blk (i sz b off n b' : Nat) (z cs : List LV) (K : LV → Heap → Prop) : clearE i sz z b off n H (some (.blk b' cs)) K = ((b' = b ∧ off + n * sz ≤ cs.length) ∧ K (.tup []) (setH H i (.blk b (splice cs (zeros z (n * sz)) off)))) := rr
theorem callee_clo (f : Nat) : calleeQ (.clo f cs) = (True, f, cs) := rr
theorem callee_fn (f : Nat) : calleeQ (.fn f) = (True, f, []) := rr
theorem el_sl (sz : Nat) (s m : Nat) (ys : List LV) : elems sz (.sl s m ys) H = (s = sz ∨ m = 0, m, ys) := rr
theorem el_fsl (sz : Nat) (s m : Nat) (ys : List LV) : elems sz (.fsl s m ys) H = (s = sz ∨ m = 0, m, ys) := rr
theorem el_msl (sz i s b o l c : Nat) : elems sz (.msl i s b o l c) H = elE sz s b o l (getH H i) := rr
theorem elE_blk (sz s b o l b' : Nat) : elE sz s b o l (some (.blk b' cs)) = (s = sz ∧ b' = b ∧ o + l * sz ≤ cs.length, l, (cs.drop o).take (l * sz)) := rr
theorem make_ii (sz bytes : Nat) (l c : Int) : makeQ sz bytes z (.int .i64 l) (.int .i64 c) = (0 ≤ l ∧ l ≤ c ∧ c < 2 ^ 63 ∧ c * bytes ≤ 2 ^ 48 ∧ z.length = sz, l.toNat, c.toNat) := rr
theorem x_nil : execL P gl [] K env tmp H = K env H := rr
theorem d_nil : execE P gl [] K lg env tmp H = K env H := rr
theorem x_qT_mov (r : List LOper) : execL P gl (⟨some d, true, none, (.mov x)⟩ :: r) K env tmp H = Bd (q (.mov x) (ev gl env tmp) H) (kT (execL P gl r K) d env tmp H) := rr
theorem x_qT_pick (c a b : X) (r : List LOper) : execL P gl (⟨some d, true, none, (.pick c a b)⟩ :: r) K env tmp H = Bd (q (.pick c a b) (ev gl env tmp) H) (kT (execL P gl r K) d env tmp H) := rr
theorem x_qT_load (s : Nat) (r : List LOper) : execL P gl (⟨some d, true, none, (.load g s x)⟩ :: r) K env tmp H = Bd (q (.load g s x) (ev gl env tmp) H) (kT (execL P gl r K) d env tmp H) := rr
theorem x_qT_un (o : UnOp) (r : List LOper) : execL P gl (⟨some d, true, none, (.un o x)⟩ :: r) K env tmp H = Bd (q (.un o x) (ev gl env tmp) H) (kT (execL P gl r K) d env tmp H) := rr
theorem x_qT_lenL (r : List LOper) : execL P gl (⟨some d, true, none, (.lenL x)⟩ :: r) K env tmp H = Bd (q (.lenL x) (ev gl env tmp) H) (kT (execL P gl r K) d env tmp H) := rr
theorem x_qT_bin (o : BinOp) (r : List LOper) : execL P gl (⟨some d, true, none, (.bin o x y)⟩ :: r) K env tmp H = Bd (q (.bin o x y) (ev gl env tmp) H) (kT (execL P gl r K) d env tmp H) := rr
theorem x_qT_eqS (s : Nat) (ls : List (Nat × Nat)) (r : List LOper) : execL P gl (⟨some d, true, none, (.eqS g s ls x y)⟩ :: r) K env tmp H = Bd (q (.eqS g s ls x y) (ev gl env tmp) H) (kT (execL P gl r K) d env tmp H) := rr
theorem x_boxT (r : List LOper) : execL P gl (⟨some d, true, none, .box x⟩ :: r) K env tmp H = Bd (((ev gl env tmp) x).g ∧ (cellsQ ((ev gl env tmp) x).v).1, (cellsQ ((ev gl env tmp) x).v).2) (kBT (execL P gl r K) d env tmp H) := rr
theorem x_zeroT (r : List LOper) : execL P gl (⟨some d, true, none, .zero cs⟩ :: r) K env tmp H = ∀ b, (kcT (execL P gl r K) d env tmp) (.ptr d b 0) ((d, .blk b cs) :: H) := rr
theorem x_callT (f : Nat) (as : List X) (r : List LOper) : execL P gl (⟨some d, true, none, .call f as⟩ :: r) K env tmp H = Bd (∀ x ∈ as, ((ev gl env tmp) x).g, as.map fun x => ((ev gl env tmp) x).v) (kC P gl f H (kvT gl (execL P gl r K) d env tmp)) := rr
theorem x_callVT (as : List X) (r : List LOper) : execL P gl (⟨some d, true, none, .callV x as⟩ :: r) K env tmp H = Bd (((ev gl env tmp) x).g ∧ (∀ y ∈ as, ((ev gl env tmp) y).g) ∧ (calleeQ ((ev gl env tmp) x).v).1, (calleeQ ((ev gl env tmp) x).v).2.1, (as.map fun y => ((ev gl env tmp) y).v) ++ (calleeQ ((ev gl env tmp) x).v).2.2) (kCV P gl H (kvT gl (execL P gl r K) d env tmp)) := rr
theorem x_qU_mov (r : List LOper) : execL P gl (⟨some d, false, none, (.mov x)⟩ :: r) K env tmp H = Bd (q (.mov x) (ev gl env tmp) H) (kU (execL P gl r K) d env tmp H) := rr
theorem x_gU_mov (r : List LOper) : execL P gl (⟨some d, false, some (sg, wt), (.mov x)⟩ :: r) K env tmp H = Bd (quietG ((ev gl env tmp) sg) wt (q (.mov x) (ev gl env tmp) H)) (kU (execL P gl r K) d env tmp H) := rr
theorem x_qU_pick (c a b : X) (r : List LOper) : execL P gl (⟨some d, false, none, (.pick c a b)⟩ :: r) K env tmp H = Bd (q (.pick c a b) (ev gl env tmp) H) (kU (execL P gl r K) d env tmp H) := rr
theorem x_gU_pick (c a b : X) (r : List LOper) : execL P gl (⟨some d, false, some (sg, wt), (.pick c a b)⟩ :: r) K env tmp H = Bd (quietG ((ev gl env tmp) sg) wt (q (.pick c a b) (ev gl env tmp) H)) (kU (execL P gl r K) d env tmp H) := rr
theorem x_qU_build (ps : List (Nat × Nat × X)) (r : List LOper) : execL P gl (⟨some d, false, none, (.build z ps)⟩ :: r) K env tmp H = Bd (q (.build z ps) (ev gl env tmp) H) (kU (execL P gl r K) d env tmp H) := rr
theorem x_qU_load (s : Nat) (r : List LOper) : execL P gl (⟨some d, false, none, (.load g s x)⟩ :: r) K env tmp H = Bd (q (.load g s x) (ev gl env tmp) H) (kU (execL P gl r K) d env tmp H) := rr
theorem x_gU_load (s : Nat) (r : List LOper) : execL P gl (⟨some d, false, some (sg, wt), (.load g s x)⟩ :: r) K env tmp H = Bd (quietG ((ev gl env tmp) sg) wt (q (.load g s x) (ev gl env tmp) H)) (kU (execL P gl r K) d env tmp H) := rr
theorem x_qU_nilc (r : List LOper) : execL P gl (⟨some d, false, none, (.nilc x)⟩ :: r) K env tmp H = Bd (q (.nilc x) (ev gl env tmp) H) (kU (execL P gl r K) d env tmp H) := rr
theorem x_gU_nilc (r : List LOper) : execL P gl (⟨some d, false, some (sg, wt), (.nilc x)⟩ :: r) K env tmp H = Bd (quietG ((ev gl env tmp) sg) wt (q (.nilc x) (ev gl env tmp) H)) (kU (execL P gl r K) d env tmp H) := rr
theorem x_qU_un (o : UnOp) (r : List LOper) : execL P gl (⟨some d, false, none, (.un o x)⟩ :: r) K env tmp H = Bd (q (.un o x) (ev gl env tmp) H) (kU (execL P gl r K) d env tmp H) := rr
theorem x_gU_un (o : UnOp) (r : List LOper) : execL P gl (⟨some d, false, some (sg, wt), (.un o x)⟩ :: r) K env tmp H = Bd (quietG ((ev gl env tmp) sg) wt (q (.un o x) (ev gl env tmp) H)) (kU (execL P gl r K) d env tmp H) := rr
theorem x_qU_faddr (o : Nat) (r : List LOper) : execL P gl (⟨some d, false, none, (.faddr o x)⟩ :: r) K env tmp H = Bd (q (.faddr o x) (ev gl env tmp) H) (kU (execL P gl r K) d env tmp H) := rr
theorem x_gU_faddr (o : Nat) (r : List LOper) : execL P gl (⟨some d, false, some (sg, wt), (.faddr o x)⟩ :: r) K env tmp H = Bd (quietG ((ev gl env tmp) sg) wt (q (.faddr o x) (ev gl env tmp) H)) (kU (execL P gl r K) d env tmp H) := rr
theorem x_qU_fld (s : Nat) (o : Nat) (r : List LOper) : execL P gl (⟨some d, false, none, (.fld g s o x)⟩ :: r) K env tmp H = Bd (q (.fld g s o x) (ev gl env tmp) H) (kU (execL P gl r K) d env tmp H) := rr
theorem x_qU_ext (ix : Nat) (r : List LOper) : execL P gl (⟨some d, false, none, (.ext x ix)⟩ :: r) K env tmp H = Bd (q (.ext x ix) (ev gl env tmp) H) (kU (execL P gl r K) d env tmp H) := rr
theorem x_qU_len (r : List LOper) : execL P gl (⟨some d, false, none, (.len x)⟩ :: r) K env tmp H = Bd (q (.len x) (ev gl env tmp) H) (kU (execL P gl r K) d env tmp H) := rr
theorem x_gU_len (r : List LOper) : execL P gl (⟨some d, false, some (sg, wt), (.len x)⟩ :: r) K env tmp H = Bd (quietG ((ev gl env tmp) sg) wt (q (.len x) (ev gl env tmp) H)) (kU (execL P gl r K) d env tmp H) := rr
theorem x_qU_lenL (r : List LOper) : execL P gl (⟨some d, false, none, (.lenL x)⟩ :: r) K env tmp H = Bd (q (.lenL x) (ev gl env tmp) H) (kU (execL P gl r K) d env tmp H) := rr
theorem x_gU_lenL (r : List LOper) : execL P gl (⟨some d, false, some (sg, wt), (.lenL x)⟩ :: r) K env tmp H = Bd (quietG ((ev gl env tmp) sg) wt (q (.lenL x) (ev gl env tmp) H)) (kU (execL P gl r K) d env tmp H) := rr
theorem x_qU_cap (r : List LOper) : execL P gl (⟨some d, false, none, (.cap x)⟩ :: r) K env tmp H = Bd (q (.cap x) (ev gl env tmp) H) (kU (execL P gl r K) d env tmp H) := rr
theorem x_qU_slL (s : Nat) (r : List LOper) : execL P gl (⟨some d, false, none, (.slL s x lo hi mx)⟩ :: r) K env tmp H = Bd (q (.slL s x lo hi mx) (ev gl env tmp) H) (kU (execL P gl r K) d env tmp H) := rr
theorem x_qU_bin (o : BinOp) (r : List LOper) : execL P gl (⟨some d, false, none, (.bin o x y)⟩ :: r) K env tmp H = Bd (q (.bin o x y) (ev gl env tmp) H) (kU (execL P gl r K) d env tmp H) := rr
theorem x_gU_bin (o : BinOp) (r : List LOper) : execL P gl (⟨some d, false, some (sg, wt), (.bin o x y)⟩ :: r) K env tmp H = Bd (quietG ((ev gl env tmp) sg) wt (q (.bin o x y) (ev gl env tmp) H)) (kU (execL P gl r K) d env tmp H) := rr
theorem x_qU_eqB (r : List LOper) : execL P gl (⟨some d, false, none, (.eqB g x y)⟩ :: r) K env tmp H = Bd (q (.eqB g x y) (ev gl env tmp) H) (kU (execL P gl r K) d env tmp H) := rr
theorem x_gU_eqB (r : List LOper) : execL P gl (⟨some d, false, some (sg, wt), (.eqB g x y)⟩ :: r) K env tmp H = Bd (quietG ((ev gl env tmp) sg) wt (q (.eqB g x y) (ev gl env tmp) H)) (kU (execL P gl r K) d env tmp H) := rr
theorem x_gU_eqS (s : Nat) (ls : List (Nat × Nat)) (r : List LOper) : execL P gl (⟨some d, false, some (sg, wt), (.eqS g s ls x y)⟩ :: r) K env tmp H = Bd (quietG ((ev gl env tmp) sg) wt (q (.eqS g s ls x y) (ev gl env tmp) H)) (kU (execL P gl r K) d env tmp H) := rr
theorem x_qU_iaA (n : Nat) (s : Nat) (r : List LOper) : execL P gl (⟨some d, false, none, (.iaA n s x y)⟩ :: r) K env tmp H = Bd (q (.iaA n s x y) (ev gl env tmp) H) (kU (execL P gl r K) d env tmp H) := rr
theorem x_gU_iaA (n : Nat) (s : Nat) (r : List LOper) : execL P gl (⟨some d, false, some (sg, wt), (.iaA n s x y)⟩ :: r) K env tmp H = Bd (quietG ((ev gl env tmp) sg) wt (q (.iaA n s x y) (ev gl env tmp) H)) (kU (execL P gl r K) d env tmp H) := rr
theorem x_qU_iaS (s : Nat) (r : List LOper) : execL P gl (⟨some d, false, none, (.iaS s x y)⟩ :: r) K env tmp H = Bd (q (.iaS s x y) (ev gl env tmp) H) (kU (execL P gl r K) d env tmp H) := rr
theorem x_gU_iaS (s : Nat) (r : List LOper) : execL P gl (⟨some d, false, some (sg, wt), (.iaS s x y)⟩ :: r) K env tmp H = Bd (quietG ((ev gl env tmp) sg) wt (q (.iaS s x y) (ev gl env tmp) H)) (kU (execL P gl r K) d env tmp H) := rr
theorem x_qU_ixS (r : List LOper) : execL P gl (⟨some d, false, none, (.ixS x y)⟩ :: r) K env tmp H = Bd (q (.ixS x y) (ev gl env tmp) H) (kU (execL P gl r K) d env tmp H) := rr
theorem x_gU_ixS (r : List LOper) : execL P gl (⟨some d, false, some (sg, wt), (.ixS x y)⟩ :: r) K env tmp H = Bd (quietG ((ev gl env tmp) sg) wt (q (.ixS x y) (ev gl env tmp) H)) (kU (execL P gl r K) d env tmp H) := rr
theorem x_qU_mkf (f : Nat) (xs : List X) (r : List LOper) : execL P gl (⟨some d, false, none, (.mkf f xs)⟩ :: r) K env tmp H = Bd (q (.mkf f xs) (ev gl env tmp) H) (kU (execL P gl r K) d env tmp H) := rr
theorem x_qU_slS (lo hi : Option X) (r : List LOper) : execL P gl (⟨some d, false, none, (.slS x lo hi)⟩ :: r) K env tmp H = Bd (q (.slS x lo hi) (ev gl env tmp) H) (kU (execL P gl r K) d env tmp H) := rr
theorem x_boxU (r : List LOper) : execL P gl (⟨some d, false, none, .box x⟩ :: r) K env tmp H = Bd (((ev gl env tmp) x).g ∧ (cellsQ ((ev gl env tmp) x).v).1, (cellsQ ((ev gl env tmp) x).v).2) (kBU (execL P gl r K) d env tmp H) := rr
theorem x_zeroU (r : List LOper) : execL P gl (⟨some d, false, none, .zero cs⟩ :: r) K env tmp H = ∀ b, (kcU (execL P gl r K) d env tmp) (.ptr d b 0) ((d, .blk b cs) :: H) := rr
theorem x_makeU (sz bytes : Nat) (l c : X) (r : List LOper) : execL P gl (⟨some d, false, none, .make sz bytes z l c⟩ :: r) K env tmp H = Bd (((ev gl env tmp) l).g ∧ ((ev gl env tmp) c).g ∧ (makeQ sz bytes z ((ev gl env tmp) l).v ((ev gl env tmp) c).v).1, (makeQ sz bytes z ((ev gl env tmp) l).v ((ev gl env tmp) c).v).2) (kM d sz z H (kcU (execL P gl r K) d env tmp)) := rr
theorem x_appU (sz bytes : Nat) (x y : X) (r : List LOper) : execL P gl (⟨some d, false, none, .app sz bytes x y⟩ :: r) K env tmp H = Bd (((ev gl env tmp) x).g ∧ ((ev gl env tmp) y).g ∧ (elems sz ((ev gl env tmp) y).v H).1, (elems sz ((ev gl env tmp) y).v H).2) (kA d sz bytes ((ev gl env tmp) x).v H (kcU (execL P gl r K) d env tmp)) := rr
theorem x_appZU (sz bytes : Nat) (x y : X) (r : List LOper) : execL P gl (⟨some d, false, none, .appZ sz bytes z x y⟩ :: r) K env tmp H = Bd (((ev gl env tmp) x).g ∧ ((ev gl env tmp) y).g ∧ (appZQ bytes ((ev gl env tmp) y).v).1, (appZQ bytes ((ev gl env tmp) y).v).2) (kZ d sz bytes z ((ev gl env tmp) x).v H (kcU (execL P gl r K) d env tmp)) := rr
theorem x_copyU (sz : Nat) (x y : X) (r : List LOper) : execL P gl (⟨some d, false, none, .copy sz x y⟩ :: r) K env tmp H = Bd (((ev gl env tmp) x).g ∧ ((ev gl env tmp) y).g ∧ (elems sz ((ev gl env tmp) y).v H).1, (elems sz ((ev gl env tmp) y).v H).2) (kY sz ((ev gl env tmp) x).v H (kcU (execL P gl r K) d env tmp)) := rr
theorem x_mkSU (d sz m : Nat) (ps : List (Nat × Nat × X)) (r : List LOper) : execL P gl (⟨some d, false, none, .mkS sz m z ps⟩ :: r) K env tmp H = Bd (gParts (ev gl env tmp) ps ∧ z.length = sz ∧ (fillQ (zeros z (m * sz)) (vParts (ev gl env tmp) ps)).1, (fillQ (zeros z (m * sz)) (vParts (ev gl env tmp) ps)).2) (kS sz m (kU (execL P gl r K) d env tmp H)) := rr
theorem x_callU (f : Nat) (as : List X) (r : List LOper) : execL P gl (⟨some d, false, none, .call f as⟩ :: r) K env tmp H = Bd (∀ x ∈ as, ((ev gl env tmp) x).g, as.map fun x => ((ev gl env tmp) x).v) (kC P gl f H (kvU gl (execL P gl r K) d env tmp)) := rr
theorem x_callVU (as : List X) (r : List LOper) : execL P gl (⟨some d, false, none, .callV x as⟩ :: r) K env tmp H = Bd (((ev gl env tmp) x).g ∧ (∀ y ∈ as, ((ev gl env tmp) y).g) ∧ (calleeQ ((ev gl env tmp) x).v).1, (calleeQ ((ev gl env tmp) x).v).2.1, (as.map fun y => ((ev gl env tmp) y).v) ++ (calleeQ ((ev gl env tmp) x).v).2.2) (kCV P gl H (kvU gl (execL P gl r K) d env tmp)) := rr
theorem x_callGU (d f : Nat) (as : List X) (r : List LOper) : execL P gl (⟨some d, false, some (sg, wt), .call f as⟩ :: r) K env tmp H = Bd ((gBool ((ev gl env tmp) sg) wt).1 ∧ ((gBool ((ev gl env tmp) sg) wt).2 = true → ∀ x ∈ as, ((ev gl env tmp) x).g), (gBool ((ev gl env tmp) sg) wt).2, as.map fun x => ((ev gl env tmp) x).v) (kG P gl f H (kvU gl (execL P gl r K) d env tmp)) := rr
theorem d_qT_mov : execE P gl (⟨i, ss, false, pend, ⟨some d, true, none, (.mov x)⟩⟩ :: r) K lg env tmp H = Bd (q (.mov x) (ev gl (restr ss env) (restr ss tmp)) H) (kT (execE P gl r K lg) d env tmp H) := rr
theorem d_qT_pick (c a b : X) : execE P gl (⟨i, ss, false, pend, ⟨some d, true, none, (.pick c a b)⟩⟩ :: r) K lg env tmp H = Bd (q (.pick c a b) (ev gl (restr ss env) (restr ss tmp)) H) (kT (execE P gl r K lg) d env tmp H) := rr
theorem d_qT_un (o : UnOp) : execE P gl (⟨i, ss, false, pend, ⟨some d, true, none, (.un o x)⟩⟩ :: r) K lg env tmp H = Bd (q (.un o x) (ev gl (restr ss env) (restr ss tmp)) H) (kT (execE P gl r K lg) d env tmp H) := rr
theorem d_qT_bin (o : BinOp) : execE P gl (⟨i, ss, false, pend, ⟨some d, true, none, (.bin o x y)⟩⟩ :: r) K lg env tmp H = Bd (q (.bin o x y) (ev gl (restr ss env) (restr ss tmp)) H) (kT (execE P gl r K lg) d env tmp H) := rr
theorem d_qT_eqS (s : Nat) (ls : List (Nat × Nat)) : execE P gl (⟨i, ss, false, pend, ⟨some d, true, none, (.eqS g s ls x y)⟩⟩ :: r) K lg env tmp H = Bd (q (.eqS g s ls x y) (ev gl (restr ss env) (restr ss tmp)) H) (kT (execE P gl r K lg) d env tmp H) := rr
theorem d_zeroT : execE P gl (⟨i, ss, false, pend, ⟨some d, true, none, .zero cs⟩⟩ :: r) K lg env tmp H = ∀ b, (kcT (kR gl pend lg (execE P gl r K)) d env tmp) (.ptr d b 0) ((d, .blk b cs) :: H) := rr
theorem d_callT (f : Nat) (as : List X) : execE P gl (⟨i, ss, false, pend, ⟨some d, true, none, .call f as⟩⟩ :: r) K lg env tmp H = Bd (∀ x ∈ as, ((ev gl (restr ss env) (restr ss tmp)) x).g, as.map fun x => ((ev gl (restr ss env) (restr ss tmp)) x).v) (kC P gl f H (kcT (kR gl pend lg (execE P gl r K)) d env tmp)) := rr
theorem d_qU_mov : execE P gl (⟨i, ss, false, pend, ⟨some d, false, none, (.mov x)⟩⟩ :: r) K lg env tmp H = Bd (q (.mov x) (ev gl (restr ss env) (restr ss tmp)) H) (kU (execE P gl r K lg) d env tmp H) := rr
theorem d_gU_mov : execE P gl (⟨i, ss, false, pend, ⟨some d, false, some (sg, wt), (.mov x)⟩⟩ :: r) K lg env tmp H = Bd (quietG ((ev gl (restr ss env) (restr ss tmp)) sg) wt (q (.mov x) (ev gl (restr ss env) (restr ss tmp)) H)) (kU (execE P gl r K lg) d env tmp H) := rr
theorem d_qU_pick (c a b : X) : execE P gl (⟨i, ss, false, pend, ⟨some d, false, none, (.pick c a b)⟩⟩ :: r) K lg env tmp H = Bd (q (.pick c a b) (ev gl (restr ss env) (restr ss tmp)) H) (kU (execE P gl r K lg) d env tmp H) := rr
theorem d_gU_pick (c a b : X) : execE P gl (⟨i, ss, false, pend, ⟨some d, false, some (sg, wt), (.pick c a b)⟩⟩ :: r) K lg env tmp H = Bd (quietG ((ev gl (restr ss env) (restr ss tmp)) sg) wt (q (.pick c a b) (ev gl (restr ss env) (restr ss tmp)) H)) (kU (execE P gl r K lg) d env tmp H) := rr
theorem d_qU_build (ps : List (Nat × Nat × X)) : execE P gl (⟨i, ss, false, pend, ⟨some d, false, none, (.build z ps)⟩⟩ :: r) K lg env tmp H = Bd (q (.build z ps) (ev gl (restr ss env) (restr ss tmp)) H) (kU (execE P gl r K lg) d env tmp H) := rr
theorem d_qU_load (s : Nat) : execE P gl (⟨i, ss, true, pend, ⟨some d, false, none, (.load g s x)⟩⟩ :: r) K lg env tmp H = Bd (q (.load g s x) (ev gl (restr ss env) (restr ss tmp)) H) (kKU (execE P gl r K) i ⟨some d, false, none, (.load g s x)⟩ (restr ss env) (restr ss tmp) lg d env tmp H) := rr
theorem d_gU_load (s : Nat) : execE P gl (⟨i, ss, true, pend, ⟨some d, false, some (sg, wt), (.load g s x)⟩⟩ :: r) K lg env tmp H = Bd (quietG ((ev gl (restr ss env) (restr ss tmp)) sg) wt (q (.load g s x) (ev gl (restr ss env) (restr ss tmp)) H)) (kKU (execE P gl r K) i ⟨some d, false, some (sg, wt), (.load g s x)⟩ (restr ss env) (restr ss tmp) lg d env tmp H) := rr
theorem d_qU_nilc : execE P gl (⟨i, ss, false, pend, ⟨some d, false, none, (.nilc x)⟩⟩ :: r) K lg env tmp H = Bd (q (.nilc x) (ev gl (restr ss env) (restr ss tmp)) H) (kU (execE P gl r K lg) d env tmp H) := rr
theorem d_gU_nilc : execE P gl (⟨i, ss, false, pend, ⟨some d, false, some (sg, wt), (.nilc x)⟩⟩ :: r) K lg env tmp H = Bd (quietG ((ev gl (restr ss env) (restr ss tmp)) sg) wt (q (.nilc x) (ev gl (restr ss env) (restr ss tmp)) H)) (kU (execE P gl r K lg) d env tmp H) := rr
theorem d_qU_faddr (o : Nat) : execE P gl (⟨i, ss, false, pend, ⟨some d, false, none, (.faddr o x)⟩⟩ :: r) K lg env tmp H = Bd (q (.faddr o x) (ev gl (restr ss env) (restr ss tmp)) H) (kU (execE P gl r K lg) d env tmp H) := rr
theorem d_gU_faddr (o : Nat) : execE P gl (⟨i, ss, false, pend, ⟨some d, false, some (sg, wt), (.faddr o x)⟩⟩ :: r) K lg env tmp H = Bd (quietG ((ev gl (restr ss env) (restr ss tmp)) sg) wt (q (.faddr o x) (ev gl (restr ss env) (restr ss tmp)) H)) (kU (execE P gl r K lg) d env tmp H) := rr
theorem d_qU_ext (ix : Nat) : execE P gl (⟨i, ss, false, pend, ⟨some d, false, none, (.ext x ix)⟩⟩ :: r) K lg env tmp H = Bd (q (.ext x ix) (ev gl (restr ss env) (restr ss tmp)) H) (kU (execE P gl r K lg) d env tmp H) := rr
theorem d_qU_len : execE P gl (⟨i, ss, false, pend, ⟨some d, false, none, (.len x)⟩⟩ :: r) K lg env tmp H = Bd (q (.len x) (ev gl (restr ss env) (restr ss tmp)) H) (kU (execE P gl r K lg) d env tmp H) := rr
theorem d_gU_len : execE P gl (⟨i, ss, false, pend, ⟨some d, false, some (sg, wt), (.len x)⟩⟩ :: r) K lg env tmp H = Bd (quietG ((ev gl (restr ss env) (restr ss tmp)) sg) wt (q (.len x) (ev gl (restr ss env) (restr ss tmp)) H)) (kU (execE P gl r K lg) d env tmp H) := rr
theorem d_qU_lenL : execE P gl (⟨i, ss, false, pend, ⟨some d, false, none, (.lenL x)⟩⟩ :: r) K lg env tmp H = Bd (q (.lenL x) (ev gl (restr ss env) (restr ss tmp)) H) (kU (execE P gl r K lg) d env tmp H) := rr
theorem d_qU_slL (s : Nat) : execE P gl (⟨i, ss, false, pend, ⟨some d, false, none, (.slL s x lo hi mx)⟩⟩ :: r) K lg env tmp H = Bd (q (.slL s x lo hi mx) (ev gl (restr ss env) (restr ss tmp)) H) (kU (execE P gl r K lg) d env tmp H) := rr
theorem d_qU_bin (o : BinOp) : execE P gl (⟨i, ss, false, pend, ⟨some d, false, none, (.bin o x y)⟩⟩ :: r) K lg env tmp H = Bd (q (.bin o x y) (ev gl (restr ss env) (restr ss tmp)) H) (kU (execE P gl r K lg) d env tmp H) := rr
theorem d_gU_bin (o : BinOp) : execE P gl (⟨i, ss, false, pend, ⟨some d, false, some (sg, wt), (.bin o x y)⟩⟩ :: r) K lg env tmp H = Bd (quietG ((ev gl (restr ss env) (restr ss tmp)) sg) wt (q (.bin o x y) (ev gl (restr ss env) (restr ss tmp)) H)) (kU (execE P gl r K lg) d env tmp H) := rr
theorem d_gU_eqS (s : Nat) (ls : List (Nat × Nat)) : execE P gl (⟨i, ss, false, pend, ⟨some d, false, some (sg, wt), (.eqS g s ls x y)⟩⟩ :: r) K lg env tmp H = Bd (quietG ((ev gl (restr ss env) (restr ss tmp)) sg) wt (q (.eqS g s ls x y) (ev gl (restr ss env) (restr ss tmp)) H)) (kU (execE P gl r K lg) d env tmp H) := rr
theorem d_qU_iaA (n : Nat) (s : Nat) : execE P gl (⟨i, ss, false, pend, ⟨some d, false, none, (.iaA n s x y)⟩⟩ :: r) K lg env tmp H = Bd (q (.iaA n s x y) (ev gl (restr ss env) (restr ss tmp)) H) (kU (execE P gl r K lg) d env tmp H) := rr
theorem d_qU_iaS (s : Nat) : execE P gl (⟨i, ss, false, pend, ⟨some d, false, none, (.iaS s x y)⟩⟩ :: r) K lg env tmp H = Bd (q (.iaS s x y) (ev gl (restr ss env) (restr ss tmp)) H) (kU (execE P gl r K lg) d env tmp H) := rr
theorem d_gU_iaS (s : Nat) : execE P gl (⟨i, ss, false, pend, ⟨some d, false, some (sg, wt), (.iaS s x y)⟩⟩ :: r) K lg env tmp H = Bd (quietG ((ev gl (restr ss env) (restr ss tmp)) sg) wt (q (.iaS s x y) (ev gl (restr ss env) (restr ss tmp)) H)) (kU (execE P gl r K lg) d env tmp H) := rr
theorem d_gU_ixS : execE P gl (⟨i, ss, false, pend, ⟨some d, false, some (sg, wt), (.ixS x y)⟩⟩ :: r) K lg env tmp H = Bd (quietG ((ev gl (restr ss env) (restr ss tmp)) sg) wt (q (.ixS x y) (ev gl (restr ss env) (restr ss tmp)) H)) (kU (execE P gl r K lg) d env tmp H) := rr
theorem d_boxU : execE P gl (⟨i, ss, false, pend, ⟨some d, false, none, .box x⟩⟩ :: r) K lg env tmp H = Bd (((ev gl (restr ss env) (restr ss tmp)) x).g ∧ (cellsQ ((ev gl (restr ss env) (restr ss tmp)) x).v).1, (cellsQ ((ev gl (restr ss env) (restr ss tmp)) x).v).2) (kBU (kR gl pend lg (execE P gl r K)) d env tmp H) := rr
theorem d_appU (sz bytes : Nat) (x y : X) : execE P gl (⟨i, ss, false, pend, ⟨some d, false, none, .app sz bytes x y⟩⟩ :: r) K lg env tmp H = Bd (((ev gl (restr ss env) (restr ss tmp)) x).g ∧ ((ev gl (restr ss env) (restr ss tmp)) y).g ∧ (elems sz ((ev gl (restr ss env) (restr ss tmp)) y).v H).1, (elems sz ((ev gl (restr ss env) (restr ss tmp)) y).v H).2) (kA d sz bytes ((ev gl (restr ss env) (restr ss tmp)) x).v H (kcU (kR gl pend lg (execE P gl r K)) d env tmp)) := rr
theorem d_copyU (sz : Nat) (x y : X) : execE P gl (⟨i, ss, false, pend, ⟨some d, false, none, .copy sz x y⟩⟩ :: r) K lg env tmp H = Bd (((ev gl (restr ss env) (restr ss tmp)) x).g ∧ ((ev gl (restr ss env) (restr ss tmp)) y).g ∧ (elems sz ((ev gl (restr ss env) (restr ss tmp)) y).v H).1, (elems sz ((ev gl (restr ss env) (restr ss tmp)) y).v H).2) (kY sz ((ev gl (restr ss env) (restr ss tmp)) x).v H (kcU (kR gl pend lg (execE P gl r K)) d env tmp)) := rr
theorem d_mkSU (d sz m : Nat) (ps : List (Nat × Nat × X)) : execE P gl (⟨i, ss, false, pend, ⟨some d, false, none, .mkS sz m z ps⟩⟩ :: r) K lg env tmp H = Bd (gParts (ev gl (restr ss env) (restr ss tmp)) ps ∧ z.length = sz ∧ (fillQ (zeros z (m * sz)) (vParts (ev gl (restr ss env) (restr ss tmp)) ps)).1, (fillQ (zeros z (m * sz)) (vParts (ev gl (restr ss env) (restr ss tmp)) ps)).2) (kS sz m (kU (execE P gl r K lg) d env tmp H)) := rr
theorem d_callU (f : Nat) (as : List X) : execE P gl (⟨i, ss, false, pend, ⟨some d, false, none, .call f as⟩⟩ :: r) K lg env tmp H = Bd (∀ x ∈ as, ((ev gl (restr ss env) (restr ss tmp)) x).g, as.map fun x => ((ev gl (restr ss env) (restr ss tmp)) x).v) (kC P gl f H (kcU (kR gl pend lg (execE P gl r K)) d env tmp)) := rr
theorem d_callGU (d f : Nat) (as : List X) : execE P gl (⟨i, ss, false, pend, ⟨some d, false, some (sg, wt), .call f as⟩⟩ :: r) K lg env tmp H = Bd ((gBool ((ev gl (restr ss env) (restr ss tmp)) sg) wt).1 ∧ ((gBool ((ev gl (restr ss env) (restr ss tmp)) sg) wt).2 = true → ∀ x ∈ as, ((ev gl (restr ss env) (restr ss tmp)) x).g), (gBool ((ev gl (restr ss env) (restr ss tmp)) sg) wt).2, as.map fun x => ((ev gl (restr ss env) (restr ss tmp)) x).v) (kG P gl f H (kcU (kR gl pend lg (execE P gl r K)) d env tmp)) := rr
theorem x_store (v : Bool) (sz : Nat) (a x : X) (r : List LOper) : execL P gl (⟨none, v, none, .store sz a x⟩ :: r) K env tmp H = Bd (((ev gl env tmp) a).g ∧ ((ev gl env tmp) x).g ∧ (storeQ sz ((ev gl env tmp) a).v ((ev gl env tmp) x).v H).1, (storeQ sz ((ev gl env tmp) a).v ((ev gl env tmp) x).v H).2) (kH (execL P gl r K) env tmp) := by cases v <;> rfl
theorem x_clearN (v : Bool) (sz : Nat) (r : List LOper) : execL P gl (⟨none, v, none, .clear sz z x⟩ :: r) K env tmp H = (((ev gl env tmp) x).g ∧ clearV sz z ((ev gl env tmp) x).v H (kcN (execL P gl r K) env tmp)) := by cases v <;> rfl
theorem d_store (v : Bool) (sz : Nat) (a x : X) : execE P gl (⟨i, ss, false, pend, ⟨none, v, none, .store sz a x⟩⟩ :: r) K lg env tmp H = Bd (((ev gl (restr ss env) (restr ss tmp)) a).g ∧ ((ev gl (restr ss env) (restr ss tmp)) x).g ∧ (storeQ sz ((ev gl (restr ss env) (restr ss tmp)) a).v ((ev gl (restr ss env) (restr ss tmp)) x).v H).1, (storeQ sz ((ev gl (restr ss env) (restr ss tmp)) a).v ((ev gl (restr ss env) (restr ss tmp)) x).v H).2) (kH (kR gl pend lg (execE P gl r K)) env tmp) := by cases v <;> rfl
theorem kR_eq (pend : List Nat) (F : List Lg → Env → Env → Heap → Prop) : kR gl pend lg F env tmp H = (recheck gl H (keepL pend lg) ∧ F (keepL pend lg) env tmp H) := rr
theorem keep_nil (pend : List Nat) : keepL pend [] = [] := rr
theorem keep_cons (pend : List Nat) (o : LOper) (v : LV) (r : List Lg) : keepL pend (⟨i, o, env, tmp, v⟩ :: r) = if pend.contains i then ⟨i, o, env, tmp, v⟩ :: keepL pend r else keepL pend r := rr
theorem re_nil : recheck gl H [] = True := rr
theorem re_load (d : Option Nat) (vr : Bool) (s : Nat) (v : LV) (r : List Lg) : recheck gl H (⟨i, ⟨d, vr, none, (.load g s x)⟩, env, tmp, v⟩ :: r) = (((q (.load g s x) (ev gl env tmp) H).1 ∧ (q (.load g s x) (ev gl env tmp) H).2 = v) ∧ recheck gl H r) := rr
theorem kT_eq (F : Env → Env → Heap → Prop) (u : LV) : kT F d env tmp H u = F ((d, u) :: env) tmp H := rr
theorem kcT_eq (F : Env → Env → Heap → Prop) (u : LV) : kcT F d env tmp u H = F ((d, u) :: env) tmp H := rr
theorem kBT_eq (F : Env → Env → Heap → Prop) : kBT F d env tmp H cs = ∀ b, F ((d, .ptr d b 0) :: env) tmp ((d, .blk b cs) :: H) := rr
theorem kU_eq (F : Env → Env → Heap → Prop) (u : LV) : kU F d env tmp H u = F env ((d, u) :: tmp) H := rr
theorem kcU_eq (F : Env → Env → Heap → Prop) (u : LV) : kcU F d env tmp u H = F env ((d, u) :: tmp) H := rr
theorem kBU_eq (F : Env → Env → Heap → Prop) : kBU F d env tmp H cs = ∀ b, F env ((d, .ptr d b 0) :: tmp) ((d, .blk b cs) :: H) := rr
theorem kKU_eq (F : List Lg → Env → Env → Heap → Prop) (o : LOper) (e1 e2 : Env) (u : LV) : kKU F i o e1 e2 lg d env tmp H u = F (⟨i, o, e1, e2, u⟩ :: lg) env ((d, u) :: tmp) H := rr
theorem kS_eq (sz n : Nat) (k : LV → Prop) : kS sz n k cs = k (.fsl sz n cs) := rr
theorem kM_eq (d sz : Nat) (k : LV → Heap → Prop) (l c : Nat) : kM d sz z H k (l, c) = makeE d sz z l c H k := rr
theorem kA_eq (d sz bytes : Nat) (x : LV) (k : LV → Heap → Prop) (m : Nat) (ys : List LV) : kA d sz bytes x H k (m, ys) = appV d sz bytes m x ys H k := rr
theorem kZ_eq (d sz bytes : Nat) (x : LV) (k : LV → Heap → Prop) (m : Nat) : kZ d sz bytes z x H k m = appZV d sz bytes m x (zeros z (m * sz)) H k := rr
theorem appZV_msl (id sz bytes m i s b off n cap : Nat) (ys : List LV) (K : LV → Heap → Prop) : appZV id sz bytes m (.msl i s b off n cap) ys H K = Either i (appM i sz bytes s b off n cap m ys H (getH H i) K) (appN id i sz bytes s b off n cap m ys H (getH H i) K) := rr
theorem appN_blk (id i sz bytes s b off n cap m b' : Nat) (ys cs : List LV) (K : LV → Heap → Prop) : appN id i sz bytes s b off n cap m ys H (some (.blk b' cs)) K = ((s = sz ∧ b' = b ∧ off = 0 ∧ n * sz ≤ cs.length ∧ cap < n + m ∧ roomy (n + m) bytes) ∧ ∀ b2 c2, n + m ≤ c2 → K (.msl id sz b2 0 (n + m) c2) ((id, .blk b2 (cs.take (n * sz) ++ ys ++ List.replicate ((c2 - (n + m)) * sz) .any)) :: H)) := rr
theorem kY_eq (sz : Nat) (x : LV) (k : LV → Heap → Prop) (m : Nat) (ys : List LV) : kY sz x H k (m, ys) = copyV sz m x ys H k := rr
theorem kC_eq (f : Nat) (k : LV → Heap → Prop) (vs : List LV) : kC P gl f H k vs = LCalls P gl f vs H k := rr
theorem kCV_eq (k : LV → Heap → Prop) (f : Nat) (vs : List LV) : kCV P gl H k (f, vs) = LCallsV P gl f vs H k := rr
theorem kG_eq (f : Nat) (k : LV → Heap → Prop) (vs : List LV) : kG P gl f H k (g, vs) = callG P gl g f vs H k := rr
theorem kH_eq (F : Env → Env → Heap → Prop) : kH F env tmp H = F env tmp H := rr
theorem kcN_eq (F : Env → Env → Heap → Prop) (u : LV) : kcN F env tmp u H = F env tmp H := rr
theorem w_skip  (Q : Ex → Env → Heap → Prop) (env : Env) : wpL P gl .skip Q env H = Q .normal env H := rr
theorem w_region (ops : List LOper) (Q : Ex → Env → Heap → Prop) (env : Env) : wpL P gl (.region ops) Q env H = execL P gl ops (Q .normal) env [] H := rr
theorem w_regionD (ops : List DIt) (Q : Ex → Env → Heap → Prop) (env : Env) : wpL P gl (.regionD ops) Q env H = execE P gl ops (Q .normal) [] env [] H := rr
theorem w_seq (a b : LCode) (Q : Ex → Env → Heap → Prop) (env : Env) : wpL P gl (.seq a b) Q env H = wpL P gl a (seqQ (wpL P gl b Q) Q) env H := rr
theorem w_cond (c : X) (a b : LCode) (Q : Ex → Env → Heap → Prop) (env : Env) : wpL P gl (.cond c a b) Q env H = Branch (condQ (ev gl env [] c)) (Susp (wpL P gl a Q) env H) (Susp (wpL P gl b Q) env H) := rr
theorem w_block (c : LCode) (Q : Ex → Env → Heap → Prop) (env : Env) : wpL P gl (.block i c) Q env H = wpL P gl c (blockQ i Q) env H := rr
theorem w_exit (Q : Ex → Env → Heap → Prop) (env : Env) : wpL P gl (.exit i) Q env H = Q (.exit i) env H := rr
theorem w_ret  (Q : Ex → Env → Heap → Prop) (env : Env) : wpL P gl .ret Q env H = Q .ret env H := rr
theorem w_loop (c : LCode) (Q : Ex → Env → Heap → Prop) (env : Env) : wpL P gl (.loop c) Q env H = LoopL gl (wpL P gl c) Q env H := rr
theorem seq_n (Q : Ex → Env → Heap → Prop) (env : Env) : seqQ K Q .normal env H = K env H := rr
theorem seq_e (Q : Ex → Env → Heap → Prop) (env : Env) : seqQ K Q (.exit i) env H = Q (.exit i) env H := rr
theorem seq_r (Q : Ex → Env → Heap → Prop) (env : Env) : seqQ K Q .ret env H = Q .ret env H := rr
theorem blk_n (Q : Ex → Env → Heap → Prop) (env : Env) : blockQ i Q .normal env H = Q .normal env H := rr
theorem blk_r (Q : Ex → Env → Heap → Prop) (env : Env) : blockQ i Q .ret env H = Q .ret env H := rr
theorem blk_eq (Q : Ex → Env → Heap → Prop) (env : Env) : blockQ i Q (.exit i) env H = Q .normal env H := by simp [blockQ]
theorem blk_ne {i j : Nat} (h : j ≠ i) (Q : Ex → Env → Heap → Prop) (env : Env) : blockQ i Q (.exit j) env H = Q (.exit j) env H := by simp [blockQ, h]
theorem loop_e {ι : Type} (I : ι → Env) (J : ι → Heap) (μ : ι → Nat) (i : ι) (Q : Ex → Env → Heap → Prop) (env : Env) (k : Nat) : loopQ gl I J μ i Q (.exit k) env H = Q (.exit k) env H := rr
theorem loop_r {ι : Type} (I : ι → Env) (J : ι → Heap) (μ : ι → Nat) (i : ι) (Q : Ex → Env → Heap → Prop) (env : Env) : loopQ gl I J μ i Q .ret env H = Q .ret env H := rr
theorem cond_b (b : Bool) : condQ (.bool b) = (True, b) := rr
theorem wrap_i64 {n : Int} (h : -9223372036854775808 ≤ n) (h' : n ≤ 9223372036854775807) : IntKind.wrap .i64 n = n := by simp only [IntKind.wrap, IntKind.bits, IntKind.signed]; simp; omega
theorem pure_r (rs : List LRes) (r : LV) (env : Env) : pureQ rs r .ret env H = ((resQ env H rs).1 ∧ leV (oneOr (resQ env H rs).2) r) := rr
theorem view_r (rs : List LRes) (K : LV → Heap → Prop) (env : Env) : viewQ gl rs K .ret env H = ((resQ env H rs).1 ∧ ∃ r' H', leVH gl (oneOr (resQ env H rs).2) H r' H' ∧ K r' H') := rr
theorem view_n (rs : List LRes) (K : LV → Heap → Prop) (env : Env) : viewQ gl rs K .normal env H = ((resQ env H rs).1 ∧ ∃ r' H', leVH gl (oneOr (resQ env H rs).2) H r' H' ∧ K r' H') := rr
theorem res_nil (env : Env) : resQ env H [] = (True, []) := rr
theorem res_slot (env : Env) (t : Nat) (r : List LRes) : resQ env H (.slot t :: r) = ((Lx.get env t).g ∧ (resQ env H r).1, (Lx.get env t).v :: (resQ env H r).2) := rr
theorem res_cell (env : Env) (s t : Nat) (r : List LRes) : resQ env H (.cell g s t :: r) = ((Lx.get env t).g ∧ (loadQ g s (Lx.get env t).v H).1 ∧ (resQ env H r).1, (loadQ g s (Lx.get env t).v H).2 :: (resQ env H r).2) := rr
theorem pubC_eq (id b : Nat) (s b' o n c : Nat) : pubC id b cs (.msl id s b' o n c) = (b' = b ∧ o + n * s ≤ cs.length ∧ n ≤ c, .sl s n ((cs.drop o).take (n * s))) := by simp [pubC]
theorem pubC_ne {id i : Nat} (h : i ≠ id) (b : Nat) (s b' o n c : Nat) : pubC id b cs (.msl i s b' o n c) = (True, .msl i s b' o n c) := by simp [pubC, h]
theorem pubC_int (id b0 : Nat) (cs0 : List LV) (k : IntKind) (n : Int) : pubC id b0 cs0 (.int k n) = (True, (.int k n)) := rr
theorem pubA_int (id b0 : Nat) (cs0 : List LV) (k : IntKind) (n : Int) : pubA id b0 cs0 (.int k n) = pubC id b0 cs0 (.int k n) := rr
theorem pubA_agg (id b0 : Nat) (cs0 xs : List LV) : pubA id b0 cs0 (.agg xs) = ((pubCs id b0 cs0 xs).1, .agg (pubCs id b0 cs0 xs).2) := rr
theorem pubV_agg (id b0 : Nat) (cs0 xs : List LV) : pubV id b0 cs0 (.agg xs) = ((pubCs id b0 cs0 xs).1, .agg (pubCs id b0 cs0 xs).2) := rr
theorem pubV_tup (id b0 : Nat) (cs0 xs : List LV) : pubV id b0 cs0 (.tup xs) = ((pubAs id b0 cs0 xs).1, .tup (pubAs id b0 cs0 xs).2) := rr
theorem pubCs_nil (id b : Nat) : pubCs id b cs [] = (True, []) := rr
theorem pubCs_cons (id b : Nat) (x : LV) (r : List LV) : pubCs id b cs (x :: r) = ((pubC id b cs x).1 ∧ (pubCs id b cs r).1, (pubC id b cs x).2 :: (pubCs id b cs r).2) := rr
theorem pubAs_nil (id b : Nat) : pubAs id b cs [] = (True, []) := rr
theorem pubAs_cons (id b : Nat) (x : LV) (r : List LV) : pubAs id b cs (x :: r) = ((pubA id b cs x).1 ∧ (pubAs id b cs r).1, (pubA id b cs x).2 :: (pubAs id b cs r).2) := rr
theorem one_1 (x : LV) : oneOr [x] = x := rr
theorem one_0 : oneOr [] = .tup [] := rr
theorem one_2 (x y : LV) (r : List LV) : oneOr (x :: y :: r) = .tup (x :: y :: r) := rr
theorem arg_nil (k : Nat) : argEnv k [] = [] := rr
theorem arg_cons (k : Nat) (x : LV) (r : List LV) : argEnv k (x :: r) = (k, x) :: argEnv (k + 1) r := rr
theorem splice_eq (cs ds : List LV) (o : Nat) : splice cs ds o = cs.take o ++ ds ++ cs.drop (o + ds.length) := rr
attribute [go_sem ↓] x_nil d_nil x_qT_mov x_qT_pick x_qT_load x_qT_un x_qT_lenL x_qT_bin x_qT_eqS x_boxT x_zeroT x_callT x_callVT x_qU_mov x_gU_mov x_qU_pick x_gU_pick x_qU_build x_qU_load x_gU_load x_qU_nilc x_gU_nilc x_qU_un x_gU_un x_qU_faddr x_gU_faddr x_qU_fld x_qU_ext x_qU_len x_gU_len x_qU_lenL x_gU_lenL x_qU_cap x_qU_slL x_qU_bin x_gU_bin x_qU_eqB x_gU_eqB x_gU_eqS x_qU_iaA x_gU_iaA x_qU_iaS x_gU_iaS x_qU_ixS x_gU_ixS x_qU_mkf x_qU_slS x_boxU x_zeroU x_makeU x_appU x_appZU x_copyU x_mkSU x_callU x_callVU x_callGU d_qT_mov d_qT_pick d_qT_un d_qT_bin d_qT_eqS d_zeroT d_callT d_qU_mov d_gU_mov d_qU_pick d_gU_pick d_qU_build d_qU_load d_gU_load d_qU_nilc d_gU_nilc d_qU_faddr d_gU_faddr d_qU_ext d_qU_len d_gU_len d_qU_lenL d_qU_slL d_qU_bin d_gU_bin d_gU_eqS d_qU_iaA d_qU_iaS d_gU_iaS d_gU_ixS d_boxU d_appU d_copyU d_mkSU d_callU d_callGU x_store x_clearN d_store kR_eq keep_nil keep_cons re_nil re_load kT_eq kcT_eq kBT_eq kU_eq kcU_eq kBU_eq kKU_eq kS_eq kM_eq kA_eq kZ_eq kY_eq kC_eq kCV_eq kG_eq kH_eq kcN_eq w_skip w_region w_regionD w_seq w_cond w_block w_exit w_ret w_loop seq_n seq_e seq_r blk_n blk_r blk_eq blk_ne loop_e loop_r
attribute [go_sem] Bd_mk v_int g_int v_bool g_bool v_str g_str v_nil g_nil v_ptr g_ptr v_rp g_rp v_agg g_agg v_tup g_tup v_sl g_sl v_osl g_osl v_fsl g_fsl v_msl g_msl v_clo g_clo v_fn g_fn v_any g_any v_opt g_opt cells_int cellsQ_int cells_bool cellsQ_bool cells_str cellsQ_str cells_agg cellsQ_agg cells_sl cells_osl cells_fsl cells_msl get_nil get_eq get_ne restr_nil restr_cons ev_t ev_u ev_c getH_eq getH_ne setH_eq setH_ne delH_eq delH_ne partL_t partL_f bin_add bin_sub bin_mul bin_rem bin_and bin_shr bin_eql bin_neq bin_lss bin_leq bin_gtr bin_geq bin_sadd bin_seql bin_sneq bin_sgeq un_not un_neg load_rp load_ptr loadE_blk faddr_rp faddr_ptr fld_agg idx_int iaA_ptr iaS_sl lenL_sl iaS_fsl lenL_fsl iaS_osl lenL_osl iaS_msl lenL_msl cap_msl len_str ixS_str ext_tup nilc_ptr eqB_bb eqS_aa leaves_nil leaves_cons leaf_int pick_000 pick_001 pick_010 pick_101 pick_110 opt_none opt_some optE_int slS_eq slL_sl slL_msl slL_msl3 fill_nil fill_cons fillO_some fillQ_eq fillE_some gParts_nil gParts_cons vParts_nil vParts_cons q_mov q_pick q_build q_load q_nilc q_un q_faddr q_fld q_ext q_len q_lenL q_cap q_slL q_bin q_eqB q_eqS q_iaA q_iaS q_ixS q_mkf q_slS slSE_str gB_t gB_f gBo_t gBo_f quietG_eq store_ptr stoE_blk appV_fsl appV_osl appO_tok appV_msl appM_blk appZ_int copyV_msl copyE_blk clearV_msl clearE_blk callee_clo callee_fn el_sl el_fsl el_msl elE_blk make_ii appZV_msl appN_blk cond_b wrap_i64 pure_r view_r view_n res_nil res_slot res_cell pubC_eq pubC_ne pubC_int pubA_int pubA_agg pubV_agg pubV_tup pubCs_nil pubCs_cons pubAs_nil pubAs_cons one_1 one_0 one_2 arg_nil arg_cons splice_eq
attribute [go_sem] s2bE makeE Option.getD_some Option.getD_none Option.isSome_some List.map_cons List.map_nil List.forall_mem_cons List.not_mem_nil false_implies forall_const List.take_succ_cons List.take_zero List.take_nil List.drop_succ_cons List.drop_zero List.drop_nil List.getD_cons_zero List.getD_cons_succ List.getD_nil List.length_cons List.length_nil List.nil_append List.cons_append List.append_nil
attribute [go_sem] if_true if_false and_true true_and and_self ite_true ite_false Nat.zero_add Nat.add_zero Nat.le_refl Bool.true_eq Bool.false_eq_true reduceCtorEq implies_true Bool.not_true Bool.not_false Bool.or_true Bool.true_or Bool.or_false Bool.false_or beq_self_eq_true eq_self imp_self Bool.not_eq_true' Bool.not_eq_false' Bool.cond_true Bool.cond_false condT condF Bool.true_and Bool.and_true Bool.false_and Bool.and_false or_true true_or or_false false_or
theorem zgx : (∀ {α : Type} [BEq α] [LawfulBEq α] {a b : α}, ((a == b) = false) = ¬a = b) ∧ (∀ {α : Type} [BEq α] [LawfulBEq α] {a b : α}, ((a == b) = true) = (a = b)) ∧ (∀ {p : Prop} [Decidable p], (decide p = true) = p) ∧ (∀ {p : Prop} [Decidable p], (decide p = false) = ¬p) ∧ (∀ {α : Type} [BEq α] [LawfulBEq α] {a b : α}, ((a != b) = true) = ¬a = b) ∧ (∀ {α : Type} {a b : α}, (a ≠ b) = ¬a = b) ∧ (∀ {a b : Bool}, ((a && b) = true) = (a = true ∧ b = true)) ∧ (∀ {a b : Bool}, ((a || b) = false) = (a = false ∧ b = false)) ∧ (∀ {a b : Bool}, ((a || b) = true) = (a = true ∨ b = true)) ∧ ∀ {a b : Bool}, ((a && b) = false) = (a = false ∨ b = false) := by
  and_intros <;> intros <;> first | (simp; done) | exact propext Bool.and_eq_false_iff
theorem zbx : (∀ {a : Bool}, ((!a) = true) = (a = false)) ∧ (∀ {a : Bool}, ((!a) = false) = (a = true)) ∧ (∀ {a b : Int}, (¬a < b) = (b ≤ a)) ∧ ∀ {a b : Int}, (¬a ≤ b) = (b < a) := by
  and_intros <;> intros <;> first | (simp; done) | exact propext Bool.and_eq_false_iff
attribute [go_sem] Int.toNat_natCast Int.cast_ofNat_Int not_false_eq_true ne_eq beq_self_eq_true bne_self_eq_false List.contains_cons List.contains_nil
attribute [go_sem] Nat.reduceAdd Nat.reduceMul Nat.reduceSub Nat.reduceEqDiff Nat.reduceLeDiff Nat.reduceMod Nat.reduceLT Int.reduceToNat Int.reduceAdd Int.reduceSub Int.reduceMul Int.reduceNeg Int.reduceLE Int.reduceLT Int.reduceNe Int.reduceEq Int.reduceBEq Int.reduceBNe Int.reduceTMod Int.reduceTDiv Nat.reduceBEq
end Go.Lx
namespace Go.Lx
set_option linter.unusedSimpArgs false
set_option linter.unusedVariables false
theorem dd {A : Prop} (h : A := by first | omega | (simp only [List.length_cons, List.length_nil]; first | done | omega)) : A := h
theorem gd {A B : Prop} (k : B) (h : A := by first | omega | (simp; done) | (simp +contextual; done) | (intros; and_intros <;> first | assumption | omega) | (intros; simp_all; done) | (intro hgd; refine ⟨hgd, ?_⟩; simp [hgd]; done) | (intro hgd; simp only [zgx] at hgd ⊢; omega)) : A ∧ B := ⟨h, k⟩
section
variable {P : Program} {gl : Glob}
theorem loopI {c : LCode} {Q : Ex → Env → Heap → Prop} {env : Env} {H : Heap} {ι : Type} (p : ι → Prop) (I : ι → Env) (J : ι → Heap) (μ : ι → Nat) (i0 : ι) (hp : p i0) (h0 : Ents gl env H (I i0) (J i0))
    (hr : ∀ i (hi : p i), wpL P gl c (loopQ gl (fun i : {i : ι // p i} => I i.1) (fun i => J i.1) (fun i => μ i.1) ⟨i, hi⟩ Q) (I i) (J i)) : LoopL gl (wpL P gl c) Q env H :=
  ⟨{i : ι // p i}, fun i => I i.1, fun i => J i.1, fun i => μ i.1, ⟨i0, hp⟩, h0, fun i => hr i.1 i.2⟩
theorem leV_int {k k' : IntKind} {a b : Int} : leV (.int k a) (.int k' b) ↔ k = k' ∧ a = b := by
  constructor
  · intro h
    have := h ⟨fun _ _ => none, fun _ => False⟩ (.int k a) (by simp [RV])
    simpa [RV] using this
  · rintro ⟨rfl, rfl⟩; exact leV.refl _
theorem leV_bool {a b : Bool} : leV (.bool a) (.bool b) ↔ a = b := by
  constructor
  · intro h
    have := h ⟨fun _ _ => none, fun _ => False⟩ (.bool a) (by simp [RV])
    simpa [RV] using this
  · rintro rfl; exact leV.refl _
theorem leV_self {x : LV} : leV x x ↔ True := ⟨fun _ => trivial, fun _ => leV.refl x⟩
theorem leV_any {x : LV} : leV x .any ↔ True := ⟨fun _ => trivial, fun _ => leV.any x⟩
theorem brT {F : Env → Heap → Prop} {env : Env} {H : Heap} {b : Prop} : Branch (True, true) (Susp F env H) b = F env H := by simp [Branch, Susp]
theorem brF {F : Env → Heap → Prop} {env : Env} {H : Heap} {a : Prop} : Branch (True, false) a (Susp F env H) = F env H := by simp [Branch, Susp]
theorem brP {c : Bool} {F G : Env → Heap → Prop} {env env' : Env} {H H' : Heap} (h1 : c = true → F env H) (h2 : c = false → G env' H') : Branch (True, c) (Susp F env H) (Susp G env' H') := ⟨trivial, h1, h2⟩
theorem allI {p : Nat → Prop} (h : ∀ b, p b) : ∀ b, p b := h
theorem allT {p : Tok → Prop} (h : ∀ b, p b) : ∀ b, p b := h
theorem zeros_one (x : LV) (n : Nat) : zeros [x] (n + 1) = x :: zeros [x] n := by
  simp only [zeros, List.length_cons, List.length_nil, Nat.zero_add, Nat.mod_one, List.getD_cons_zero]
  rw [show (fun _ : Nat => x) = Function.const Nat x from rfl, List.map_const, List.map_const]
  simp [List.replicate_succ]
theorem zeros_none (z : List LV) : zeros z 0 = [] := Eq.trans rfl rfl
theorem Ents.same {env : Env} {H : Heap} : Ents gl env H env H := fun _ _ _ M _ _ _ hI hF => ⟨M, MLe.refl M, hF, hI⟩
theorem Ents.envH {env env' : Env} {H H' : Heap} (h : envLe env env') (hH : H = H') : Ents gl env H env' H' := hH ▸ Ents.env h
theorem Ents.sub {env env' : Env} {H H' : Heap} (h : envLe env env') (hH : ∃ H2 : Heap, H2.Sublist H ∧ H2.Perm H') : Ents gl env H env' H' :=
  Ents.mk h.get fun _ _ HF _ hI => by
    obtain ⟨H2, h1, h2⟩ := hH
    exact (hI.sub (h1.append_right HF)).perm (h2.append_right HF)
theorem envLe_nil {env : Env} : envLe env [] ↔ True := Iff.rfl
theorem envLe_cons {env : Env} {t : Nat} {v : LV} {r : Env} : envLe env ((t, v) :: r) ↔ leV (Lx.get env t) v ∧ envLe env r := Iff.rfl
theorem callG_of {g : Bool} {f : Nat} {args : List LV} {H : Heap} {K : LV → Heap → Prop} {r : LV} (h : g = true → Pure P gl f args r) (hk : K (.opt g r) H) : callG P gl g f args H K := .inl ⟨r, h, hk⟩
theorem callG_T {g : Bool} {f : Nat} {args : List LV} {H : Heap} {F : Env → Env → Heap → Prop} {d : Nat} {env tmp : Env} {r : LV} (h : g = true → Pure P gl f args r) (hk : F ((d, .opt g r) :: env) tmp H) : callG P gl g f args H (kvT gl F d env tmp) := .inl ⟨r, h, _, _, _, EntsT.refl _ _ _ _, hk⟩
theorem callG_U {g : Bool} {f : Nat} {args : List LV} {H : Heap} {F : Env → Env → Heap → Prop} {d : Nat} {env tmp : Env} {r : LV} (h : g = true → Pure P gl f args r) (hk : F env ((d, .opt g r) :: tmp) H) : callG P gl g f args H (kvU gl F d env tmp) := .inl ⟨r, h, _, _, _, EntsT.refl _ _ _ _, hk⟩
theorem call_of {f : Nat} {args : List LV} {H : Heap} {K : LV → Heap → Prop} {r : LV} (h : Pure P gl f args r) (hk : K r H) : LCalls P gl f args H K := LCalls.pure h hk
theorem call_T {f : Nat} {args : List LV} {H : Heap} {F : Env → Env → Heap → Prop} {d : Nat} {env tmp : Env} {r : LV} (h : Pure P gl f args r) (hk : F ((d, r) :: env) tmp H) : LCalls P gl f args H (kvT gl F d env tmp) := LCalls.pure h ⟨_, _, _, EntsT.refl _ _ _ _, hk⟩
theorem call_U {f : Nat} {args : List LV} {H : Heap} {F : Env → Env → Heap → Prop} {d : Nat} {env tmp : Env} {r : LV} (h : Pure P gl f args r) (hk : F env ((d, r) :: tmp) H) : LCalls P gl f args H (kvU gl F d env tmp) := LCalls.pure h ⟨_, _, _, EntsT.refl _ _ _ _, hk⟩
theorem call_N {f : Nat} {args : List LV} {H : Heap} {F : Env → Env → Heap → Prop} {env tmp : Env} {r : LV} (h : Pure P gl f args r) (hk : F env tmp H) : LCalls P gl f args H (kvN gl F env tmp) := LCalls.pure h ⟨_, _, _, EntsT.refl _ _ _ _, hk⟩
def Acts (P : Program) (gl : Glob) (f : FuncId) (args : List LV) (H : Heap) (r : LV) (H1 : Heap) : Prop := LCalls P gl f args H fun r' H' => r' = r ∧ H' = H1
theorem LCalls.post_perm {f : FuncId} {args : List LV} {H : Heap} {K K' : LV → Heap → Prop} (h : LCalls P gl f args H K) (hk : ∀ r H', K r H' → ∃ H'', H'.Perm H'' ∧ K' r H'') : LCalls P gl f args H K' :=
  fun w0 M HF w vs hI hv => (h w0 M HF w vs hI hv).mono fun _ _ ⟨M', v, r, H', h1, h2, h3, h4, h5⟩ => by
    obtain ⟨H'', p, h6⟩ := hk r H' h5
    exact ⟨M', v, r, H'', h1, h2, h3, h4.perm (p.append_right HF), h6⟩
theorem acts_of {f : FuncId} {args : List LV} {H H1 : Heap} {K : LV → Heap → Prop} {id : Nat} {e e' : Ent} {r : LV} (h : Acts P gl f args [(id, e)] r [(id, e')]) (hg : getH H id = some e) (hk : K r (setH H id e')) : LCalls P gl f args H K :=
  LCalls.post_perm (LCalls.perm (LCalls.frame (H := [(id, e)]) (H2 := delH H id) (K := fun r' H' => r' = r ∧ H' = [(id, e')] ++ delH H id) (h.mono fun r' H' ⟨h1, h2⟩ => by subst h1; subst h2; exact ⟨rfl, rfl⟩)) (getH_perm hg).1)
    fun r' H' ⟨h1, h2⟩ => by subst h1; subst h2; exact ⟨_, ((getH_perm hg).2 e').symm, hk⟩
theorem acts_T {f : FuncId} {args : List LV} {H : Heap} {F : Env → Env → Heap → Prop} {d : Nat} {env tmp : Env} {id : Nat} {e e' : Ent} {r : LV} (h : Acts P gl f args [(id, e)] r [(id, e')]) (hg : getH H id = some e) (hk : F ((d, r) :: env) tmp (setH H id e')) : LCalls P gl f args H (kvT gl F d env tmp) :=
  acts_of (H1 := []) h hg ⟨_, _, _, EntsT.refl _ _ _ _, hk⟩
theorem acts_U {f : FuncId} {args : List LV} {H : Heap} {F : Env → Env → Heap → Prop} {d : Nat} {env tmp : Env} {id : Nat} {e e' : Ent} {r : LV} (h : Acts P gl f args [(id, e)] r [(id, e')]) (hg : getH H id = some e) (hk : F env ((d, r) :: tmp) (setH H id e')) : LCalls P gl f args H (kvU gl F d env tmp) :=
  acts_of (H1 := []) h hg ⟨_, _, _, EntsT.refl _ _ _ _, hk⟩
theorem acts_N {f : FuncId} {args : List LV} {H : Heap} {F : Env → Env → Heap → Prop} {env tmp : Env} {id : Nat} {e e' : Ent} {r : LV} (h : Acts P gl f args [(id, e)] r [(id, e')]) (hg : getH H id = some e) (hk : F env tmp (setH H id e')) : LCalls P gl f args H (kvN gl F env tmp) :=
  acts_of (H1 := []) h hg ⟨_, _, _, EntsT.refl _ _ _ _, hk⟩
theorem fn_actsT {vv : Nat → Bool} {f : FuncId} {fn : Func} {lc : LCode} {rs : List LRes} {args : List LV} {H H1 : Heap} {r : LV} (hf : P.funcs[f]? = some fn) (ht : fn.body.bind (trCode vv P fn.ntmps) = some lc ∧ trRes vv P fn.results.toList = some rs) {m : Nat} (hm : fn.ntmps = m) (hn : args.length ≤ m)
    (ho : wpL P gl lc (viewQ gl rs fun r' H' => r' = r ∧ H' = H1) (argEnv 0 args) H) : Acts P gl f args H r H1 := fn_viewT hf ht hm hn ho
def ActsE (P : Program) (gl : Glob) (f : FuncId) (args : List LV) (id : Nat) (e : Ent) (Q : LV → Ent → Prop) : Prop := LCalls P gl f args [(id, e)] fun r H' => ∃ e', H' = [(id, e')] ∧ Q r e'
theorem actsE_of {f : FuncId} {args : List LV} {H : Heap} {K : LV → Heap → Prop} {id : Nat} {e : Ent} {Q : LV → Ent → Prop} (h : ActsE P gl f args id e Q) (hg : getH H id = some e) (hk : ∀ r e', Q r e' → K r (setH H id e')) : LCalls P gl f args H K :=
  LCalls.post_perm (LCalls.perm (LCalls.frame (H := [(id, e)]) (H2 := delH H id) (K := fun r' H' => ∃ e', Q r' e' ∧ H' = [(id, e')] ++ delH H id) (h.mono fun r' H' ⟨e', h1, h2⟩ => by subst h1; exact ⟨e', h2, rfl⟩)) (getH_perm hg).1)
    fun r' H' ⟨e', h1, h2⟩ => by subst h2; exact ⟨_, ((getH_perm hg).2 e').symm, hk r' e' h1⟩
theorem actsE_T {f : FuncId} {args : List LV} {H : Heap} {F : Env → Env → Heap → Prop} {d : Nat} {env tmp : Env} {id : Nat} {e : Ent} {Q : LV → Ent → Prop} (h : ActsE P gl f args id e Q) (hg : getH H id = some e) (hk : ∀ r e', Q r e' → F ((d, r) :: env) tmp (setH H id e')) : LCalls P gl f args H (kvT gl F d env tmp) :=
  actsE_of h hg fun r e' hq => ⟨_, _, _, EntsT.refl _ _ _ _, hk r e' hq⟩
theorem actsE_U {f : FuncId} {args : List LV} {H : Heap} {F : Env → Env → Heap → Prop} {d : Nat} {env tmp : Env} {id : Nat} {e : Ent} {Q : LV → Ent → Prop} (h : ActsE P gl f args id e Q) (hg : getH H id = some e) (hk : ∀ r e', Q r e' → F env ((d, r) :: tmp) (setH H id e')) : LCalls P gl f args H (kvU gl F d env tmp) :=
  actsE_of h hg fun r e' hq => ⟨_, _, _, EntsT.refl _ _ _ _, hk r e' hq⟩
theorem actsE_N {f : FuncId} {args : List LV} {H : Heap} {F : Env → Env → Heap → Prop} {env tmp : Env} {id : Nat} {e : Ent} {Q : LV → Ent → Prop} (h : ActsE P gl f args id e Q) (hg : getH H id = some e) (hk : ∀ r e', Q r e' → F env tmp (setH H id e')) : LCalls P gl f args H (kvN gl F env tmp) :=
  actsE_of h hg fun r e' hq => ⟨_, _, _, EntsT.refl _ _ _ _, hk r e' hq⟩
theorem viewE_end {x r : LV} {H : Heap} {id : Nat} {e' : Ent} {Q : LV → Ent → Prop} (h : leV x r) (hs : [(id, e')].Sublist H) (hq : Q r e') : ∃ r' H', leVH gl x H r' H' ∧ ∃ e', H' = [(id, e')] ∧ Q r' e' := ⟨r, _, leVH.of h ⟨_, hs, List.Perm.refl _⟩, e', rfl, hq⟩
theorem LCalls.args {f : FuncId} {args args' : List LV} {H : Heap} {K : LV → Heap → Prop} (h : LCalls P gl f args H K) (ha : leVs args' args) : LCalls P gl f args' H K :=
  fun w0 M HF w vs hI hv => h w0 M HF w vs hI (ha.rvs hv)
theorem ActsE.name {f : FuncId} {args args' : List LV} {id i : Nat} {e : Ent} {Q : LV → Ent → Prop} (h : ActsE P gl f args i e Q) (ha : leVs args' args) : ActsE P gl f args' id e Q :=
  fun w0 M HF w vs hI hv => (h w0 M HF w vs (hI.names (by simp)) (ha.rvs hv)).mono fun _ _ ⟨M', v, r, H', h1, h2, h3, h4, e', h5, h6⟩ =>
    ⟨M', v, r, [(id, e')], h1, h2, h3, by subst h5; exact h4.names (by simp), e', rfl, h6⟩
def PureE (P : Program) (gl : Glob) (f : FuncId) (args : List LV) (Q : LV → Prop) : Prop := LCalls P gl f args [] fun r H => H = [] ∧ Q r
theorem pureE_of {f : Nat} {args : List LV} {H : Heap} {K : LV → Heap → Prop} {Q : LV → Prop} (h : PureE P gl f args Q) (hk : ∀ r, Q r → K r H) : LCalls P gl f args H K :=
  LCalls.frame (H := []) (h.mono fun r' H' ⟨h1, h2⟩ => by subst h1; exact hk r' h2)
theorem pureE_T {f : Nat} {args : List LV} {H : Heap} {F : Env → Env → Heap → Prop} {d : Nat} {env tmp : Env} {Q : LV → Prop} (h : PureE P gl f args Q) (hk : ∀ r, Q r → F ((d, r) :: env) tmp H) : LCalls P gl f args H (kvT gl F d env tmp) := pureE_of h fun r hq => ⟨_, _, _, EntsT.refl _ _ _ _, hk r hq⟩
theorem pureE_U {f : Nat} {args : List LV} {H : Heap} {F : Env → Env → Heap → Prop} {d : Nat} {env tmp : Env} {Q : LV → Prop} (h : PureE P gl f args Q) (hk : ∀ r, Q r → F env ((d, r) :: tmp) H) : LCalls P gl f args H (kvU gl F d env tmp) := pureE_of h fun r hq => ⟨_, _, _, EntsT.refl _ _ _ _, hk r hq⟩
def NewsE (P : Program) (gl : Glob) (f : FuncId) (args : List LV) (id : Nat) (Q : LV → Ent → Prop) : Prop := LCalls P gl f args [] fun r H' => ∃ e', H' = [(id, e')] ∧ Q r e'
theorem NewsE.name {f : FuncId} {args : List LV} {id i : Nat} {Q Q' : LV → Ent → Prop} (h : NewsE P gl f args i Q) (hq : ∀ r e, Q r e → ∃ r', leV r r' ∧ Q' r' e) : NewsE P gl f args id Q' :=
  fun w0 M HF w vs hI hv => (h w0 M HF w vs hI hv).mono fun _ _ ⟨M', v, r, H', h1, h2, h3, h4, e', h5, h6⟩ => by
    obtain ⟨r', h7, h8⟩ := hq r e' h6
    exact ⟨M', v, r', [(id, e')], h1, h2, h7 M' v h3, by subst h5; exact h4.names (by simp), e', rfl, h8⟩
theorem newsE_of {f : FuncId} {args : List LV} {H : Heap} {K : LV → Heap → Prop} {id : Nat} {Q : LV → Ent → Prop} (h : NewsE P gl f args id Q) (hk : ∀ r e', Q r e' → K r ((id, e') :: H)) : LCalls P gl f args H K :=
  LCalls.frame (H := []) (h.mono fun r' H' ⟨e', h1, h2⟩ => by subst h1; exact hk r' e' h2)
theorem newsE_T {f : FuncId} {args : List LV} {H : Heap} {F : Env → Env → Heap → Prop} {d : Nat} {env tmp : Env} {id : Nat} {Q : LV → Ent → Prop} (h : NewsE P gl f args id Q) (hk : ∀ r e', Q r e' → F ((d, r) :: env) tmp ((id, e') :: H)) : LCalls P gl f args H (kvT gl F d env tmp) := newsE_of h fun r e' hq => ⟨_, _, _, EntsT.refl _ _ _ _, hk r e' hq⟩
theorem newsE_U {f : FuncId} {args : List LV} {H : Heap} {F : Env → Env → Heap → Prop} {d : Nat} {env tmp : Env} {id : Nat} {Q : LV → Ent → Prop} (h : NewsE P gl f args id Q) (hk : ∀ r e', Q r e' → F env ((d, r) :: tmp) ((id, e') :: H)) : LCalls P gl f args H (kvU gl F d env tmp) := newsE_of h fun r e' hq => ⟨_, _, _, EntsT.refl _ _ _ _, hk r e' hq⟩
end
attribute [go_sem] zeros_one zeros_none brT brF decide_true decide_false leV_int leV_bool leV_self leV_any envLe_nil envLe_cons
end Go.Lx
namespace Go.Lx
set_option linter.unusedSimpArgs false
set_option linter.unusedVariables false
theorem getD_int {k : IntKind} {l : List Int} {i : Nat} (h : i < l.length) : List.getD (l.map (LV.int k)) i LV.any = .int k (l.getD i 0) := by
  simp [List.getD, h]
end Go.Lx
