/- No package-level variable is read. -/
import Derived.Test.YtcngkeeknlloaaaCode
import Derived.Test.YtcngkeeknlloaaaLxW
namespace Go.Proofs.Ytcngkeeknlloaaa
open Go Go.Lx
set_option linter.unusedSimpArgs false
set_option linter.unusedVariables false
def gl : Glob := fun _ => none
end Go.Proofs.Ytcngkeeknlloaaa

/- Rules, tests, items and contexts, as the engine sees them. -/
namespace Go.Proofs.Ytcngkeeknlloaaa
open Go Go.Lx
set_option linter.unusedSimpArgs false
set_option linter.unusedVariables false

/-- a test -/
structure Te where
  f : Int
  o : Int
  n : Int
  t : List UInt8
  x : Int
  deriving DecidableEq
def TeC (t : Te) : List LV := [.int .i64 t.f, .int .i64 t.o, .int .i64 t.n, .str t.t, .int .i64 t.x]
theorem TeC_eq (t : Te) : TeC t = [.int .i64 t.f, .int .i64 t.o, .int .i64 t.n, .str t.t, .int .i64 t.x] := Eq.trans rfl rfl
def te0 : Te := ⟨0, 0, 0, [], 0⟩
def TsS (ts : List Te) : LV := .sl 5 ts.length (ts.flatMap TeC)
theorem TsS_eq (ts : List Te) : TsS ts = .sl 5 ts.length (ts.flatMap TeC) := Eq.trans rfl rfl
theorem len_te (l : List Te) : (l.flatMap TeC).length = l.length * 5 := length_rows (f := TeC) (w := 5) (fun _ => rfl) l
/-- a rule -/
structure Rl where
  l : Int
  a : Int
  c : Int
  ts : List Te
  w : Int
  p : List UInt8
  m : Int
  k : List UInt8
def RlC (r : Rl) : List LV := [.int .i64 r.l, .int .i64 r.a, .int .u64 r.c, TsS r.ts, .int .i64 r.w, .str r.p, .int .i64 r.m, .str r.k]
theorem RlC_eq (r : Rl) : RlC r = [.int .i64 r.l, .int .i64 r.a, .int .u64 r.c, TsS r.ts, .int .i64 r.w, .str r.p, .int .i64 r.m, .str r.k] := Eq.trans rfl rfl
def rl0 : Rl := ⟨0, 0, 0, [], 0, [], 0, []⟩
def RlS (rs : List Rl) : LV := .sl 8 rs.length (rs.flatMap RlC)
theorem RlS_eq (rs : List Rl) : RlS rs = .sl 8 rs.length (rs.flatMap RlC) := Eq.trans rfl rfl
theorem len_rl (l : List Rl) : (l.flatMap RlC).length = l.length * 8 := length_rows (f := RlC) (w := 8) (fun _ => rfl) l
/-- an item -/
structure It where
  gv : List UInt8
  pa : List UInt8
  e0 : Int
  e1 : Int
  nm : List UInt8
  d : Int
  i : Int
  ro : Int
  ki : Int
  mo : Int
  u : Int
  g : Int
  pe : Int
def ItC (x : It) : List LV := [.str x.gv, .str x.pa, .int .i64 x.e0, .int .i64 x.e1, .str x.nm, .int .i64 x.d, .int .i64 x.i, .int .i64 x.ro, .int .i64 x.ki, .int .i64 x.mo, .int .i64 x.u, .int .i64 x.g, .int .i64 x.pe]
theorem ItC_eq (x : It) : ItC x = [.str x.gv, .str x.pa, .int .i64 x.e0, .int .i64 x.e1, .str x.nm, .int .i64 x.d, .int .i64 x.i, .int .i64 x.ro, .int .i64 x.ki, .int .i64 x.mo, .int .i64 x.u, .int .i64 x.g, .int .i64 x.pe] := Eq.trans rfl rfl
def it0 : It := ⟨[], [], 0, 0, [], 0, 0, 0, 0, 0, 0, 0, 0⟩
def ItS (l : List It) : LV := .sl 13 l.length (l.flatMap ItC)
theorem ItS_eq (l : List It) : ItS l = .sl 13 l.length (l.flatMap ItC) := Eq.trans rfl rfl
theorem len_it (l : List It) : (l.flatMap ItC).length = l.length * 13 := length_rows (f := ItC) (w := 13) (fun _ => rfl) l
/-- a context -/
structure Cx where
  ph : Int
  pid : Int
  ppid : Int
  uid : Int
  euid : Int
  gid : Int
  egid : Int
  auid : Int
  ses : Int
  cd : Int
  ci : Int
  comm : List UInt8
  exe : List UInt8
  opn : LV
  aud : Bool
  num : Int
  a0 : Int
  a1 : Int
  a2 : Int
  a3 : Int
  ps : LV
  xs : LV
  ex : Int
  its : List It
  ty : Int
def CxC (x : Cx) : List LV := [.int .i64 x.ph, .int .i64 x.pid, .int .i64 x.ppid, .int .i64 x.uid, .int .i64 x.euid, .int .i64 x.gid, .int .i64 x.egid, .int .i64 x.auid, .int .i64 x.ses, .int .i64 x.cd, .int .i64 x.ci, .str x.comm, .str x.exe, x.opn, .bool x.aud, .int .i64 x.num, .int .i64 x.a0, .int .i64 x.a1, .int .i64 x.a2, .int .i64 x.a3, x.ps, x.xs, .int .i64 x.ex, ItS x.its, .int .i64 x.ty]
theorem CxC_eq (x : Cx) : CxC x = [.int .i64 x.ph, .int .i64 x.pid, .int .i64 x.ppid, .int .i64 x.uid, .int .i64 x.euid, .int .i64 x.gid, .int .i64 x.egid, .int .i64 x.auid, .int .i64 x.ses, .int .i64 x.cd, .int .i64 x.ci, .str x.comm, .str x.exe, x.opn, .bool x.aud, .int .i64 x.num, .int .i64 x.a0, .int .i64 x.a1, .int .i64 x.a2, .int .i64 x.a3, x.ps, x.xs, .int .i64 x.ex, ItS x.its, .int .i64 x.ty] := Eq.trans rfl rfl
end Go.Proofs.Ytcngkeeknlloaaa
