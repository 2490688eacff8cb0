/- Layer 9: processes and tables, as the engine sees them. -/
import Derived.Test.YtkdblnejpmbnfaaGl
import Derived.Test.YtkdblnejpmbnfaaLxU
import Derived.Test.YtkdblnejpmbnfaaLxO
namespace Go.Proofs.Ytkdblnejpmbnfaa
open Go Go.Lx
set_option linter.unusedSimpArgs false
set_option linter.unusedVariables false

/-- a descriptor -/
structure De where
  fd : Int
  d : Int
  i : Int
  fl : Int
def DeC (x : De) : List LV := [.int .i64 x.fd, .int .i64 x.d, .int .i64 x.i, .int .i64 x.fl]
theorem DeC_eq (x : De) : DeC x = [.int .i64 x.fd, .int .i64 x.d, .int .i64 x.i, .int .i64 x.fl] := Eq.trans rfl rfl
def de0 : De := ⟨0, 0, 0, 0⟩
def DeS (l : List De) : LV := .sl 4 l.length (l.flatMap DeC)
theorem DeS_eq (l : List De) : DeS l = .sl 4 l.length (l.flatMap DeC) := Eq.trans rfl rfl
theorem len_de (l : List De) : (l.flatMap DeC).length = l.length * 4 := length_rows (f := DeC) (w := 4) (fun _ => rfl) l
/-- a process -/
structure Ps where
  pid : Int
  ppid : Int
  uid : Int
  euid : Int
  gid : Int
  egid : Int
  auid : Int
  ses : Int
  cd : Int
  ci : Int
  comm : List UInt8
  exe : List UInt8
  op : List De
  au : Bool
/-- its cells, with its descriptors seen in some way -/
def PsO (p : Ps) (o : LV) : List LV := [.int .i64 p.pid, .int .i64 p.ppid, .int .i64 p.uid, .int .i64 p.euid, .int .i64 p.gid, .int .i64 p.egid, .int .i64 p.auid, .int .i64 p.ses, .int .i64 p.cd, .int .i64 p.ci, .str p.comm, .str p.exe, o, .bool p.au]
theorem PsO_eq (p : Ps) (o : LV) : PsO p o = [.int .i64 p.pid, .int .i64 p.ppid, .int .i64 p.uid, .int .i64 p.euid, .int .i64 p.gid, .int .i64 p.egid, .int .i64 p.auid, .int .i64 p.ses, .int .i64 p.cd, .int .i64 p.ci, .str p.comm, .str p.exe, o, .bool p.au] := Eq.trans rfl rfl
def PsC (p : Ps) : List LV := PsO p (DeS p.op)
theorem PsC_eq (p : Ps) : PsC p = [.int .i64 p.pid, .int .i64 p.ppid, .int .i64 p.uid, .int .i64 p.euid, .int .i64 p.gid, .int .i64 p.egid, .int .i64 p.auid, .int .i64 p.ses, .int .i64 p.cd, .int .i64 p.ci, .str p.comm, .str p.exe, DeS p.op, .bool p.au] := Eq.trans rfl rfl
def ps0 : Ps := ⟨0, 0, 0, 0, 0, 0, 0, 0, 0, 0, [], [], [], false⟩
theorem len_ps (l : List Ps) : (l.flatMap PsC).length = l.length * 14 := length_rows (f := PsC) (w := 14) (fun _ => rfl) l
def PsS (l : List Ps) : LV := .sl 14 l.length (l.flatMap PsC)
/-- a table -/
structure Tb where
  nx : Int
  ns : Int
  ps : List Ps
def TbL (t : Tb) : LV := .agg [.int .i64 t.nx, .int .i64 t.ns, .sl 14 t.ps.length (t.ps.flatMap PsC)]
theorem TbL_eq (t : Tb) : TbL t = .agg [.int .i64 t.nx, .int .i64 t.ns, .sl 14 t.ps.length (t.ps.flatMap PsC)] := Eq.trans rfl rfl
def tb0 : Tb := ⟨0, 0, []⟩
theorem zPs : zeros ([.int .i64 0, .int .i64 0, .int .i64 0, .int .i64 0, .int .i64 0, .int .i64 0, .int .i64 0, .int .i64 0, .int .i64 0, .int .i64 0, .str [], .str [], .fsl 1 0 [], .bool false] : List LV) 14 = [.int .i64 0, .int .i64 0, .int .i64 0, .int .i64 0, .int .i64 0, .int .i64 0, .int .i64 0, .int .i64 0, .int .i64 0, .int .i64 0, .str [], .str [], .fsl 1 0 [], .bool false] := Eq.trans rfl rfl
theorem zDe : zeros ([.int .i64 0, .int .i64 0, .int .i64 0, .int .i64 0] : List LV) 4 = [.int .i64 0, .int .i64 0, .int .i64 0, .int .i64 0] := Eq.trans rfl rfl
/-- the sizes of a table -/
def okT (t : Tb) : Prop := t.ps.length ≤ 1000000 ∧ ∀ p ∈ t.ps, p.op.length ≤ 1000000
theorem acts_end {x r : LV} {H H1 : Heap} (h : leV x r) (hs : H1.Sublist H) : ∃ r' H', leVH gl x H r' H' ∧ r' = r ∧ H' = H1 := ⟨r, H1, leVH.of h ⟨_, hs, List.Perm.refl _⟩, rfl, rfl⟩
/-- the first number below n with a property, or -1 -/
def firstI (n : Nat) (p : Nat → Bool) : Int := match (List.range n).find? p with
  | some i => i
  | none => -1
theorem firstI_is {n : Nat} {p : Nat → Bool} {i : Nat} (h : i < n) (hp : p i = true) (hn : ∀ j, j < i → p j = false) : firstI n p = i := by
  have : (List.range n).find? p = some i := by
    rw [List.find?_range_eq_some]
    exact ⟨hp, by simpa using h, fun j hj => by simp [hn j hj]⟩
  simp [firstI, this]
theorem firstI_none {n : Nat} {p : Nat → Bool} (hn : ∀ j, j < n → p j = false) : firstI n p = -1 := by
  have : (List.range n).find? p = none := by
    rw [List.find?_range_eq_none]
    exact fun j hj => by simp [hn j hj]
  simp [firstI, this]
theorem firstI_cases (n : Nat) (p : Nat → Bool) : (firstI n p = -1 ∧ ∀ j, j < n → p j = false) ∨ ∃ i, i < n ∧ firstI n p = i ∧ p i = true ∧ ∀ j, j < i → p j = false := by
  cases hf : (List.range n).find? p with
  | none =>
    have hn := (List.find?_range_eq_none).1 hf
    exact .inl ⟨by simp [firstI, hf], fun j hj => by simpa using hn j hj⟩
  | some i =>
    obtain ⟨h1, h2, h3⟩ := (List.find?_range_eq_some).1 hf
    exact .inr ⟨i, by simpa using h2, by simp [firstI, hf], h1, fun j hj => by simpa using h3 j hj⟩
end Go.Proofs.Ytkdblnejpmbnfaa
