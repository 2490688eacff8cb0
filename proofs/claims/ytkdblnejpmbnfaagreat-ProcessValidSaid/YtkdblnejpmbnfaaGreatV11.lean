/- Layer 9: processes and tables, as the engine sees them. -/
import Derived.Test.YtkdblnejpmbnfaaGreatV09
import Derived.Test.YtkdblnejpmbnfaaGreatV08
import Derived.Test.YtkdblnejpmbnfaaGreatV07
import Derived.Test.YtkdblnejpmbnfaaGreatV10
namespace Go.Proofs.YtkdblnejpmbnfaaGreat
open Go Go.Lx
set_option linter.unusedSimpArgs false
set_option linter.unusedVariables false
/-- a descriptor -/
structure De where
  fd : Int
  d : Int
  i : Int
  fl : Int
def DeC (x : De) : List LV := [.int .i64 x.fd, .int .i64 x.d, .int .i64 x.i, .int .i64 x.fl]
theorem DeC_eq (x : De) : DeC x = [.int .i64 x.fd, .int .i64 x.d, .int .i64 x.i, .int .i64 x.fl] := Eq.trans rfl rfl
def de0 : De := ⟨0, 0, 0, 0⟩
def DeS (l : List De) : LV := .sl 4 l.length (l.flatMap DeC)
theorem DeS_eq (l : List De) : DeS l = .sl 4 l.length (l.flatMap DeC) := Eq.trans rfl rfl
theorem len_de (l : List De) : (l.flatMap DeC).length = l.length * 4 := length_rows (f := DeC) (w := 4) (fun _ => rfl) l
/-- a process -/
structure Ps where
  pid : Int
  ppid : Int
  uid : Int
  euid : Int
  gid : Int
  egid : Int
  auid : Int
  ses : Int
  cd : Int
  ci : Int
  comm : List UInt8
  exe : List UInt8
  op : List De
  au : Bool
/-- its cells, with its descriptors seen in some way -/
def PsO (p : Ps) (o : LV) : List LV := [.int .i64 p.pid, .int .i64 p.ppid, .int .i64 p.uid, .int .i64 p.euid, .int .i64 p.gid, .int .i64 p.egid, .int .i64 p.auid, .int .i64 p.ses, .int .i64 p.cd, .int .i64 p.ci, .str p.comm, .str p.exe, o, .bool p.au]
theorem PsO_eq (p : Ps) (o : LV) : PsO p o = [.int .i64 p.pid, .int .i64 p.ppid, .int .i64 p.uid, .int .i64 p.euid, .int .i64 p.gid, .int .i64 p.egid, .int .i64 p.auid, .int .i64 p.ses, .int .i64 p.cd, .int .i64 p.ci, .str p.comm, .str p.exe, o, .bool p.au] := Eq.trans rfl rfl
def PsC (p : Ps) : List LV := PsO p (DeS p.op)
theorem PsC_eq (p : Ps) : PsC p = [.int .i64 p.pid, .int .i64 p.ppid, .int .i64 p.uid, .int .i64 p.euid, .int .i64 p.gid, .int .i64 p.egid, .int .i64 p.auid, .int .i64 p.ses, .int .i64 p.cd, .int .i64 p.ci, .str p.comm, .str p.exe, DeS p.op, .bool p.au] := Eq.trans rfl rfl
def ps0 : Ps := ⟨0, 0, 0, 0, 0, 0, 0, 0, 0, 0, [], [], [], false⟩
theorem len_ps (l : List Ps) : (l.flatMap PsC).length = l.length * 14 := length_rows (f := PsC) (w := 14) (fun _ => rfl) l
/-- a table -/
structure Tb where
  nx : Int
  ns : Int
  ps : List Ps
def TbL (t : Tb) : LV := .agg [.int .i64 t.nx, .int .i64 t.ns, .sl 14 t.ps.length (t.ps.flatMap PsC)]
theorem TbL_eq (t : Tb) : TbL t = .agg [.int .i64 t.nx, .int .i64 t.ns, .sl 14 t.ps.length (t.ps.flatMap PsC)] := Eq.trans rfl rfl
def tb0 : Tb := ⟨0, 0, []⟩
theorem zPs : zeros ([.int .i64 0, .int .i64 0, .int .i64 0, .int .i64 0, .int .i64 0, .int .i64 0, .int .i64 0, .int .i64 0, .int .i64 0, .int .i64 0, .str [], .str [], .fsl 1 0 [], .bool false] : List LV) 14 = [.int .i64 0, .int .i64 0, .int .i64 0, .int .i64 0, .int .i64 0, .int .i64 0, .int .i64 0, .int .i64 0, .int .i64 0, .int .i64 0, .str [], .str [], .fsl 1 0 [], .bool false] := Eq.trans rfl rfl
theorem zDe : zeros ([.int .i64 0, .int .i64 0, .int .i64 0, .int .i64 0] : List LV) 4 = [.int .i64 0, .int .i64 0, .int .i64 0, .int .i64 0] := Eq.trans rfl rfl
/-- the sizes of a table -/
def okT (t : Tb) : Prop := t.ps.length ≤ 1000000 ∧ ∀ p ∈ t.ps, p.op.length ≤ 1000000
theorem acts_end {x r : LV} {H H1 : Heap} (h : leV x r) (hs : H1.Sublist H) : ∃ r' H', leVH gl x H r' H' ∧ r' = r ∧ H' = H1 := ⟨r, H1, leVH.of h ⟨_, hs, List.Perm.refl _⟩, rfl, rfl⟩
/-- the first number below n with a property, or -1 -/
def firstI (n : Nat) (p : Nat → Bool) : Int := match (List.range n).find? p with
  | some i => i
  | none => -1
theorem firstI_is {n : Nat} {p : Nat → Bool} {i : Nat} (h : i < n) (hp : p i = true) (hn : ∀ j, j < i → p j = false) : firstI n p = i := by
  have : (List.range n).find? p = some i := by
    rw [List.find?_range_eq_some]
    exact ⟨hp, by simpa using h, fun j hj => by simp [hn j hj]⟩
  simp [firstI, this]
theorem firstI_none {n : Nat} {p : Nat → Bool} (hn : ∀ j, j < n → p j = false) : firstI n p = -1 := by
  have : (List.range n).find? p = none := by
    rw [List.find?_range_eq_none]
    exact fun j hj => by simp [hn j hj]
  simp [firstI, this]
theorem firstI_cases (n : Nat) (p : Nat → Bool) : (firstI n p = -1 ∧ ∀ j, j < n → p j = false) ∨ ∃ i, i < n ∧ firstI n p = i ∧ p i = true ∧ ∀ j, j < i → p j = false := by
  cases hf : (List.range n).find? p with
  | none =>
    have hn := (List.find?_range_eq_none).1 hf
    exact .inl ⟨by simp [firstI, hf], fun j hj => by simpa using hn j hj⟩
  | some i =>
    obtain ⟨h1, h2, h3⟩ := (List.find?_range_eq_some).1 hf
    exact .inr ⟨i, by simpa using h2, by simp [firstI, hf], h1, fun j hj => by simpa using h3 j hj⟩
end Go.Proofs.YtkdblnejpmbnfaaGreat
namespace Go.Proofs.YtkdblnejpmbnfaaGreat.F
open Go Go.Lx
set_option linter.unusedSimpArgs false
set_option linter.unusedVariables false
set_option maxRecDepth 100000
set_option maxHeartbeats 4000000
/-- an entry -/
structure En where
  nm : List UInt8
  ino : Int
def EnC (x : En) : List LV := [.str x.nm, .int .i64 x.ino]
theorem EnC_eq (x : En) : EnC x = [.str x.nm, .int .i64 x.ino] := Eq.trans rfl rfl
def en0 : En := ⟨[], 0⟩
theorem len_en (l : List En) : (l.flatMap EnC).length = l.length * 2 := length_rows (f := EnC) (w := 2) (fun _ => rfl) l
/-- a node -/
structure No where
  ino : Int
  kind : Int
  mode : Int
  uid : Int
  gid : Int
  par : Int
  tg : List UInt8
  es : List En
/-- its cells, with its entries seen in some way -/
def NoO (n : No) (o : LV) : List LV := [.int .i64 n.ino, .int .i64 n.kind, .int .i64 n.mode, .int .i64 n.uid, .int .i64 n.gid, .int .i64 n.par, .str n.tg, o]
def NoC (n : No) : List LV := [.int .i64 n.ino, .int .i64 n.kind, .int .i64 n.mode, .int .i64 n.uid, .int .i64 n.gid, .int .i64 n.par, .str n.tg, .sl 2 n.es.length (n.es.flatMap EnC)]
theorem NoC_eq (n : No) : NoC n = [.int .i64 n.ino, .int .i64 n.kind, .int .i64 n.mode, .int .i64 n.uid, .int .i64 n.gid, .int .i64 n.par, .str n.tg, .sl 2 n.es.length (n.es.flatMap EnC)] := Eq.trans rfl rfl
def no0 : No := ⟨0, 0, 0, 0, 0, 0, [], []⟩
theorem len_no (l : List No) : (l.flatMap NoC).length = l.length * 8 := length_rows (f := NoC) (w := 8) (fun _ => rfl) l
theorem no0le : leVs [.int .i64 0, .int .i64 0, .int .i64 0, .int .i64 0, .int .i64 0, .int .i64 0, .str [], .fsl 1 0 []] (NoC no0) := ⟨leV.refl _, leV.refl _, leV.refl _, leV.refl _, leV.refl _, leV.refl _, leV.refl _, leV.nil_sl _ _, trivial⟩
/-- a device -/
structure Dv where
  nx : Int
  ns : List No
def DvC (d : Dv) : List LV := [.int .i64 d.nx, .sl 8 d.ns.length (d.ns.flatMap NoC)]
theorem DvC_eq (d : Dv) : DvC d = [.int .i64 d.nx, .sl 8 d.ns.length (d.ns.flatMap NoC)] := Eq.trans rfl rfl
def dv0 : Dv := ⟨0, []⟩
theorem len_dv (l : List Dv) : (l.flatMap DvC).length = l.length * 2 := length_rows (f := DvC) (w := 2) (fun _ => rfl) l
def FiL (fs : List Dv) : LV := .agg [.sl 2 fs.length (fs.flatMap DvC)]
theorem FiL_eq (fs : List Dv) : FiL fs = .agg [.sl 2 fs.length (fs.flatMap DvC)] := Eq.trans rfl rfl
/-- a place: a device and a node's number -/
structure At where
  d : Int
  i : Int
deriving DecidableEq
def AtL (x : At) : LV := .agg [.int .i64 x.d, .int .i64 x.i]
theorem AtL_eq (x : At) : AtL x = .agg [.int .i64 x.d, .int .i64 x.i] := Eq.trans rfl rfl
theorem zNo : zeros ([.int .i64 0, .int .i64 0, .int .i64 0, .int .i64 0, .int .i64 0, .int .i64 0, .str [], .fsl 1 0 []] : List LV) 8 = [.int .i64 0, .int .i64 0, .int .i64 0, .int .i64 0, .int .i64 0, .int .i64 0, .str [], .fsl 1 0 []] := Eq.trans rfl rfl
theorem zCh : zeros ([.int .i64 0, .int .i64 0, .str [], .int .i64 0, .int .i64 0, .int .i64 0, .int .i64 0] : List LV) 7 = [.int .i64 0, .int .i64 0, .str [], .int .i64 0, .int .i64 0, .int .i64 0, .int .i64 0] := Eq.trans rfl rfl
theorem zDv : zeros ([.int .i64 0, .fsl 1 0 []] : List LV) 2 = [.int .i64 0, .fsl 1 0 []] := Eq.trans rfl rfl
theorem zEn : zeros ([.str [], .int .i64 0] : List LV) 2 = [.str [], .int .i64 0] := Eq.trans rfl rfl
theorem zMo : zeros ([.int .i64 0, .int .i64 0, .int .i64 0] : List LV) 3 = [.int .i64 0, .int .i64 0, .int .i64 0] := Eq.trans rfl rfl
theorem zFo : zeros ([.int .i64 0, .int .i64 0, .str [], .int .i64 0, .int .i64 0, .bool false, .bool false, .str []] : List LV) 8 = [.int .i64 0, .int .i64 0, .str [], .int .i64 0, .int .i64 0, .bool false, .bool false, .str []] := Eq.trans rfl rfl
theorem zIt : zeros ([.str [], .str [], .int .i64 0, .int .i64 0, .str [], .int .i64 0, .int .i64 0, .int .i64 0, .int .i64 0, .int .i64 0, .int .i64 0, .int .i64 0, .int .i64 0] : List LV) 13 = [.str [], .str [], .int .i64 0, .int .i64 0, .str [], .int .i64 0, .int .i64 0, .int .i64 0, .int .i64 0, .int .i64 0, .int .i64 0, .int .i64 0, .int .i64 0] := Eq.trans rfl rfl
theorem pureE_end {x r : LV} {H : Heap} {Q : LV → Prop} (h : leV x r) (hq : Q r) : ∃ r' H', leVH gl x H r' H' ∧ (H' = [] ∧ Q r') := ⟨r, [], leVH.of h ⟨[], List.nil_sublist _, List.Perm.refl _⟩, rfl, hq⟩
/-- sizes -/
def okD (d : Dv) : Prop := d.ns.length ≤ 1000 ∧ ∀ n ∈ d.ns, n.es.length ≤ 1000
def okF (fs : List Dv) : Prop := fs.length ≤ 1000 ∧ ∀ d ∈ fs, okD d
def dAt (fs : List Dv) (d : Int) : Dv := fs.getD d.toNat dv0
def nAt (ns : List No) (i : Nat) : No := ns.getD i no0
theorem okF.at {fs : List Dv} (h : okF fs) {d : Int} (h1 : d < fs.length) (h0 : 0 ≤ d) : okD (dAt fs d) := h.2 _ (getD_memA dv0 (by omega))
theorem okD.at {d : Dv} (h : okD d) {i : Nat} (h1 : i < d.ns.length) : (nAt d.ns i).es.length ≤ 1000 := h.2 _ (getD_memA no0 h1)
def ixP (ns : List No) (ino : Int) (i : Nat) : Bool := (nAt ns i).ino == ino
def ixI (ns : List No) (ino : Int) : Int := firstI ns.length (ixP ns ino)
/-- the index of a node on its device, or -1 -/
def idx (fs : List Dv) (x : At) : Int := if x.d < 0 ∨ x.d ≥ fs.length then -1 else ixI (dAt fs x.d).ns x.i
theorem ixI_cases (ns : List No) (ino : Int) : (ixI ns ino = -1 ∧ ∀ j, j < ns.length → (nAt ns j).ino ≠ ino) ∨ ∃ i, i < ns.length ∧ ixI ns ino = (i : Nat) ∧ (nAt ns i).ino = ino ∧ ∀ j, j < i → (nAt ns j).ino ≠ ino := by
  rcases firstI_cases ns.length (ixP ns ino) with ⟨h1, h2⟩ | ⟨i, h1, h2, h3, h4⟩
  · exact .inl ⟨h1, fun j hj => by have := h2 j hj; simpa [ixP] using this⟩
  · exact .inr ⟨i, h1, h2, by simpa [ixP] using h3, fun j hj => by have := h4 j hj; simpa [ixP] using this⟩
theorem idx_cases (fs : List Dv) (x : At) : idx fs x = -1 ∨ ((0 ≤ x.d ∧ x.d < fs.length) ∧ ∃ i, i < (dAt fs x.d).ns.length ∧ idx fs x = (i : Nat) ∧ (nAt (dAt fs x.d).ns i).ino = x.i) := by
  unfold idx
  split
  · exact .inl rfl
  · rcases ixI_cases (dAt fs x.d).ns x.i with ⟨h1, _⟩ | ⟨i, h1, h2, h3, _⟩
    · exact .inl h1
    · exact .inr ⟨by omega, i, h1, h2, h3⟩
theorem gDv {fs : List Dv} {d : Int} {j : Nat} (h0 : 0 ≤ d) (h1 : d < fs.length) (hj : j < 2) : (fs.flatMap DvC).getD (d.toNat * 2 + j) .any = (DvC (dAt fs d)).getD j .any := getD_rows (f := DvC) (w := 2) (fun _ => rfl) hj dv0 _ _ (by omega)
theorem gNo {ns : List No} {i : Nat} {j : Nat} (h1 : i < ns.length) (hj : j < 8) : (ns.flatMap NoC).getD (i * 8 + j) .any = (NoC (nAt ns i)).getD j .any := getD_rows (f := NoC) (w := 8) (fun _ => rfl) hj no0 _ _ h1
theorem tNo {ns : List No} {i : Nat} (h1 : i < ns.length) : ((ns.flatMap NoC).drop (i * 8)).take 8 = NoC (nAt ns i) := take_rows (f := NoC) (w := 8) (fun _ => rfl) no0 _ h1
theorem ix (fs : List Dv) (x : At) (hf : okF fs) : Pure Tryz.prog gl 144 [FiL fs, AtL x] (.int .i64 (idx fs x)) := by
  refine fn_pureT Tryz.func144 t144 Tryz.ntmps144 (by simp) ?_
  have hl := hf.1
  have hld := len_dv fs
  have hR : idx fs x = if x.d < 0 ∨ x.d ≥ fs.length then -1 else ixI (dAt fs x.d).ns x.i := rfl
  have hg := fun h0 h1 => gDv (fs := fs) (d := x.d) (j := 1) h0 h1 (by omega)
  have hk := fun h0 h1 => (hf.at (d := x.d) h1 h0).1
  unfold c144 r144
  rw [FiL_eq, AtL_eq]
  by_cases hd : 0 ≤ x.d ∧ x.d < fs.length
  · obtain ⟨h0, h1⟩ := hd
    have hg := hg h0 h1
    have hk := hk h0 h1
    rw [if_neg (by omega)] at hR
    rw [hR]
    generalize dAt fs x.d = D at *
    rw [DvC_eq] at hg
    simp only [List.getD_cons_zero, List.getD_cons_succ] at hg
    have hln := len_no D.ns
    repeat' (first | (simp (disch := first | exact dd | fail) only [go_sem, hg]) | (refine allI (fun b => ?_)) | (refine allT (fun τ => ?_)) | (refine brP (fun h => ?_) (fun h => ?_) <;> (try simp only [zgx, zbx] at h)) | (refine gd ?_) | fail)
    · omega
    · rename_i b1 b2
      refine loopI (ι := Nat) (fun i => i ≤ D.ns.length ∧ ∀ j, j < i → ixP D.ns x.i j = false) (fun i => (6, .int .i64 i) :: _) (fun _ => _) (fun i => D.ns.length - i) 0 ⟨by omega, fun j hj => absurd hj (by omega)⟩ Ents.same ?_
      intro i hi
      have hiB := hi.1
      simp (disch := first | exact dd | fail) only [go_sem]
      refine brP (fun hb => ?_) (fun hb => ?_)
      · have hlt : i < D.ns.length := by simpa using hb
        have e3 : (D.ns.flatMap NoC).getD (i * 8) .any = .int .i64 (nAt D.ns i).ino := by
          rw [← Nat.add_zero (i * 8), gNo hlt (by omega)]; rfl
        have hf : ixP D.ns x.i i = ((nAt D.ns i).ino == x.i) := rfl
        generalize nAt D.ns i = n at *
        repeat' (first | (simp (disch := first | exact dd | fail) only [go_sem, e3]) | (refine allI (fun b => ?_)) | (refine allT (fun τ => ?_)) | (refine brP (fun h => ?_) (fun h => ?_) <;> (try simp only [zgx, zbx] at h)) | (refine gd ?_) | fail)
        · rw [ixI, firstI_is hlt (by rw [hf]; simpa using h) hi.2]
        · have hf2 : ixP D.ns x.i i = false := by rw [hf]; simpa using h
          exact ⟨⟨i + 1, by omega, fun j hj => (by omega : j < i ∨ j = i).elim (fun h3 => hi.2 j h3) (fun h3 => h3 ▸ hf2)⟩, by dsimp only; omega, Ents.envH (by simp [go_sem]) rfl⟩
      · repeat' (first | (simp (disch := first | exact dd | fail) only [go_sem]) | (refine allI (fun b => ?_)) | (refine allT (fun τ => ?_)) | (refine brP (fun h => ?_) (fun h => ?_) <;> (try simp only [zgx, zbx] at h)) | (refine gd ?_) | fail)
        rw [ixI, firstI_none fun j hj => hi.2 j (by simp only [decide_eq_false_iff_not] at hb; omega)]
  · rw [if_pos (by omega)] at hR
    rw [hR]
    repeat' (first | (simp (disch := first | exact dd | fail) only [go_sem]) | (refine allI (fun b => ?_)) | (refine allT (fun τ => ?_)) | (refine brP (fun h => ?_) (fun h => ?_) <;> (try simp only [zgx, zbx] at h)) | (refine gd ?_) | fail)
    all_goals omega
/-- a node, if it is there -/
def nodeR (fs : List Dv) (x : At) : No × Bool := if idx fs x < 0 then (no0, false) else (nAt (dAt fs x.d).ns (idx fs x).toNat, true)
theorem node (fs : List Dv) (x : At) (hf : okF fs) : Pure Tryz.prog gl 124 [FiL fs, AtL x] (.tup [.agg (NoC (nodeR fs x).1), .bool (nodeR fs x).2]) := by
  refine fn_pureT Tryz.func124 t124 Tryz.ntmps124 (by simp) ?_
  have hX := ix fs x hf
  have hl := hf.1
  have hld := len_dv fs
  have hR : nodeR fs x = if idx fs x < 0 then (no0, false) else (nAt (dAt fs x.d).ns (idx fs x).toNat, true) := rfl
  have hc := idx_cases fs x
  have hg := fun h0 h1 => gDv (fs := fs) (d := x.d) (j := 1) h0 h1 (by omega)
  have hk := fun h0 h1 => hf.at (d := x.d) h1 h0
  generalize idx fs x = k at *
  unfold c124 r124
  rw [FiL_eq, AtL_eq] at *
  rcases hc with rfl | ⟨⟨h0, h1⟩, i, h2, rfl, h3⟩
  · rw [if_pos (by omega)] at hR
    rw [hR]
    repeat' (first | (simp (disch := first | exact dd | fail) only [go_sem]) | (refine allI (fun b => ?_)) | (refine allT (fun τ => ?_)) | (refine brP (fun h => ?_) (fun h => ?_) <;> (try simp only [zgx, zbx] at h)) | refine call_U (hX) ?_ | refine callG_U (fun _ => hX) ?_ | refine call_T (hX) ?_ | refine callG_T (fun _ => hX) ?_ | refine call_N (hX) ?_ | refine call_of (hX) ?_ | refine callG_of (fun _ => hX) ?_ | (refine gd ?_) | fail)
    exact leV.tup ⟨leV.agg no0le, leV.refl _, trivial⟩
  · have hg := hg h0 h1
    have hk := hk h0 h1
    rw [if_neg (by omega), Int.toNat_natCast] at hR
    rw [hR]
    generalize dAt fs x.d = D at *
    rw [DvC_eq] at hg
    simp only [List.getD_cons_zero, List.getD_cons_succ] at hg
    have hln := len_no D.ns
    have e3 := tNo h2
    have hk2 := hk.at h2
    generalize nAt D.ns i = n at *
    rw [NoC_eq] at e3
    have hle := len_en n.es
    repeat' (first | (simp (disch := first | exact dd | fail) only [go_sem, hg, e3]) | (refine allI (fun b => ?_)) | (refine allT (fun τ => ?_)) | (refine brP (fun h => ?_) (fun h => ?_) <;> (try simp only [zgx, zbx] at h)) | refine call_U (hX) ?_ | refine callG_U (fun _ => hX) ?_ | refine call_T (hX) ?_ | refine callG_T (fun _ => hX) ?_ | refine call_N (hX) ?_ | refine call_of (hX) ?_ | refine callG_of (fun _ => hX) ?_ | (refine gd ?_) | fail)
    · omega
    refine ⟨by simp only [roomy]; omega, fun τ => leV.tup ⟨leV.agg ⟨leV.refl _, leV.refl _, leV.refl _, leV.refl _, leV.refl _, leV.refl _, leV.refl _, leV.osl_sl _ _ _ _ _, trivial⟩, leV.refl _, trivial⟩⟩
def dirB (fs : List Dv) (x : At) : Bool := (nodeR fs x).2 && (nodeR fs x).1.kind == 2
theorem dir (fs : List Dv) (x : At) (hf : okF fs) : Pure Tryz.prog gl 119 [FiL fs, AtL x] (.bool (dirB fs x)) := by
  refine fn_pureT Tryz.func119 t119 Tryz.ntmps119 (by simp) ?_
  have hn := node fs x hf
  have hR : dirB fs x = ((nodeR fs x).2 && (nodeR fs x).1.kind == 2) := rfl
  rw [hR]
  generalize nodeR fs x = R at *
  obtain ⟨n, b⟩ := R
  dsimp only at *
  rw [NoC_eq] at hn
  unfold c119 r119
  rw [FiL_eq, AtL_eq] at *
  repeat' (first | (simp (disch := first | exact dd | fail) only [go_sem]) | (refine allI (fun b => ?_)) | (refine allT (fun τ => ?_)) | (refine brP (fun h => ?_) (fun h => ?_) <;> (try simp only [zgx, zbx] at h)) | refine call_U (hn) ?_ | refine callG_U (fun _ => hn) ?_ | refine call_T (hn) ?_ | refine callG_T (fun _ => hn) ?_ | refine call_N (hn) ?_ | refine call_of (hn) ?_ | refine callG_of (fun _ => hn) ?_ | (refine gd ?_) | fail)
end Go.Proofs.YtkdblnejpmbnfaaGreat.F
namespace Go.Proofs.YtkdblnejpmbnfaaGreat.F
open Go Go.Lx
set_option linter.unusedSimpArgs false
set_option linter.unusedVariables false
set_option maxRecDepth 100000
set_option maxHeartbeats 4000000
theorem nodeR_es {fs : List Dv} (hf : okF fs) (x : At) : (nodeR fs x).1.es.length ≤ 1000 := by
  unfold nodeR
  rcases idx_cases fs x with h | ⟨⟨h0, h1⟩, i, h2, h3, h4⟩
  · rw [h, if_pos (by omega)]; simp [no0]
  · rw [h3, if_neg (by omega), Int.toNat_natCast]
    exact (hf.at h1 h0).at h2
theorem gEn {es : List En} {i : Nat} {j : Nat} (h1 : i < es.length) (hj : j < 2) : (es.flatMap EnC).getD (i * 2 + j) .any = (EnC (es.getD i en0)).getD j .any := getD_rows (f := EnC) (w := 2) (fun _ => rfl) hj en0 _ _ h1
theorem look (fs : List Dv) (x : At) (s : List UInt8) (hf : okF fs) : PureE Tryz.prog gl 122 [FiL fs, AtL x, .str s] fun v => ∃ r : At × Int, (r.2 = 0 → r.1.d = x.d) ∧ v = .tup [AtL r.1, .int .i64 r.2] := by
  refine fn_viewT Tryz.func122 t122 Tryz.ntmps122 (by simp) ?_
  have hn := node fs x hf
  have hk := nodeR_es hf x
  generalize nodeR fs x = R at *
  obtain ⟨n, b⟩ := R
  dsimp only at *
  have hle := len_en n.es
  rw [NoC_eq] at hn
  unfold c122 r122
  rw [FiL_eq, AtL_eq] at *
  repeat' (first | (simp (disch := first | exact dd | fail) only [go_sem]) | (refine allI (fun b => ?_)) | (refine allT (fun τ => ?_)) | (refine brP (fun h => ?_) (fun h => ?_) <;> (try simp only [zgx, zbx] at h)) | refine call_U (hn) ?_ | refine callG_U (fun _ => hn) ?_ | refine call_T (hn) ?_ | refine callG_T (fun _ => hn) ?_ | refine call_N (hn) ?_ | refine call_of (hn) ?_ | refine callG_of (fun _ => hn) ?_ | (refine gd ?_) | fail)
  · exact pureE_end (leV.refl _) ⟨(⟨0, 0⟩, 2), by simp, rfl⟩
  · exact pureE_end (leV.refl _) ⟨(⟨0, 0⟩, 20), by simp, rfl⟩
  · refine loopI (ι := Nat) (fun i => i ≤ n.es.length) (fun i => (10, .int .i64 i) :: _) (fun _ => _) (fun i => n.es.length - i) 0 (by omega) Ents.same ?_
    intro i hi
    simp (disch := first | exact dd | fail) only [go_sem]
    refine brP (fun hb => ?_) (fun hb => ?_)
    · have hlt : i < n.es.length := by simpa using hb
      have e3 : (n.es.flatMap EnC).getD (i * 2) .any = .str (n.es.getD i en0).nm := by rw [← Nat.add_zero (i * 2), gEn hlt (by omega)]; rfl
      have e4 : (n.es.flatMap EnC).getD (i * 2 + 1) .any = .int .i64 (n.es.getD i en0).ino := by rw [gEn hlt (by omega)]; rfl
      generalize n.es.getD i en0 = y at *
      repeat' (first | (simp (disch := first | exact dd | fail) only [go_sem, e3, e4]) | (refine allI (fun b => ?_)) | (refine allT (fun τ => ?_)) | (refine brP (fun h => ?_) (fun h => ?_) <;> (try simp only [zgx, zbx] at h)) | (refine gd ?_) | fail)
      · exact pureE_end (leV.refl _) ⟨(⟨x.d, y.ino⟩, 0), fun _ => rfl, rfl⟩
      · exact ⟨⟨i + 1, by omega⟩, by dsimp only; omega, Ents.envH (by simp [go_sem]) rfl⟩
    · repeat' (first | (simp (disch := first | exact dd | fail) only [go_sem]) | (refine allI (fun b => ?_)) | (refine allT (fun τ => ?_)) | (refine brP (fun h => ?_) (fun h => ?_) <;> (try simp only [zgx, zbx] at h)) | (refine gd ?_) | fail)
      exact pureE_end (leV.refl _) ⟨(⟨0, 0⟩, 2), by simp, rfl⟩
theorem nm (s : List UInt8) (hs : s.length ≤ 1000000000) : PureE Tryz.prog gl 123 [.str s] fun v => ∃ b : Bool, (b = true → s.length ≤ 12) ∧ v = .bool b := by
  refine fn_viewT Tryz.func123 t123 Tryz.ntmps123 (by simp) ?_
  unfold c123 r123
  repeat' (first | (simp (disch := first | exact dd | fail) only [go_sem]) | (refine allI (fun b => ?_)) | (refine allT (fun τ => ?_)) | (refine brP (fun h => ?_) (fun h => ?_) <;> (try simp only [zgx, zbx] at h)) | (refine gd ?_) | fail)
  · exact pureE_end (leV.refl _) ⟨false, by simp, rfl⟩
  · have hl : s.length ≤ 12 := by omega
    refine loopI (ι := Nat) (fun i => i ≤ s.length) (fun i => (3, .int .i64 i) :: _) (fun _ => _) (fun i => s.length - i) 0 (by omega) Ents.same ?_
    intro i hi
    simp (disch := first | exact dd | fail) only [go_sem]
    refine brP (fun hb => ?_) (fun hb => ?_)
    · have hlt : i < s.length := by simpa using hb
      repeat' (first | (simp (disch := first | exact dd | fail) only [go_sem]) | (refine allI (fun b => ?_)) | (refine allT (fun τ => ?_)) | (refine brP (fun h => ?_) (fun h => ?_) <;> (try simp only [zgx, zbx] at h)) | (refine gd ?_) | fail)
      · exact pureE_end (leV.refl _) ⟨false, by simp, rfl⟩
      · exact ⟨⟨i + 1, by omega⟩, by dsimp only; omega, Ents.envH (by simp [go_sem]) rfl⟩
    · repeat' (first | (simp (disch := first | exact dd | fail) only [go_sem]) | (refine allI (fun b => ?_)) | (refine allT (fun τ => ?_)) | (refine brP (fun h => ?_) (fun h => ?_) <;> (try simp only [zgx, zbx] at h)) | (refine gd ?_) | fail)
      exact pureE_end (leV.refl _) ⟨true, fun _ => hl, rfl⟩
theorem place2 (fs : List Dv) (x : At) (s : List UInt8) (hf : okF fs) (hs : s.length ≤ 1000000000) : PureE Tryz.prog gl 149 [FiL fs, AtL x, .str s] fun v => ∃ e : Int, ((e = 0 → dirB fs x = true ∧ s.length ≤ 12) ∧ (e = 0 ∨ e = 2 ∨ e = 20 ∨ e = 22)) ∧ v = .int .i64 e := by
  refine fn_viewT Tryz.func149 t149 Tryz.ntmps149 (by simp) ?_
  have hn := node fs x hf
  have hR : dirB fs x = ((nodeR fs x).2 && (nodeR fs x).1.kind == 2) := rfl
  generalize nodeR fs x = R at *
  obtain ⟨n, b⟩ := R
  dsimp only at *
  rw [NoC_eq] at hn
  unfold c149 r149
  rw [FiL_eq, AtL_eq] at *
  repeat' (first | (simp (disch := first | exact dd | fail) only [go_sem]) | (refine allI (fun b => ?_)) | (refine allT (fun τ => ?_)) | (refine brP (fun h => ?_) (fun h => ?_) <;> (try simp only [zgx, zbx] at h)) | refine call_U (hn) ?_ | refine callG_U (fun _ => hn) ?_ | refine call_T (hn) ?_ | refine callG_T (fun _ => hn) ?_ | refine call_N (hn) ?_ | refine call_of (hn) ?_ | refine callG_of (fun _ => hn) ?_ | (refine gd ?_) | fail)
  · exact pureE_end (leV.refl _) ⟨2, ⟨by simp, by omega⟩, rfl⟩
  · exact pureE_end (leV.refl _) ⟨20, ⟨by simp, by omega⟩, rfl⟩
  · rename_i hb hk
    first | refine pureE_U (nm s hs) ?_ | refine pureE_T (nm s hs) ?_ | refine pureE_of (nm s hs) ?_
    rintro _ ⟨c, hc, rfl⟩
    repeat' (first | (simp (disch := first | exact dd | fail) only [go_sem]) | (refine allI (fun b => ?_)) | (refine allT (fun τ => ?_)) | (refine brP (fun h => ?_) (fun h => ?_) <;> (try simp only [zgx, zbx] at h)) | (refine gd ?_) | fail)
    · exact pureE_end (leV.refl _) ⟨22, ⟨by simp, by omega⟩, rfl⟩
    · exact pureE_end (leV.refl _) ⟨0, ⟨fun _ => ⟨by rw [hR]; simp_all, hc h⟩, by omega⟩, rfl⟩
theorem place (fs : List Dv) (x : At) (s : List UInt8) (hf : okF fs) (hs : s.length ≤ 1000000000) : PureE Tryz.prog gl 149 [FiL fs, AtL x, .str s] fun v => ∃ e : Int, (e = 0 → dirB fs x = true ∧ s.length ≤ 12) ∧ v = .int .i64 e :=
  (place2 fs x s hf hs).mono fun _ _ ⟨h1, e, ⟨h2, _⟩, h3⟩ => ⟨h1, e, h2, h3⟩
theorem full (fs : List Dv) (x : At) (hf : okF fs) : Pure Tryz.prog gl 150 [FiL fs, AtL x] (.bool (decide ((12 : Int) ≤ (nodeR fs x).1.es.length))) := by
  refine fn_pureT Tryz.func150 t150 Tryz.ntmps150 (by simp) ?_
  have hn := node fs x hf
  generalize nodeR fs x = R at *
  obtain ⟨n, b⟩ := R
  dsimp only at *
  rw [NoC_eq] at hn
  unfold c150 r150
  rw [FiL_eq, AtL_eq] at *
  repeat' (first | (simp (disch := first | exact dd | fail) only [go_sem]) | (refine allI (fun b => ?_)) | (refine allT (fun τ => ?_)) | (refine brP (fun h => ?_) (fun h => ?_) <;> (try simp only [zgx, zbx] at h)) | refine call_U (hn) ?_ | refine callG_U (fun _ => hn) ?_ | refine call_T (hn) ?_ | refine callG_T (fun _ => hn) ?_ | refine call_N (hn) ?_ | refine call_of (hn) ?_ | refine callG_of (fun _ => hn) ?_ | (refine gd ?_) | fail)
theorem empty (fs : List Dv) (x : At) (hf : okF fs) : Pure Tryz.prog gl 155 [FiL fs, AtL x] (.bool (((nodeR fs x).1.es.length : Int) == 0)) := by
  refine fn_pureT Tryz.func155 t155 Tryz.ntmps155 (by simp) ?_
  have hn := node fs x hf
  generalize nodeR fs x = R at *
  obtain ⟨n, b⟩ := R
  dsimp only at *
  rw [NoC_eq] at hn
  unfold c155 r155
  rw [FiL_eq, AtL_eq] at *
  repeat' (first | (simp (disch := first | exact dd | fail) only [go_sem]) | (refine allI (fun b => ?_)) | (refine allT (fun τ => ?_)) | (refine brP (fun h => ?_) (fun h => ?_) <;> (try simp only [zgx, zbx] at h)) | refine call_U (hn) ?_ | refine callG_U (fun _ => hn) ?_ | refine call_T (hn) ?_ | refine callG_T (fun _ => hn) ?_ | refine call_N (hn) ?_ | refine call_of (hn) ?_ | refine callG_of (fun _ => hn) ?_ | (refine gd ?_) | fail)
theorem target (s : List UInt8) (hs : s.length ≤ 1000000000) : PureE Tryz.prog gl 161 [.str s] fun v => ∃ b : Bool, v = .bool b := by
  refine fn_viewT Tryz.func161 t161 Tryz.ntmps161 (by simp) ?_
  unfold c161 r161
  repeat' (first | (simp (disch := first | exact dd | fail) only [go_sem]) | (refine allI (fun b => ?_)) | (refine allT (fun τ => ?_)) | (refine brP (fun h => ?_) (fun h => ?_) <;> (try simp only [zgx, zbx] at h)) | (refine gd ?_) | fail)
  refine loopI (ι := Nat) (fun i => i ≤ s.length) (fun i => (3, .int .i64 i) :: _) (fun _ => _) (fun i => s.length - i) 0 (by omega) Ents.same ?_
  intro i hi
  simp (disch := first | exact dd | fail) only [go_sem]
  refine brP (fun hb => ?_) (fun hb => ?_)
  · have hlt : i < s.length := by simpa using hb
    repeat' (first | (simp (disch := first | exact dd | fail) only [go_sem]) | (refine allI (fun b => ?_)) | (refine allT (fun τ => ?_)) | (refine brP (fun h => ?_) (fun h => ?_) <;> (try simp only [zgx, zbx] at h)) | (refine gd ?_) | fail)
    · exact pureE_end (leV.refl _) ⟨_, rfl⟩
    · exact ⟨⟨i + 1, by omega⟩, by dsimp only; omega, Ents.envH (by simp [go_sem]) rfl⟩
  · repeat' (first | (simp (disch := first | exact dd | fail) only [go_sem]) | (refine allI (fun b => ?_)) | (refine allT (fun τ => ?_)) | (refine brP (fun h => ?_) (fun h => ?_) <;> (try simp only [zgx, zbx] at h)) | (refine gd ?_) | fail)
    exact pureE_end (leV.refl _) ⟨_, rfl⟩
theorem plain (n : No) (o : LV) (hs : n.tg.length ≤ 1000000000) : PureE Tryz.prog gl 157 [.agg (NoO n o)] fun v => ∃ b : Bool, v = .bool b := by
  refine fn_viewT Tryz.func157 t157 Tryz.ntmps157 (by simp) ?_
  unfold c157 r157 NoO
  repeat' (first | (simp (disch := first | exact dd | fail) only [go_sem]) | (refine allI (fun b => ?_)) | (refine allT (fun τ => ?_)) | (refine brP (fun h => ?_) (fun h => ?_) <;> (try simp only [zgx, zbx] at h)) | (refine gd ?_) | fail)
  · exact pureE_end (leV.refl _) ⟨_, rfl⟩
  · first | refine pureE_U (target n.tg hs) ?_ | refine pureE_T (target n.tg hs) ?_ | refine pureE_of (target n.tg hs) ?_
    rintro _ ⟨c, rfl⟩
    repeat' (first | (simp (disch := first | exact dd | fail) only [go_sem]) | (refine allI (fun b => ?_)) | (refine allT (fun τ => ?_)) | (refine brP (fun h => ?_) (fun h => ?_) <;> (try simp only [zgx, zbx] at h)) | (refine gd ?_) | fail)
    exact pureE_end (leV.refl _) ⟨_, rfl⟩
  · exact pureE_end (leV.refl _) ⟨_, rfl⟩
/-- a change -/
structure Ch where
  dir : At
  nm : List UInt8
  old : At
  nw : At
def ChC (c : Ch) : List LV := [.int .i64 c.dir.d, .int .i64 c.dir.i, .str c.nm, .int .i64 c.old.d, .int .i64 c.old.i, .int .i64 c.nw.d, .int .i64 c.nw.i]
theorem ChC_eq (c : Ch) : ChC c = [.int .i64 c.dir.d, .int .i64 c.dir.i, .str c.nm, .int .i64 c.old.d, .int .i64 c.old.i, .int .i64 c.nw.d, .int .i64 c.nw.i] := Eq.trans rfl rfl
def ChS (l : List Ch) : LV := .sl 7 l.length (l.flatMap ChC)
theorem one (x : At) (s : List UInt8) (y z : At) : Pure Tryz.prog gl 152 [AtL x, .str s, AtL y, AtL z] (.fsl 7 1 (ChC ⟨x, s, y, z⟩)) := by
  refine fn_pureT Tryz.func152 t152 Tryz.ntmps152 (by simp) ?_
  unfold c152 r152
  rw [AtL_eq, AtL_eq, AtL_eq, ChC_eq]
  repeat' (first | (simp (disch := first | exact dd | fail) only [go_sem, zCh]) | (refine allI (fun b => ?_)) | (refine allT (fun τ => ?_)) | (refine brP (fun h => ?_) (fun h => ?_) <;> (try simp only [zgx, zbx] at h)) | (refine gd ?_) | fail)
end Go.Proofs.YtkdblnejpmbnfaaGreat.F
namespace Go.Proofs.YtkdblnejpmbnfaaGreat.F
open Go Go.Lx
set_option linter.unusedSimpArgs false
set_option linter.unusedVariables false
set_option maxRecDepth 100000
set_option maxHeartbeats 8000000
theorem NoO_le (n : No) (i : Nat) (τ : Tok) : leVs (NoO n (.osl i τ 2 n.es.length (n.es.flatMap EnC))) (NoC n) := ⟨leV.refl _, leV.refl _, leV.refl _, leV.refl _, leV.refl _, leV.refl _, leV.refl _, leV.osl_sl _ _ _ _ _, trivial⟩
theorem leVs.app {xs xs' ys ys' : List LV} (h : leVs xs xs') (h' : leVs ys ys') : leVs (xs ++ ys) (xs' ++ ys') := by
  induction xs generalizing xs' with
  | nil => cases xs' with
    | nil => exact h'
    | cons => exact h.elim
  | cons x xs ih => cases xs' with
    | nil => exact h.elim
    | cons x' xs' => exact ⟨h.1, ih h.2⟩
theorem copyF (fs : List Dv) (hf : okF fs) : Pure Tryz.prog gl 114 [FiL fs] (FiL fs) := by
  refine fn_pureT Tryz.func114 t114 Tryz.ntmps114 (by simp) ?_
  have hl := hf.1
  have hld := len_dv fs
  unfold c114 r114
  rw [FiL_eq]
  repeat' (first | (simp (disch := first | exact dd | fail) only [go_sem]) | (refine allI (fun b => ?_)) | (refine allT (fun τ => ?_)) | (refine brP (fun h => ?_) (fun h => ?_) <;> (try simp only [zgx, zbx] at h)) | (refine gd ?_) | fail)
  rename_i b1 b2
  refine loopI (ι := Nat × Tok) (fun y => y.1 ≤ fs.length) (fun y => [(4, .int .i64 y.1), (3, .ptr 3 b 0), (2, .ptr 2 b2 0), (1, .ptr 1 b1 0)]) (fun y => [(56, .tok y.2), (3, .blk b [.osl 56 y.2 2 y.1 ((fs.take y.1).flatMap DvC)]), (2, .blk b2 [.fsl 1 0 []]), (1, .blk b1 [.sl 2 fs.length (fs.flatMap DvC)])]) (fun y => fs.length - y.1) (0, ⟨0, 0, 0⟩) (by simp) ?_ ?_
  · refine Ents.dum 56 (Ents.le (by simp [go_sem]) ⟨rfl, ⟨rfl, leV.nil_osl _ _ _ _, trivial⟩, ⟨rfl, leVs.refl _⟩, ⟨rfl, leVs.refl _⟩, trivial⟩)
  · rintro ⟨i, τ⟩ hi
    dsimp only at hi ⊢
    simp (disch := first | exact dd | fail) only [go_sem]
    refine brP (fun hb => ?_) (fun hb => ?_)
    · have hlt : i < fs.length := by simpa using hb
      have e1 : (fs.flatMap DvC).getD (i * 2) .any = .int .i64 (fs.getD i dv0).nx := by rw [← Nat.add_zero (i * 2), getD_rows (f := DvC) (w := 2) (fun _ => rfl) (by omega) dv0 _ _ hlt]; rfl
      have e2 : (fs.flatMap DvC).getD (i * 2 + 1) .any = .sl 8 (fs.getD i dv0).ns.length ((fs.getD i dv0).ns.flatMap NoC) := by rw [getD_rows (f := DvC) (w := 2) (fun _ => rfl) (by omega) dv0 _ _ hlt]; rfl
      have hts := take_succ_getD dv0 fs hlt
      have hk := hf.2 _ (getD_memA dv0 hlt)
      generalize fs.getD i dv0 = D at *
      obtain ⟨hk1, hk2⟩ := hk
      have hln := len_no D.ns
      repeat' (first | (simp (disch := first | exact dd | fail) only [go_sem, e1, e2, zDv]) | (refine allI (fun b => ?_)) | (refine allT (fun τ => ?_)) | (refine brP (fun h => ?_) (fun h => ?_) <;> (try simp only [zgx, zbx] at h)) | (refine gd ?_) | fail)
      rename_i b3
      refine loopI (ι := Nat × Tok) (fun y => y.1 ≤ D.ns.length) (fun y => [(6, .int .i64 y.1), (5, .ptr 5 b 0), (4, .int .i64 i), (3, .ptr 3 b3 0), (2, .ptr 2 b2 0), (1, .ptr 1 b1 0)]) (fun y => [(50, .tok y.2), (5, .blk b [.int .i64 D.nx, .osl 50 y.2 8 y.1 ((D.ns.take y.1).flatMap NoC)]), (56, .tok τ), (3, .blk b3 [.osl 56 τ 2 i ((fs.take i).flatMap DvC)]), (2, .blk b2 [.fsl 1 0 []]), (1, .blk b1 [.sl 2 fs.length (fs.flatMap DvC)])]) (fun y => D.ns.length - y.1) (0, ⟨0, 0, 0⟩) (by simp) ?_ ?_
      · refine Ents.dum 50 (Ents.le (by simp [go_sem]) ⟨rfl, ⟨rfl, leV.refl _, leV.nil_osl _ _ _ _, trivial⟩, rfl, ⟨rfl, leVs.refl _⟩, ⟨rfl, leVs.refl _⟩, ⟨rfl, leVs.refl _⟩, trivial⟩)
      · rintro ⟨k, τ2⟩ hkk
        dsimp only at hkk ⊢
        simp (disch := first | exact dd | fail) only [go_sem, e1, e2]
        refine ⟨by omega, by omega, ?_⟩
        refine brP (fun hb => ?_) (fun hb => ?_)
        · have hlt2 : k < D.ns.length := by simpa using hb
          have e3 := tNo hlt2
          have hts2 := take_succ_getD no0 D.ns hlt2
          rw [← nAt] at hts2
          have hes := hk2 _ (getD_memA no0 hlt2)
          rw [← nAt] at hes
          generalize nAt D.ns k = n at *
          have hle := len_en n.es
          rw [NoC_eq] at e3
          repeat' (first | (simp (disch := first | exact dd | fail) only [go_sem, e1, e2, e3, zNo]) | (refine allI (fun b => ?_)) | (refine allT (fun τ => ?_)) | (refine brP (fun h => ?_) (fun h => ?_) <;> (try simp only [zgx, zbx] at h)) | (refine gd ?_) | fail)
          refine ⟨by simp only [roomy]; omega, fun τ3 => ?_⟩
          repeat' (first | (simp (disch := first | exact dd | fail) only [go_sem, zNo]) | (refine allI (fun b => ?_)) | (refine allT (fun τ => ?_)) | (refine brP (fun h => ?_) (fun h => ?_) <;> (try simp only [zgx, zbx] at h)) | (refine gd ?_) | fail)
          refine ⟨by simp only [roomy]; omega, fun τ4 => ⟨⟨(k + 1, τ4), by dsimp only; omega⟩, by dsimp only; omega, ?_⟩⟩
          refine Ents.heap _ (by simp [go_sem]) ⟨_, List.Sublist.cons_cons _ (List.Sublist.cons _ (List.Sublist.cons _ (List.Sublist.refl _))), List.Perm.refl _⟩ ⟨rfl, ⟨rfl, leV.refl _, leV.osl ?_, trivial⟩, rfl, ⟨rfl, leVs.refl _⟩, ⟨rfl, leVs.refl _⟩, ⟨rfl, leVs.refl _⟩, trivial⟩
          dsimp only
          rw [hts2, List.flatMap_append, List.flatMap_singleton]
          exact leVs.app (leVs.refl _) (NoO_le n 44 τ3)
        · have hlen : k = D.ns.length := by simp only [decide_eq_false_iff_not] at hb; omega
          subst hlen
          rw [List.take_length]
          repeat' (first | (simp (disch := first | exact dd | fail) only [go_sem, zDv]) | (refine allI (fun b => ?_)) | (refine allT (fun τ => ?_)) | (refine brP (fun h => ?_) (fun h => ?_) <;> (try simp only [zgx, zbx] at h)) | (refine gd ?_) | fail)
          refine ⟨by simp only [roomy]; omega, fun τ3 => ⟨⟨(i + 1, τ3), by dsimp only; omega⟩, by dsimp only; omega, ?_⟩⟩
          refine Ents.heap _ (by simp [go_sem]) ⟨_, List.Sublist.cons_cons _ (List.Sublist.cons _ (List.Sublist.cons _ (List.Sublist.refl _))), List.Perm.refl _⟩ ⟨rfl, ⟨rfl, leV.osl ?_, trivial⟩, ⟨rfl, leVs.refl _⟩, ⟨rfl, leVs.refl _⟩, trivial⟩
          dsimp only
          rw [hts, List.flatMap_append, List.flatMap_singleton]
          exact leVs.app (leVs.refl _) ⟨leV.refl _, leV.osl_sl _ _ _ _ _, trivial⟩
    · have hlen : i = fs.length := by simp only [decide_eq_false_iff_not] at hb; omega
      repeat' (first | (simp (disch := first | exact dd | fail) only [go_sem]) | (refine allI (fun b => ?_)) | (refine allT (fun τ => ?_)) | (refine brP (fun h => ?_) (fun h => ?_) <;> (try simp only [zgx, zbx] at h)) | (refine gd ?_) | fail)
      rw [hlen, List.take_length]
      exact leV.agg ⟨leV.osl_sl _ _ _ _ _, trivial⟩
end Go.Proofs.YtkdblnejpmbnfaaGreat.F
namespace Go.Proofs.YtkdblnejpmbnfaaGreat
open Go Go.Lx
set_option linter.unusedSimpArgs false
set_option linter.unusedVariables false
set_option maxRecDepth 100000
set_option maxHeartbeats 4000000
theorem fin1 (p : Ps) (b : Nat) (pid : Int) : Acts Tryz.prog gl 92 [.agg (PsC p), .ptr 3 b 0] [(3, .blk b [.int .i64 pid])] (.bool (p.pid == pid)) [(3, .blk b [.int .i64 pid])] := by
  refine fn_actsT Tryz.func92 t92 Tryz.ntmps92 (by simp) ?_
  unfold c92 r92
  rw [PsC_eq]
  repeat' (first | (simp (disch := first | exact dd | fail) only [go_sem]) | (refine allI (fun b => ?_)) | (refine allT (fun τ => ?_)) | (refine brP (fun h => ?_) (fun h => ?_) <;> (try simp only [zgx, zbx] at h)) | (refine gd ?_) | fail)
  exact acts_end (leV.refl _) (by simp)
def findP (t : Tb) (pid : Int) (i : Nat) : Bool := (t.ps.getD i ps0).pid == pid
def findI (t : Tb) (pid : Int) : Int := firstI t.ps.length (findP t pid)
theorem idx (t : Tb) (b : Nat) (pid : Int) (ht : t.ps.length ≤ 1000000) : Acts Tryz.prog gl 91 [.sl 14 t.ps.length (t.ps.flatMap PsC), .clo 92 [.ptr 3 b 0]] [(3, .blk b [.int .i64 pid])] (.int .i64 (findI t pid)) [(3, .blk b [.int .i64 pid])] := by
  refine fn_actsT Tryz.func91 t91 Tryz.ntmps91 (by simp) ?_
  have hl := len_ps t.ps
  unfold c91 r91
  simp (disch := first | exact dd | fail) only [go_sem]
  refine loopI (ι := Nat) (fun i => i ≤ t.ps.length ∧ ∀ j, j < i → findP t pid j = false) (fun i => (8, .int .i64 i) :: _) (fun _ => _) (fun i => t.ps.length - i) 0 ⟨by omega, fun j hj => absurd hj (by omega)⟩ Ents.same ?_
  intro i hi
  have hiB := hi.1
  simp (disch := first | exact dd | fail) only [go_sem]
  refine brP (fun hb => ?_) (fun hb => ?_)
  · have hlt : i < t.ps.length := by simpa using hb
    have e2 : ((t.ps.flatMap PsC).drop (i * 14)).take 14 = PsC (t.ps.getD i ps0) := take_rows (f := PsC) (fun _ => rfl) ps0 _ hlt
    have hf : findP t pid i = ((t.ps.getD i ps0).pid == pid) := rfl
    have ha := fin1 (t.ps.getD i ps0) b pid
    generalize t.ps.getD i ps0 = p at *
    repeat' (first | (simp (disch := first | exact dd | fail) only [go_sem, e2]) | (refine allI (fun b => ?_)) | (refine allT (fun τ => ?_)) | (refine brP (fun h => ?_) (fun h => ?_) <;> (try simp only [zgx, zbx] at h)) | (refine gd ?_) | fail)
    refine ⟨by kernel_rfl, ?_⟩
    first | refine acts_U (ha) (by simp (disch := first | exact dd | fail) only [go_sem]) ?_ | refine acts_T (ha) (by simp (disch := first | exact dd | fail) only [go_sem]) ?_ | refine acts_N (ha) (by simp (disch := first | exact dd | fail) only [go_sem]) ?_ | refine acts_of (H1 := []) (ha) (by simp (disch := first | exact dd | fail) only [go_sem]) ?_
    repeat' (first | (simp (disch := first | exact dd | fail) only [go_sem]) | (refine allI (fun b => ?_)) | (refine allT (fun τ => ?_)) | (refine brP (fun h => ?_) (fun h => ?_) <;> (try simp only [zgx, zbx] at h)) | (refine gd ?_) | fail)
    · refine acts_end (leV.of_eq ?_) (by simp)
      rw [findI, firstI_is hlt (by rw [hf]; simpa using h) hi.2]
    · have hf2 : findP t pid i = false := by rw [hf]; simpa using h
      exact ⟨⟨i + 1, by omega, fun j hj => (by omega : j < i ∨ j = i).elim (fun h3 => hi.2 j h3) (fun h3 => h3 ▸ hf2)⟩, by dsimp only; omega, Ents.envH (by simp [go_sem]) rfl⟩
  · repeat' (first | (simp (disch := first | exact dd | fail) only [go_sem]) | (refine allI (fun b => ?_)) | (refine allT (fun τ => ?_)) | (refine brP (fun h => ?_) (fun h => ?_) <;> (try simp only [zgx, zbx] at h)) | (refine gd ?_) | fail)
    refine acts_end (leV.of_eq ?_) (by simp)
    rw [findI, firstI_none fun j hj => hi.2 j (by simp only [decide_eq_false_iff_not] at hb; omega)]
theorem find (t : Tb) (pid : Int) (ht : t.ps.length ≤ 1000000) : Pure Tryz.prog gl 58 [TbL t, .int .i64 pid] (.int .i64 (findI t pid)) := by
  refine fn_pureT Tryz.func58 t58 Tryz.ntmps58 (by simp) ?_
  unfold c58 r58 TbL
  simp (disch := first | exact dd | fail) only [go_sem]
  intro b2 b3
  first | refine acts_U (idx t b3 pid ht) (by simp (disch := first | exact dd | fail) only [go_sem]) ?_ | refine acts_T (idx t b3 pid ht) (by simp (disch := first | exact dd | fail) only [go_sem]) ?_ | refine acts_N (idx t b3 pid ht) (by simp (disch := first | exact dd | fail) only [go_sem]) ?_ | refine acts_of (H1 := []) (idx t b3 pid ht) (by simp (disch := first | exact dd | fail) only [go_sem]) ?_
  repeat' (first | (simp (disch := first | exact dd | fail) only [go_sem]) | (refine allI (fun b => ?_)) | (refine allT (fun τ => ?_)) | (refine brP (fun h => ?_) (fun h => ?_) <;> (try simp only [zgx, zbx] at h)) | (refine gd ?_) | fail)
/-- copies of descriptors -/
theorem cp1 (x : De) : Pure Tryz.prog gl 94 [.agg (DeC x)] (.agg (DeC x)) := by
  refine fn_pureT Tryz.func94 t94 Tryz.ntmps94 (by simp) ?_
  unfold c94 r94 DeC
  repeat' (first | (simp (disch := first | exact dd | fail) only [go_sem]) | (refine allI (fun b => ?_)) | (refine allT (fun τ => ?_)) | (refine brP (fun h => ?_) (fun h => ?_) <;> (try simp only [zgx, zbx] at h)) | (refine gd ?_) | fail)
theorem cpd (l : List De) (hl : l.length ≤ 1000000) : Pure Tryz.prog gl 93 [.sl 4 l.length (l.flatMap DeC), .fn 94] (.sl 4 l.length (l.flatMap DeC)) := by
  refine fn_pureT Tryz.func93 t93 Tryz.ntmps93 (by simp) ?_
  have hle := len_de l
  unfold c93 r93
  repeat' (first | (simp (disch := first | exact dd | fail) only [go_sem]) | (refine allI (fun b => ?_)) | (refine allT (fun τ => ?_)) | (refine brP (fun h => ?_) (fun h => ?_) <;> (try simp only [zgx, zbx] at h)) | (refine gd ?_) | fail)
  · have h0 : l = [] := List.length_eq_zero_iff.1 (by omega)
    subst h0
    exact leV.nil_sl _ _
  · refine .inl fun τ => ?_
    refine loopI (ι := Nat × Tok) (fun y => y.1 ≤ l.length) (fun y => [(16, .int .i64 y.1), (15, .int .i64 l.length), (14, .sl 4 l.length (l.flatMap DeC)), (5, .osl 13 y.2 4 y.1 ((l.take y.1).flatMap DeC)), (1, .fn 94)]) (fun y => [(13, .tok y.2)]) (fun y => l.length - y.1) (0, τ) (by simp) (Ents.envH (by simp [go_sem]) rfl) ?_
    rintro ⟨i, τ1⟩ hi
    dsimp only at hi ⊢
    simp (disch := first | exact dd | fail) only [go_sem]
    refine brP (fun hb => ?_) (fun hb => ?_)
    · have hlt : i < l.length := by simpa using hb
      have e2 : ((l.flatMap DeC).drop (i * 4)).take 4 = DeC (l.getD i de0) := take_rows (f := DeC) (fun _ => rfl) de0 _ hlt
      have hts := take_succ_getD de0 l hlt
      have hc := cp1 (l.getD i de0)
      generalize l.getD i de0 = x at *
      rw [DeC_eq] at e2 hc
      repeat' (first | (simp (disch := first | exact dd | fail) only [go_sem, e2, zDe]) | (refine allI (fun b => ?_)) | (refine allT (fun τ => ?_)) | (refine brP (fun h => ?_) (fun h => ?_) <;> (try simp only [zgx, zbx] at h)) | (refine gd ?_) | fail)
      refine ⟨by kernel_rfl, ?_⟩
      first | refine call_U (hc) ?_ | refine call_T (hc) ?_ | refine call_N (hc) ?_ | refine call_of (hc) ?_
      repeat' (first | (simp (disch := first | exact dd | fail) only [go_sem, zDe]) | (refine allI (fun b => ?_)) | (refine allT (fun τ => ?_)) | (refine brP (fun h => ?_) (fun h => ?_) <;> (try simp only [zgx, zbx] at h)) | (refine gd ?_) | fail)
      refine ⟨by simp only [roomy]; omega, fun t => ⟨⟨(i + 1, t), by dsimp only; omega⟩, by dsimp only; omega, Ents.sub ⟨leV.refl _, leV.refl _, leV.refl _, leV.of_eq ?_, leV.refl _, trivial⟩ ⟨_, sub1, List.Perm.refl _⟩⟩⟩
      simp [go_sem, hts, List.flatMap_append, DeC_eq]
    · have hlen : i = l.length := by simp only [decide_eq_false_iff_not] at hb; omega
      repeat' (first | (simp (disch := first | exact dd | fail) only [go_sem]) | (refine allI (fun b => ?_)) | (refine allT (fun τ => ?_)) | (refine brP (fun h => ?_) (fun h => ?_) <;> (try simp only [zgx, zbx] at h)) | (refine gd ?_) | fail)
      rw [hlen, List.take_length]
      exact leV.osl_sl _ _ _ _ _
theorem cpp (p : Ps) (hp : p.op.length ≤ 1000000) : Pure Tryz.prog gl 59 [.agg (PsC p)] (.agg (PsC p)) := by
  refine fn_pureT Tryz.func59 t59 Tryz.ntmps59 (by simp) ?_
  have hc := cpd p.op hp
  unfold c59 r59
  rw [PsC_eq, DeS_eq]
  repeat' (first | (simp (disch := first | exact dd | fail) only [go_sem]) | (refine allI (fun b => ?_)) | (refine allT (fun τ => ?_)) | (refine brP (fun h => ?_) (fun h => ?_) <;> (try simp only [zgx, zbx] at h)) | refine call_U (hc) ?_ | refine callG_U (fun _ => hc) ?_ | refine call_T (hc) ?_ | refine callG_T (fun _ => hc) ?_ | refine call_N (hc) ?_ | refine call_of (hc) ?_ | refine callG_of (fun _ => hc) ?_ | (refine gd ?_) | fail)
def Own (id : Nat) (l : List Ps) (r : LV) (e : Ent) : Prop := ∃ b c, l.length ≤ c ∧ r = .msl id 14 b 0 l.length c ∧ e = .blk b (Sp (l.flatMap PsC) ((c - l.length) * 14))
theorem cpt (l : List Ps) (hl : l.length ≤ 1000000 ∧ ∀ p ∈ l, p.op.length ≤ 1000000) : NewsE Tryz.prog gl 111 [.sl 14 l.length (l.flatMap PsC), .fn 59] 13 (Own 13 l) := by
  refine fn_viewT Tryz.func111 t111 Tryz.ntmps111 (by simp) ?_
  obtain ⟨hn, hp⟩ := hl
  have hle := len_ps l
  unfold c111 r111
  repeat' (first | (simp (disch := first | exact dd | fail) only [go_sem]) | (refine allI (fun b => ?_)) | (refine allT (fun τ => ?_)) | (refine brP (fun h => ?_) (fun h => ?_) <;> (try simp only [zgx, zbx] at h)) | (refine gd ?_) | fail)
  · have h0 : l = [] := List.length_eq_zero_iff.1 (by omega)
    subst h0
    exact ⟨_, _, leVH.ofNil 13 _ 14, _, rfl, 0, 0, by simp, rfl, by simp [Sp]⟩
  · refine .inr fun b => ?_
    refine loopI (ι := Nat × Nat × Nat) (fun y => y.1 ≤ l.length ∧ y.1 ≤ y.2.2) (fun y => [(16, .int .i64 y.1), (15, .int .i64 l.length), (14, .sl 14 l.length (l.flatMap PsC)), (5, .msl 13 14 y.2.1 0 y.1 y.2.2), (1, .fn 59)]) (fun y => [(13, .blk y.2.1 (Sp ((l.take y.1).flatMap PsC) ((y.2.2 - y.1) * 14)))]) (fun y => l.length - y.1) (0, b, l.length) (by simp) (Ents.le (by simp [go_sem]) ⟨⟨rfl, leVs_any (by simp [zeros, Sp])⟩, trivial⟩) ?_
    rintro ⟨i, b', c⟩ ⟨h1, h2⟩
    dsimp only at h1 h2 ⊢
    have htl : ((l.take i).flatMap PsC).length = i * 14 := by rw [len_ps, List.length_take, Nat.min_eq_left h1]
    simp (disch := first | exact dd | fail) only [go_sem]
    refine brP (fun hb => ?_) (fun hb => ?_)
    · have hlt : i < l.length := by simpa using hb
      have e2 : ((l.flatMap PsC).drop (i * 14)).take 14 = PsC (l.getD i ps0) := take_rows (f := PsC) (fun _ => rfl) ps0 _ hlt
      have hts := take_succ_getD ps0 l hlt
      have hc := cpp (l.getD i ps0) (hp _ (getD_memA ps0 hlt))
      generalize l.getD i ps0 = x at *
      rw [PsC_eq] at e2 hc
      repeat' (first | (simp (disch := first | exact dd | fail) only [go_sem, e2, zPs]) | (refine allI (fun b => ?_)) | (refine allT (fun τ => ?_)) | (refine brP (fun h => ?_) (fun h => ?_) <;> (try simp only [zgx, zbx] at h)) | (refine gd ?_) | fail)
      refine ⟨by kernel_rfl, ?_⟩
      first | refine call_U (hc) ?_ | refine call_T (hc) ?_ | refine call_N (hc) ?_ | refine call_of (hc) ?_
      repeat' (first | (simp (disch := first | exact dd | fail) only [go_sem, zPs]) | (refine allI (fun b => ?_)) | (refine allT (fun τ => ?_)) | (refine brP (fun h => ?_) (fun h => ?_) <;> (try simp only [zgx, zbx] at h)) | (refine gd ?_) | fail)
      refine .inl ⟨by rw [length_Sp, htl]; omega, by rw [length_Sp, htl]; omega, by simp only [roomy]; omega, fun b2 c2 h3 => ?_⟩
      rw [take_Sp _ htl]
      refine ⟨⟨(i + 1, b2, c2), by dsimp only; omega⟩, by dsimp only; omega, Ents.sub ⟨leV.refl _, leV.refl _, leV.refl _, leV.refl _, leV.refl _, trivial⟩ ⟨_, sub1, ?_⟩⟩
      dsimp only
      rw [hts, List.flatMap_append, List.flatMap_singleton, PsC_eq, Sp]
    · have hlen : i = l.length := by simp only [decide_eq_false_iff_not] at hb; omega
      subst hlen
      repeat' (first | (simp (disch := first | exact dd | fail) only [go_sem]) | (refine allI (fun b => ?_)) | (refine allT (fun τ => ?_)) | (refine brP (fun h => ?_) (fun h => ?_) <;> (try simp only [zgx, zbx] at h)) | (refine gd ?_) | fail)
      rw [List.take_length]
      exact ⟨_, _, leVH.self _ _, _, rfl, b', c, h2, rfl, rfl⟩
theorem Own.name {i j : Nat} {l : List Ps} {r : LV} {e : Ent} (h : Own i l r e) : ∃ r', leV r r' ∧ Own j l r' e := by
  obtain ⟨b, c, h1, h2, h3⟩ := h
  exact ⟨_, by subst h2; exact leV.msl_name _ j _ _ _ _ _, b, c, h1, rfl, h3⟩
def OwnT (t : Tb) (r : LV) (e : Ent) : Prop := ∃ b c, t.ps.length ≤ c ∧ r = .agg [.int .i64 t.nx, .int .i64 t.ns, .msl 6000 14 b 0 t.ps.length c] ∧ e = .blk b (Sp (t.ps.flatMap PsC) ((c - t.ps.length) * 14))
theorem ctab (t : Tb) (ht : okT t) : NewsE Tryz.prog gl 70 [TbL t] 6000 (OwnT t) := by
  refine fn_viewT Tryz.func70 t70 Tryz.ntmps70 (by simp) ?_
  have hc : NewsE Tryz.prog gl 111 [.sl 14 t.ps.length (t.ps.flatMap PsC), .fn 59] 6000 (Own 6000 t.ps) := NewsE.name (cpt t.ps ht) fun r e h => h.name
  unfold c70 r70 TbL
  repeat' (first | (simp (disch := first | exact dd | fail) only [go_sem]) | (refine allI (fun b => ?_)) | (refine allT (fun τ => ?_)) | (refine brP (fun h => ?_) (fun h => ?_) <;> (try simp only [zgx, zbx] at h)) | (refine gd ?_) | fail)
  first | refine newsE_U (hc) ?_ | refine newsE_T (hc) ?_ | refine newsE_of (hc) ?_
  rintro _ _ ⟨b, c, h1, rfl, rfl⟩
  repeat' (first | (simp (disch := first | exact dd | fail) only [go_sem]) | (refine allI (fun b => ?_)) | (refine allT (fun τ => ?_)) | (refine brP (fun h => ?_) (fun h => ?_) <;> (try simp only [zgx, zbx] at h)) | (refine gd ?_) | fail)
  exact viewE_end (leV.refl _) sub1 ⟨b, c, h1, rfl, rfl⟩
end Go.Proofs.YtkdblnejpmbnfaaGreat
namespace Go.Proofs.YtkdblnejpmbnfaaGreat
open Go Go.Lx
set_option linter.unusedSimpArgs false
set_option linter.unusedVariables false
set_option maxRecDepth 100000
set_option maxHeartbeats 4000000
/-- the table while it is changed -/
def ChH (bt : Nat) (t : Tb) (b c : Nat) : Heap := [(3, .blk bt [.int .i64 t.nx, .int .i64 t.ns, .msl 6000 14 b 0 t.ps.length c]), (6000, .blk b (Sp (t.ps.flatMap PsC) ((c - t.ps.length) * 14)))]
/-- what a function that changes a table does -/
def ClOk (f : Nat) (caps : List LV) (Hc : Heap) (t : Tb) (i : Nat) (g : Int × Tb) : Prop := ∀ bt b c, t.ps.length ≤ c →
  LCalls Tryz.prog gl f ([.ptr 3 bt 0, .ptr 6000 b (i * 14)] ++ caps) (ChH bt t b c ++ Hc) fun v H => ∃ b' c', g.2.ps.length ≤ c' ∧ v = .int .i64 g.1 ∧ H = ChH bt g.2 b' c' ++ Hc
/-- the table behind a change -/
def chR (t : Tb) (pid : Int) (g : Nat → Int × Tb) : Int × Tb :=
  if findI t pid < 0 then (3, tb0) else if (g (findI t pid).toNat).1 ≠ 0 then ((g (findI t pid).toNat).1, tb0) else (0, (g (findI t pid).toNat).2)
theorem tb0_le : leV (.agg [.int .i64 0, .int .i64 0, .fsl 1 0 []]) (TbL tb0) := leV.agg ⟨leV.refl _, leV.refl _, leV.nil_sl _ _, trivial⟩
theorem findI_lt (t : Tb) (pid : Int) : findI t pid < t.ps.length := by
  rcases firstI_cases t.ps.length (findP t pid) with ⟨h, _⟩ | ⟨i, h1, h2, _⟩
  · rw [findI, h]; omega
  · rw [findI, h2]; omega
theorem change (t : Tb) (pid : Int) (ht : okT t) (f : Nat) (caps : List LV) (Hc : Heap) (g : Nat → Int × Tb) (hok : okF Tryz.prog f = true) (hg : ∀ i, findI t pid = (i : Nat) → ClOk f caps Hc t i (g i)) :
    LCalls Tryz.prog gl 23 [TbL t, .int .i64 pid, .clo f caps] Hc fun v H => v = .tup [TbL (chR t pid g).2, .int .i64 (chR t pid g).1] ∧ H = Hc := by
  refine fn_viewT Tryz.func23 t23 Tryz.ntmps23 (by simp) ?_
  have hlt := findI_lt t pid
  have hF := find t pid ht.1
  have hc := ctab t ht
  have hR : chR t pid g = if findI t pid < 0 then (3, tb0) else if (g (findI t pid).toNat).1 ≠ 0 then ((g (findI t pid).toNat).1, tb0) else (0, (g (findI t pid).toNat).2) := rfl
  generalize findI t pid = k at *
  unfold c23 r23
  rw [TbL_eq t] at *
  repeat' (first | (simp (disch := first | exact dd | fail) only [go_sem]) | (refine allI (fun b => ?_)) | (refine allT (fun τ => ?_)) | (refine brP (fun h => ?_) (fun h => ?_) <;> (try simp only [zgx, zbx] at h)) | refine call_U (hF) ?_ | refine callG_U (fun _ => hF) ?_ | refine call_T (hF) ?_ | refine callG_T (fun _ => hF) ?_ | refine call_N (hF) ?_ | refine call_of (hF) ?_ | refine callG_of (fun _ => hF) ?_ | (refine gd ?_) | fail)
  · rw [hR, if_pos (by assumption)]
    exact ⟨.tup [TbL tb0, .int .i64 3], Hc, leVH.of (leV.tup ⟨tb0_le, leV.refl _, trivial⟩) ⟨_, List.Sublist.cons _ (List.Sublist.cons _ (List.Sublist.refl _)), List.Perm.refl _⟩, rfl, rfl⟩
  · first | refine newsE_U (hc) ?_ | refine newsE_T (hc) ?_ | refine newsE_of (hc) ?_
    rintro _ _ ⟨b, c, h1, rfl, rfl⟩
    repeat' (first | (simp (disch := first | exact dd | fail) only [go_sem]) | (refine allI (fun b => ?_)) | (refine allT (fun τ => ?_)) | (refine brP (fun h => ?_) (fun h => ?_) <;> (try simp only [zgx, zbx] at h)) | (refine gd ?_) | fail)
    obtain ⟨n, rfl⟩ : ∃ n : Nat, k = (n : Int) := ⟨k.toNat, by omega⟩
    rw [Int.toNat_natCast] at *
    refine actsP_U (H2 := [(6, _)]) (hg n rfl _ b c h1) (pick_perm rfl (pick_perm rfl (List.perm_append_comm (l₁ := [(6, _)]) (l₂ := Hc)))) ?_
    rintro _ _ ⟨b', c', h2, rfl, rfl⟩
    rw [if_neg (by omega)] at hR
    generalize g n = gn at *
    obtain ⟨e, t'⟩ := gn
    dsimp only at hR h2 ⊢
    unfold ChH
    simp only [List.cons_append, List.nil_append]
    repeat' (first | (simp (disch := first | exact dd | fail) only [go_sem]) | (refine allI (fun b => ?_)) | (refine allT (fun τ => ?_)) | (refine brP (fun h => ?_) (fun h => ?_) <;> (try simp only [zgx, zbx] at h)) | (refine gd ?_) | fail)
    · rename_i h
      rw [if_pos h] at hR
      rw [hR]
      exact ⟨.tup [TbL tb0, .int .i64 e], Hc, leVH.of (leV.tup ⟨tb0_le, leV.refl _, trivial⟩) ⟨_, List.Sublist.cons _ (List.Sublist.cons _ (List.Sublist.cons _ (List.Sublist.refl _))), List.Perm.refl _⟩, rfl, rfl⟩
    · rename_i h
      have h0 : e = 0 := by simpa using h
      rw [if_neg (by simpa using h0)] at hR
      rw [hR]
      have hl := len_ps t'.ps
      refine ⟨.tup [TbL t', .int .i64 0], Hc, leVH.pub 6000 rfl ?_ (leVH.of ?_ ⟨_, List.Sublist.cons _ (List.Sublist.cons _ (List.Sublist.refl _)), List.Perm.refl _⟩), rfl, rfl⟩
      · simp [go_sem, length_Sp, hl]
        omega
      · simp only [go_sem]
        refine leV.tup ⟨leV.agg ⟨leV.refl _, leV.refl _, leV.of_eq ?_, trivial⟩, leV.refl _, trivial⟩
        simp [go_sem, Sp, ← hl]
end Go.Proofs.YtkdblnejpmbnfaaGreat
namespace Go.Proofs.YtkdblnejpmbnfaaGreat
open Go Go.Lx
set_option linter.unusedSimpArgs false
set_option linter.unusedVariables false
set_option maxRecDepth 100000
set_option maxHeartbeats 4000000
/-- one cell is set -/
def putC (cs : List LV) (o : Nat) (v : LV) : List LV := cs.take o ++ [v] ++ cs.drop (o + 1)
theorem putC_eq (cs : List LV) (o : Nat) (v : LV) : cs.take o ++ [v] ++ cs.drop (o + 1) = putC cs o v := Eq.trans rfl rfl
theorem putC_set {cs : List LV} {o : Nat} (v : LV) (h : o < cs.length) : putC cs o v = cs.set o v := by
  rw [putC, List.set_eq_take_append_cons_drop, if_pos h]; simp
theorem putC_len {cs : List LV} {o : Nat} (v : LV) (h : o < cs.length) : (putC cs o v).length = cs.length := by rw [putC_set v h, List.length_set]
theorem putC_ne {cs : List LV} {o i : Nat} (v : LV) (h : o < cs.length) (hn : o ≠ i) : (putC cs o v).getD i .any = cs.getD i .any := by
  rw [putC_set v h]; simp [List.getD, List.getElem?_set_ne hn]
theorem putC_Sp {cs : List LV} {o k : Nat} (v : LV) (h : o < cs.length) : putC (Sp cs k) o v = Sp (putC cs o v) k := by
  rw [putC_set v (by rw [length_Sp]; omega), putC_set v h, Sp, Sp, List.set_append_left _ _ h]
theorem putC_rows {α : Type} {f : α → List LV} {w : Nat} (hw : ∀ x, (f x).length = w) (d x' : α) : ∀ (l : List α) {i j : Nat} (v : LV), i < l.length → j < w → f x' = putC (f (l.getD i d)) j v → putC (l.flatMap f) (i * w + j) v = (l.set i x').flatMap f
  | [], i, j, v, h, _, _ => by simp at h
  | r :: l, 0, j, v, h, hj, he => by
    have hlen := hw r
    simp only [List.getD_cons_zero] at he
    rw [putC_set v (by omega)] at he
    rw [List.flatMap_cons, Nat.zero_mul, Nat.zero_add, putC_set v (by rw [List.length_append]; omega), List.set_append_left _ _ (by omega), List.set_cons_zero, List.flatMap_cons, he]
  | r :: l, i + 1, j, v, h, hj, he => by
    have hlen := hw r
    have h' : i < l.length := by simpa using h
    have ih := putC_rows hw d x' l (i := i) (j := j) v h' hj (by simpa using he)
    have hll := length_rows hw l
    have hin : i * w + j < (l.flatMap f).length := by
      rw [hll]
      have : (i + 1) * w ≤ l.length * w := Nat.mul_le_mul_right w h'
      rw [Nat.add_mul] at this; omega
    rw [putC_set v hin] at ih
    rw [List.flatMap_cons, List.set_cons_succ, List.flatMap_cons, ← ih, putC_set v (by rw [List.length_append, Nat.add_mul]; omega), List.set_append_right _ _ (by rw [Nat.add_mul]; omega)]
    congr 2
    rw [Nat.add_mul]; omega
def idB (n : Int) : Bool := decide (0 ≤ n ∧ n < 4294967295)
theorem ident (n : Int) : Pure Tryz.prog gl 75 [.int .i64 n] (.bool (idB n)) := by
  refine fn_pureT Tryz.func75 t75 Tryz.ntmps75 (by simp) ?_
  unfold c75 r75
  repeat' (first | (simp (disch := first | exact dd | fail) only [go_sem]) | (refine allI (fun b => ?_)) | (refine allT (fun τ => ?_)) | (refine brP (fun h => ?_) (fun h => ?_) <;> (try simp only [zgx, zbx] at h)) | (refine gd ?_) | fail)
  simp [idB, Bool.decide_and]
def becR (u : Int) (pr : Bool) (x y : Int) : Int × Int × Int := if idB u = false then (22, x, y) else if pr = true then (0, u, u) else if u = x ∨ u = y then (0, x, u) else (1, x, y)
theorem become (u : Int) (pr : Bool) (b o1 o2 : Nat) (cs : List LV) (x y : Int) (h1 : cs.getD o1 .any = .int .i64 x) (h2 : cs.getD o2 .any = .int .i64 y) (hl : o1 < cs.length ∧ o2 < cs.length) (hn : o1 ≠ o2) :
    Acts Tryz.prog gl 74 [.int .i64 u, .bool pr, .ptr 6000 b o1, .ptr 6000 b o2] [(6000, .blk b cs)] (.int .i64 (becR u pr x y).1) [(6000, .blk b (putC (putC cs o1 (.int .i64 (becR u pr x y).2.1)) o2 (.int .i64 (becR u pr x y).2.2)))] := by
  refine fn_actsT Tryz.func74 t74 Tryz.ntmps74 (by simp) ?_
  obtain ⟨hl1, hl2⟩ := hl
  have hR : becR u pr x y = if idB u = false then (22, x, y) else if pr = true then (0, u, u) else if u = x ∨ u = y then (0, x, u) else (1, x, y) := rfl
  have hp : putC cs o1 (.int .i64 x) = cs := by
    rw [putC_set _ hl1, ← h1]
    simp [List.getD, hl1]
  have hq : putC cs o2 (.int .i64 y) = cs := by
    rw [putC_set _ hl2, ← h2]
    simp [List.getD, hl2]
  unfold c74 r74
  repeat' (first | (simp (disch := first | exact dd | fail) only [go_sem, h1, h2, putC_eq, putC_len]) | (refine allI (fun b => ?_)) | (refine allT (fun τ => ?_)) | (refine brP (fun h => ?_) (fun h => ?_) <;> (try simp only [zgx, zbx] at h)) | refine call_U (ident _) ?_ | refine callG_U (fun _ => ident _) ?_ | refine call_T (ident _) ?_ | refine callG_T (fun _ => ident _) ?_ | refine call_N (ident _) ?_ | refine call_of (ident _) ?_ | refine callG_of (fun _ => ident _) ?_ | (refine gd ?_) | fail)
  all_goals first
    | contradiction
    | (rw [hR, if_pos (by assumption)]; dsimp only; rw [hp, hq]; exact acts_end (leV.refl _) (List.Sublist.refl _))
    | (rw [hR, if_neg (by rw [‹idB u = true›]; simp), if_pos (by assumption)]; exact acts_end (leV.refl _) (List.Sublist.refl _))
    | (rw [hR, if_neg (by rw [‹idB u = true›]; simp), if_neg (by rw [‹pr = false›]; simp), if_pos (.inl (by assumption))]; dsimp only; rw [hp]; exact acts_end (leV.refl _) (List.Sublist.refl _))
    | (rw [hR, if_neg (by rw [‹idB u = true›]; simp), if_neg (by rw [‹pr = false›]; simp), if_pos (.inr (by assumption))]; dsimp only; rw [hp]; exact acts_end (leV.refl _) (List.Sublist.refl _))
    | (rw [hR, if_neg (by rw [‹idB u = true›]; simp), if_neg (by rw [‹pr = false›]; simp), if_neg (not_or.2 ⟨by assumption, by assumption⟩)]; dsimp only; rw [hp, hq]; exact acts_end (leV.refl _) (List.Sublist.refl _))
/-- the i-th process is changed -/
def setP (t : Tb) (i : Nat) (p : Ps) : Tb := { t with ps := t.ps.set i p }
def pAt (t : Tb) (i : Nat) : Ps := t.ps.getD i ps0
def suP (u : Int) (p : Ps) : Int × Ps := ((becR u (p.euid == 0) p.uid p.euid).1, { p with uid := (becR u (p.euid == 0) p.uid p.euid).2.1, euid := (becR u (p.euid == 0) p.uid p.euid).2.2 })
def suG (u : Int) (t : Tb) (i : Nat) : Int × Tb := ((suP u (pAt t i)).1, setP t i (suP u (pAt t i)).2)
theorem gdSp {l : List Ps} {i j k : Nat} (h : i < l.length) (hj : j < 14) : (Sp (l.flatMap PsC) k).getD (i * 14 + j) .any = (PsC (l.getD i ps0)).getD j .any := by
  have e := take_rows (f := PsC) (w := 14) (fun _ => rfl) ps0 l h
  have hle := len_ps l
  have : (i + 1) * 14 ≤ l.length * 14 := Nat.mul_le_mul_right 14 h
  rw [← e, Sp]
  simp only [List.getD_eq_getElem?_getD]
  rw [List.getElem?_append_left (by omega), List.getElem?_take_of_lt hj, List.getElem?_drop]
theorem rowSet {l : List Ps} {i j k : Nat} {v : LV} (p' : Ps) (h : i < l.length) (hj : j < 14) (he : PsC p' = putC (PsC (l.getD i ps0)) j v) : putC (Sp (l.flatMap PsC) k) (i * 14 + j) v = Sp ((l.set i p').flatMap PsC) k := by
  have hle := len_ps l
  have : (i + 1) * 14 ≤ l.length * 14 := Nat.mul_le_mul_right 14 h
  rw [putC_Sp _ (by omega), putC_rows (f := PsC) (w := 14) (fun _ => rfl) ps0 p' l v h hj he]
theorem rowSet2 {l : List Ps} {i j j2 k : Nat} {v v2 : LV} (p' p2 : Ps) (h : i < l.length) (hj : j < 14) (hj2 : j2 < 14) (he : PsC p' = putC (PsC (l.getD i ps0)) j v) (he2 : PsC p2 = putC (PsC p') j2 v2) : putC (putC (Sp (l.flatMap PsC) k) (i * 14 + j) v) (i * 14 + j2) v2 = Sp ((l.set i p2).flatMap PsC) k := by
  rw [rowSet p' h hj he, rowSet (l := l.set i p') p2 (by simpa using h) hj2 (by rw [he2]; simp [List.getD, h])]
  simp
theorem su1 (u : Int) (b4 : Nat) (t : Tb) (i : Nat) (hi : i < t.ps.length) : ClOk 73 [.ptr 5 b4 0] [(5, .blk b4 [.int .i64 u])] t i (suG u t i) := by
  intro bt b c hc
  refine fn_viewT Tryz.func73 t73 Tryz.ntmps73 (by simp) ?_
  have hle := len_ps t.ps
  have g2 := gdSp (k := (c - t.ps.length) * 14) hi (j := 2) (by omega)
  have g3 := gdSp (k := (c - t.ps.length) * 14) hi (j := 3) (by omega)
  have hs := length_Sp (t.ps.flatMap PsC) ((c - t.ps.length) * 14)
  rw [PsC_eq] at g2 g3
  simp only [List.getD_cons_zero, List.getD_cons_succ] at g2 g3
  unfold c73 r73 ChH
  simp only [List.cons_append, List.nil_append]
  repeat' (first | (simp (disch := first | exact dd | fail) only [go_sem, g2, g3]) | (refine allI (fun b => ?_)) | (refine allT (fun τ => ?_)) | (refine brP (fun h => ?_) (fun h => ?_) <;> (try simp only [zgx, zbx] at h)) | (refine gd ?_) | fail)
  first | refine acts_U (become u _ b _ _ _ _ _ g2 g3 ⟨by omega, by omega⟩ (by omega)) (by simp (disch := first | exact dd | fail) only [go_sem]) ?_ | refine acts_T (become u _ b _ _ _ _ _ g2 g3 ⟨by omega, by omega⟩ (by omega)) (by simp (disch := first | exact dd | fail) only [go_sem]) ?_ | refine acts_N (become u _ b _ _ _ _ _ g2 g3 ⟨by omega, by omega⟩ (by omega)) (by simp (disch := first | exact dd | fail) only [go_sem]) ?_ | refine acts_of (H1 := []) (become u _ b _ _ _ _ _ g2 g3 ⟨by omega, by omega⟩ (by omega)) (by simp (disch := first | exact dd | fail) only [go_sem]) ?_
  rw [rowSet2 _ (suP u (pAt t i)).2 hi (by omega) (by omega) (Eq.trans (b := PsC { pAt t i with uid := (suP u (pAt t i)).2.uid }) rfl rfl) (Eq.trans rfl rfl)]
  repeat' (first | (simp (disch := first | exact dd | fail) only [go_sem]) | (refine allI (fun b => ?_)) | (refine allT (fun τ => ?_)) | (refine brP (fun h => ?_) (fun h => ?_) <;> (try simp only [zgx, zbx] at h)) | (refine gd ?_) | fail)
  refine ⟨_, _, leVH.of (leV.refl _) ⟨_, List.Sublist.refl _, List.Perm.refl _⟩, b, c, ?_, rfl, ?_⟩ <;> simp [suG, setP]
  all_goals omega
def sgP (u : Int) (p : Ps) : Int × Ps := ((becR u (p.euid == 0) p.gid p.egid).1, { p with gid := (becR u (p.euid == 0) p.gid p.egid).2.1, egid := (becR u (p.euid == 0) p.gid p.egid).2.2 })
def sgG (u : Int) (t : Tb) (i : Nat) : Int × Tb := ((sgP u (pAt t i)).1, setP t i (sgP u (pAt t i)).2)
theorem sg1 (u : Int) (b4 : Nat) (t : Tb) (i : Nat) (hi : i < t.ps.length) : ClOk 79 [.ptr 5 b4 0] [(5, .blk b4 [.int .i64 u])] t i (sgG u t i) := by
  intro bt b c hc
  refine fn_viewT Tryz.func79 t79 Tryz.ntmps79 (by simp) ?_
  have hle := len_ps t.ps
  have g4 := gdSp (k := (c - t.ps.length) * 14) hi (j := 4) (by omega)
  have g5 := gdSp (k := (c - t.ps.length) * 14) hi (j := 5) (by omega)
  have hs := length_Sp (t.ps.flatMap PsC) ((c - t.ps.length) * 14)
  have g3 := gdSp (k := (c - t.ps.length) * 14) hi (j := 3) (by omega)
  rw [PsC_eq] at g3 g4 g5
  simp only [List.getD_cons_zero, List.getD_cons_succ] at g3 g4 g5
  unfold c79 r79 ChH
  simp only [List.cons_append, List.nil_append]
  repeat' (first | (simp (disch := first | exact dd | fail) only [go_sem, g3, g4, g5]) | (refine allI (fun b => ?_)) | (refine allT (fun τ => ?_)) | (refine brP (fun h => ?_) (fun h => ?_) <;> (try simp only [zgx, zbx] at h)) | (refine gd ?_) | fail)
  first | refine acts_U (become u _ b _ _ _ _ _ g4 g5 ⟨by omega, by omega⟩ (by omega)) (by simp (disch := first | exact dd | fail) only [go_sem]) ?_ | refine acts_T (become u _ b _ _ _ _ _ g4 g5 ⟨by omega, by omega⟩ (by omega)) (by simp (disch := first | exact dd | fail) only [go_sem]) ?_ | refine acts_N (become u _ b _ _ _ _ _ g4 g5 ⟨by omega, by omega⟩ (by omega)) (by simp (disch := first | exact dd | fail) only [go_sem]) ?_ | refine acts_of (H1 := []) (become u _ b _ _ _ _ _ g4 g5 ⟨by omega, by omega⟩ (by omega)) (by simp (disch := first | exact dd | fail) only [go_sem]) ?_
  rw [rowSet2 _ (sgP u (pAt t i)).2 hi (by omega) (by omega) (Eq.trans (b := PsC { pAt t i with gid := (sgP u (pAt t i)).2.gid }) rfl rfl) (Eq.trans rfl rfl)]
  repeat' (first | (simp (disch := first | exact dd | fail) only [go_sem]) | (refine allI (fun b => ?_)) | (refine allT (fun τ => ?_)) | (refine brP (fun h => ?_) (fun h => ?_) <;> (try simp only [zgx, zbx] at h)) | (refine gd ?_) | fail)
  refine ⟨_, _, leVH.of (leV.refl _) ⟨_, List.Sublist.refl _, List.Perm.refl _⟩, b, c, ?_, rfl, ?_⟩ <;> simp [sgG, setP]
  all_goals omega
def suR (t : Tb) (pid u : Int) : Int × Tb := chR t pid (suG u t)
theorem su (t : Tb) (pid u : Int) (ht : okT t) : Pure Tryz.prog gl 28 [TbL t, .int .i64 pid, .int .i64 u] (.tup [TbL (suR t pid u).2, .int .i64 (suR t pid u).1]) := by
  refine fn_pureT Tryz.func28 t28 Tryz.ntmps28 (by simp) ?_
  have hF := findI_lt t pid
  unfold c28 r28
  rw [TbL_eq t]
  repeat' (first | (simp (disch := first | exact dd | fail) only [go_sem]) | (refine allI (fun b => ?_)) | (refine allT (fun τ => ?_)) | (refine brP (fun h => ?_) (fun h => ?_) <;> (try simp only [zgx, zbx] at h)) | (refine gd ?_) | fail)
  rename_i b1 b2
  refine actsP_U (change t pid ht 73 [.ptr 5 b2 0] [(5, _)] (suG u t) (by kernel_rfl) fun i hi => su1 u b2 t i (by omega)) (List.Perm.swap _ _ _) ?_
  rintro _ _ ⟨rfl, rfl⟩
  have hR : suR t pid u = chR t pid (suG u t) := rfl
  rw [← hR]
  generalize suR t pid u = R at *
  obtain ⟨e, t'⟩ := R
  dsimp only
  rw [TbL_eq t']
  repeat' (first | (simp (disch := first | exact dd | fail) only [go_sem]) | (refine allI (fun b => ?_)) | (refine allT (fun τ => ?_)) | (refine brP (fun h => ?_) (fun h => ?_) <;> (try simp only [zgx, zbx] at h)) | (refine gd ?_) | fail)
def sgR (t : Tb) (pid u : Int) : Int × Tb := chR t pid (sgG u t)
theorem sg (t : Tb) (pid u : Int) (ht : okT t) : Pure Tryz.prog gl 40 [TbL t, .int .i64 pid, .int .i64 u] (.tup [TbL (sgR t pid u).2, .int .i64 (sgR t pid u).1]) := by
  refine fn_pureT Tryz.func40 t40 Tryz.ntmps40 (by simp) ?_
  have hF := findI_lt t pid
  unfold c40 r40
  rw [TbL_eq t]
  repeat' (first | (simp (disch := first | exact dd | fail) only [go_sem]) | (refine allI (fun b => ?_)) | (refine allT (fun τ => ?_)) | (refine brP (fun h => ?_) (fun h => ?_) <;> (try simp only [zgx, zbx] at h)) | (refine gd ?_) | fail)
  rename_i b1 b2
  refine actsP_U (change t pid ht 79 [.ptr 5 b2 0] [(5, _)] (sgG u t) (by kernel_rfl) fun i hi => sg1 u b2 t i (by omega)) (List.Perm.swap _ _ _) ?_
  rintro _ _ ⟨rfl, rfl⟩
  have hR : sgR t pid u = chR t pid (sgG u t) := rfl
  rw [← hR]
  generalize sgR t pid u = R at *
  obtain ⟨e, t'⟩ := R
  dsimp only
  rw [TbL_eq t']
  repeat' (first | (simp (disch := first | exact dd | fail) only [go_sem]) | (refine allI (fun b => ?_)) | (refine allT (fun τ => ?_)) | (refine brP (fun h => ?_) (fun h => ?_) <;> (try simp only [zgx, zbx] at h)) | (refine gd ?_) | fail)
end Go.Proofs.YtkdblnejpmbnfaaGreat
namespace Go.Proofs.YtkdblnejpmbnfaaGreat
open Go Go.Lx
set_option linter.unusedSimpArgs false
set_option linter.unusedVariables false
set_option maxRecDepth 100000
set_option maxHeartbeats 4000000
theorem invLab {w0 w : World} {M : Imm} {H H' : Heap} (h : Inv gl w0 M H w) (he : H.map (·.2) = H'.map (·.2)) : Inv gl w0 M H' w := Inv.names h he
theorem callLab {f : FuncId} {args args' : List LV} {H H' : Heap} {K : LV → Heap → Prop} (h : LCalls Tryz.prog gl f args H fun r H1 => ∃ H2, H1.map (·.2) = H2.map (·.2) ∧ K r H2) (hH : H'.map (·.2) = H.map (·.2)) (ha : ∀ M vs, RVs M args' vs → RVs M args vs) : LCalls Tryz.prog gl f args' H' K :=
  fun w0 M HF w vs hI hv => (h w0 M HF w vs (invLab hI (by rw [List.map_append, List.map_append, hH])) (ha M vs hv)).mono fun _ _ ⟨M', v, r, H1, h1, h2, h3, h4, H2, h5, h6⟩ =>
    ⟨M', v, r, H2, h1, h2, h3, invLab h4 (by rw [List.map_append, List.map_append, h5]), h6⟩
def loG (u : Int) (t : Tb) (i : Nat) : Int × Tb :=
  if idB u = false then (22, t) else if (pAt t i).auid ≠ 4294967295 ∧ (pAt t i).euid ≠ 0 then (1, t) else if 1073741824 ≤ t.ns then (11, t)
  else (0, { setP t i { pAt t i with auid := u, ses := t.ns } with ns := t.ns + 1 })
theorem loE {e : Int} {t : Tb} {bt b c : Nat} {Hc : Heap} (hc : t.ps.length ≤ c) : ∃ r' H', leVH gl (.int .i64 e) ((3, .blk bt [.int .i64 t.nx, .int .i64 t.ns, .msl 6000 14 b 0 t.ps.length c]) :: (6000, .blk b (Sp (t.ps.flatMap PsC) ((c - t.ps.length) * 14))) :: Hc) r' H' ∧ ∃ b' c', ((e, t) : Int × Tb).2.ps.length ≤ c' ∧ r' = .int .i64 ((e, t) : Int × Tb).1 ∧ H' = (3, .blk bt [.int .i64 ((e, t) : Int × Tb).2.nx, .int .i64 ((e, t) : Int × Tb).2.ns, .msl 6000 14 b' 0 ((e, t) : Int × Tb).2.ps.length c']) :: (6000, .blk b' (Sp (((e, t) : Int × Tb).2.ps.flatMap PsC) ((c' - ((e, t) : Int × Tb).2.ps.length) * 14))) :: Hc :=
  ⟨_, _, leVH.of (leV.refl _) ⟨_, List.Sublist.refl _, List.Perm.refl _⟩, b, c, hc, rfl, rfl⟩
theorem lo1 (u : Int) (b4 : Nat) (t : Tb) (i : Nat) (hi : i < t.ps.length) (hn : 0 ≤ t.ns) : ClOk 80 [.ptr 5 b4 0] [(5, .blk b4 [.int .i64 u])] t i (loG u t i) := by
  intro bt b c hc
  refine fn_viewT Tryz.func80 t80 Tryz.ntmps80 (by simp) ?_
  have hR : loG u t i = if idB u = false then (22, t) else if (pAt t i).auid ≠ 4294967295 ∧ (pAt t i).euid ≠ 0 then (1, t) else if 1073741824 ≤ t.ns then (11, t) else (0, { setP t i { pAt t i with auid := u, ses := t.ns } with ns := t.ns + 1 }) := rfl
  have hle := len_ps t.ps
  have g3 := gdSp (k := (c - t.ps.length) * 14) hi (j := 3) (by omega)
  have g6 := gdSp (k := (c - t.ps.length) * 14) hi (j := 6) (by omega)
  have hs := length_Sp (t.ps.flatMap PsC) ((c - t.ps.length) * 14)
  rw [PsC_eq] at g3 g6
  simp only [List.getD_cons_zero, List.getD_cons_succ] at g3 g6
  unfold c80 r80 ChH
  simp only [List.cons_append, List.nil_append]
  repeat' (first | (simp (disch := first | exact dd | fail) only [go_sem, g3, g6, putC_eq, putC_len]) | (refine allI (fun b => ?_)) | (refine allT (fun τ => ?_)) | (refine brP (fun h => ?_) (fun h => ?_) <;> (try simp only [zgx, zbx] at h)) | refine call_U (ident _) ?_ | refine callG_U (fun _ => ident _) ?_ | refine call_T (ident _) ?_ | refine callG_T (fun _ => ident _) ?_ | refine call_N (ident _) ?_ | refine call_of (ident _) ?_ | refine callG_of (fun _ => ident _) ?_ | (refine gd ?_) | fail)
  · rw [hR, if_pos (by assumption)]
    exact loE hc
  · rename_i hI
    rw [hR, if_neg (by rw [hI]; simp), if_pos (by unfold pAt; generalize t.ps.getD i ps0 = p at *; simpa using h)]
    exact loE hc
  · rename_i hI hA
    rw [hR, if_neg (by rw [hI]; simp), if_neg (by unfold pAt; generalize t.ps.getD i ps0 = p at *; intro ⟨hx, hy⟩; simp [hx, hy] at hA), if_pos (by omega)]
    exact loE hc
  · rename_i hI hA
    rw [hR, if_neg (by rw [hI]; simp), if_neg (by unfold pAt; generalize t.ps.getD i ps0 = p at *; intro ⟨hx, hy⟩; simp [hx, hy] at hA), if_neg (by omega), rowSet2 { pAt t i with auid := u } { pAt t i with auid := u, ses := t.ns } hi (by omega) (by omega) (Eq.trans rfl rfl) (Eq.trans rfl rfl)]
    refine ⟨_, _, leVH.of (leV.refl _) ⟨_, List.Sublist.refl _, List.Perm.refl _⟩, b, c, ?_, rfl, ?_⟩ <;> simp [setP]
    all_goals omega
def loR (t : Tb) (pid u : Int) : Int × Tb := chR t pid (loG u t)
theorem lo (t : Tb) (pid u : Int) (ht : okT t) (hn : 0 ≤ t.ns) : Pure Tryz.prog gl 42 [TbL t, .int .i64 pid, .int .i64 u] (.tup [TbL (loR t pid u).2, .int .i64 (loR t pid u).1]) := by
  refine fn_pureT Tryz.func42 t42 Tryz.ntmps42 (by simp) ?_
  have hF := findI_lt t pid
  unfold c42 r42
  rw [TbL_eq t]
  repeat' (first | (simp (disch := first | exact dd | fail) only [go_sem]) | (refine allI (fun b => ?_)) | (refine allT (fun τ => ?_)) | (refine brP (fun h => ?_) (fun h => ?_) <;> (try simp only [zgx, zbx] at h)) | (refine gd ?_) | fail)
  rename_i b1 b2
  refine actsP_U (change t pid ht 80 [.ptr 5 b2 0] [(5, _)] (loG u t) (by kernel_rfl) fun i hi => lo1 u b2 t i (by omega) hn) (List.Perm.swap _ _ _) ?_
  rintro _ _ ⟨rfl, rfl⟩
  have hR : loR t pid u = chR t pid (loG u t) := rfl
  rw [← hR]
  generalize loR t pid u = R at *
  obtain ⟨e, t'⟩ := R
  dsimp only
  rw [TbL_eq t']
  repeat' (first | (simp (disch := first | exact dd | fail) only [go_sem]) | (refine allI (fun b => ?_)) | (refine allT (fun τ => ?_)) | (refine brP (fun h => ?_) (fun h => ?_) <;> (try simp only [zgx, zbx] at h)) | (refine gd ?_) | fail)
def exG (e c : List UInt8) (t : Tb) (i : Nat) : Int × Tb := (0, setP t i { pAt t i with exe := e, comm := c })
theorem ex1 (e cm : List UInt8) (b4 b5 : Nat) (t : Tb) (i : Nat) (hi : i < t.ps.length) : ClOk 88 [.ptr 6 b4 0, .ptr 7 b5 0] [(7, .blk b5 [.str cm]), (6, .blk b4 [.str e])] t i (exG e cm t i) := by
  intro bt b c hc
  refine fn_viewT Tryz.func88 t88 Tryz.ntmps88 (by simp) ?_
  have hle := len_ps t.ps
  have hs := length_Sp (t.ps.flatMap PsC) ((c - t.ps.length) * 14)
  unfold c88 r88 ChH
  simp only [List.cons_append, List.nil_append]
  repeat' (first | (simp (disch := first | exact dd | fail) only [go_sem, putC_eq, putC_len]) | (refine allI (fun b => ?_)) | (refine allT (fun τ => ?_)) | (refine brP (fun h => ?_) (fun h => ?_) <;> (try simp only [zgx, zbx] at h)) | (refine gd ?_) | fail)
  rw [rowSet2 _ { pAt t i with exe := e, comm := cm } hi (by omega) (by omega) (Eq.trans (b := PsC { pAt t i with exe := e }) rfl rfl) (Eq.trans rfl rfl)]
  refine ⟨_, _, leVH.of (leV.refl _) ⟨_, List.Sublist.refl _, List.Perm.refl _⟩, b, c, ?_, rfl, ?_⟩ <;> simp [exG, setP]
  all_goals omega
def exR (t : Tb) (pid : Int) (e c : List UInt8) : Int × Tb := chR t pid (exG e c t)
theorem ex (t : Tb) (pid : Int) (e c : List UInt8) (ht : okT t) : Pure Tryz.prog gl 51 [TbL t, .int .i64 pid, .str e, .str c] (.tup [TbL (exR t pid e c).2, .int .i64 (exR t pid e c).1]) := by
  refine fn_pureT Tryz.func51 t51 Tryz.ntmps51 (by simp) ?_
  have hF := findI_lt t pid
  unfold c51 r51
  rw [TbL_eq t]
  repeat' (first | (simp (disch := first | exact dd | fail) only [go_sem]) | (refine allI (fun b => ?_)) | (refine allT (fun τ => ?_)) | (refine brP (fun h => ?_) (fun h => ?_) <;> (try simp only [zgx, zbx] at h)) | (refine gd ?_) | fail)
  rename_i b0 b1 b2
  refine actsP_U (change t pid ht 88 [.ptr 6 b1 0, .ptr 7 b2 0] [(7, _), (6, _)] (exG e c t) (by kernel_rfl) fun i hi => ex1 e c b1 b2 t i (by omega)) (List.perm_middle (l₁ := [_, _]) (l₂ := [_])).symm ?_
  rintro _ _ ⟨rfl, rfl⟩
  have hR : exR t pid e c = chR t pid (exG e c t) := rfl
  rw [← hR]
  generalize exR t pid e c = R at *
  obtain ⟨e, t'⟩ := R
  dsimp only
  rw [TbL_eq t']
  repeat' (first | (simp (disch := first | exact dd | fail) only [go_sem]) | (refine allI (fun b => ?_)) | (refine allT (fun τ => ?_)) | (refine brP (fun h => ?_) (fun h => ?_) <;> (try simp only [zgx, zbx] at h)) | (refine gd ?_) | fail)
def fkG (ch pid : Int) (t : Tb) (i : Nat) : Int × Tb :=
  if (16 : Int) ≤ t.ps.length ∨ 1073741824 ≤ t.nx then (11, t) else (0, { t with nx := t.nx + 1, ps := t.ps ++ [{ pAt t i with pid := ch, ppid := pid }] })
theorem takeSp {l : List Ps} {i k : Nat} (h : i < l.length) : ((Sp (l.flatMap PsC) k).drop (i * 14)).take 14 = PsC (l.getD i ps0) := by
  have e := take_rows (f := PsC) (w := 14) (fun _ => rfl) ps0 l h
  have hle := len_ps l
  have : (i + 1) * 14 ≤ l.length * 14 := Nat.mul_le_mul_right 14 h
  rw [← e, Sp, List.drop_append_of_le_length (by omega), List.take_append_of_le_length (by rw [List.length_drop]; omega)]
theorem fk0 (ch pid : Int) (b4 b5 : Nat) (t : Tb) (i : Nat) (hi : i < t.ps.length) (ht : okT t) (hn : 0 ≤ t.nx) (bt b c : Nat) (hc : t.ps.length ≤ c) : LCalls Tryz.prog gl 72 [.ptr 3 bt 0, .ptr 6000 b (i * 14), .ptr 6001 b4 0, .ptr 6002 b5 0] (ChH bt t b c ++ [(6001, .blk b4 [.int .i64 ch]), (6002, .blk b5 [.int .i64 pid])]) fun v H => ∃ b' c', (fkG ch pid t i).2.ps.length ≤ c' ∧ v = .int .i64 (fkG ch pid t i).1 ∧ H = ChH bt (fkG ch pid t i).2 b' c' ++ [(6001, .blk b4 [.int .i64 ch]), (6002, .blk b5 [.int .i64 pid])] := by
  refine fn_viewT Tryz.func72 t72 Tryz.ntmps72 (by simp) ?_
  have hR : fkG ch pid t i = if (16 : Int) ≤ t.ps.length ∨ 1073741824 ≤ t.nx then (11, t) else (0, { t with nx := t.nx + 1, ps := t.ps ++ [{ pAt t i with pid := ch, ppid := pid }] }) := rfl
  have hle := len_ps t.ps
  have hs := length_Sp (t.ps.flatMap PsC) ((c - t.ps.length) * 14)
  have e2 := takeSp (k := (c - t.ps.length) * 14) hi
  have hcp := cpp (t.ps.getD i ps0) (ht.2 _ (getD_memA ps0 hi))
  unfold c72 r72 ChH
  simp only [List.cons_append, List.nil_append]
  repeat' (first | (simp (disch := first | exact dd | fail) only [go_sem, e2, putC_eq, putC_len]) | (refine allI (fun b => ?_)) | (refine allT (fun τ => ?_)) | (refine brP (fun h => ?_) (fun h => ?_) <;> (try simp only [zgx, zbx] at h)) | (refine gd ?_) | fail)
  · rw [hR, if_pos (by assumption)]
    refine ⟨_, _, leVH.of (leV.refl _) ⟨_, List.Sublist.refl _, List.Perm.refl _⟩, b, c, ?_, rfl, ?_⟩ <;> simp
    all_goals omega
  · first | refine call_U (hcp) ?_ | refine call_T (hcp) ?_ | refine call_N (hcp) ?_ | refine call_of (hcp) ?_
    rw [hR, if_neg (by omega), PsC_eq]
    repeat' (first | (simp (disch := first | exact dd | fail) only [go_sem, zPs]) | (refine allI (fun b => ?_)) | (refine allT (fun τ => ?_)) | (refine brP (fun h => ?_) (fun h => ?_) <;> (try simp only [zgx, zbx] at h)) | (refine gd ?_) | fail)
    refine .inl ⟨by omega, by omega, by simp only [roomy]; omega, fun b2 c2 h3 => ?_⟩
    rw [take_Sp _ hle]
    refine ⟨_, _, leVH.of (leV.refl _) ⟨_, List.Sublist.cons_cons _ (List.Sublist.cons _ (List.Sublist.refl _)), List.Perm.swap _ _ _⟩, b2, c2, by simpa using h3, rfl, ?_⟩
    simp only [List.length_append, List.length_singleton, List.flatMap_append, List.flatMap_singleton, PsC_eq, Sp]
    rfl
theorem fk1 (ch pid : Int) (b4 b5 : Nat) (t : Tb) (i : Nat) (hi : i < t.ps.length) (ht : okT t) (hn : 0 ≤ t.nx) : ClOk 72 [.ptr 7 b4 0, .ptr 3 b5 0] [(7, .blk b4 [.int .i64 ch]), (3, .blk b5 [.int .i64 pid])] t i (fkG ch pid t i) := by
  intro bt b c hc
  refine callLab ((fk0 ch pid b4 b5 t i hi ht hn bt b c hc).mono ?_) rfl fun M vs h => h
  rintro v H ⟨b', c', h1, rfl, rfl⟩
  exact ⟨ChH bt (fkG ch pid t i).2 b' c' ++ [(7, .blk b4 [.int .i64 ch]), (3, .blk b5 [.int .i64 pid])], by simp [ChH], b', c', h1, rfl, rfl⟩
theorem chR_err {t : Tb} {pid : Int} {g : Nat → Int × Tb} (h : (chR t pid g).1 ≠ 0) : (chR t pid g).2 = tb0 := by
  unfold chR at h ⊢
  split
  · rfl
  · rename_i h1
    rw [if_neg h1] at h
    split
    · rfl
    · rename_i h2
      rw [if_neg h2] at h
      exact absurd rfl h
def fkR (t : Tb) (pid : Int) : Int × Tb := chR t pid (fkG t.nx pid t)
theorem fk (t : Tb) (pid : Int) (ht : okT t) (hn : 0 ≤ t.nx) : Pure Tryz.prog gl 27 [TbL t, .int .i64 pid] (.tup [TbL (fkR t pid).2, .int .i64 (if (fkR t pid).1 = 0 then t.nx else 0), .int .i64 (fkR t pid).1]) := by
  refine fn_pureT Tryz.func27 t27 Tryz.ntmps27 (by simp) ?_
  have hF := findI_lt t pid
  unfold c27 r27
  rw [TbL_eq t]
  repeat' (first | (simp (disch := first | exact dd | fail) only [go_sem]) | (refine allI (fun b => ?_)) | (refine allT (fun τ => ?_)) | (refine brP (fun h => ?_) (fun h => ?_) <;> (try simp only [zgx, zbx] at h)) | (refine gd ?_) | fail)
  rename_i b0 b1 b2
  refine actsP_U (H2 := [(4, _), (2, _)]) (change t pid ht 72 [.ptr 7 b 0, .ptr 3 b1 0] [(7, _), (3, _)] (fkG t.nx pid t) (by kernel_rfl) fun i hi => fk1 t.nx pid b b1 t i (by omega) ht hn) (List.Perm.cons _ (List.Perm.swap _ _ _)) ?_
  rintro _ _ ⟨rfl, rfl⟩
  have hz : (fkR t pid).1 ≠ 0 → (fkR t pid).2 = tb0 := chR_err
  have hR : fkR t pid = chR t pid (fkG t.nx pid t) := rfl
  rw [← hR]
  generalize fkR t pid = R at *
  obtain ⟨e, t'⟩ := R
  dsimp only
  rw [TbL_eq t']
  repeat' (first | (simp (disch := first | exact dd | fail) only [go_sem]) | (refine allI (fun b => ?_)) | (refine allT (fun τ => ?_)) | (refine brP (fun h => ?_) (fun h => ?_) <;> (try simp only [zgx, zbx] at h)) | (refine gd ?_) | fail)
  · have h0 := hz h
    dsimp only at h0
    subst h0
    rw [if_neg h]
    exact leV.tup ⟨tb0_le, leV.refl _, leV.refl _, trivial⟩
  · have h0 : e = 0 := by simpa using h
    subst h0
    exact leV.refl _
end Go.Proofs.YtkdblnejpmbnfaaGreat
