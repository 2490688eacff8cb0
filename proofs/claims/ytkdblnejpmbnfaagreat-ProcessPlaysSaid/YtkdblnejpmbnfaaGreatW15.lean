/- Layer 5: files, as the engine sees them; the node with a number. -/
import Derived.Test.YtkdblnejpmbnfaaGreatW14
import Derived.Test.YtkdblnejpmbnfaaGreatW09
import Derived.Test.YtkdblnejpmbnfaaGreatW08
import Derived.Test.YtkdblnejpmbnfaaGreatW10
namespace Go.Proofs.YtkdblnejpmbnfaaGreat.F
open Go Go.Lx
set_option linter.unusedSimpArgs false
set_option linter.unusedVariables false
set_option maxRecDepth 100000
set_option maxHeartbeats 4000000
structure En where
  nm : List UInt8
  ino : Int
def EnC (x : En) : List LV := [.str x.nm, .int .i64 x.ino]
theorem EnC_eq (x : En) : EnC x = [.str x.nm, .int .i64 x.ino] := Eq.trans rfl rfl
def en0 : En := ⟨[], 0⟩
theorem len_en (l : List En) : (l.flatMap EnC).length = l.length * 2 := length_rows (f := EnC) (w := 2) (fun _ => rfl) l
structure No where
  ino : Int
  kind : Int
  mode : Int
  uid : Int
  gid : Int
  par : Int
  tg : List UInt8
  es : List En
def NoO (n : No) (o : LV) : List LV := [.int .i64 n.ino, .int .i64 n.kind, .int .i64 n.mode, .int .i64 n.uid, .int .i64 n.gid, .int .i64 n.par, .str n.tg, o]
def NoC (n : No) : List LV := [.int .i64 n.ino, .int .i64 n.kind, .int .i64 n.mode, .int .i64 n.uid, .int .i64 n.gid, .int .i64 n.par, .str n.tg, .sl 2 n.es.length (n.es.flatMap EnC)]
theorem NoC_eq (n : No) : NoC n = [.int .i64 n.ino, .int .i64 n.kind, .int .i64 n.mode, .int .i64 n.uid, .int .i64 n.gid, .int .i64 n.par, .str n.tg, .sl 2 n.es.length (n.es.flatMap EnC)] := Eq.trans rfl rfl
def no0 : No := ⟨0, 0, 0, 0, 0, 0, [], []⟩
theorem len_no (l : List No) : (l.flatMap NoC).length = l.length * 8 := length_rows (f := NoC) (w := 8) (fun _ => rfl) l
theorem no0le : leVs [.int .i64 0, .int .i64 0, .int .i64 0, .int .i64 0, .int .i64 0, .int .i64 0, .str [], .fsl 1 0 []] (NoC no0) := ⟨leV.refl _, leV.refl _, leV.refl _, leV.refl _, leV.refl _, leV.refl _, leV.refl _, leV.nil_sl _ _, trivial⟩
structure Dv where
  nx : Int
  ns : List No
def DvC (d : Dv) : List LV := [.int .i64 d.nx, .sl 8 d.ns.length (d.ns.flatMap NoC)]
theorem DvC_eq (d : Dv) : DvC d = [.int .i64 d.nx, .sl 8 d.ns.length (d.ns.flatMap NoC)] := Eq.trans rfl rfl
def dv0 : Dv := ⟨0, []⟩
theorem len_dv (l : List Dv) : (l.flatMap DvC).length = l.length * 2 := length_rows (f := DvC) (w := 2) (fun _ => rfl) l
def FiL (fs : List Dv) : LV := .agg [.sl 2 fs.length (fs.flatMap DvC)]
theorem FiL_eq (fs : List Dv) : FiL fs = .agg [.sl 2 fs.length (fs.flatMap DvC)] := Eq.trans rfl rfl
structure At where
  d : Int
  i : Int
deriving DecidableEq
def AtL (x : At) : LV := .agg [.int .i64 x.d, .int .i64 x.i]
theorem AtL_eq (x : At) : AtL x = .agg [.int .i64 x.d, .int .i64 x.i] := Eq.trans rfl rfl
theorem zNo : zeros ([.int .i64 0, .int .i64 0, .int .i64 0, .int .i64 0, .int .i64 0, .int .i64 0, .str [], .fsl 1 0 []] : List LV) 8 = [.int .i64 0, .int .i64 0, .int .i64 0, .int .i64 0, .int .i64 0, .int .i64 0, .str [], .fsl 1 0 []] := Eq.trans rfl rfl
theorem zCh : zeros ([.int .i64 0, .int .i64 0, .str [], .int .i64 0, .int .i64 0, .int .i64 0, .int .i64 0] : List LV) 7 = [.int .i64 0, .int .i64 0, .str [], .int .i64 0, .int .i64 0, .int .i64 0, .int .i64 0] := Eq.trans rfl rfl
theorem zDv : zeros ([.int .i64 0, .fsl 1 0 []] : List LV) 2 = [.int .i64 0, .fsl 1 0 []] := Eq.trans rfl rfl
theorem zEn : zeros ([.str [], .int .i64 0] : List LV) 2 = [.str [], .int .i64 0] := Eq.trans rfl rfl
theorem zMo : zeros ([.int .i64 0, .int .i64 0, .int .i64 0] : List LV) 3 = [.int .i64 0, .int .i64 0, .int .i64 0] := Eq.trans rfl rfl
theorem zFo : zeros ([.int .i64 0, .int .i64 0, .str [], .int .i64 0, .int .i64 0, .bool false, .bool false, .str []] : List LV) 8 = [.int .i64 0, .int .i64 0, .str [], .int .i64 0, .int .i64 0, .bool false, .bool false, .str []] := Eq.trans rfl rfl
theorem zIt : zeros ([.str [], .str [], .int .i64 0, .int .i64 0, .str [], .int .i64 0, .int .i64 0, .int .i64 0, .int .i64 0, .int .i64 0, .int .i64 0, .int .i64 0, .int .i64 0] : List LV) 13 = [.str [], .str [], .int .i64 0, .int .i64 0, .str [], .int .i64 0, .int .i64 0, .int .i64 0, .int .i64 0, .int .i64 0, .int .i64 0, .int .i64 0, .int .i64 0] := Eq.trans rfl rfl
theorem pureE_end {x r : LV} {H : Heap} {Q : LV → Prop} (h : leV x r) (hq : Q r) : ∃ r' H', leVH gl x H r' H' ∧ (H' = [] ∧ Q r') := ⟨r, [], leVH.of h ⟨[], List.nil_sublist _, List.Perm.refl _⟩, rfl, hq⟩
def okD (d : Dv) : Prop := d.ns.length ≤ 1000 ∧ ∀ n ∈ d.ns, n.es.length ≤ 1000
def okF (fs : List Dv) : Prop := fs.length ≤ 1000 ∧ ∀ d ∈ fs, okD d
def dAt (fs : List Dv) (d : Int) : Dv := fs.getD d.toNat dv0
def nAt (ns : List No) (i : Nat) : No := ns.getD i no0
theorem okF.at {fs : List Dv} (h : okF fs) {d : Int} (h1 : d < fs.length) (h0 : 0 ≤ d) : okD (dAt fs d) := h.2 _ (getD_memA dv0 (by omega))
theorem okD.at {d : Dv} (h : okD d) {i : Nat} (h1 : i < d.ns.length) : (nAt d.ns i).es.length ≤ 1000 := h.2 _ (getD_memA no0 h1)
def ixP (ns : List No) (ino : Int) (i : Nat) : Bool := (nAt ns i).ino == ino
def ixI (ns : List No) (ino : Int) : Int := firstI ns.length (ixP ns ino)
def idx (fs : List Dv) (x : At) : Int := if x.d < 0 ∨ x.d ≥ fs.length then -1 else ixI (dAt fs x.d).ns x.i
theorem ixI_cases (ns : List No) (ino : Int) : (ixI ns ino = -1 ∧ ∀ j, j < ns.length → (nAt ns j).ino ≠ ino) ∨ ∃ i, i < ns.length ∧ ixI ns ino = (i : Nat) ∧ (nAt ns i).ino = ino ∧ ∀ j, j < i → (nAt ns j).ino ≠ ino := by
  rcases firstI_cases ns.length (ixP ns ino) with ⟨h1, h2⟩ | ⟨i, h1, h2, h3, h4⟩
  · exact .inl ⟨h1, fun j hj => by have := h2 j hj; simpa [ixP] using this⟩
  · exact .inr ⟨i, h1, h2, by simpa [ixP] using h3, fun j hj => by have := h4 j hj; simpa [ixP] using this⟩
theorem idx_cases (fs : List Dv) (x : At) : idx fs x = -1 ∨ ((0 ≤ x.d ∧ x.d < fs.length) ∧ ∃ i, i < (dAt fs x.d).ns.length ∧ idx fs x = (i : Nat) ∧ (nAt (dAt fs x.d).ns i).ino = x.i) := by
  unfold idx
  split
  · exact .inl rfl
  · rcases ixI_cases (dAt fs x.d).ns x.i with ⟨h1, _⟩ | ⟨i, h1, h2, h3, _⟩
    · exact .inl h1
    · exact .inr ⟨by omega, i, h1, h2, h3⟩
theorem gDv {fs : List Dv} {d : Int} {j : Nat} (h0 : 0 ≤ d) (h1 : d < fs.length) (hj : j < 2) : (fs.flatMap DvC).getD (d.toNat * 2 + j) .any = (DvC (dAt fs d)).getD j .any := getD_rows (f := DvC) (w := 2) (fun _ => rfl) hj dv0 _ _ (by omega)
theorem gNo {ns : List No} {i : Nat} {j : Nat} (h1 : i < ns.length) (hj : j < 8) : (ns.flatMap NoC).getD (i * 8 + j) .any = (NoC (nAt ns i)).getD j .any := getD_rows (f := NoC) (w := 8) (fun _ => rfl) hj no0 _ _ h1
theorem tNo {ns : List No} {i : Nat} (h1 : i < ns.length) : ((ns.flatMap NoC).drop (i * 8)).take 8 = NoC (nAt ns i) := take_rows (f := NoC) (w := 8) (fun _ => rfl) no0 _ h1
theorem ix (fs : List Dv) (x : At) (hf : okF fs) : Pure Tryz.prog gl 144 [FiL fs, AtL x] (.int .i64 (idx fs x)) := by
  refine fn_pureT Tryz.func144 t144 Tryz.ntmps144 (by simp) ?_
  have hl := hf.1
  have hld := len_dv fs
  have hR : idx fs x = if x.d < 0 ∨ x.d ≥ fs.length then -1 else ixI (dAt fs x.d).ns x.i := rfl
  have hg := fun h0 h1 => gDv (fs := fs) (d := x.d) (j := 1) h0 h1 (by omega)
  have hk := fun h0 h1 => (hf.at (d := x.d) h1 h0).1
  unfold c144 r144
  rw [FiL_eq, AtL_eq]
  by_cases hd : 0 ≤ x.d ∧ x.d < fs.length
  · obtain ⟨h0, h1⟩ := hd
    have hg := hg h0 h1
    have hk := hk h0 h1
    rw [if_neg (by omega)] at hR
    rw [hR]
    generalize dAt fs x.d = D at *
    rw [DvC_eq] at hg
    simp only [List.getD_cons_zero, List.getD_cons_succ] at hg
    have hln := len_no D.ns
    repeat' (first | (simp (disch := first | exact dd | fail) only [go_sem, hg]) | (refine allI (fun b => ?_)) | (refine allT (fun τ => ?_)) | (refine brP (fun h => ?_) (fun h => ?_) <;> (try simp only [zgx, zbx] at h)) | (refine gd ?_) | fail)
    · omega
    · rename_i b1 b2
      refine loopI (ι := Nat) (fun i => i ≤ D.ns.length ∧ ∀ j, j < i → ixP D.ns x.i j = false) (fun i => (6, .int .i64 i) :: _) (fun _ => _) (fun i => D.ns.length - i) 0 ⟨by omega, fun j hj => absurd hj (by omega)⟩ Ents.same ?_
      intro i hi
      have hiB := hi.1
      simp (disch := first | exact dd | fail) only [go_sem]
      refine brP (fun hb => ?_) (fun hb => ?_)
      · have hlt : i < D.ns.length := by simpa using hb
        have e3 : (D.ns.flatMap NoC).getD (i * 8) .any = .int .i64 (nAt D.ns i).ino := by
          rw [← Nat.add_zero (i * 8), gNo hlt (by omega)]; rfl
        have hf : ixP D.ns x.i i = ((nAt D.ns i).ino == x.i) := rfl
        generalize nAt D.ns i = n at *
        repeat' (first | (simp (disch := first | exact dd | fail) only [go_sem, e3]) | (refine allI (fun b => ?_)) | (refine allT (fun τ => ?_)) | (refine brP (fun h => ?_) (fun h => ?_) <;> (try simp only [zgx, zbx] at h)) | (refine gd ?_) | fail)
        · rw [ixI, firstI_is hlt (by rw [hf]; simpa using h) hi.2]
        · have hf2 : ixP D.ns x.i i = false := by rw [hf]; simpa using h
          exact ⟨⟨i + 1, by omega, fun j hj => (by omega : j < i ∨ j = i).elim (fun h3 => hi.2 j h3) (fun h3 => h3 ▸ hf2)⟩, by dsimp only; omega, Ents.envH (by simp [go_sem]) rfl⟩
      · repeat' (first | (simp (disch := first | exact dd | fail) only [go_sem]) | (refine allI (fun b => ?_)) | (refine allT (fun τ => ?_)) | (refine brP (fun h => ?_) (fun h => ?_) <;> (try simp only [zgx, zbx] at h)) | (refine gd ?_) | fail)
        rw [ixI, firstI_none fun j hj => hi.2 j (by simp only [decide_eq_false_iff_not] at hb; omega)]
  · rw [if_pos (by omega)] at hR
    rw [hR]
    repeat' (first | (simp (disch := first | exact dd | fail) only [go_sem]) | (refine allI (fun b => ?_)) | (refine allT (fun τ => ?_)) | (refine brP (fun h => ?_) (fun h => ?_) <;> (try simp only [zgx, zbx] at h)) | (refine gd ?_) | fail)
    all_goals omega
def nodeR (fs : List Dv) (x : At) : No × Bool := if idx fs x < 0 then (no0, false) else (nAt (dAt fs x.d).ns (idx fs x).toNat, true)
theorem node (fs : List Dv) (x : At) (hf : okF fs) : Pure Tryz.prog gl 124 [FiL fs, AtL x] (.tup [.agg (NoC (nodeR fs x).1), .bool (nodeR fs x).2]) := by
  refine fn_pureT Tryz.func124 t124 Tryz.ntmps124 (by simp) ?_
  have hX := ix fs x hf
  have hl := hf.1
  have hld := len_dv fs
  have hR : nodeR fs x = if idx fs x < 0 then (no0, false) else (nAt (dAt fs x.d).ns (idx fs x).toNat, true) := rfl
  have hc := idx_cases fs x
  have hg := fun h0 h1 => gDv (fs := fs) (d := x.d) (j := 1) h0 h1 (by omega)
  have hk := fun h0 h1 => hf.at (d := x.d) h1 h0
  generalize idx fs x = k at *
  unfold c124 r124
  rw [FiL_eq, AtL_eq] at *
  rcases hc with rfl | ⟨⟨h0, h1⟩, i, h2, rfl, h3⟩
  · rw [if_pos (by omega)] at hR
    rw [hR]
    repeat' (first | (simp (disch := first | exact dd | fail) only [go_sem]) | (refine allI (fun b => ?_)) | (refine allT (fun τ => ?_)) | (refine brP (fun h => ?_) (fun h => ?_) <;> (try simp only [zgx, zbx] at h)) | refine call_U (hX) ?_ | refine callG_U (fun _ => hX) ?_ | refine call_T (hX) ?_ | refine callG_T (fun _ => hX) ?_ | refine call_N (hX) ?_ | refine call_of (hX) ?_ | refine callG_of (fun _ => hX) ?_ | (refine gd ?_) | fail)
    exact leV.tup ⟨leV.agg no0le, leV.refl _, trivial⟩
  · have hg := hg h0 h1
    have hk := hk h0 h1
    rw [if_neg (by omega), Int.toNat_natCast] at hR
    rw [hR]
    generalize dAt fs x.d = D at *
    rw [DvC_eq] at hg
    simp only [List.getD_cons_zero, List.getD_cons_succ] at hg
    have hln := len_no D.ns
    have e3 := tNo h2
    have hk2 := hk.at h2
    generalize nAt D.ns i = n at *
    rw [NoC_eq] at e3
    have hle := len_en n.es
    repeat' (first | (simp (disch := first | exact dd | fail) only [go_sem, hg, e3]) | (refine allI (fun b => ?_)) | (refine allT (fun τ => ?_)) | (refine brP (fun h => ?_) (fun h => ?_) <;> (try simp only [zgx, zbx] at h)) | refine call_U (hX) ?_ | refine callG_U (fun _ => hX) ?_ | refine call_T (hX) ?_ | refine callG_T (fun _ => hX) ?_ | refine call_N (hX) ?_ | refine call_of (hX) ?_ | refine callG_of (fun _ => hX) ?_ | (refine gd ?_) | fail)
    · omega
    refine ⟨by simp only [roomy]; omega, fun τ => leV.tup ⟨leV.agg ⟨leV.refl _, leV.refl _, leV.refl _, leV.refl _, leV.refl _, leV.refl _, leV.refl _, leV.osl_sl _ _ _ _ _, trivial⟩, leV.refl _, trivial⟩⟩
def dirB (fs : List Dv) (x : At) : Bool := (nodeR fs x).2 && (nodeR fs x).1.kind == 2
theorem dir (fs : List Dv) (x : At) (hf : okF fs) : Pure Tryz.prog gl 119 [FiL fs, AtL x] (.bool (dirB fs x)) := by
  refine fn_pureT Tryz.func119 t119 Tryz.ntmps119 (by simp) ?_
  have hn := node fs x hf
  have hR : dirB fs x = ((nodeR fs x).2 && (nodeR fs x).1.kind == 2) := rfl
  rw [hR]
  generalize nodeR fs x = R at *
  obtain ⟨n, b⟩ := R
  dsimp only at *
  rw [NoC_eq] at hn
  unfold c119 r119
  rw [FiL_eq, AtL_eq] at *
  repeat' (first | (simp (disch := first | exact dd | fail) only [go_sem]) | (refine allI (fun b => ?_)) | (refine allT (fun τ => ?_)) | (refine brP (fun h => ?_) (fun h => ?_) <;> (try simp only [zgx, zbx] at h)) | refine call_U (hn) ?_ | refine callG_U (fun _ => hn) ?_ | refine call_T (hn) ?_ | refine callG_T (fun _ => hn) ?_ | refine call_N (hn) ?_ | refine call_of (hn) ?_ | refine callG_of (fun _ => hn) ?_ | (refine gd ?_) | fail)
end Go.Proofs.YtkdblnejpmbnfaaGreat.F
namespace Go.Proofs.YtkdblnejpmbnfaaGreat.F
open Go Go.Lx
set_option linter.unusedSimpArgs false
set_option linter.unusedVariables false
set_option maxRecDepth 100000
set_option maxHeartbeats 4000000
theorem nodeR_es {fs : List Dv} (hf : okF fs) (x : At) : (nodeR fs x).1.es.length ≤ 1000 := by
  unfold nodeR
  rcases idx_cases fs x with h | ⟨⟨h0, h1⟩, i, h2, h3, h4⟩
  · rw [h, if_pos (by omega)]; simp [no0]
  · rw [h3, if_neg (by omega), Int.toNat_natCast]
    exact (hf.at h1 h0).at h2
theorem gEn {es : List En} {i : Nat} {j : Nat} (h1 : i < es.length) (hj : j < 2) : (es.flatMap EnC).getD (i * 2 + j) .any = (EnC (es.getD i en0)).getD j .any := getD_rows (f := EnC) (w := 2) (fun _ => rfl) hj en0 _ _ h1
theorem look (fs : List Dv) (x : At) (s : List UInt8) (hf : okF fs) : PureE Tryz.prog gl 122 [FiL fs, AtL x, .str s] fun v => ∃ r : At × Int, (r.2 = 0 → r.1.d = x.d) ∧ v = .tup [AtL r.1, .int .i64 r.2] := by
  refine fn_viewT Tryz.func122 t122 Tryz.ntmps122 (by simp) ?_
  have hn := node fs x hf
  have hk := nodeR_es hf x
  generalize nodeR fs x = R at *
  obtain ⟨n, b⟩ := R
  dsimp only at *
  have hle := len_en n.es
  rw [NoC_eq] at hn
  unfold c122 r122
  rw [FiL_eq, AtL_eq] at *
  repeat' (first | (simp (disch := first | exact dd | fail) only [go_sem]) | (refine allI (fun b => ?_)) | (refine allT (fun τ => ?_)) | (refine brP (fun h => ?_) (fun h => ?_) <;> (try simp only [zgx, zbx] at h)) | refine call_U (hn) ?_ | refine callG_U (fun _ => hn) ?_ | refine call_T (hn) ?_ | refine callG_T (fun _ => hn) ?_ | refine call_N (hn) ?_ | refine call_of (hn) ?_ | refine callG_of (fun _ => hn) ?_ | (refine gd ?_) | fail)
  · exact pureE_end (leV.refl _) ⟨(⟨0, 0⟩, 2), by simp, rfl⟩
  · exact pureE_end (leV.refl _) ⟨(⟨0, 0⟩, 20), by simp, rfl⟩
  · refine loopI (ι := Nat) (fun i => i ≤ n.es.length) (fun i => (10, .int .i64 i) :: _) (fun _ => _) (fun i => n.es.length - i) 0 (by omega) Ents.same ?_
    intro i hi
    simp (disch := first | exact dd | fail) only [go_sem]
    refine brP (fun hb => ?_) (fun hb => ?_)
    · have hlt : i < n.es.length := by simpa using hb
      have e3 : (n.es.flatMap EnC).getD (i * 2) .any = .str (n.es.getD i en0).nm := by rw [← Nat.add_zero (i * 2), gEn hlt (by omega)]; rfl
      have e4 : (n.es.flatMap EnC).getD (i * 2 + 1) .any = .int .i64 (n.es.getD i en0).ino := by rw [gEn hlt (by omega)]; rfl
      generalize n.es.getD i en0 = y at *
      repeat' (first | (simp (disch := first | exact dd | fail) only [go_sem, e3, e4]) | (refine allI (fun b => ?_)) | (refine allT (fun τ => ?_)) | (refine brP (fun h => ?_) (fun h => ?_) <;> (try simp only [zgx, zbx] at h)) | (refine gd ?_) | fail)
      · exact pureE_end (leV.refl _) ⟨(⟨x.d, y.ino⟩, 0), fun _ => rfl, rfl⟩
      · exact ⟨⟨i + 1, by omega⟩, by dsimp only; omega, Ents.envH (by simp [go_sem]) rfl⟩
    · repeat' (first | (simp (disch := first | exact dd | fail) only [go_sem]) | (refine allI (fun b => ?_)) | (refine allT (fun τ => ?_)) | (refine brP (fun h => ?_) (fun h => ?_) <;> (try simp only [zgx, zbx] at h)) | (refine gd ?_) | fail)
      exact pureE_end (leV.refl _) ⟨(⟨0, 0⟩, 2), by simp, rfl⟩
theorem nm (s : List UInt8) (hs : s.length ≤ 1000000000) : PureE Tryz.prog gl 123 [.str s] fun v => ∃ b : Bool, (b = true → s.length ≤ 12) ∧ v = .bool b := by
  refine fn_viewT Tryz.func123 t123 Tryz.ntmps123 (by simp) ?_
  unfold c123 r123
  repeat' (first | (simp (disch := first | exact dd | fail) only [go_sem]) | (refine allI (fun b => ?_)) | (refine allT (fun τ => ?_)) | (refine brP (fun h => ?_) (fun h => ?_) <;> (try simp only [zgx, zbx] at h)) | (refine gd ?_) | fail)
  · exact pureE_end (leV.refl _) ⟨false, by simp, rfl⟩
  · have hl : s.length ≤ 12 := by omega
    refine loopI (ι := Nat) (fun i => i ≤ s.length) (fun i => (3, .int .i64 i) :: _) (fun _ => _) (fun i => s.length - i) 0 (by omega) Ents.same ?_
    intro i hi
    simp (disch := first | exact dd | fail) only [go_sem]
    refine brP (fun hb => ?_) (fun hb => ?_)
    · have hlt : i < s.length := by simpa using hb
      repeat' (first | (simp (disch := first | exact dd | fail) only [go_sem]) | (refine allI (fun b => ?_)) | (refine allT (fun τ => ?_)) | (refine brP (fun h => ?_) (fun h => ?_) <;> (try simp only [zgx, zbx] at h)) | (refine gd ?_) | fail)
      · exact pureE_end (leV.refl _) ⟨false, by simp, rfl⟩
      · exact ⟨⟨i + 1, by omega⟩, by dsimp only; omega, Ents.envH (by simp [go_sem]) rfl⟩
    · repeat' (first | (simp (disch := first | exact dd | fail) only [go_sem]) | (refine allI (fun b => ?_)) | (refine allT (fun τ => ?_)) | (refine brP (fun h => ?_) (fun h => ?_) <;> (try simp only [zgx, zbx] at h)) | (refine gd ?_) | fail)
      exact pureE_end (leV.refl _) ⟨true, fun _ => hl, rfl⟩
theorem place2 (fs : List Dv) (x : At) (s : List UInt8) (hf : okF fs) (hs : s.length ≤ 1000000000) : PureE Tryz.prog gl 149 [FiL fs, AtL x, .str s] fun v => ∃ e : Int, ((e = 0 → dirB fs x = true ∧ s.length ≤ 12) ∧ (e = 0 ∨ e = 2 ∨ e = 20 ∨ e = 22)) ∧ v = .int .i64 e := by
  refine fn_viewT Tryz.func149 t149 Tryz.ntmps149 (by simp) ?_
  have hn := node fs x hf
  have hR : dirB fs x = ((nodeR fs x).2 && (nodeR fs x).1.kind == 2) := rfl
  generalize nodeR fs x = R at *
  obtain ⟨n, b⟩ := R
  dsimp only at *
  rw [NoC_eq] at hn
  unfold c149 r149
  rw [FiL_eq, AtL_eq] at *
  repeat' (first | (simp (disch := first | exact dd | fail) only [go_sem]) | (refine allI (fun b => ?_)) | (refine allT (fun τ => ?_)) | (refine brP (fun h => ?_) (fun h => ?_) <;> (try simp only [zgx, zbx] at h)) | refine call_U (hn) ?_ | refine callG_U (fun _ => hn) ?_ | refine call_T (hn) ?_ | refine callG_T (fun _ => hn) ?_ | refine call_N (hn) ?_ | refine call_of (hn) ?_ | refine callG_of (fun _ => hn) ?_ | (refine gd ?_) | fail)
  · exact pureE_end (leV.refl _) ⟨2, ⟨by simp, by omega⟩, rfl⟩
  · exact pureE_end (leV.refl _) ⟨20, ⟨by simp, by omega⟩, rfl⟩
  · rename_i hb hk
    first | refine pureE_U (nm s hs) ?_ | refine pureE_T (nm s hs) ?_ | refine pureE_of (nm s hs) ?_
    rintro _ ⟨c, hc, rfl⟩
    repeat' (first | (simp (disch := first | exact dd | fail) only [go_sem]) | (refine allI (fun b => ?_)) | (refine allT (fun τ => ?_)) | (refine brP (fun h => ?_) (fun h => ?_) <;> (try simp only [zgx, zbx] at h)) | (refine gd ?_) | fail)
    · exact pureE_end (leV.refl _) ⟨22, ⟨by simp, by omega⟩, rfl⟩
    · exact pureE_end (leV.refl _) ⟨0, ⟨fun _ => ⟨by rw [hR]; simp_all, hc h⟩, by omega⟩, rfl⟩
theorem place (fs : List Dv) (x : At) (s : List UInt8) (hf : okF fs) (hs : s.length ≤ 1000000000) : PureE Tryz.prog gl 149 [FiL fs, AtL x, .str s] fun v => ∃ e : Int, (e = 0 → dirB fs x = true ∧ s.length ≤ 12) ∧ v = .int .i64 e :=
  (place2 fs x s hf hs).mono fun _ _ ⟨h1, e, ⟨h2, _⟩, h3⟩ => ⟨h1, e, h2, h3⟩
theorem full (fs : List Dv) (x : At) (hf : okF fs) : Pure Tryz.prog gl 150 [FiL fs, AtL x] (.bool (decide ((12 : Int) ≤ (nodeR fs x).1.es.length))) := by
  refine fn_pureT Tryz.func150 t150 Tryz.ntmps150 (by simp) ?_
  have hn := node fs x hf
  generalize nodeR fs x = R at *
  obtain ⟨n, b⟩ := R
  dsimp only at *
  rw [NoC_eq] at hn
  unfold c150 r150
  rw [FiL_eq, AtL_eq] at *
  repeat' (first | (simp (disch := first | exact dd | fail) only [go_sem]) | (refine allI (fun b => ?_)) | (refine allT (fun τ => ?_)) | (refine brP (fun h => ?_) (fun h => ?_) <;> (try simp only [zgx, zbx] at h)) | refine call_U (hn) ?_ | refine callG_U (fun _ => hn) ?_ | refine call_T (hn) ?_ | refine callG_T (fun _ => hn) ?_ | refine call_N (hn) ?_ | refine call_of (hn) ?_ | refine callG_of (fun _ => hn) ?_ | (refine gd ?_) | fail)
theorem empty (fs : List Dv) (x : At) (hf : okF fs) : Pure Tryz.prog gl 155 [FiL fs, AtL x] (.bool (((nodeR fs x).1.es.length : Int) == 0)) := by
  refine fn_pureT Tryz.func155 t155 Tryz.ntmps155 (by simp) ?_
  have hn := node fs x hf
  generalize nodeR fs x = R at *
  obtain ⟨n, b⟩ := R
  dsimp only at *
  rw [NoC_eq] at hn
  unfold c155 r155
  rw [FiL_eq, AtL_eq] at *
  repeat' (first | (simp (disch := first | exact dd | fail) only [go_sem]) | (refine allI (fun b => ?_)) | (refine allT (fun τ => ?_)) | (refine brP (fun h => ?_) (fun h => ?_) <;> (try simp only [zgx, zbx] at h)) | refine call_U (hn) ?_ | refine callG_U (fun _ => hn) ?_ | refine call_T (hn) ?_ | refine callG_T (fun _ => hn) ?_ | refine call_N (hn) ?_ | refine call_of (hn) ?_ | refine callG_of (fun _ => hn) ?_ | (refine gd ?_) | fail)
theorem target (s : List UInt8) (hs : s.length ≤ 1000000000) : PureE Tryz.prog gl 161 [.str s] fun v => ∃ b : Bool, v = .bool b := by
  refine fn_viewT Tryz.func161 t161 Tryz.ntmps161 (by simp) ?_
  unfold c161 r161
  repeat' (first | (simp (disch := first | exact dd | fail) only [go_sem]) | (refine allI (fun b => ?_)) | (refine allT (fun τ => ?_)) | (refine brP (fun h => ?_) (fun h => ?_) <;> (try simp only [zgx, zbx] at h)) | (refine gd ?_) | fail)
  refine loopI (ι := Nat) (fun i => i ≤ s.length) (fun i => (3, .int .i64 i) :: _) (fun _ => _) (fun i => s.length - i) 0 (by omega) Ents.same ?_
  intro i hi
  simp (disch := first | exact dd | fail) only [go_sem]
  refine brP (fun hb => ?_) (fun hb => ?_)
  · have hlt : i < s.length := by simpa using hb
    repeat' (first | (simp (disch := first | exact dd | fail) only [go_sem]) | (refine allI (fun b => ?_)) | (refine allT (fun τ => ?_)) | (refine brP (fun h => ?_) (fun h => ?_) <;> (try simp only [zgx, zbx] at h)) | (refine gd ?_) | fail)
    · exact pureE_end (leV.refl _) ⟨_, rfl⟩
    · exact ⟨⟨i + 1, by omega⟩, by dsimp only; omega, Ents.envH (by simp [go_sem]) rfl⟩
  · repeat' (first | (simp (disch := first | exact dd | fail) only [go_sem]) | (refine allI (fun b => ?_)) | (refine allT (fun τ => ?_)) | (refine brP (fun h => ?_) (fun h => ?_) <;> (try simp only [zgx, zbx] at h)) | (refine gd ?_) | fail)
    exact pureE_end (leV.refl _) ⟨_, rfl⟩
theorem plain (n : No) (o : LV) (hs : n.tg.length ≤ 1000000000) : PureE Tryz.prog gl 157 [.agg (NoO n o)] fun v => ∃ b : Bool, v = .bool b := by
  refine fn_viewT Tryz.func157 t157 Tryz.ntmps157 (by simp) ?_
  unfold c157 r157 NoO
  repeat' (first | (simp (disch := first | exact dd | fail) only [go_sem]) | (refine allI (fun b => ?_)) | (refine allT (fun τ => ?_)) | (refine brP (fun h => ?_) (fun h => ?_) <;> (try simp only [zgx, zbx] at h)) | (refine gd ?_) | fail)
  · exact pureE_end (leV.refl _) ⟨_, rfl⟩
  · first | refine pureE_U (target n.tg hs) ?_ | refine pureE_T (target n.tg hs) ?_ | refine pureE_of (target n.tg hs) ?_
    rintro _ ⟨c, rfl⟩
    repeat' (first | (simp (disch := first | exact dd | fail) only [go_sem]) | (refine allI (fun b => ?_)) | (refine allT (fun τ => ?_)) | (refine brP (fun h => ?_) (fun h => ?_) <;> (try simp only [zgx, zbx] at h)) | (refine gd ?_) | fail)
    exact pureE_end (leV.refl _) ⟨_, rfl⟩
  · exact pureE_end (leV.refl _) ⟨_, rfl⟩
structure Ch where
  dir : At
  nm : List UInt8
  old : At
  nw : At
def ChC (c : Ch) : List LV := [.int .i64 c.dir.d, .int .i64 c.dir.i, .str c.nm, .int .i64 c.old.d, .int .i64 c.old.i, .int .i64 c.nw.d, .int .i64 c.nw.i]
theorem ChC_eq (c : Ch) : ChC c = [.int .i64 c.dir.d, .int .i64 c.dir.i, .str c.nm, .int .i64 c.old.d, .int .i64 c.old.i, .int .i64 c.nw.d, .int .i64 c.nw.i] := Eq.trans rfl rfl
def ChS (l : List Ch) : LV := .sl 7 l.length (l.flatMap ChC)
theorem one (x : At) (s : List UInt8) (y z : At) : Pure Tryz.prog gl 152 [AtL x, .str s, AtL y, AtL z] (.fsl 7 1 (ChC ⟨x, s, y, z⟩)) := by
  refine fn_pureT Tryz.func152 t152 Tryz.ntmps152 (by simp) ?_
  unfold c152 r152
  rw [AtL_eq, AtL_eq, AtL_eq, ChC_eq]
  repeat' (first | (simp (disch := first | exact dd | fail) only [go_sem, zCh]) | (refine allI (fun b => ?_)) | (refine allT (fun τ => ?_)) | (refine brP (fun h => ?_) (fun h => ?_) <;> (try simp only [zgx, zbx] at h)) | (refine gd ?_) | fail)
end Go.Proofs.YtkdblnejpmbnfaaGreat.F
namespace Go.Proofs.YtkdblnejpmbnfaaGreat.F
open Go Go.Lx
set_option linter.unusedSimpArgs false
set_option linter.unusedVariables false
set_option maxRecDepth 100000
set_option maxHeartbeats 8000000
theorem NoO_le (n : No) (i : Nat) (τ : Tok) : leVs (NoO n (.osl i τ 2 n.es.length (n.es.flatMap EnC))) (NoC n) := ⟨leV.refl _, leV.refl _, leV.refl _, leV.refl _, leV.refl _, leV.refl _, leV.refl _, leV.osl_sl _ _ _ _ _, trivial⟩
theorem leVs.app {xs xs' ys ys' : List LV} (h : leVs xs xs') (h' : leVs ys ys') : leVs (xs ++ ys) (xs' ++ ys') := by
  induction xs generalizing xs' with
  | nil => cases xs' with
    | nil => exact h'
    | cons => exact h.elim
  | cons x xs ih => cases xs' with
    | nil => exact h.elim
    | cons x' xs' => exact ⟨h.1, ih h.2⟩
theorem copyF (fs : List Dv) (hf : okF fs) : Pure Tryz.prog gl 114 [FiL fs] (FiL fs) := by
  refine fn_pureT Tryz.func114 t114 Tryz.ntmps114 (by simp) ?_
  have hl := hf.1
  have hld := len_dv fs
  unfold c114 r114
  rw [FiL_eq]
  repeat' (first | (simp (disch := first | exact dd | fail) only [go_sem]) | (refine allI (fun b => ?_)) | (refine allT (fun τ => ?_)) | (refine brP (fun h => ?_) (fun h => ?_) <;> (try simp only [zgx, zbx] at h)) | (refine gd ?_) | fail)
  rename_i b1 b2
  refine loopI (ι := Nat × Tok) (fun y => y.1 ≤ fs.length) (fun y => [(4, .int .i64 y.1), (3, .ptr 3 b 0), (2, .ptr 2 b2 0), (1, .ptr 1 b1 0)]) (fun y => [(56, .tok y.2), (3, .blk b [.osl 56 y.2 2 y.1 ((fs.take y.1).flatMap DvC)]), (2, .blk b2 [.fsl 1 0 []]), (1, .blk b1 [.sl 2 fs.length (fs.flatMap DvC)])]) (fun y => fs.length - y.1) (0, ⟨0, 0, 0⟩) (by simp) ?_ ?_
  · refine Ents.dum 56 (Ents.le (by simp [go_sem]) ⟨rfl, ⟨rfl, leV.nil_osl _ _ _ _, trivial⟩, ⟨rfl, leVs.refl _⟩, ⟨rfl, leVs.refl _⟩, trivial⟩)
  · rintro ⟨i, τ⟩ hi
    dsimp only at hi ⊢
    simp (disch := first | exact dd | fail) only [go_sem]
    refine brP (fun hb => ?_) (fun hb => ?_)
    · have hlt : i < fs.length := by simpa using hb
      have e1 : (fs.flatMap DvC).getD (i * 2) .any = .int .i64 (fs.getD i dv0).nx := by rw [← Nat.add_zero (i * 2), getD_rows (f := DvC) (w := 2) (fun _ => rfl) (by omega) dv0 _ _ hlt]; rfl
      have e2 : (fs.flatMap DvC).getD (i * 2 + 1) .any = .sl 8 (fs.getD i dv0).ns.length ((fs.getD i dv0).ns.flatMap NoC) := by rw [getD_rows (f := DvC) (w := 2) (fun _ => rfl) (by omega) dv0 _ _ hlt]; rfl
      have hts := take_succ_getD dv0 fs hlt
      have hk := hf.2 _ (getD_memA dv0 hlt)
      generalize fs.getD i dv0 = D at *
      obtain ⟨hk1, hk2⟩ := hk
      have hln := len_no D.ns
      repeat' (first | (simp (disch := first | exact dd | fail) only [go_sem, e1, e2, zDv]) | (refine allI (fun b => ?_)) | (refine allT (fun τ => ?_)) | (refine brP (fun h => ?_) (fun h => ?_) <;> (try simp only [zgx, zbx] at h)) | (refine gd ?_) | fail)
      rename_i b3
      refine loopI (ι := Nat × Tok) (fun y => y.1 ≤ D.ns.length) (fun y => [(6, .int .i64 y.1), (5, .ptr 5 b 0), (4, .int .i64 i), (3, .ptr 3 b3 0), (2, .ptr 2 b2 0), (1, .ptr 1 b1 0)]) (fun y => [(50, .tok y.2), (5, .blk b [.int .i64 D.nx, .osl 50 y.2 8 y.1 ((D.ns.take y.1).flatMap NoC)]), (56, .tok τ), (3, .blk b3 [.osl 56 τ 2 i ((fs.take i).flatMap DvC)]), (2, .blk b2 [.fsl 1 0 []]), (1, .blk b1 [.sl 2 fs.length (fs.flatMap DvC)])]) (fun y => D.ns.length - y.1) (0, ⟨0, 0, 0⟩) (by simp) ?_ ?_
      · refine Ents.dum 50 (Ents.le (by simp [go_sem]) ⟨rfl, ⟨rfl, leV.refl _, leV.nil_osl _ _ _ _, trivial⟩, rfl, ⟨rfl, leVs.refl _⟩, ⟨rfl, leVs.refl _⟩, ⟨rfl, leVs.refl _⟩, trivial⟩)
      · rintro ⟨k, τ2⟩ hkk
        dsimp only at hkk ⊢
        simp (disch := first | exact dd | fail) only [go_sem, e1, e2]
        refine ⟨by omega, by omega, ?_⟩
        refine brP (fun hb => ?_) (fun hb => ?_)
        · have hlt2 : k < D.ns.length := by simpa using hb
          have e3 := tNo hlt2
          have hts2 := take_succ_getD no0 D.ns hlt2
          rw [← nAt] at hts2
          have hes := hk2 _ (getD_memA no0 hlt2)
          rw [← nAt] at hes
          generalize nAt D.ns k = n at *
          have hle := len_en n.es
          rw [NoC_eq] at e3
          repeat' (first | (simp (disch := first | exact dd | fail) only [go_sem, e1, e2, e3, zNo]) | (refine allI (fun b => ?_)) | (refine allT (fun τ => ?_)) | (refine brP (fun h => ?_) (fun h => ?_) <;> (try simp only [zgx, zbx] at h)) | (refine gd ?_) | fail)
          refine ⟨by simp only [roomy]; omega, fun τ3 => ?_⟩
          repeat' (first | (simp (disch := first | exact dd | fail) only [go_sem, zNo]) | (refine allI (fun b => ?_)) | (refine allT (fun τ => ?_)) | (refine brP (fun h => ?_) (fun h => ?_) <;> (try simp only [zgx, zbx] at h)) | (refine gd ?_) | fail)
          refine ⟨by simp only [roomy]; omega, fun τ4 => ⟨⟨(k + 1, τ4), by dsimp only; omega⟩, by dsimp only; omega, ?_⟩⟩
          refine Ents.heap _ (by simp [go_sem]) ⟨_, List.Sublist.cons_cons _ (List.Sublist.cons _ (List.Sublist.cons _ (List.Sublist.refl _))), List.Perm.refl _⟩ ⟨rfl, ⟨rfl, leV.refl _, leV.osl ?_, trivial⟩, rfl, ⟨rfl, leVs.refl _⟩, ⟨rfl, leVs.refl _⟩, ⟨rfl, leVs.refl _⟩, trivial⟩
          dsimp only
          rw [hts2, List.flatMap_append, List.flatMap_singleton]
          exact leVs.app (leVs.refl _) (NoO_le n 44 τ3)
        · have hlen : k = D.ns.length := by simp only [decide_eq_false_iff_not] at hb; omega
          subst hlen
          rw [List.take_length]
          repeat' (first | (simp (disch := first | exact dd | fail) only [go_sem, zDv]) | (refine allI (fun b => ?_)) | (refine allT (fun τ => ?_)) | (refine brP (fun h => ?_) (fun h => ?_) <;> (try simp only [zgx, zbx] at h)) | (refine gd ?_) | fail)
          refine ⟨by simp only [roomy]; omega, fun τ3 => ⟨⟨(i + 1, τ3), by dsimp only; omega⟩, by dsimp only; omega, ?_⟩⟩
          refine Ents.heap _ (by simp [go_sem]) ⟨_, List.Sublist.cons_cons _ (List.Sublist.cons _ (List.Sublist.cons _ (List.Sublist.refl _))), List.Perm.refl _⟩ ⟨rfl, ⟨rfl, leV.osl ?_, trivial⟩, ⟨rfl, leVs.refl _⟩, ⟨rfl, leVs.refl _⟩, trivial⟩
          dsimp only
          rw [hts, List.flatMap_append, List.flatMap_singleton]
          exact leVs.app (leVs.refl _) ⟨leV.refl _, leV.osl_sl _ _ _ _ _, trivial⟩
    · have hlen : i = fs.length := by simp only [decide_eq_false_iff_not] at hb; omega
      repeat' (first | (simp (disch := first | exact dd | fail) only [go_sem]) | (refine allI (fun b => ?_)) | (refine allT (fun τ => ?_)) | (refine brP (fun h => ?_) (fun h => ?_) <;> (try simp only [zgx, zbx] at h)) | (refine gd ?_) | fail)
      rw [hlen, List.take_length]
      exact leV.agg ⟨leV.osl_sl _ _ _ _ _, trivial⟩
end Go.Proofs.YtkdblnejpmbnfaaGreat.F
namespace Go.Proofs.YtkdblnejpmbnfaaGreat.F
open Go Go.Lx
set_option linter.unusedSimpArgs false
set_option linter.unusedVariables false
set_option maxRecDepth 100000
set_option maxHeartbeats 8000000
def FoC (fs : List Dv) (dv : Nat) (v : LV) : List LV := putC (fs.flatMap DvC) (dv * 2 + 1) v
theorem putC_app {xs ys : List LV} {o : Nat} (v : LV) (h : o < xs.length) : putC (xs ++ ys) o v = putC xs o v ++ ys := by
  rw [putC_set v (by rw [List.length_append]; omega), putC_set v h, List.set_append_left _ _ h]
theorem FoC_len {fs : List Dv} {dv : Nat} (v : LV) (h : dv < fs.length) : (FoC fs dv v).length = fs.length * 2 := by
  rw [FoC, putC_len _ (by rw [len_dv]; omega), len_dv]
theorem FoC_app {fs : List Dv} {dv : Nat} {d : Dv} {v : LV} (h : dv < fs.length) : FoC (fs ++ [d]) dv v = FoC fs dv v ++ DvC d := by
  rw [FoC, List.flatMap_append, putC_app v (by rw [len_dv]; omega), List.flatMap_singleton]; rfl
theorem FoC_last {fs : List Dv} {d : Dv} {v : LV} : FoC (fs ++ [d]) fs.length v = fs.flatMap DvC ++ [.int .i64 d.nx, v] := by
  rw [FoC, List.flatMap_append, putC_set v (by rw [List.length_append, len_dv, len_dv]; simp), List.set_append_right _ _ (by rw [len_dv]; omega), len_dv, List.flatMap_singleton]
  congr 1
  rw [show fs.length * 2 + 1 - fs.length * 2 = 1 by omega]; rfl
theorem leVs_eq {xs ys : List LV} (h : xs = ys) : leVs xs ys := h ▸ leVs.refl _
def cpC (fs : List Dv) (dv i b1 c1 : Nat) : List LV := if i ≤ dv then (fs.take i).flatMap DvC else FoC (fs.take i) dv (.msl 7001 8 b1 0 (fs.getD dv dv0).ns.length c1)
def cpB (fs : List Dv) (dv i c1 : Nat) : List LV := if i ≤ dv then [] else Sp ((fs.getD dv dv0).ns.flatMap NoC) ((c1 - (fs.getD dv dv0).ns.length) * 8)
theorem cpC_len {fs : List Dv} {dv i b1 c1 : Nat} (hi : i ≤ fs.length) : (cpC fs dv i b1 c1).length = i * 2 := by
  unfold cpC
  split
  · rw [len_dv, List.length_take, Nat.min_eq_left hi]
  · rw [FoC_len _ (by rw [List.length_take]; omega), List.length_take, Nat.min_eq_left hi]
theorem cpC_ne {fs : List Dv} {dv i b1 c1 : Nat} (hi : i < fs.length) (hne : i ≠ dv) : cpC fs dv (i + 1) b1 c1 = cpC fs dv i b1 c1 ++ DvC (fs.getD i dv0) := by
  unfold cpC
  rw [take_succ_getD dv0 fs hi]
  by_cases h : i < dv
  · rw [if_pos (by omega), if_pos (by omega), List.flatMap_append, List.flatMap_singleton]
  · rw [if_neg (by omega), if_neg (by omega), FoC_app (by rw [List.length_take]; omega)]
theorem cpB_ne {fs : List Dv} {dv i c1 : Nat} (hne : i ≠ dv) : cpB fs dv (i + 1) c1 = cpB fs dv i c1 := by
  unfold cpB
  by_cases h : i < dv
  · rw [if_pos (by omega), if_pos (by omega)]
  · rw [if_neg (by omega), if_neg (by omega)]
theorem cpC_eq {fs : List Dv} {dv b0 c0 b1 c1 : Nat} (hi : dv < fs.length) : cpC fs dv (dv + 1) b1 c1 = cpC fs dv dv b0 c0 ++ [.int .i64 (fs.getD dv dv0).nx, .msl 7001 8 b1 0 (fs.getD dv dv0).ns.length c1] := by
  unfold cpC
  rw [take_succ_getD dv0 fs hi, if_neg (by omega), if_pos (by omega)]
  have h := FoC_last (fs := fs.take dv) (d := fs.getD dv dv0) (v := .msl 7001 8 b1 0 (fs.getD dv dv0).ns.length c1)
  rw [List.length_take, Nat.min_eq_left (by omega)] at h
  exact h
theorem cpB_eq {fs : List Dv} {dv c1 : Nat} : cpB fs dv (dv + 1) c1 = Sp ((fs.getD dv dv0).ns.flatMap NoC) ((c1 - (fs.getD dv dv0).ns.length) * 8) := by
  unfold cpB
  rw [if_neg (by omega)]
def FoV (b m c : Nat) : LV := .agg [.msl 7000 2 b 0 m c]
theorem FoV_eq (b m c : Nat) : FoV b m c = .agg [.msl 7000 2 b 0 m c] := Eq.trans rfl rfl
def FoH (fs : List Dv) (dv b c b1 c1 : Nat) : Heap := [(7000, .blk b (Sp (FoC fs dv (.msl 7001 8 b1 0 (fs.getD dv dv0).ns.length c1)) ((c - fs.length) * 2))), (7001, .blk b1 (Sp ((fs.getD dv dv0).ns.flatMap NoC) ((c1 - (fs.getD dv dv0).ns.length) * 8)))]
theorem FoH_eq (fs : List Dv) (dv b c b1 c1 : Nat) : FoH fs dv b c b1 c1 = [(7000, .blk b (Sp (FoC fs dv (.msl 7001 8 b1 0 (fs.getD dv dv0).ns.length c1)) ((c - fs.length) * 2))), (7001, .blk b1 (Sp ((fs.getD dv dv0).ns.flatMap NoC) ((c1 - (fs.getD dv dv0).ns.length) * 8)))] := Eq.trans rfl rfl
theorem copyO (fs : List Dv) (dv : Nat) (hdv : dv < fs.length) (hf : okF fs) : LCalls Tryz.prog gl 114 [FiL fs] [] fun r H => ∃ b c b1 c1, fs.length ≤ c ∧ (fs.getD dv dv0).ns.length ≤ c1 ∧ r = FoV b fs.length c ∧ H = FoH fs dv b c b1 c1 := by
  refine fn_viewT Tryz.func114 t114 Tryz.ntmps114 (by simp) ?_
  have hl := hf.1
  have hld := len_dv fs
  unfold c114 r114
  rw [FiL_eq]
  repeat' (first | (simp (disch := first | exact dd | fail) only [go_sem]) | (refine allI (fun b => ?_)) | (refine allT (fun τ => ?_)) | (refine brP (fun h => ?_) (fun h => ?_) <;> (try simp only [zgx, zbx] at h)) | (refine gd ?_) | fail)
  rename_i b1 b2
  refine loopI (ι := Nat × Nat × Nat × Nat × Nat) (fun y => y.1 ≤ fs.length ∧ y.1 ≤ y.2.2.1 ∧ (y.1 ≤ dv → y.2.2.2.1 = 0) ∧ (dv < y.1 → (fs.getD dv dv0).ns.length ≤ y.2.2.2.2)) (fun y => [(4, .int .i64 y.1), (3, .ptr 3 b 0), (2, .ptr 2 b2 0), (1, .ptr 1 b1 0)]) (fun y => [(7000, .blk y.2.1 (Sp (cpC fs dv y.1 y.2.2.2.1 y.2.2.2.2) ((y.2.2.1 - y.1) * 2))), (7001, .blk y.2.2.2.1 (cpB fs dv y.1 y.2.2.2.2)), (3, .blk b [.msl 7000 2 y.2.1 0 y.1 y.2.2.1]), (2, .blk b2 [.fsl 1 0 []]), (1, .blk b1 [.sl 2 fs.length (fs.flatMap DvC)])]) (fun y => fs.length - y.1) (0, 0, 0, 0, 0) (by simp) ?_ ?_
  · refine Ents.emp 7001 (Ents.emp 7000 (Ents.le (by simp [go_sem]) ⟨⟨rfl, by simp [cpC, Sp, leVs]⟩, ⟨rfl, by simp [cpB, leVs]⟩, ⟨rfl, leV.nil_msl _ _ _, trivial⟩, ⟨rfl, leVs.refl _⟩, ⟨rfl, leVs.refl _⟩, trivial⟩))
  · rintro ⟨i, bo, co, bn, cn⟩ ⟨hi, hic, hz1, hz2⟩
    dsimp only at hi hic hz1 hz2 ⊢
    have hcl := cpC_len (dv := dv) (b1 := bn) (c1 := cn) hi
    simp (disch := first | exact dd | fail) only [go_sem]
    refine brP (fun hb => ?_) (fun hb => ?_)
    · have hlt : i < fs.length := by simpa using hb
      have e1 : (fs.flatMap DvC).getD (i * 2) .any = .int .i64 (fs.getD i dv0).nx := by rw [← Nat.add_zero (i * 2), getD_rows (f := DvC) (w := 2) (fun _ => rfl) (by omega) dv0 _ _ hlt]; rfl
      have e2 : (fs.flatMap DvC).getD (i * 2 + 1) .any = .sl 8 (fs.getD i dv0).ns.length ((fs.getD i dv0).ns.flatMap NoC) := by rw [getD_rows (f := DvC) (w := 2) (fun _ => rfl) (by omega) dv0 _ _ hlt]; rfl
      have hk := hf.2 _ (getD_memA dv0 hlt)
      have hC := fun h => cpC_ne (fs := fs) (dv := dv) (i := i) (b1 := bn) (c1 := cn) hlt h
      have hB := fun h => cpB_ne (fs := fs) (dv := dv) (i := i) (c1 := cn) h
      by_cases hne : i ≠ dv
      · replace hC := hC hne
        replace hB := hB hne
        generalize fs.getD i dv0 = D at *
        obtain ⟨hk1, hk2⟩ := hk
        have hln := len_no D.ns
        repeat' (first | (simp (disch := first | exact dd | fail) only [go_sem, e1, e2, zDv]) | (refine allI (fun b => ?_)) | (refine allT (fun τ => ?_)) | (refine brP (fun h => ?_) (fun h => ?_) <;> (try simp only [zgx, zbx] at h)) | (refine gd ?_) | fail)
        rename_i b3
        generalize hCC : cpC fs dv i bn cn = CC at *
        generalize hBB : cpB fs dv i cn = BB at *
        refine loopI (ι := Nat × Tok) (fun y => y.1 ≤ D.ns.length) (fun y => [(6, .int .i64 y.1), (5, .ptr 5 b 0), (4, .int .i64 i), (3, .ptr 3 b3 0), (2, .ptr 2 b2 0), (1, .ptr 1 b1 0)]) (fun y => [(50, .tok y.2), (5, .blk b [.int .i64 D.nx, .osl 50 y.2 8 y.1 ((D.ns.take y.1).flatMap NoC)]), (7000, .blk bo (Sp CC ((co - i) * 2))), (7001, .blk bn BB), (3, .blk b3 [.msl 7000 2 bo 0 i co]), (2, .blk b2 [.fsl 1 0 []]), (1, .blk b1 [.sl 2 fs.length (fs.flatMap DvC)])]) (fun y => D.ns.length - y.1) (0, ⟨0, 0, 0⟩) (by simp) ?_ ?_
        · refine Ents.dum 50 (Ents.le (by simp [go_sem]) ⟨rfl, ⟨rfl, leV.refl _, leV.nil_osl _ _ _ _, trivial⟩, ⟨rfl, leVs.refl _⟩, ⟨rfl, leVs.refl _⟩, ⟨rfl, leVs.refl _⟩, ⟨rfl, leVs.refl _⟩, ⟨rfl, leVs.refl _⟩, trivial⟩)
        · rintro ⟨k, τ2⟩ hkk
          dsimp only at hkk ⊢
          simp (disch := first | exact dd | fail) only [go_sem, e1, e2]
          refine ⟨by omega, by omega, ?_⟩
          refine brP (fun hb => ?_) (fun hb => ?_)
          · have hlt2 : k < D.ns.length := by simpa using hb
            have e3 := tNo hlt2
            have hts2 := take_succ_getD no0 D.ns hlt2
            rw [← nAt] at hts2
            have hes := hk2 _ (getD_memA no0 hlt2)
            rw [← nAt] at hes
            generalize nAt D.ns k = n at *
            have hle := len_en n.es
            rw [NoC_eq] at e3
            repeat' (first | (simp (disch := first | exact dd | fail) only [go_sem, e1, e2, e3, zNo]) | (refine allI (fun b => ?_)) | (refine allT (fun τ => ?_)) | (refine brP (fun h => ?_) (fun h => ?_) <;> (try simp only [zgx, zbx] at h)) | (refine gd ?_) | fail)
            refine ⟨by simp only [roomy]; omega, fun τ3 => ?_⟩
            repeat' (first | (simp (disch := first | exact dd | fail) only [go_sem, zNo]) | (refine allI (fun b => ?_)) | (refine allT (fun τ => ?_)) | (refine brP (fun h => ?_) (fun h => ?_) <;> (try simp only [zgx, zbx] at h)) | (refine gd ?_) | fail)
            refine ⟨by simp only [roomy]; omega, fun τ4 => ⟨⟨(k + 1, τ4), by dsimp only; omega⟩, by dsimp only; omega, ?_⟩⟩
            refine Ents.heap _ (by simp [go_sem]) ⟨_, List.Sublist.cons_cons _ (List.Sublist.cons _ (List.Sublist.cons _ (List.Sublist.refl _))), List.Perm.refl _⟩ ⟨rfl, ⟨rfl, leV.refl _, leV.osl ?_, trivial⟩, ⟨rfl, leVs.refl _⟩, ⟨rfl, leVs.refl _⟩, ⟨rfl, leVs.refl _⟩, ⟨rfl, leVs.refl _⟩, ⟨rfl, leVs.refl _⟩, trivial⟩
            dsimp only
            rw [hts2, List.flatMap_append, List.flatMap_singleton]
            exact leVs.app (leVs.refl _) (NoO_le n 44 τ3)
          · have hlen : k = D.ns.length := by simp only [decide_eq_false_iff_not] at hb; omega
            subst hlen
            rw [List.take_length]
            repeat' (first | (simp (disch := first | exact dd | fail) only [go_sem, zDv]) | (refine allI (fun b => ?_)) | (refine allT (fun τ => ?_)) | (refine brP (fun h => ?_) (fun h => ?_) <;> (try simp only [zgx, zbx] at h)) | (refine gd ?_) | fail)
            refine .inl ⟨by rw [length_Sp, hcl]; omega, by rw [length_Sp, hcl]; omega, by simp only [roomy]; omega, fun b4 c4 h4 => ?_⟩
            rw [take_Sp _ hcl]
            refine ⟨⟨(i + 1, b4, c4, bn, cn), by dsimp only; omega⟩, by dsimp only; omega, ?_⟩
            refine Ents.heap _ (by simp [go_sem]) ⟨_, List.Sublist.cons_cons _ (List.Sublist.cons _ (List.Sublist.cons _ (List.Sublist.refl _))), List.Perm.refl _⟩ ⟨⟨rfl, ?_⟩, ⟨rfl, leVs_eq hB.symm⟩, ⟨rfl, leVs.refl _⟩, ⟨rfl, leVs.refl _⟩, ⟨rfl, leVs.refl _⟩, trivial⟩
            dsimp only
            rw [hC, Sp]
            exact leVs.app (leVs.app (leVs.refl _) ⟨leV.refl _, leV.osl_sl _ _ _ _ _, trivial⟩) (leVs.refl _)
      · obtain rfl : i = dv := by omega
        clear hC hB
        have hC := fun bx cx => cpC_eq (fs := fs) (dv := i) (b0 := bn) (c0 := cn) (b1 := bx) (c1 := cx) hlt
        have hB := fun cx => cpB_eq (fs := fs) (dv := i) (c1 := cx)
        have hBi : cpB fs i i cn = [] := by rw [cpB, if_pos (by omega)]
        obtain rfl : bn = 0 := hz1 (by omega)
        rw [hBi]
        generalize hDD : fs.getD i dv0 = D at *
        obtain ⟨hk1, hk2⟩ := hk
        have hln := len_no D.ns
        repeat' (first | (simp (disch := first | exact dd | fail) only [go_sem, e1, e2, zDv]) | (refine allI (fun b => ?_)) | (refine allT (fun τ => ?_)) | (refine brP (fun h => ?_) (fun h => ?_) <;> (try simp only [zgx, zbx] at h)) | (refine gd ?_) | fail)
        rename_i b3
        generalize hCC : cpC fs i i 0 cn = CC at *
        refine loopI (ι := Nat × Nat × Nat) (fun y => y.1 ≤ D.ns.length ∧ y.1 ≤ y.2.2) (fun y => [(6, .int .i64 y.1), (5, .ptr 5 b 0), (4, .int .i64 i), (3, .ptr 3 b3 0), (2, .ptr 2 b2 0), (1, .ptr 1 b1 0)]) (fun y => [(7001, .blk y.2.1 (Sp ((D.ns.take y.1).flatMap NoC) ((y.2.2 - y.1) * 8))), (5, .blk b [.int .i64 D.nx, .msl 7001 8 y.2.1 0 y.1 y.2.2]), (7000, .blk bo (Sp CC ((co - i) * 2))), (3, .blk b3 [.msl 7000 2 bo 0 i co]), (2, .blk b2 [.fsl 1 0 []]), (1, .blk b1 [.sl 2 fs.length (fs.flatMap DvC)])]) (fun y => D.ns.length - y.1) (0, 0, 0) (by simp) ?_ ?_
        · refine Ents.heap [(7001, .blk 0 []), (5, .blk b [.int .i64 D.nx, .fsl 1 0 []]), (7000, .blk bo (Sp CC ((co - i) * 2))), (3, .blk b3 [.msl 7000 2 bo 0 i co]), (2, .blk b2 [.fsl 1 0 []]), (1, .blk b1 [.sl 2 fs.length (fs.flatMap DvC)])] (by simp [go_sem]) ⟨_, List.Sublist.refl _, pick_perm rfl (List.Perm.refl _)⟩ ⟨⟨rfl, by simp [Sp, leVs]⟩, ⟨rfl, leV.refl _, leV.nil_msl _ _ _, trivial⟩, ⟨rfl, leVs.refl _⟩, ⟨rfl, leVs.refl _⟩, ⟨rfl, leVs.refl _⟩, ⟨rfl, leVs.refl _⟩, trivial⟩
        · rintro ⟨k, bm, cm⟩ ⟨hkk, hkc⟩
          dsimp only at hkk hkc ⊢
          have htl : ((D.ns.take k).flatMap NoC).length = k * 8 := by rw [len_no, List.length_take, Nat.min_eq_left hkk]
          simp (disch := first | exact dd | fail) only [go_sem, e1, e2]
          refine ⟨by omega, by omega, ?_⟩
          refine brP (fun hb => ?_) (fun hb => ?_)
          · have hlt2 : k < D.ns.length := by simpa using hb
            have e3 := tNo hlt2
            have hts2 := take_succ_getD no0 D.ns hlt2
            rw [← nAt] at hts2
            have hes := hk2 _ (getD_memA no0 hlt2)
            rw [← nAt] at hes
            generalize nAt D.ns k = n at *
            have hle := len_en n.es
            rw [NoC_eq] at e3
            repeat' (first | (simp (disch := first | exact dd | fail) only [go_sem, e1, e2, e3, zNo]) | (refine allI (fun b => ?_)) | (refine allT (fun τ => ?_)) | (refine brP (fun h => ?_) (fun h => ?_) <;> (try simp only [zgx, zbx] at h)) | (refine gd ?_) | fail)
            refine ⟨by simp only [roomy]; omega, fun τ3 => ?_⟩
            repeat' (first | (simp (disch := first | exact dd | fail) only [go_sem, zNo]) | (refine allI (fun b => ?_)) | (refine allT (fun τ => ?_)) | (refine brP (fun h => ?_) (fun h => ?_) <;> (try simp only [zgx, zbx] at h)) | (refine gd ?_) | fail)
            refine .inl ⟨by rw [length_Sp, htl]; omega, by rw [length_Sp, htl]; omega, by simp only [roomy]; omega, fun b4 c4 h4 => ?_⟩
            rw [take_Sp _ htl]
            refine ⟨⟨(k + 1, b4, c4), by dsimp only; omega⟩, by dsimp only; omega, ?_⟩
            refine Ents.heap _ (by simp [go_sem]) ⟨_, List.Sublist.cons_cons _ (List.Sublist.cons _ (List.Sublist.cons _ (List.Sublist.refl _))), List.Perm.refl _⟩ ⟨⟨rfl, ?_⟩, ⟨rfl, leVs.refl _⟩, ⟨rfl, leVs.refl _⟩, ⟨rfl, leVs.refl _⟩, ⟨rfl, leVs.refl _⟩, ⟨rfl, leVs.refl _⟩, trivial⟩
            dsimp only
            rw [hts2, List.flatMap_append, List.flatMap_singleton, Sp]
            exact leVs.app (leVs.app (leVs.refl _) (NoO_le n 44 τ3)) (leVs.refl _)
          · have hlen : k = D.ns.length := by simp only [decide_eq_false_iff_not] at hb; omega
            subst hlen
            rw [List.take_length]
            repeat' (first | (simp (disch := first | exact dd | fail) only [go_sem, zDv]) | (refine allI (fun b => ?_)) | (refine allT (fun τ => ?_)) | (refine brP (fun h => ?_) (fun h => ?_) <;> (try simp only [zgx, zbx] at h)) | (refine gd ?_) | fail)
            refine .inl ⟨by rw [length_Sp, hcl]; omega, by rw [length_Sp, hcl]; omega, by simp only [roomy]; omega, fun b4 c4 h4 => ?_⟩
            rw [take_Sp _ hcl]
            refine ⟨⟨(i + 1, b4, c4, bm, cm), by dsimp only; omega⟩, by dsimp only; omega, ?_⟩
            refine Ents.heap _ (by simp [go_sem]) ⟨_, List.Sublist.cons_cons _ (List.Sublist.cons_cons _ (List.Sublist.cons _ (List.Sublist.refl _))), List.Perm.refl _⟩ ⟨⟨rfl, ?_⟩, ⟨rfl, ?_⟩, ⟨rfl, leVs.refl _⟩, ⟨rfl, leVs.refl _⟩, ⟨rfl, leVs.refl _⟩, trivial⟩
            · dsimp only
              rw [hC, Sp]
              exact leVs.refl _
            · dsimp only
              rw [hB]
              exact leVs.refl _
    · have hlen : i = fs.length := by simp only [decide_eq_false_iff_not] at hb; omega
      repeat' (first | (simp (disch := first | exact dd | fail) only [go_sem]) | (refine allI (fun b => ?_)) | (refine allT (fun τ => ?_)) | (refine brP (fun h => ?_) (fun h => ?_) <;> (try simp only [zgx, zbx] at h)) | (refine gd ?_) | fail)
      subst hlen
      refine ⟨_, _, leVH.of (leV.refl _) ⟨_, List.Sublist.cons_cons _ (List.Sublist.cons_cons _ (List.nil_sublist _)), List.Perm.refl _⟩, bo, co, bn, cn, hic, hz2 hdv, rfl, ?_⟩
      rw [cpC, cpB, if_neg (by omega), if_neg (by omega), List.take_length, FoH_eq]
end Go.Proofs.YtkdblnejpmbnfaaGreat.F
namespace Go.Proofs.YtkdblnejpmbnfaaGreat.F
open Go Go.Lx
set_option linter.unusedSimpArgs false
set_option linter.unusedVariables false
set_option maxRecDepth 100000
set_option maxHeartbeats 8000000
theorem getSp {cs : List LV} {k o : Nat} (h : o < cs.length) : (Sp cs k).getD o .any = cs.getD o .any := by
  simp only [Sp, List.getD_eq_getElem?_getD, List.getElem?_append_left h]
theorem putC_get {cs : List LV} {o : Nat} (v : LV) (h : o < cs.length) : (putC cs o v).getD o .any = v := by
  rw [putC_set v h]; simp [List.getD, h]
theorem FoC_v {fs : List Dv} {dv : Nat} (v : LV) (h : dv < fs.length) : (FoC fs dv v).getD (dv * 2 + 1) .any = v := putC_get v (by rw [len_dv]; omega)
theorem FoC_nx {fs : List Dv} {dv : Nat} (v : LV) (h : dv < fs.length) : (FoC fs dv v).getD (dv * 2) .any = .int .i64 (fs.getD dv dv0).nx := by
  rw [FoC, putC_ne v (by rw [len_dv]; omega) (by omega), ← Nat.add_zero (dv * 2), getD_rows (f := DvC) (w := 2) (fun _ => rfl) (by omega) dv0 _ _ h]; rfl
def OkO (fs : List Dv) (dv c c1 : Nat) : Prop := okF fs ∧ dv < fs.length ∧ fs.length ≤ c ∧ (fs.getD dv dv0).ns.length ≤ c1
theorem dAt_nat (fs : List Dv) (dv : Nat) : dAt fs (dv : Int) = fs.getD dv dv0 := by rw [dAt, Int.toNat_natCast]
theorem gNoS {ns : List No} {i j k : Nat} (h1 : i < ns.length) (hj : j < 8) : (Sp (ns.flatMap NoC) k).getD (i * 8 + j) .any = (NoC (nAt ns i)).getD j .any := by
  rw [getSp (by rw [len_no]; have : (i + 1) * 8 ≤ ns.length * 8 := Nat.mul_le_mul_right 8 h1
                omega), gNo h1 hj]
theorem tNoS {ns : List No} {i k : Nat} (h1 : i < ns.length) : ((Sp (ns.flatMap NoC) k).drop (i * 8)).take 8 = NoC (nAt ns i) := by
  have e := tNo h1
  have hle := len_no ns
  have : (i + 1) * 8 ≤ ns.length * 8 := Nat.mul_le_mul_right 8 h1
  rw [← e, Sp, List.drop_append_of_le_length (by omega), List.take_append_of_le_length (by rw [List.length_drop]; omega)]
theorem ixO (fs : List Dv) (dv : Nat) (i : Int) (b c b1 c1 : Nat) (h : OkO fs dv c c1) : LCalls Tryz.prog gl 144 [FoV b fs.length c, AtL ⟨dv, i⟩] (FoH fs dv b c b1 c1) fun r H => r = .int .i64 (idx fs ⟨dv, i⟩) ∧ H = FoH fs dv b c b1 c1 := by
  obtain ⟨hf, hdv, hc, hc1⟩ := h
  refine fn_viewT Tryz.func144 t144 Tryz.ntmps144 (by simp) ?_
  have hl := hf.1
  have hR : idx fs ⟨dv, i⟩ = ixI (fs.getD dv dv0).ns i := by rw [idx, if_neg (by dsimp only; omega), dAt_nat]
  have hk := (hf.2 _ (getD_memA dv0 hdv)).1
  have hFl := FoC_len (.msl 7001 8 b1 0 (fs.getD dv dv0).ns.length c1) hdv
  have hg := FoC_v (.msl 7001 8 b1 0 (fs.getD dv dv0).ns.length c1) hdv
  rw [← getSp (k := (c - fs.length) * 2) (by omega)] at hg
  have hFS := length_Sp (FoC fs dv (.msl 7001 8 b1 0 (fs.getD dv dv0).ns.length c1)) ((c - fs.length) * 2)
  rw [hR, FoH_eq]
  generalize Sp (FoC fs dv (.msl 7001 8 b1 0 (fs.getD dv dv0).ns.length c1)) ((c - fs.length) * 2) = CC at *
  generalize fs.getD dv dv0 = D at *
  have hln := len_no D.ns
  have hS := length_Sp (D.ns.flatMap NoC) ((c1 - D.ns.length) * 8)
  have e3 := fun k h => gNoS (ns := D.ns) (i := k) (j := 0) (k := (c1 - D.ns.length) * 8) h (by omega)
  generalize Sp (D.ns.flatMap NoC) ((c1 - D.ns.length) * 8) = SS at *
  unfold c144 r144
  rw [AtL_eq, FoV_eq]
  repeat' (first | (simp (disch := first | exact dd | fail) only [go_sem, hg]) | (refine allI (fun b => ?_)) | (refine allT (fun τ => ?_)) | (refine brP (fun h => ?_) (fun h => ?_) <;> (try simp only [zgx, zbx] at h)) | (refine gd ?_) | fail)
  · omega
  rename_i b5 b6
  refine loopI (ι := Nat) (fun k => k ≤ D.ns.length ∧ ∀ j, j < k → ixP D.ns i j = false) (fun k => (6, .int .i64 k) :: _) (fun _ => _) (fun k => D.ns.length - k) 0 ⟨by omega, fun j hj => absurd hj (by omega)⟩ Ents.same ?_
  intro k hi
  have hiB := hi.1
  simp (disch := first | exact dd | fail) only [go_sem]
  refine brP (fun hb => ?_) (fun hb => ?_)
  · have hlt : k < D.ns.length := by simpa using hb
    have e3 := e3 k hlt
    have hf : ixP D.ns i k = ((nAt D.ns k).ino == i) := rfl
    generalize nAt D.ns k = n at *
    rw [NoC_eq, Nat.add_zero] at e3
    simp only [List.getD_cons_zero, List.getD_cons_succ] at e3
    repeat' (first | (simp (disch := first | exact dd | fail) only [go_sem, e3]) | (refine allI (fun b => ?_)) | (refine allT (fun τ => ?_)) | (refine brP (fun h => ?_) (fun h => ?_) <;> (try simp only [zgx, zbx] at h)) | (refine gd ?_) | fail)
    · refine ⟨_, _, leVH.of (leV.refl _) ⟨_, List.Sublist.cons _ (List.Sublist.cons _ (List.Sublist.refl _)), List.Perm.refl _⟩, ?_, rfl⟩
      rw [ixI, firstI_is hlt (by rw [hf]; simpa using h) hi.2]
    · have hf2 : ixP D.ns i k = false := by rw [hf]; simpa using h
      exact ⟨⟨k + 1, by omega, fun j hj => (by omega : j < k ∨ j = k).elim (fun h3 => hi.2 j h3) (fun h3 => h3 ▸ hf2)⟩, by dsimp only; omega, Ents.envH (by simp [go_sem]) rfl⟩
  · repeat' (first | (simp (disch := first | exact dd | fail) only [go_sem]) | (refine allI (fun b => ?_)) | (refine allT (fun τ => ?_)) | (refine brP (fun h => ?_) (fun h => ?_) <;> (try simp only [zgx, zbx] at h)) | (refine gd ?_) | fail)
    refine ⟨_, _, leVH.of (leV.refl _) ⟨_, List.Sublist.cons _ (List.Sublist.cons _ (List.Sublist.refl _)), List.Perm.refl _⟩, ?_, rfl⟩
    rw [ixI, firstI_none fun j hj => hi.2 j (by simp only [decide_eq_false_iff_not] at hb; omega)]
theorem linksO (fs : List Dv) (dv : Nat) (i : Int) (b c b1 c1 : Nat) (h : OkO fs dv c c1) : LCalls Tryz.prog gl 160 [FoV b fs.length c, AtL ⟨dv, i⟩] (FoH fs dv b c b1 c1) fun r H => (∃ n : Int, r = .int .i64 n) ∧ H = FoH fs dv b c b1 c1 := by
  have hX := ixO fs dv i b c b1 c1 h
  obtain ⟨hf, hdv, hc, hc1⟩ := h
  refine fn_viewT Tryz.func160 t160 Tryz.ntmps160 (by simp) ?_
  have hl := hf.1
  obtain ⟨hk, hke⟩ := hf.2 _ (getD_memA dv0 hdv)
  have hFl := FoC_len (.msl 7001 8 b1 0 (fs.getD dv dv0).ns.length c1) hdv
  have hg := FoC_v (.msl 7001 8 b1 0 (fs.getD dv dv0).ns.length c1) hdv
  rw [← getSp (k := (c - fs.length) * 2) (by omega)] at hg
  have hFS := length_Sp (FoC fs dv (.msl 7001 8 b1 0 (fs.getD dv dv0).ns.length c1)) ((c - fs.length) * 2)
  rw [FoH_eq] at *
  generalize idx fs ⟨dv, i⟩ = ID at *
  generalize Sp (FoC fs dv (.msl 7001 8 b1 0 (fs.getD dv dv0).ns.length c1)) ((c - fs.length) * 2) = CC at *
  generalize fs.getD dv dv0 = D at *
  have hln := len_no D.ns
  have hS := length_Sp (D.ns.flatMap NoC) ((c1 - D.ns.length) * 8)
  have e7 := fun k h => gNoS (ns := D.ns) (i := k) (j := 7) (k := (c1 - D.ns.length) * 8) h (by omega)
  generalize Sp (D.ns.flatMap NoC) ((c1 - D.ns.length) * 8) = SS at *
  unfold c160 r160
  rw [AtL_eq, FoV_eq] at *
  repeat' (first | (simp (disch := first | exact dd | fail) only [go_sem]) | (refine allI (fun b => ?_)) | (refine allT (fun τ => ?_)) | (refine brP (fun h => ?_) (fun h => ?_) <;> (try simp only [zgx, zbx] at h)) | (refine gd ?_) | fail)
  rename_i b2
  refine actsP_U (H2 := [_, _]) hX (pick_perm rfl (pick_perm rfl (List.Perm.refl _))) ?_
  rintro _ _ ⟨rfl, rfl⟩
  simp only [List.cons_append, List.nil_append]
  repeat' (first | (simp (disch := first | exact dd | fail) only [go_sem, hg]) | (refine allI (fun b => ?_)) | (refine allT (fun τ => ?_)) | (refine brP (fun h => ?_) (fun h => ?_) <;> (try simp only [zgx, zbx] at h)) | (refine gd ?_) | fail)
  · exact ⟨_, _, leVH.of (leV.refl _) ⟨_, List.Sublist.cons _ (List.Sublist.cons _ (List.Sublist.refl _)), List.Perm.refl _⟩, ⟨_, rfl⟩, rfl⟩
  · refine loopI (ι := Nat × Int) (fun y => y.1 ≤ D.ns.length ∧ 0 ≤ y.2 ∧ y.2 ≤ 1000 * y.1) (fun y => [(7, .int .i64 y.1), (6, .msl 7001 8 b1 0 D.ns.length c1), (5, .int .i64 y.2), (3, .ptr 3 b 0), (2, .ptr 2 b2 0)]) (fun y => _) (fun y => D.ns.length - y.1) (0, 0) (by dsimp only; omega) (Ents.envH (by simp [go_sem]) rfl) ?_
    rintro ⟨k, n⟩ hk1
    dsimp only at hk1 ⊢
    simp (disch := first | exact dd | fail) only [go_sem]
    refine brP (fun hb => ?_) (fun hb => ?_)
    · have hlt : k < D.ns.length := by simpa using hb
      have e7 := e7 k hlt
      have hke := hke _ (getD_memA no0 hlt)
      rw [← nAt] at hke
      generalize nAt D.ns k = nd at *
      have hle := len_en nd.es
      rw [NoC_eq] at e7
      simp only [List.getD_cons_zero, List.getD_cons_succ] at e7
      repeat' (first | (simp (disch := first | exact dd | fail) only [go_sem]) | (refine allI (fun b => ?_)) | (refine allT (fun τ => ?_)) | (refine brP (fun h => ?_) (fun h => ?_) <;> (try simp only [zgx, zbx] at h)) | (refine gd ?_) | fail)
      refine loopI (ι := Nat × Int) (fun y => y.1 ≤ nd.es.length ∧ 0 ≤ y.2 ∧ y.2 ≤ 1000 * k + y.1) (fun y => [(8, .int .i64 y.1), (7, .int .i64 k), (6, .msl 7001 8 b1 0 D.ns.length c1), (5, .int .i64 y.2), (3, .ptr 3 b 0), (2, .ptr 2 b2 0)]) (fun y => _) (fun y => nd.es.length - y.1) (0, n) (by dsimp only; omega) (Ents.envH (by simp [go_sem]) rfl) ?_
      rintro ⟨j, m⟩ hj1
      dsimp only at hj1 ⊢
      simp (disch := first | exact dd | fail) only [go_sem, e7]
      refine ⟨by omega, by omega, ?_⟩
      refine brP (fun hb => ?_) (fun hb => ?_)
      · have hlt2 : j < nd.es.length := by simpa using hb
        have e4 : (nd.es.flatMap EnC).getD (j * 2 + 1) .any = .int .i64 (nd.es.getD j en0).ino := by rw [gEn hlt2 (by omega)]; rfl
        generalize nd.es.getD j en0 = y at *
        repeat' (first | (simp (disch := first | exact dd | fail) only [go_sem, e7, e4]) | (refine allI (fun b => ?_)) | (refine allT (fun τ => ?_)) | (refine brP (fun h => ?_) (fun h => ?_) <;> (try simp only [zgx, zbx] at h)) | (refine gd ?_) | fail)
        · exact ⟨⟨(j + 1, m + 1), by dsimp only; omega⟩, by dsimp only; omega, Ents.envH (by simp [go_sem]) rfl⟩
        · exact ⟨⟨(j + 1, m), by dsimp only; omega⟩, by dsimp only; omega, Ents.envH (by simp [go_sem]) rfl⟩
      · repeat' (first | (simp (disch := first | exact dd | fail) only [go_sem]) | (refine allI (fun b => ?_)) | (refine allT (fun τ => ?_)) | (refine brP (fun h => ?_) (fun h => ?_) <;> (try simp only [zgx, zbx] at h)) | (refine gd ?_) | fail)
        exact ⟨⟨(k + 1, m), by dsimp only; omega⟩, by dsimp only; omega, Ents.envH (by simp [go_sem]) rfl⟩
    · repeat' (first | (simp (disch := first | exact dd | fail) only [go_sem]) | (refine allI (fun b => ?_)) | (refine allT (fun τ => ?_)) | (refine brP (fun h => ?_) (fun h => ?_) <;> (try simp only [zgx, zbx] at h)) | (refine gd ?_) | fail)
      exact ⟨_, _, leVH.of (leV.refl _) ⟨_, List.Sublist.cons _ (List.Sublist.cons _ (List.Sublist.refl _)), List.Perm.refl _⟩, ⟨_, rfl⟩, rfl⟩
end Go.Proofs.YtkdblnejpmbnfaaGreat.F
namespace Go.Proofs.YtkdblnejpmbnfaaGreat.F
open Go Go.Lx
set_option linter.unusedSimpArgs false
set_option linter.unusedVariables false
set_option maxRecDepth 100000
set_option maxHeartbeats 8000000
theorem set_rows2 {fs : List Dv} {dv : Nat} {D' : Dv} (h : dv < fs.length) : (fs.set dv D').flatMap DvC = ((fs.flatMap DvC).set (dv * 2) (.int .i64 D'.nx)).set (dv * 2 + 1) (.sl 8 D'.ns.length (D'.ns.flatMap NoC)) := by
  have hl := len_dv fs
  have h1 := putC_rows (f := DvC) (w := 2) (fun _ => rfl) dv0 ⟨D'.nx, (fs.getD dv dv0).ns⟩ fs (j := 0) (.int .i64 D'.nx) h (by omega) rfl
  have h2 := putC_rows (f := DvC) (w := 2) (fun _ => rfl) dv0 D' (fs.set dv ⟨D'.nx, (fs.getD dv dv0).ns⟩) (i := dv) (j := 1) (.sl 8 D'.ns.length (D'.ns.flatMap NoC)) (by simpa using h) (by omega) (by simp [List.getD, h]; rfl)
  rw [List.set_set, ← h1, Nat.add_zero, putC_set _ (by rw [putC_len _ (by omega)]; omega), putC_set _ (by omega)] at h2
  exact h2.symm
theorem FoC_set {fs : List Dv} {dv : Nat} {D' : Dv} {v : LV} (h : dv < fs.length) : FoC (fs.set dv D') dv v = putC (FoC fs dv v) (dv * 2) (.int .i64 D'.nx) := by
  have hl := len_dv fs
  have hl2 := len_dv (fs.set dv D')
  rw [List.length_set] at hl2
  have hF := FoC_len v h
  rw [putC_set _ (by omega), FoC, FoC, putC_set _ (by omega), putC_set _ (by omega), set_rows2 h, List.set_set, List.set_comm _ _ (by omega)]
theorem FoC_same {fs : List Dv} {dv : Nat} {D' : Dv} {v : LV} (h : dv < fs.length) (hn : D'.nx = (fs.getD dv dv0).nx) : FoC (fs.set dv D') dv v = FoC fs dv v := by
  rw [FoC_set h, hn, ← FoC_nx v h, putC_set _ (by rw [FoC_len v h]; omega)]
  have h2 : dv * 2 < (FoC fs dv v).length := by rw [FoC_len v h]; omega
  simp [List.getD, h2]
theorem getD_set {fs : List Dv} {dv : Nat} {D' : Dv} (h : dv < fs.length) : (fs.set dv D').getD dv dv0 = D' := by simp [List.getD, h]
def setD (fs : List Dv) (dv : Nat) (D : Dv) : List Dv := fs.set dv D
def setEs (ns : List No) (k : Nat) (es : List En) : List No := ns.set k { nAt ns k with es := es }
theorem setEs_len (ns : List No) (k : Nat) (es : List En) : (setEs ns k es).length = ns.length := by simp [setEs]
theorem FoH_ns {fs : List Dv} {dv b c b1 c1 : Nat} {ns' : List No} (h : dv < fs.length) (hl : ns'.length = (fs.getD dv dv0).ns.length) : FoH (setD fs dv ⟨(fs.getD dv dv0).nx, ns'⟩) dv b c b1 c1 = [(7000, .blk b (Sp (FoC fs dv (.msl 7001 8 b1 0 (fs.getD dv dv0).ns.length c1)) ((c - fs.length) * 2))), (7001, .blk b1 (Sp (ns'.flatMap NoC) ((c1 - (fs.getD dv dv0).ns.length) * 8)))] := by
  rw [FoH_eq, setD, getD_set h, FoC_same (D' := ⟨(fs.getD dv dv0).nx, ns'⟩) h rfl, List.length_set]
  dsimp only
  rw [hl]
theorem setEs_rows {ns : List No} {k z : Nat} {es : List En} (h : k < ns.length) : putC (Sp (ns.flatMap NoC) z) (k * 8 + 7) (.sl 2 es.length (es.flatMap EnC)) = Sp ((setEs ns k es).flatMap NoC) z := by
  have hl := len_no ns
  have : (k + 1) * 8 ≤ ns.length * 8 := Nat.mul_le_mul_right 8 h
  rw [putC_Sp _ (by omega), putC_rows (f := NoC) (w := 8) (fun _ => rfl) no0 { nAt ns k with es := es } ns _ h (by omega) (Eq.trans rfl rfl), setEs]
theorem leVs_putC {cs : List LV} {o : Nat} {v v' : LV} (h : leV v v') : leVs (putC cs o v) (putC cs o v') := leVs.app (leVs.app (leVs.refl _) ⟨h, trivial⟩) (leVs.refl _)
def EnR (s : List UInt8) (ino : Int) (es es' : List En) : Prop := es'.length ≤ es.length + 1 ∧ ∀ e ∈ es', e ∈ es ∨ e = ⟨s, ino⟩
theorem enterO (fs : List Dv) (dv : Nat) (i : Int) (s : List UInt8) (ino : Int) (b c b1 c1 : Nat) (h : OkO fs dv c c1) (k : Nat) (hi : idx fs ⟨dv, i⟩ = (k : Nat)) (hkl : k < (fs.getD dv dv0).ns.length) :
    LCalls Tryz.prog gl 151 [FoV b fs.length c, AtL ⟨dv, i⟩, .str s, .int .i64 ino] (FoH fs dv b c b1 c1) fun r H => ∃ es, EnR s ino (nAt (fs.getD dv dv0).ns k).es es ∧ H = FoH (setD fs dv ⟨(fs.getD dv dv0).nx, setEs (fs.getD dv dv0).ns k es⟩) dv b c b1 c1 := by
  have hX := ixO fs dv i b c b1 c1 h
  obtain ⟨hf, hdv, hc, hc1⟩ := h
  refine fn_viewT Tryz.func151 t151 Tryz.ntmps151 (by simp) ?_
  have hl := hf.1
  obtain ⟨hk, hke⟩ := hf.2 _ (getD_memA dv0 hdv)
  have hFl := FoC_len (.msl 7001 8 b1 0 (fs.getD dv dv0).ns.length c1) hdv
  have hg := FoC_v (.msl 7001 8 b1 0 (fs.getD dv dv0).ns.length c1) hdv
  rw [← getSp (k := (c - fs.length) * 2) (by omega)] at hg
  have hFS := length_Sp (FoC fs dv (.msl 7001 8 b1 0 (fs.getD dv dv0).ns.length c1)) ((c - fs.length) * 2)
  have hH := fun es => FoH_ns (b := b) (c := c) (b1 := b1) (c1 := c1) hdv (setEs_len (fs.getD dv dv0).ns k es)
  simp only [hH]
  rw [FoH_eq, hi] at *
  generalize Sp (FoC fs dv (.msl 7001 8 b1 0 (fs.getD dv dv0).ns.length c1)) ((c - fs.length) * 2) = CC at *
  generalize fs.getD dv dv0 = D at *
  have hln := len_no D.ns
  have hS := length_Sp (D.ns.flatMap NoC) ((c1 - D.ns.length) * 8)
  have e8 := tNoS (ns := D.ns) (i := k) (k := (c1 - D.ns.length) * 8) hkl
  have hrow := fun es => setEs_rows (z := (c1 - D.ns.length) * 8) (es := es) hkl
  have hes := hke _ (getD_memA no0 hkl)
  rw [← nAt] at hes
  generalize Sp (D.ns.flatMap NoC) ((c1 - D.ns.length) * 8) = SS at *
  generalize nAt D.ns k = n at *
  have hle := len_en n.es
  rw [NoC_eq] at e8
  have hks : k * 8 + 8 ≤ SS.length := by omega
  unfold c151 r151
  rw [AtL_eq, FoV_eq] at *
  repeat' (first | (simp (disch := first | exact dd | fail) only [go_sem, hg]) | (refine allI (fun b => ?_)) | (refine allT (fun τ => ?_)) | (refine brP (fun h => ?_) (fun h => ?_) <;> (try simp only [zgx, zbx] at h)) | (refine gd ?_) | fail)
  refine actsQ_of hX (pick_perm rfl (pick_perm rfl (List.Perm.refl _))) ?_
  rintro _ _ ⟨rfl, rfl⟩
  simp only [List.cons_append, List.nil_append]
  repeat' (first | (simp (disch := first | exact dd | fail) only [go_sem, hg, e8, zNo]) | (refine allI (fun b => ?_)) | (refine allT (fun τ => ?_)) | (refine brP (fun h => ?_) (fun h => ?_) <;> (try simp only [zgx, zbx] at h)) | (refine gd ?_) | fail)
  rename_i bp b4 b5
  refine loopI (ι := Nat × Bool × List En × Tok) (fun y => y.1 ≤ n.es.length ∧ y.2.2.1.length ≤ y.1 + (if y.2.1 = true then 1 else 0) ∧ ∀ e ∈ y.2.2.1, e ∈ n.es ∨ e = ⟨s, ino⟩) (fun y => [(11, .int .i64 y.1), (10, .bool y.2.1), (9, .osl 50 y.2.2.2 2 y.2.2.1.length (y.2.2.1.flatMap EnC)), (8, .ptr 8 b 0), (5, .ptr 5 b5 0), (4, .ptr 4 b4 0), (2, .str s), (3, .int .i64 ino)]) (fun y => [(50, .tok y.2.2.2), (8, .blk b [.int .i64 n.ino, .int .i64 n.kind, .int .i64 n.mode, .int .i64 n.uid, .int .i64 n.gid, .int .i64 n.par, .str n.tg, .sl 2 n.es.length (n.es.flatMap EnC)]), (7000, .blk bp CC), (7001, .blk b1 SS), (5, .blk b5 [.int .i64 dv, .int .i64 i]), (4, .blk b4 [.msl 7000 2 bp 0 fs.length c])]) (fun y => n.es.length - y.1) (0, ino == 0, [], ⟨0, 0, 0⟩) ⟨by dsimp only; omega, by simp, by simp⟩ ?_ ?_
  · refine Ents.dum 50 (Ents.envH ⟨leV.refl _, leV.refl _, leV.nil_osl _ _ _ _, leV.refl _, leV.refl _, leV.refl _, leV.refl _, leV.refl _, trivial⟩ rfl)
  rintro ⟨j, d, l, τ⟩ ⟨hj, hll, hlm⟩
  dsimp only at hj hll hlm ⊢
  simp (disch := first | exact dd | fail) only [go_sem]
  refine brP (fun hb => ?_) (fun hb => ?_)
  · have hlt : j < n.es.length := by simpa using hb
    have e3 : (n.es.flatMap EnC).getD (j * 2) .any = .str (n.es.getD j en0).nm := by rw [← Nat.add_zero (j * 2), gEn hlt (by omega)]; rfl
    have e4 : ((n.es.flatMap EnC).drop (j * 2)).take 2 = EnC (n.es.getD j en0) := take_rows (f := EnC) (w := 2) (fun _ => rfl) en0 _ hlt
    have hm := getD_memA en0 hlt
    have hlb : l.length ≤ j + 1 := by split at hll <;> omega
    generalize n.es.getD j en0 = y at *
    rw [EnC_eq] at e4
    repeat' (first | (simp (disch := first | exact dd | fail) only [go_sem, e3, e4, zEn]) | (refine allI (fun b => ?_)) | (refine allT (fun τ => ?_)) | (refine brP (fun h => ?_) (fun h => ?_) <;> (try simp only [zgx, zbx] at h)) | (refine gd ?_) | fail)
    · obtain ⟨rfl, -⟩ := h
      rw [if_neg (by decide)] at hll
      refine ⟨by simp only [roomy]; omega, fun τ2 => ?_⟩
      repeat' (first | (simp (disch := first | exact dd | fail) only [go_sem, e3, e4, zEn]) | (refine allI (fun b => ?_)) | (refine allT (fun τ => ?_)) | (refine brP (fun h => ?_) (fun h => ?_) <;> (try simp only [zgx, zbx] at h)) | (refine gd ?_) | fail)
      · refine ⟨by simp only [roomy]; omega, fun τ3 => ⟨⟨(j + 1, true, l ++ [⟨s, ino⟩] ++ [y], τ3), by dsimp only; omega, by simp; omega, ?_⟩, by dsimp only; omega, Ents.envH ⟨leV.refl _, leV.refl _, leV.of_eq ?_, leV.refl _, leV.refl _, leV.refl _, leV.refl _, leV.refl _, trivial⟩ rfl⟩⟩
        · intro e he
          simp only [List.mem_append, List.mem_singleton] at he
          rcases he with (he | rfl) | rfl
          · exact hlm e he
          · exact .inr rfl
          · exact .inl hm
        · simp [go_sem, List.flatMap_append, EnC_eq]
      · refine ⟨⟨(j + 1, true, l ++ [⟨s, ino⟩], τ2), by dsimp only; omega, by simp; omega, ?_⟩, by dsimp only; omega, Ents.envH ⟨leV.refl _, leV.refl _, leV.of_eq ?_, leV.refl _, leV.refl _, leV.refl _, leV.refl _, leV.refl _, trivial⟩ rfl⟩
        · intro e he
          simp only [List.mem_append, List.mem_singleton] at he
          rcases he with he | rfl
          · exact hlm e he
          · exact .inr rfl
        · simp [go_sem, List.flatMap_append, EnC_eq]
    · refine ⟨by simp only [roomy]; omega, fun τ3 => ⟨⟨(j + 1, d, l ++ [y], τ3), by dsimp only; omega, by simp; omega, ?_⟩, by dsimp only; omega, Ents.envH ⟨leV.refl _, leV.refl _, leV.of_eq ?_, leV.refl _, leV.refl _, leV.refl _, leV.refl _, leV.refl _, trivial⟩ rfl⟩⟩
      · intro e he
        simp only [List.mem_append, List.mem_singleton] at he
        rcases he with he | rfl
        · exact hlm e he
        · exact .inl hm
      · simp [go_sem, List.flatMap_append, EnC_eq]
    · exact ⟨⟨(j + 1, d, l, τ), by dsimp only; omega, by dsimp only; omega, hlm⟩, by dsimp only; omega, Ents.envH (by simp [go_sem]) rfl⟩
  · have hje : j = n.es.length := by simp only [decide_eq_false_iff_not] at hb; omega
    repeat' (first | (simp (disch := first | exact dd | fail) only [go_sem, e8, hg, zEn]) | (refine allI (fun b => ?_)) | (refine allT (fun τ => ?_)) | (refine brP (fun h => ?_) (fun h => ?_) <;> (try simp only [zgx, zbx] at h)) | (refine gd ?_) | fail)
    · subst h
      rw [if_neg (by decide)] at hll
      refine ⟨by simp only [roomy]; omega, fun τ2 => ?_⟩
      refine ⟨by omega, by omega, ?_⟩
      refine actsQ_of hX (pick_perm rfl (pick_perm rfl (List.Perm.refl _))) ?_
      rintro _ _ ⟨rfl, rfl⟩
      simp only [List.cons_append, List.nil_append]
      repeat' (first | (simp (disch := first | exact dd | fail) only [go_sem, e8, hg, zEn, putC_eq]) | (refine allI (fun b => ?_)) | (refine allT (fun τ => ?_)) | (refine brP (fun h => ?_) (fun h => ?_) <;> (try simp only [zgx, zbx] at h)) | (refine gd ?_) | fail)
      refine ⟨_, _, leVH.gen (H3 := [(7000, .blk bp CC), (7001, .blk b1 (Sp ((setEs D.ns k (l ++ [⟨s, ino⟩])).flatMap NoC) ((c1 - D.ns.length) * 8)))]) (leV.refl _) (List.Sublist.cons_cons _ (List.Sublist.cons_cons _ (List.nil_sublist _))) ⟨⟨rfl, leVs.refl _⟩, ⟨rfl, ?_⟩, trivial⟩ (List.Perm.refl _) rfl, l ++ [⟨s, ino⟩], ⟨by simp; omega, ?_⟩, rfl⟩
      · rw [← hrow]
        exact leVs_putC ((leV.osl_sl _ _ _ _ _).trans (leV.of_eq (by simp [EnC_eq, List.flatMap_append])))
      · intro e he
        simp only [List.mem_append, List.mem_singleton] at he
        rcases he with he | rfl
        · exact hlm e he
        · exact .inr rfl
    · subst h
      rw [if_pos rfl] at hll
      refine actsQ_of hX (pick_perm rfl (pick_perm rfl (List.Perm.refl _))) ?_
      rintro _ _ ⟨rfl, rfl⟩
      simp only [List.cons_append, List.nil_append]
      repeat' (first | (simp (disch := first | exact dd | fail) only [go_sem, e8, hg, zEn, putC_eq]) | (refine allI (fun b => ?_)) | (refine allT (fun τ => ?_)) | (refine brP (fun h => ?_) (fun h => ?_) <;> (try simp only [zgx, zbx] at h)) | (refine gd ?_) | fail)
      refine ⟨_, _, leVH.gen (H3 := [(7000, .blk bp CC), (7001, .blk b1 (Sp ((setEs D.ns k (l)).flatMap NoC) ((c1 - D.ns.length) * 8)))]) (leV.refl _) (List.Sublist.cons_cons _ (List.Sublist.cons_cons _ (List.nil_sublist _))) ⟨⟨rfl, leVs.refl _⟩, ⟨rfl, ?_⟩, trivial⟩ (List.Perm.refl _) rfl, l, ⟨by omega, ?_⟩, rfl⟩
      · rw [← hrow]
        exact leVs_putC ((leV.osl_sl _ _ _ _ _).trans (leV.of_eq (by simp [EnC_eq, List.flatMap_append])))
      · exact hlm
end Go.Proofs.YtkdblnejpmbnfaaGreat.F
namespace Go.Proofs.YtkdblnejpmbnfaaGreat.F
open Go Go.Lx
set_option linter.unusedSimpArgs false
set_option linter.unusedVariables false
set_option maxRecDepth 100000
set_option maxHeartbeats 8000000
theorem FoC_put {fs : List Dv} {dv : Nat} {v v' : LV} (h : dv < fs.length) : putC (FoC fs dv v) (dv * 2 + 1) v' = FoC fs dv v' := by
  have hl := len_dv fs
  rw [FoC, FoC, putC_set v' (by rw [putC_len _ (by omega)]; omega), putC_set v (by omega), putC_set v' (by omega), List.set_set]
def keepN (i : Int) (n : No) : Bool := n.ino != i
theorem dropO (fs : List Dv) (dv : Nat) (i : Int) (b c b1 c1 : Nat) (h : OkO fs dv c c1) :
    LCalls Tryz.prog gl 153 [FoV b fs.length c, AtL ⟨dv, i⟩] (FoH fs dv b c b1 c1) fun r H => ∃ ns b1 c1, ns.length ≤ c1 ∧ (ns = (fs.getD dv dv0).ns ∨ ns = (fs.getD dv dv0).ns.filter (keepN i)) ∧ H = FoH (setD fs dv ⟨(fs.getD dv dv0).nx, ns⟩) dv b c b1 c1 := by
  have hX := linksO fs dv i b c b1 c1 h
  obtain ⟨hf, hdv, hc, hc1⟩ := h
  refine fn_viewT Tryz.func153 t153 Tryz.ntmps153 (by simp) ?_
  have hl := hf.1
  obtain ⟨hk, hke⟩ := hf.2 _ (getD_memA dv0 hdv)
  have hFl := FoC_len (.msl 7001 8 b1 0 (fs.getD dv dv0).ns.length c1) hdv
  have hg := FoC_v (.msl 7001 8 b1 0 (fs.getD dv dv0).ns.length c1) hdv
  rw [← getSp (k := (c - fs.length) * 2) (by omega)] at hg
  have hFS := length_Sp (FoC fs dv (.msl 7001 8 b1 0 (fs.getD dv dv0).ns.length c1)) ((c - fs.length) * 2)
  have hP := fun v => putC_Sp (k := (c - fs.length) * 2) v (show dv * 2 + 1 < (FoC fs dv (.msl 7001 8 b1 0 (fs.getD dv dv0).ns.length c1)).length by omega)
  simp only [FoC_put hdv] at hP
  have hH : ∀ ns b1 c1, FoH (setD fs dv ⟨(fs.getD dv dv0).nx, ns⟩) dv b c b1 c1 = [(7000, .blk b (Sp (FoC fs dv (.msl 7001 8 b1 0 ns.length c1)) ((c - fs.length) * 2))), (7001, .blk b1 (Sp (ns.flatMap NoC) ((c1 - ns.length) * 8)))] := fun ns b1 c1 => by
    rw [FoH_eq, setD, getD_set hdv, FoC_same (D' := ⟨(fs.getD dv dv0).nx, ns⟩) hdv rfl, List.length_set]
  simp only [hH]
  rw [FoH_eq] at *
  generalize hCC : Sp (FoC fs dv (.msl 7001 8 b1 0 (fs.getD dv dv0).ns.length c1)) ((c - fs.length) * 2) = CC at *
  generalize fs.getD dv dv0 = D at *
  have hln := len_no D.ns
  have hS := length_Sp (D.ns.flatMap NoC) ((c1 - D.ns.length) * 8)
  have e3 := fun k h => gNoS (ns := D.ns) (i := k) (j := 0) (k := (c1 - D.ns.length) * 8) h (by omega)
  have e8 := fun k h => tNoS (ns := D.ns) (i := k) (k := (c1 - D.ns.length) * 8) h
  generalize hSS : Sp (D.ns.flatMap NoC) ((c1 - D.ns.length) * 8) = SS at *
  unfold c153 r153
  rw [AtL_eq, FoV_eq] at *
  repeat' (first | (simp (disch := first | exact dd | fail) only [go_sem]) | (refine allI (fun b => ?_)) | (refine allT (fun τ => ?_)) | (refine brP (fun h => ?_) (fun h => ?_) <;> (try simp only [zgx, zbx] at h)) | (refine gd ?_) | fail)
  rename_i bp b2
  refine actsP_U (H2 := [_, _]) hX (pick_perm rfl (pick_perm rfl (List.Perm.refl _))) ?_
  rintro _ _ ⟨⟨n, rfl⟩, rfl⟩
  simp only [List.cons_append, List.nil_append]
  repeat' (first | (simp (disch := first | exact dd | fail) only [go_sem, hg]) | (refine allI (fun b => ?_)) | (refine allT (fun τ => ?_)) | (refine brP (fun h => ?_) (fun h => ?_) <;> (try simp only [zgx, zbx] at h)) | (refine gd ?_) | fail)
  · exact ⟨_, _, leVH.of (leV.refl _) ⟨_, List.Sublist.cons _ (List.Sublist.cons _ (List.Sublist.refl _)), List.Perm.refl _⟩, D.ns, b1, c1, hc1, .inl rfl, by rw [hCC, hSS]⟩
  · refine loopI (ι := Nat × List No × Nat × Nat) (fun y => y.1 ≤ D.ns.length ∧ y.2.1 = (D.ns.take y.1).filter (keepN i) ∧ y.2.1.length ≤ y.2.2.2) (fun y => [(6, .int .i64 y.1), (5, .msl 7001 8 b1 0 D.ns.length c1), (4, .msl 7002 8 y.2.2.1 0 y.2.1.length y.2.2.2), (3, .ptr 3 b 0), (2, .ptr 2 b2 0)]) (fun y => [(7002, .blk y.2.2.1 (Sp (y.2.1.flatMap NoC) ((y.2.2.2 - y.2.1.length) * 8))), (3, .blk b [.int .i64 dv, .int .i64 i]), (2, .blk b2 [.msl 7000 2 bp 0 fs.length c]), (7000, .blk bp CC), (7001, .blk b1 SS)]) (fun y => D.ns.length - y.1) (0, [], 0, 0) (by simp) ?_ ?_
    · refine Ents.emp 7002 (Ents.le ⟨leV.refl _, leV.refl _, leV.nil_msl _ _ _, leV.refl _, leV.refl _, trivial⟩ ⟨⟨rfl, by simp [Sp, leVs]⟩, ⟨rfl, leVs.refl _⟩, ⟨rfl, leVs.refl _⟩, ⟨rfl, leVs.refl _⟩, ⟨rfl, leVs.refl _⟩, trivial⟩)
    rintro ⟨k, L, bm, cm⟩ ⟨hk1, hkL, hk2⟩
    dsimp only at hk1 hk2 hkL ⊢
    have htl := len_no L
    have hkk : L.length ≤ 1000 := by rw [hkL]; exact Nat.le_trans (List.length_filter_le _ _) (by rw [List.length_take]; omega)
    have hts := fun h : k < D.ns.length => take_succ_getD no0 D.ns h
    simp (disch := first | exact dd | fail) only [go_sem]
    refine brP (fun hb => ?_) (fun hb => ?_)
    · have hlt : k < D.ns.length := by simpa using hb
      have e3 := e3 k hlt
      have e8 := e8 k hlt
      replace hts := hts hlt
      rw [← nAt] at hts
      have hes := hke _ (getD_memA no0 hlt)
      rw [← nAt] at hes
      generalize nAt D.ns k = nd at *
      rw [NoC_eq, Nat.add_zero] at e3
      simp only [List.getD_cons_zero, List.getD_cons_succ] at e3
      rw [NoC_eq] at e8
      have hF : (D.ns.take (k + 1)).filter (keepN i) = L ++ (if nd.ino = i then [] else [nd]) := by
        rw [hts, List.filter_append, ← hkL]
        congr 1
        by_cases h : nd.ino = i <;> simp [keepN, h]
      repeat' (first | (simp (disch := first | exact dd | fail) only [go_sem, e3, e8, zNo]) | (refine allI (fun b => ?_)) | (refine allT (fun τ => ?_)) | (refine brP (fun h => ?_) (fun h => ?_) <;> (try simp only [zgx, zbx] at h)) | (refine gd ?_) | fail)
      · rw [if_neg h] at hF
        refine .inl ⟨by rw [length_Sp, htl]; omega, by rw [length_Sp, htl]; omega, by simp only [roomy]; omega, fun b4 c4 h4 => ?_⟩
        rw [take_Sp _ htl]
        have hLl : (L ++ [nd]).length = L.length + 1 := by simp
        refine ⟨⟨(k + 1, L ++ [nd], b4, c4), by dsimp only; omega, hF.symm, by dsimp only; omega⟩, by dsimp only; omega, ?_⟩
        dsimp only
        rw [hLl]
        refine Ents.le (by simp [go_sem]) ⟨⟨rfl, ?_⟩, ⟨rfl, leVs.refl _⟩, ⟨rfl, leVs.refl _⟩, ⟨rfl, leVs.refl _⟩, ⟨rfl, leVs.refl _⟩, trivial⟩
        rw [List.flatMap_append, List.flatMap_singleton, Sp, NoC_eq]
        exact leVs.refl _
      · rw [if_pos (by simpa using h), List.append_nil] at hF
        exact ⟨⟨(k + 1, L, bm, cm), by dsimp only; omega, hF.symm, hk2⟩, by dsimp only; omega, Ents.envH (by simp [go_sem]) rfl⟩
    · have hje : k = D.ns.length := by simp only [decide_eq_false_iff_not] at hb; omega
      rw [hje, List.take_length] at hkL
      repeat' (first | (simp (disch := first | exact dd | fail) only [go_sem, hg, putC_eq]) | (refine allI (fun b => ?_)) | (refine allT (fun τ => ?_)) | (refine brP (fun h => ?_) (fun h => ?_) <;> (try simp only [zgx, zbx] at h)) | (refine gd ?_) | fail)
      rw [hP]
      refine ⟨_, [(7000, _), (7001, _)], leVH.gen (H3 := [(7002, .blk bm (Sp (L.flatMap NoC) ((cm - L.length) * 8))), (7000, .blk bp (Sp (FoC fs dv (.msl 7001 8 bm 0 L.length cm)) ((c - fs.length) * 2)))]) (leV.refl _) (List.Sublist.cons_cons _ (List.Sublist.cons _ (List.Sublist.cons _ (List.Sublist.cons_cons _ (List.nil_sublist _))))) ⟨⟨rfl, leVs.refl _⟩, ⟨rfl, ?_⟩, trivial⟩ (List.Perm.swap _ _ _) rfl, L, bm, cm, hk2, .inr hkL, rfl⟩
      rw [Sp, Sp]
      exact leVs.app (leVs_putC (leV.msl_name _ _ _ _ _ _ _)) (leVs.refl _)
end Go.Proofs.YtkdblnejpmbnfaaGreat.F
namespace Go.Proofs.YtkdblnejpmbnfaaGreat.F
open Go Go.Lx
set_option linter.unusedSimpArgs false
set_option linter.unusedVariables false
def fnd (ns : List No) (x : Int) : Option No := ns.find? fun n => n.ino == x
theorem fnd_ix (ns : List No) (x : Int) : (ixI ns x = -1 ∧ fnd ns x = none) ∨ ∃ i, i < ns.length ∧ ixI ns x = (i : Nat) ∧ fnd ns x = some (nAt ns i) ∧ (nAt ns i).ino = x ∧ ∀ j, j < i → (nAt ns j).ino ≠ x := by
  rcases ixI_cases ns x with ⟨h1, h2⟩ | ⟨i, h1, h2, h3, h4⟩
  · refine .inl ⟨h1, ?_⟩
    rw [fnd, List.find?_eq_none]
    intro n hn
    obtain ⟨j, hj, rfl⟩ := List.getElem_of_mem hn
    have := h2 j hj
    simp only [nAt, List.getD, hj, List.getElem?_eq_getElem, Option.getD_some] at this
    simpa using this
  · refine .inr ⟨i, h1, h2, ?_, h3, h4⟩
    rw [fnd, List.find?_eq_some_iff_getElem]
    refine ⟨by simpa using h3, i, h1, by simp [nAt, List.getD, h1], fun j hj => ?_⟩
    have := h4 j hj
    simp only [nAt, List.getD, show j < ns.length by omega, List.getElem?_eq_getElem, Option.getD_some] at this
    simpa using this
theorem fnd_mem {ns : List No} {x : Int} {n : No} (h : fnd ns x = some n) : n ∈ ns ∧ n.ino = x := by
  rw [fnd, List.find?_eq_some_iff_append] at h
  obtain ⟨h1, us, ws, h2, _⟩ := h
  exact ⟨by rw [h2]; simp, by simpa using h1⟩
theorem fnd_set {ns : List No} {x : Int} {k : Nat} {n' : No} (hk : ixI ns x = (k : Nat)) (hl : k < ns.length) (hn : n'.ino = x) (y : Int) : fnd (ns.set k n') y = if y = x then some n' else fnd ns y := by
  rcases fnd_ix ns x with ⟨h1, _⟩ | ⟨i, h1, h2, h3, h4, h5⟩
  · rw [h1] at hk; omega
  obtain rfl : i = k := by omega
  have hget : ∀ j, j < ns.length → nAt (ns.set i n') j = if j = i then n' else nAt ns j := fun j hj => by
    simp only [nAt, List.getD, List.getElem?_set]
    by_cases e : i = j
    · subst e; simp [hj]
    · rw [if_neg e, if_neg (by omega)]
  rcases fnd_ix (ns.set i n') y with ⟨g1, g2⟩ | ⟨j, g1, g2, g3, g4, g5⟩
  · rw [g2]
    have hno : ∀ j, j < ns.length → (nAt (ns.set i n') j).ino ≠ y := by
      rcases ixI_cases (ns.set i n') y with ⟨_, q⟩ | ⟨_, _, q, _⟩
      · simpa using q
      · rw [g1] at q; omega
    have hyx : y ≠ x := fun e => by
      have := hno i hl
      rw [hget i hl, if_pos rfl] at this
      exact this (by rw [hn, e])
    rw [if_neg hyx]
    rcases fnd_ix ns y with ⟨_, q⟩ | ⟨j, q1, q2, q3, q4, _⟩
    · rw [q]
    · have := hno j q1
      rw [hget j q1] at this
      split at this
      · rename_i e; subst e; exact absurd (h4.symm.trans q4).symm hyx
      · exact absurd q4 this
  · rw [List.length_set] at g1
    rw [g3, hget j g1]
    by_cases hyx : y = x
    · subst hyx
      rw [if_pos rfl]
      have hji : j = i := by
        rcases Nat.lt_trichotomy j i with h | h | h
        · have := h5 j h
          rw [hget j g1, if_neg (by omega)] at g4
          exact absurd g4 this
        · exact h
        · have := g5 i h
          rw [hget i hl, if_pos rfl] at this
          exact absurd hn this
      rw [if_pos hji]
    · rw [if_neg hyx]
      have hji : j ≠ i := fun e => by
        rw [hget j g1, if_pos e, hn] at g4
        exact hyx g4.symm
      rw [if_neg hji]
      rw [hget j g1, if_neg hji] at g4
      rcases fnd_ix ns y with ⟨q1, q⟩ | ⟨m, q1, q2, q3, q4, q5⟩
      · rcases ixI_cases ns y with ⟨_, q2⟩ | ⟨_, _, q2, _⟩
        · exact absurd g4 (q2 j g1)
        · rw [q1] at q2; omega
      · rw [q3]
        have hmj : m = j := by
          rcases Nat.lt_trichotomy m j with h | h | h
          · have := g5 m h
            rw [hget m q1] at this
            split at this
            · rename_i e; subst e; exact absurd (q4.symm.trans h4) hyx
            · exact absurd q4 this
          · exact h
          · exact absurd g4 (q5 j h)
        rw [hmj]
theorem fnd_filter (ns : List No) (i y : Int) : fnd (ns.filter (keepN i)) y = if y = i then none else fnd ns y := by
  rw [fnd, fnd, List.find?_filter]
  split
  · rename_i e
    subst e
    rw [List.find?_eq_none]
    intro n _
    simp [keepN]
  · rename_i e
    congr 1
    funext n
    simp only [keepN]
    by_cases h : n.ino = y
    · simp [h, e]
    · simp [h]
theorem fnd_app (ns : List No) (n : No) (y : Int) : fnd (ns ++ [n]) y = (fnd ns y).or (if n.ino = y then some n else none) := by
  rw [fnd, List.find?_append, ← fnd]
  congr 1
  by_cases h : n.ino = y <;> simp [h]
inductive LU (g : Int → Option No) : Nat → Int → Prop
  | top (x : Int) : (x = 1 ∨ ∀ n, g x = some n → n.kind ≠ 2) → LU g 0 x
  | up (x : Int) (n : No) (k : Nat) : g x = some n → n.kind = 2 → x ≠ 1 → LU g k n.par → LU g (k + 1) x
theorem LU.mono {g g' : Int → Option No} (h : ∀ x n', g' x = some n' → n'.kind = 2 → ∃ n, g x = some n ∧ n.kind = 2 ∧ n.par = n'.par) {k : Nat} {x : Int} (hl : LU g k x) : ∃ k', LU g' k' x := by
  induction hl with
  | top x hx => exact ⟨0, .top x (hx.imp id fun hx n' hn hk => by
      obtain ⟨n, h1, h2, _⟩ := h x n' hn hk
      exact hx n h1 h2)⟩
  | up x n k hg hk hx _ ih =>
    obtain ⟨k', ih⟩ := ih
    cases hg' : g' x with
    | none => exact ⟨0, .top x (.inr fun n' hn => by rw [hg'] at hn; cases hn)⟩
    | some n' =>
      by_cases hk' : n'.kind = 2
      · obtain ⟨n2, h1, h2, h3⟩ := h x n' hg' hk'
        rw [hg] at h1
        cases h1
        exact ⟨k' + 1, .up x n' k' hg' hk' hx (h3 ▸ ih)⟩
      · exact ⟨0, .top x (.inr fun m hm => by rw [hg'] at hm; cases hm; exact hk')⟩
theorem LU.fun {g : Int → Option No} {k j : Nat} {x : Int} (h : LU g k x) : LU g j x → k = j := by
  induction h generalizing j with
  | top x hx =>
    intro h2
    cases h2 with
    | top => rfl
    | up _ n k hg hk hx1 _ =>
      rcases hx with e | e
      · exact absurd e hx1
      · exact absurd hk (e n hg)
  | up x n k hg hk hx1 _ ih =>
    intro h2
    cases h2 with
    | top _ hx =>
      rcases hx with e | e
      · exact absurd e hx1
      · exact absurd hk (e n hg)
    | up _ n2 k2 hg2 hk2 _ h3 =>
      rw [hg] at hg2
      cases hg2
      rw [ih h3]
theorem php : ∀ (xs l : List Int), xs.Nodup → (∀ x ∈ xs, x ∈ l) → xs.length ≤ l.length
  | [], l, _, _ => by simp
  | x :: xs, l, hn, hs => by
    have hx := hs x (by simp)
    rw [List.nodup_cons] at hn
    have ih := php xs (l.erase x) hn.2 fun y hy => by
      have h1 := hs y (by simp [hy])
      have h2 : y ≠ x := fun e => hn.1 (e ▸ hy)
      exact (List.mem_erase_of_ne h2).2 h1
    have h3 := List.length_erase_of_mem hx
    have h4 := List.length_pos_of_mem hx
    simp only [List.length_cons]
    omega
theorem LU.chain {ns : List No} {k : Nat} {x : Int} (h : LU (fnd ns) k x) : ∃ xs : List Int, xs.length = k ∧ xs.Nodup ∧ (∀ y ∈ xs, y ∈ ns.map No.ino) ∧ ∀ y ∈ xs, ∃ j, 1 ≤ j ∧ j ≤ k ∧ LU (fnd ns) j y := by
  induction h with
  | top x hx => exact ⟨[], rfl, by simp, by simp, by simp⟩
  | up x n k hg hk hx hl ih =>
    obtain ⟨xs, h1, h2, h3, h4⟩ := ih
    refine ⟨x :: xs, by simp [h1], ?_, ?_, ?_⟩
    · rw [List.nodup_cons]
      refine ⟨fun hm => ?_, h2⟩
      obtain ⟨j, _, hj, hL⟩ := h4 x hm
      have := LU.fun hL (.up x n k hg hk hx hl)
      omega
    · intro y hy
      rcases List.mem_cons.1 hy with rfl | hy
      · obtain ⟨m1, m2⟩ := fnd_mem hg
        exact List.mem_map.2 ⟨n, m1, m2⟩
      · exact h3 y hy
    · intro y hy
      rcases List.mem_cons.1 hy with rfl | hy
      · exact ⟨k + 1, by omega, by omega, .up y n k hg hk hx hl⟩
      · obtain ⟨j, a, b, c⟩ := h4 y hy
        exact ⟨j, a, by omega, c⟩
theorem LU.le {ns : List No} {k : Nat} {x : Int} (h : LU (fnd ns) k x) : k ≤ ns.length := by
  obtain ⟨xs, h1, h2, h3, _⟩ := h.chain
  have := php xs _ h2 h3
  simpa [h1] using this
def parF (g : Int → Option No) (x : Int) : Int := match g x with
  | some n => n.par
  | none => 0
def parN (g : Int → Option No) : Nat → Int → Int
  | 0, x => x
  | k + 1, x => parN g k (parF g x)
theorem LU.move {g g' : Int → Option No} {at_ to : Int} (hg : ∀ x, x ≠ at_ → g' x = g x) (ha : ∀ n', g' at_ = some n' → n'.par = to) {k : Nat} (hto : LU g k to) (hno : ∀ j, j ≤ k → parN g j to ≠ at_) (hall : ∀ x, ∃ j, LU g j x) (x : Int) : ∃ j, LU g' j x := by
  have h1 : ∀ (k : Nat) (y : Int), LU g k y → (∀ j, j ≤ k → parN g j y ≠ at_) → LU g' k y := by
    intro k y h
    induction h with
    | top y hy =>
      intro hn
      have := hg y (hn 0 (Nat.le_refl _))
      exact .top y (by rw [this]; exact hy)
    | up y n k hgy hk hy1 _ ih =>
      intro hn
      have h2 := hg y (hn 0 (by omega))
      refine .up y n k (by rw [h2]; exact hgy) hk hy1 (ih fun j hj => ?_)
      have := hn (j + 1) (by omega)
      rw [parN, parF, hgy] at this
      exact this
  have hto' := h1 k to hto hno
  have hat : ∃ j, LU g' j at_ := by
    cases hg' : g' at_ with
    | none => exact ⟨0, .top _ (.inr fun n' hn => by rw [hg'] at hn; cases hn)⟩
    | some n' =>
      by_cases h2 : n'.kind = 2 ∧ at_ ≠ 1
      · exact ⟨k + 1, .up _ n' k hg' h2.1 h2.2 (by rw [ha n' hg']; exact hto')⟩
      · refine ⟨0, .top _ ?_⟩
        by_cases h3 : at_ = 1
        · exact .inl h3
        · exact .inr fun m hm hk => by rw [hg'] at hm; cases hm; exact h2 ⟨hk, h3⟩
  obtain ⟨j, hj⟩ := hall x
  induction hj with
  | top x hx =>
    by_cases e : x = at_
    · rw [e]; exact hat
    · exact ⟨0, .top x (by rw [hg x e]; exact hx)⟩
  | up x n k hgx hk hx1 _ ih =>
    by_cases e : x = at_
    · rw [e]; exact hat
    · obtain ⟨j', ih⟩ := ih
      exact ⟨j' + 1, .up x n j' (by rw [hg x e]; exact hgx) hk hx1 ih⟩
end Go.Proofs.YtkdblnejpmbnfaaGreat.F
