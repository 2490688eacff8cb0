/- Layer 6: mounts: what is read. -/
import Derived.Test.YtkdblnejpmbnfaaGreatW16
import Derived.Test.YtkdblnejpmbnfaaGreatW11
import Derived.Test.YtkdblnejpmbnfaaGreatW15
namespace Go.Proofs.YtkdblnejpmbnfaaGreat.F
open Go Go.Lx
set_option linter.unusedSimpArgs false
set_option linter.unusedVariables false
set_option maxRecDepth 100000
set_option maxHeartbeats 8000000
structure Mo where
  dv : Int
  on : At
def MoC (m : Mo) : List LV := [.int .i64 m.dv, .int .i64 m.on.d, .int .i64 m.on.i]
theorem MoC_eq (m : Mo) : MoC m = [.int .i64 m.dv, .int .i64 m.on.d, .int .i64 m.on.i] := Eq.trans rfl rfl
def mo0 : Mo := ⟨0, ⟨0, 0⟩⟩
theorem len_mo (l : List Mo) : (l.flatMap MoC).length = l.length * 3 := length_rows (f := MoC) (w := 3) (fun _ => rfl) l
structure Spc where
  fs : List Dv
  ms : List Mo
def SpL (s : Spc) : LV := .agg [.sl 2 s.fs.length (s.fs.flatMap DvC), .sl 3 s.ms.length (s.ms.flatMap MoC)]
theorem SpL_eq (s : Spc) : SpL s = .agg [.sl 2 s.fs.length (s.fs.flatMap DvC), .sl 3 s.ms.length (s.ms.flatMap MoC)] := Eq.trans rfl rfl
theorem gMo {ms : List Mo} {i : Nat} {j : Nat} (h1 : i < ms.length) (hj : j < 3) : (ms.flatMap MoC).getD (i * 3 + j) .any = (MoC (ms.getD i mo0)).getD j .any := getD_rows (f := MoC) (w := 3) (fun _ => rfl) hj mo0 _ _ h1
theorem tMo {ms : List Mo} {i : Nat} (h1 : i < ms.length) : ((ms.flatMap MoC).drop (i * 3)).take 3 = MoC (ms.getD i mo0) := take_rows (f := MoC) (w := 3) (fun _ => rfl) mo0 _ h1
theorem tMo2 {ms : List Mo} {i : Nat} (h1 : i < ms.length) : ((ms.flatMap MoC).drop (i * 3 + 1)).take 2 = [.int .i64 (ms.getD i mo0).on.d, .int .i64 (ms.getD i mo0).on.i] := by
  have h := tMo h1
  have e : ((ms.flatMap MoC).drop (i * 3 + 1)).take 2 = (((ms.flatMap MoC).drop (i * 3)).take 3).drop 1 := by
    rw [List.drop_take, List.drop_drop]
  rw [e, h]; rfl
theorem on (s : Spc) (d : Int) (hl : s.ms.length ≤ 1000) : PureE Tryz.prog gl 143 [SpL s, .int .i64 d] fun v => ∃ r : At × Bool, ((r.2 = true → ∃ m ∈ s.ms, m.dv = d ∧ m.on = r.1) ∧ (r.2 = false → ∀ m ∈ s.ms, m.dv ≠ d)) ∧ v = .tup [AtL r.1, .bool r.2] := by
  refine fn_viewT Tryz.func143 t143 Tryz.ntmps143 (by simp) ?_
  have hlm := len_mo s.ms
  unfold c143 r143
  rw [SpL_eq]
  repeat' (first | (simp (disch := first | exact dd | fail) only [go_sem]) | (refine allI (fun b => ?_)) | (refine allT (fun τ => ?_)) | (refine brP (fun h => ?_) (fun h => ?_) <;> (try simp only [zgx, zbx] at h)) | (refine gd ?_) | fail)
  refine loopI (ι := Nat) (fun i => i ≤ s.ms.length ∧ ∀ j, j < i → (s.ms.getD j mo0).dv ≠ d) (fun i => (6, .int .i64 i) :: _) (fun _ => _) (fun i => s.ms.length - i) 0 ⟨by omega, fun j hj => absurd hj (by omega)⟩ Ents.same ?_
  rintro i ⟨hi, hj⟩
  simp (disch := first | exact dd | fail) only [go_sem]
  refine brP (fun hb => ?_) (fun hb => ?_)
  · have hlt : i < s.ms.length := by simpa using hb
    have e1 : (s.ms.flatMap MoC).getD (i * 3) .any = .int .i64 (s.ms.getD i mo0).dv := by rw [← Nat.add_zero (i * 3), gMo hlt (by omega)]; rfl
    have e2 := tMo2 hlt
    have hm := getD_memA mo0 hlt
    generalize hM : s.ms.getD i mo0 = m at *
    repeat' (first | (simp (disch := first | exact dd | fail) only [go_sem, e1, e2]) | (refine allI (fun b => ?_)) | (refine allT (fun τ => ?_)) | (refine brP (fun h => ?_) (fun h => ?_) <;> (try simp only [zgx, zbx] at h)) | (refine gd ?_) | fail)
    · exact pureE_end (leV.refl _) ⟨(m.on, true), ⟨fun _ => ⟨m, hm, h, rfl⟩, by simp⟩, rfl⟩
    · refine ⟨⟨i + 1, by omega, fun j hj2 => ?_⟩, by dsimp only; omega, Ents.envH (by simp [go_sem]) rfl⟩
      rcases (by omega : j < i ∨ j = i) with h3 | rfl
      · exact hj j h3
      · rw [hM]; simpa using h
  · repeat' (first | (simp (disch := first | exact dd | fail) only [go_sem]) | (refine allI (fun b => ?_)) | (refine allT (fun τ => ?_)) | (refine brP (fun h => ?_) (fun h => ?_) <;> (try simp only [zgx, zbx] at h)) | (refine gd ?_) | fail)
    refine pureE_end (leV.refl _) ⟨(⟨0, 0⟩, false), ⟨by simp, fun _ m hm => ?_⟩, rfl⟩
    obtain ⟨j, hjl, rfl⟩ := List.getElem_of_mem hm
    have := hj j (by simp only [decide_eq_false_iff_not] at hb; omega)
    simpa [List.getD, hjl] using this
theorem mtd (s : Spc) (d : Int) (hl : s.ms.length ≤ 1000) : PureE Tryz.prog gl 145 [SpL s, .int .i64 d] fun v => ∃ b : Bool, ((b = true → d = 0 ∨ ∃ m ∈ s.ms, m.dv = d) ∧ (b = false → d ≠ 0 ∧ ∀ m ∈ s.ms, m.dv ≠ d)) ∧ v = .bool b := by
  refine fn_viewT Tryz.func145 t145 Tryz.ntmps145 (by simp) ?_
  have c1 := on s d hl
  unfold c145 r145
  rw [SpL_eq] at *
  repeat' (first | (simp (disch := first | exact dd | fail) only [go_sem, AtL_eq]) | (refine allI (fun b => ?_)) | (refine allT (fun τ => ?_)) | (refine brP (fun h => ?_) (fun h => ?_) <;> (try simp only [zgx, zbx] at h)) | (refine pureE_U c1 ?_; rintro _ ⟨r, ⟨hr1, hr2⟩, rfl⟩) | (refine gd ?_) | fail)
  refine pureE_end (leV.refl _) ⟨r.2 || d == 0, ⟨fun h => ?_, fun h => ?_⟩, by simp⟩
  · by_cases h2 : r.2 = true
    · obtain ⟨m, h3, h4, _⟩ := hr1 h2
      exact .inr ⟨m, h3, h4⟩
    · simp only [h2, Bool.false_or, beq_iff_eq] at h
      exact .inl h
  · simp only [Bool.or_eq_false_iff, beq_eq_false_iff_ne] at h
    exact ⟨h.2, hr2 h.1⟩
theorem devi (s : Spc) (x : At) (hl : s.ms.length ≤ 1000) : PureE Tryz.prog gl 142 [SpL s, AtL x] fun v => ∃ r : Int × Bool, v = .tup [.int .i64 r.1, .bool r.2] := by
  refine fn_viewT Tryz.func142 t142 Tryz.ntmps142 (by simp) ?_
  have hlm := len_mo s.ms
  unfold c142 r142
  rw [SpL_eq, AtL_eq]
  repeat' (first | (simp (disch := first | exact dd | fail) only [go_sem]) | (refine allI (fun b => ?_)) | (refine allT (fun τ => ?_)) | (refine brP (fun h => ?_) (fun h => ?_) <;> (try simp only [zgx, zbx] at h)) | (refine gd ?_) | fail)
  refine loopI (ι := Nat) (fun i => i ≤ s.ms.length) (fun i => (6, .int .i64 i) :: _) (fun _ => _) (fun i => s.ms.length - i) 0 (by omega) Ents.same ?_
  intro i hi
  simp (disch := first | exact dd | fail) only [go_sem]
  refine brP (fun hb => ?_) (fun hb => ?_)
  · have hlt : i < s.ms.length := by simpa using hb
    have e1 : (s.ms.flatMap MoC).getD (i * 3) .any = .int .i64 (s.ms.getD i mo0).dv := by rw [← Nat.add_zero (i * 3), gMo hlt (by omega)]; rfl
    have e2 := tMo2 hlt
    generalize s.ms.getD i mo0 = m at *
    repeat' (first | (simp (disch := first | exact dd | fail) only [go_sem, e1, e2]) | (refine allI (fun b => ?_)) | (refine allT (fun τ => ?_)) | (refine brP (fun h => ?_) (fun h => ?_) <;> (try simp only [zgx, zbx] at h)) | (refine gd ?_) | fail)
    · exact pureE_end (leV.refl _) ⟨(_, _), rfl⟩
    · exact ⟨⟨i + 1, by omega⟩, by dsimp only; omega, Ents.envH (by simp [go_sem]) rfl⟩
  · repeat' (first | (simp (disch := first | exact dd | fail) only [go_sem]) | (refine allI (fun b => ?_)) | (refine allT (fun τ => ?_)) | (refine brP (fun h => ?_) (fun h => ?_) <;> (try simp only [zgx, zbx] at h)) | (refine gd ?_) | fail)
    exact pureE_end (leV.refl _) ⟨(_, _), rfl⟩
theorem cov (s : Spc) (x : At) (hl : s.ms.length ≤ 1000) : PureE Tryz.prog gl 154 [SpL s, AtL x] fun v => ∃ b : Bool, v = .bool b := by
  refine fn_viewT Tryz.func154 t154 Tryz.ntmps154 (by simp) ?_
  have c1 := devi s x hl
  unfold c154 r154
  rw [SpL_eq, AtL_eq] at *
  repeat' (first | (simp (disch := first | exact dd | fail) only [go_sem]) | (refine allI (fun b => ?_)) | (refine allT (fun τ => ?_)) | (refine brP (fun h => ?_) (fun h => ?_) <;> (try simp only [zgx, zbx] at h)) | (refine pureE_U c1 ?_; rintro _ ⟨r, rfl⟩) | (refine gd ?_) | fail)
  exact pureE_end (leV.refl _) ⟨_, rfl⟩
theorem down (s : Spc) (x : At) (hl : s.ms.length ≤ 1000) : PureE Tryz.prog gl 120 [SpL s, AtL x] fun v => ∃ y : At, v = AtL y := by
  refine fn_viewT Tryz.func120 t120 Tryz.ntmps120 (by simp) ?_
  have c1 := fun y => devi s y hl
  unfold c120 r120
  simp only [AtL_eq] at c1
  rw [SpL_eq, AtL_eq] at *
  repeat' (first | (simp (disch := first | exact dd | fail) only [go_sem]) | (refine allI (fun b => ?_)) | (refine allT (fun τ => ?_)) | (refine brP (fun h => ?_) (fun h => ?_) <;> (try simp only [zgx, zbx] at h)) | (refine gd ?_) | fail)
  rename_i b2 b3
  refine loopI (ι := Nat × At) (fun y => y.1 ≤ s.ms.length + 1) (fun y => [(5, .int .i64 y.1), (4, .ptr 4 b 0), (3, .ptr 3 b3 0), (2, .ptr 2 b2 0)]) (fun y => [(4, .blk b [.int .i64 0, .int .i64 0]), (3, .blk b3 [.int .i64 y.2.d, .int .i64 y.2.i]), (2, .blk b2 [.sl 2 s.fs.length (s.fs.flatMap DvC), .sl 3 s.ms.length (s.ms.flatMap MoC)])]) (fun y => s.ms.length + 1 - y.1) (0, x) (by dsimp only; omega) (Ents.envH (by simp [go_sem]) rfl) ?_
  rintro ⟨i, y⟩ hi
  dsimp only at hi ⊢
  have c1 := c1 y
  repeat' (first | (simp (disch := first | exact dd | fail) only [go_sem]) | (refine allI (fun b => ?_)) | (refine allT (fun τ => ?_)) | (refine brP (fun h => ?_) (fun h => ?_) <;> (try simp only [zgx, zbx] at h)) | (refine pureE_U c1 ?_; rintro _ ⟨r, rfl⟩) | (refine gd ?_) | fail)
  · exact ⟨⟨(i + 1, ⟨r.1, 1⟩), by dsimp only; omega⟩, by dsimp only; omega, Ents.envH (by simp [go_sem]) rfl⟩
  · exact ⟨⟨(i + 1, y), by dsimp only; omega⟩, by dsimp only; omega, Ents.envH (by simp [go_sem]) rfl⟩
  · exact pureE_end (leV.refl _) ⟨y, rfl⟩
theorem nodeR_nm {fs : List Dv} {x : At} {p q : Nat} (hf : FI p q fs) : ∀ e ∈ (nodeR fs x).1.es, e.nm.length ≤ 12 := by
  rw [nodeR]
  rcases idx_cases fs x with h | ⟨⟨h0, h1⟩, i, h2, h3, h4⟩
  · rw [h, if_pos (by omega)]; simp [no0]
  · rw [h3, if_neg (by omega), Int.toNat_natCast]
    exact ((hf.dev _ (getD_memA dv0 (by omega))).nod _ (nAt_mem h2)).2.2.2
theorem name (fs : List Dv) (x : At) (q : Nat) (hf : FI 16 q fs) (hq : q ≤ 900) : PureE Tryz.prog gl 146 [FiL fs, AtL x] fun v => ∃ s : List UInt8, s.length ≤ 12 ∧ v = .str s := by
  refine fn_viewT Tryz.func146 t146 Tryz.ntmps146 (by simp) ?_
  have hF := hf.ok (by omega) (by omega)
  have c1 := node fs x hF
  have c2 := fun i => node fs ⟨x.d, i⟩ hF
  have hes := fun i => nodeR_es hF ⟨x.d, i⟩
  have hnm := fun i => nodeR_nm (x := ⟨x.d, i⟩) hf
  generalize nodeR fs x = R at *
  obtain ⟨n, nb⟩ := R
  dsimp only at *
  have c2 := c2 n.par
  have hes := hes n.par
  have hnm := hnm n.par
  generalize nodeR fs ⟨x.d, n.par⟩ = R2 at *
  obtain ⟨n2, nb2⟩ := R2
  dsimp only at *
  have hle := len_en n2.es
  rw [NoC_eq] at c1 c2
  unfold c146 r146
  rw [AtL_eq] at c2
  rw [FiL_eq, AtL_eq] at *
  repeat' (first | (simp (disch := first | exact dd | fail) only [go_sem]) | (refine allI (fun b => ?_)) | (refine allT (fun τ => ?_)) | (refine brP (fun h => ?_) (fun h => ?_) <;> (try simp only [zgx, zbx] at h)) | refine call_U (c1) ?_ | refine callG_U (fun _ => c1) ?_ | refine call_T (c1) ?_ | refine callG_T (fun _ => c1) ?_ | refine call_U (c2) ?_ | refine callG_U (fun _ => c2) ?_ | refine call_T (c2) ?_ | refine callG_T (fun _ => c2) ?_ | refine call_N (c1) ?_ | refine call_of (c1) ?_ | refine callG_of (fun _ => c1) ?_ | refine call_N (c2) ?_ | refine call_of (c2) ?_ | refine callG_of (fun _ => c2) ?_ | (refine gd ?_) | fail)
  refine loopI (ι := Nat) (fun i => i ≤ n2.es.length) (fun i => (9, .int .i64 i) :: _) (fun _ => _) (fun i => n2.es.length - i) 0 (by omega) Ents.same ?_
  intro i hi
  simp (disch := first | exact dd | fail) only [go_sem]
  refine brP (fun hb => ?_) (fun hb => ?_)
  · have hlt : i < n2.es.length := by simpa using hb
    have e3 : (n2.es.flatMap EnC).getD (i * 2) .any = .str (n2.es.getD i en0).nm := by rw [← Nat.add_zero (i * 2), gEn hlt (by omega)]; rfl
    have e4 : (n2.es.flatMap EnC).getD (i * 2 + 1) .any = .int .i64 (n2.es.getD i en0).ino := by rw [gEn hlt (by omega)]; rfl
    have hm := hnm _ (getD_memA en0 hlt)
    generalize n2.es.getD i en0 = y at *
    repeat' (first | (simp (disch := first | exact dd | fail) only [go_sem, e3, e4]) | (refine allI (fun b => ?_)) | (refine allT (fun τ => ?_)) | (refine brP (fun h => ?_) (fun h => ?_) <;> (try simp only [zgx, zbx] at h)) | (refine gd ?_) | fail)
    · exact pureE_end (leV.refl _) ⟨_, hm, rfl⟩
    · exact ⟨⟨i + 1, by omega⟩, by dsimp only; omega, Ents.envH (by simp [go_sem]) rfl⟩
  · repeat' (first | (simp (disch := first | exact dd | fail) only [go_sem]) | (refine allI (fun b => ?_)) | (refine allT (fun τ => ?_)) | (refine brP (fun h => ?_) (fun h => ?_) <;> (try simp only [zgx, zbx] at h)) | (refine gd ?_) | fail)
    exact pureE_end (leV.refl _) ⟨[], by simp, rfl⟩
theorem join (a b : List UInt8) (h : a.length + b.length ≤ 1000000000) : PureE Tryz.prog gl 126 [.str a, .str b] fun v => ∃ s : List UInt8, s.length ≤ a.length + b.length + 1 ∧ v = .str s := by
  refine fn_viewT Tryz.func126 t126 Tryz.ntmps126 (by simp) ?_
  unfold c126 r126
  repeat' (first | (simp (disch := first | exact dd | fail) only [go_sem]) | (refine allI (fun b => ?_)) | (refine allT (fun τ => ?_)) | (refine brP (fun h => ?_) (fun h => ?_) <;> (try simp only [zgx, zbx] at h)) | (refine gd ?_) | fail)
  · exact pureE_end (leV.refl _) ⟨a ++ b, by simp, rfl⟩
  · exact ⟨by simp; omega, pureE_end (leV.refl _) ⟨a ++ [47] ++ b, by simp; omega, rfl⟩⟩
end Go.Proofs.YtkdblnejpmbnfaaGreat.F
namespace Go.Proofs.YtkdblnejpmbnfaaGreat.F
open Go Go.Lx
set_option linter.unusedSimpArgs false
set_option linter.unusedVariables false
set_option maxRecDepth 100000
set_option maxHeartbeats 8000000
structure SI (q : Nat) (s : Spc) : Prop where
  fi : FI 16 q s.fs
  ml : s.ms.length ≤ q
  mi : ∃ ρ : Int → Nat, (∀ d, ρ d ≤ q) ∧ ∀ m ∈ s.ms, ρ m.on.d < ρ m.dv ∧ m.dv ≠ 0 ∧ (m.on.d = 0 ∨ ∃ m' ∈ s.ms, m'.dv = m.on.d)
theorem pick_0a (a : Bool) : pickQ (.bool true) (.bool a) .any = (True, .bool a) := by simp [pickQ, LV.v, LV.g]
theorem up_step (s : Spc) (x : At) (q : Nat) (hs : SI q s) (hq : q ≤ 900) (hon : ∀ m ∈ s.ms, m.dv = x.d → PureE Tryz.prog gl 121 [SpL s, AtL m.on] fun v => ∃ y : At, v = AtL y) : PureE Tryz.prog gl 121 [SpL s, AtL x] fun v => ∃ y : At, v = AtL y := by
  refine fn_viewT Tryz.func121 t121 Tryz.ntmps121 (by simp) ?_
  have hF := hs.fi.ok (by omega) (by omega)
  have c1 := node s.fs x hF
  have hml := hs.ml
  have c2 := on s x.d (by omega)
  generalize nodeR s.fs x = R at *
  obtain ⟨n, nb⟩ := R
  dsimp only at c1
  rw [NoC_eq] at c1
  unfold c121 r121
  simp only [AtL_eq] at hon
  rw [FiL_eq] at c1
  rw [SpL_eq] at *
  rw [AtL_eq] at *
  repeat' (first | (simp (disch := first | exact dd | fail) only [go_sem, AtL_eq]) | (refine allI (fun b => ?_)) | (refine allT (fun τ => ?_)) | (refine brP (fun h => ?_) (fun h => ?_) <;> (try simp only [zgx, zbx] at h)) | refine call_U (c1) ?_ | refine callG_U (fun _ => c1) ?_ | refine call_T (c1) ?_ | refine callG_T (fun _ => c1) ?_ | refine call_N (c1) ?_ | refine call_of (c1) ?_ | refine callG_of (fun _ => c1) ?_ | (refine pureE_U c2 ?_; rintro _ ⟨r, ⟨hr1, hr2⟩, rfl⟩) | (refine gd ?_) | fail)
  · exact pureE_end (leV.refl _) ⟨⟨0, 0⟩, rfl⟩
  · exact pureE_end (leV.refl _) ⟨⟨x.d, n.par⟩, rfl⟩
  · obtain ⟨m, hm1, hm2, hm3⟩ := hr1 (by assumption)
    have c3 := hon m hm1 hm2
    rw [hm3] at c3
    refine pureE_U c3 ?_
    rintro _ ⟨y, rfl⟩
    repeat' (first | (simp (disch := first | exact dd | fail) only [go_sem, AtL_eq]) | (refine allI (fun b => ?_)) | (refine allT (fun τ => ?_)) | (refine brP (fun h => ?_) (fun h => ?_) <;> (try simp only [zgx, zbx] at h)) | (refine gd ?_) | fail)
    exact pureE_end (leV.refl _) ⟨y, rfl⟩
  · exact pureE_end (leV.refl _) ⟨x, rfl⟩
theorem up (s : Spc) (x : At) (q : Nat) (hs : SI q s) (hq : q ≤ 900) : PureE Tryz.prog gl 121 [SpL s, AtL x] fun v => ∃ y : At, v = AtL y := by
  obtain ⟨ρ, h1, h2⟩ := hs.mi
  have key : ∀ n x, ρ x.d = n → PureE Tryz.prog gl 121 [SpL s, AtL x] fun v => ∃ y : At, v = AtL y := by
    intro n
    induction n using Nat.strongRecOn with
    | _ n ih =>
      intro x hx
      refine up_step s x q hs hq fun m hm hmd => ?_
      have := (h2 m hm).1
      rw [hmd, hx] at this
      exact ih _ this m.on rfl
  exact key _ x rfl
theorem where_step (s : Spc) (x : At) (q B : Nat) (hs : SI q s) (hq : q ≤ 900) (hB : 1 ≤ B ∧ B ≤ 1000000)
    (hpar : dirB s.fs x = true → x.i ≠ 1 → PureE Tryz.prog gl 125 [SpL s, AtL ⟨x.d, (nodeR s.fs x).1.par⟩] fun v => ∃ r : List UInt8 × Bool, r.1.length + 13 ≤ B ∧ v = .tup [.str r.1, .bool r.2])
    (hon : ∀ m ∈ s.ms, m.dv = x.d → PureE Tryz.prog gl 125 [SpL s, AtL m.on] fun v => ∃ r : List UInt8 × Bool, r.1.length ≤ B ∧ v = .tup [.str r.1, .bool r.2]) :
    PureE Tryz.prog gl 125 [SpL s, AtL x] fun v => ∃ r : List UInt8 × Bool, r.1.length ≤ B ∧ v = .tup [.str r.1, .bool r.2] := by
  refine fn_viewT Tryz.func125 t125 Tryz.ntmps125 (by simp) ?_
  have hF := hs.fi.ok (by omega) (by omega)
  have c1 := node s.fs x hF
  have hml := hs.ml
  have c2 := on s x.d (by omega)
  have c3 := mtd s x.d (by omega)
  have c4 := dir s.fs x hF
  have c5 := name s.fs x q hs.fi hq
  generalize nodeR s.fs x = R at *
  obtain ⟨n, nb⟩ := R
  dsimp only at c1 hpar
  generalize dirB s.fs x = db at *
  rw [NoC_eq] at c1
  unfold c125 r125
  simp only [AtL_eq] at hon hpar
  rw [FiL_eq] at c1 c4 c5
  rw [SpL_eq] at *
  rw [AtL_eq] at *
  cases db
  · repeat' (first | (simp (disch := first | exact dd | fail) only [go_sem, AtL_eq, un_any, pick_00a]) | (refine allI (fun b => ?_)) | (refine allT (fun τ => ?_)) | (refine brP (fun h => ?_) (fun h => ?_) <;> (try simp only [zgx, zbx] at h)) | refine call_U (c4) ?_ | refine callG_U (fun _ => c4) ?_ | refine call_T (c4) ?_ | refine callG_T (fun _ => c4) ?_ | refine call_N (c4) ?_ | refine call_of (c4) ?_ | refine callG_of (fun _ => c4) ?_ | (refine callG_LU (fun hg => by cases hg) (fun _ => ?_)) | (refine gd ?_) | fail)
    exact pureE_end (leV.refl _) ⟨([], false), by simp, rfl⟩
  · repeat' (first | (simp (disch := first | exact dd | fail) only [go_sem, AtL_eq]) | (refine allI (fun b => ?_)) | (refine allT (fun τ => ?_)) | (refine brP (fun h => ?_) (fun h => ?_) <;> (try simp only [zgx, zbx] at h)) | refine call_U (c4) ?_ | refine callG_U (fun _ => c4) ?_ | refine call_T (c4) ?_ | refine callG_T (fun _ => c4) ?_ | refine call_U (c1) ?_ | refine callG_U (fun _ => c1) ?_ | refine call_T (c1) ?_ | refine callG_T (fun _ => c1) ?_ | refine call_N (c4) ?_ | refine call_of (c4) ?_ | refine callG_of (fun _ => c4) ?_ | refine call_N (c1) ?_ | refine call_of (c1) ?_ | refine callG_of (fun _ => c1) ?_ | (refine callG_LU (fun _ => ?_) (fun hg => by cases hg)) | (refine pureE_U c3 ?_; rintro _ ⟨mb, ⟨hmb1, hmb2⟩, rfl⟩) | (refine pureE_U c2 ?_; rintro _ ⟨r, ⟨hr1, hr2⟩, rfl⟩) | (refine gd ?_) | fail)
    · exact pureE_end (leV.refl _) ⟨([], false), by simp, rfl⟩
    · obtain ⟨m, hm1, hm2, hm3⟩ := hr1 (by assumption)
      have c6 := hon m hm1 hm2
      rw [hm3] at c6
      refine pureE_U c6 ?_
      rintro _ ⟨r1, hl1, rfl⟩
      repeat' (first | (simp (disch := first | exact dd | fail) only [go_sem]) | (refine allI (fun b => ?_)) | (refine allT (fun τ => ?_)) | (refine brP (fun h => ?_) (fun h => ?_) <;> (try simp only [zgx, zbx] at h)) | (refine gd ?_) | fail)
      exact pureE_end (leV.refl _) ⟨r1, hl1, rfl⟩
    · exact pureE_end (leV.refl _) ⟨([47], true), by simp; omega, rfl⟩
    · refine pureE_U (hpar rfl (by assumption)) ?_
      rintro _ ⟨r1, hl1, rfl⟩
      repeat' (first | (simp (disch := first | exact dd | fail) only [go_sem]) | (refine allI (fun b => ?_)) | (refine allT (fun τ => ?_)) | (refine brP (fun h => ?_) (fun h => ?_) <;> (try simp only [zgx, zbx] at h)) | (refine gd ?_) | fail)
      refine pureE_U c5 ?_
      rintro _ ⟨nm, hl2, rfl⟩
      repeat' (first | (simp (disch := first | exact dd | fail) only [go_sem]) | (refine allI (fun b => ?_)) | (refine allT (fun τ => ?_)) | (refine brP (fun h => ?_) (fun h => ?_) <;> (try simp only [zgx, zbx] at h)) | (refine gd ?_) | fail)
      refine pureE_U (join r1.1 nm (by omega)) ?_
      rintro _ ⟨w, hl3, rfl⟩
      repeat' (first | (simp (disch := first | exact dd | fail) only [go_sem]) | (refine allI (fun b => ?_)) | (refine allT (fun τ => ?_)) | (refine brP (fun h => ?_) (fun h => ?_) <;> (try simp only [zgx, zbx] at h)) | (refine gd ?_) | fail)
      exact pureE_end (leV.refl _) ⟨(w, r1.2), by dsimp only; omega, rfl⟩
theorem dirB_lu {fs : List Dv} {x : At} (h : dirB fs x = true) {j : Nat} (hl : LU (fnd (dAt fs x.d).ns) j x.i) (h1 : x.i ≠ 1) : ∃ j', j = j' + 1 ∧ LU (fnd (dAt fs x.d).ns) j' (nodeR fs x).1.par := by
  obtain ⟨dv, k, hxd, hdv, hix, hkl, hixI, hkind, hino⟩ := dirB_at h
  have hD : dAt fs x.d = fs.getD dv dv0 := by rw [hxd, dAt_nat]
  have hf := (fnd_k hixI).2.1
  have hn : (nodeR fs x).1 = nAt (fs.getD dv dv0).ns k := by rw [nodeR, hix, if_neg (by omega), Int.toNat_natCast, hD]
  rw [hD] at hl ⊢
  rw [hn]
  cases hl with
  | top _ hx =>
    rcases hx with e | e
    · exact absurd e h1
    · exact absurd hkind (e _ hf)
  | up _ n2 j2 hg hk hx1 h3 =>
    rw [hf] at hg
    cases hg
    exact ⟨j2, rfl, h3⟩
theorem FI.lu {fs : List Dv} {q : Nat} (h : FI 16 q fs) (d i : Int) : ∃ j, j ≤ 16 ∧ LU (fnd (dAt fs d).ns) j i := by
  by_cases hd : d.toNat < fs.length
  · have hD := h.dev _ (getD_memA dv0 hd)
    obtain ⟨j, hj⟩ := hD.lu i
    have h1 := hj.le
    have h2 := hD.len
    exact ⟨j, by omega, hj⟩
  · refine ⟨0, by omega, .top _ (.inr fun n hn => ?_)⟩
    have : dAt fs d = dv0 := by
      rw [dAt, List.getD_eq_getElem?_getD, List.getElem?_eq_none (by omega)]; rfl
    rw [this] at hn
    cases hn
theorem where_ (s : Spc) (x : At) (q : Nat) (hs : SI q s) (hq : q ≤ 900) : PureE Tryz.prog gl 125 [SpL s, AtL x] fun v => ∃ r : List UInt8 × Bool, r.1.length ≤ 300000 ∧ v = .tup [.str r.1, .bool r.2] := by
  obtain ⟨ρ, h1, h2⟩ := hs.mi
  have key : ∀ n d, ρ d = n → ∀ j i, j ≤ 16 → LU (fnd (dAt s.fs d).ns) j i → PureE Tryz.prog gl 125 [SpL s, AtL ⟨d, i⟩] fun v => ∃ r : List UInt8 × Bool, r.1.length ≤ 1 + 300 * n + 13 * j ∧ v = .tup [.str r.1, .bool r.2] := by
    intro n
    induction n using Nat.strongRecOn with
    | _ n ih =>
      intro d hd j
      have hnq := h1 d
      have hon : ∀ m ∈ s.ms, m.dv = d → PureE Tryz.prog gl 125 [SpL s, AtL m.on] fun v => ∃ r : List UInt8 × Bool, r.1.length ≤ 1 + 300 * n ∧ v = .tup [.str r.1, .bool r.2] := fun m hm hmd => by
        have h3 := (h2 m hm).1
        rw [hmd, hd] at h3
        obtain ⟨j', hj', hl'⟩ := hs.fi.lu m.on.d m.on.i
        exact (ih _ h3 m.on.d rfl j' m.on.i hj' hl').mono fun _ _ ⟨a, r, b, c⟩ => ⟨a, r, by omega, c⟩
      induction j with
      | zero =>
        intro i hj hl
        refine where_step s ⟨d, i⟩ q _ hs hq (by omega) (fun hb hi => ?_) (fun m hm hmd => (hon m hm hmd).mono fun _ _ ⟨a, r, b, c⟩ => ⟨a, r, by omega, c⟩)
        obtain ⟨j', e, _⟩ := dirB_lu hb hl hi
        omega
      | succ j ihj =>
        intro i hj hl
        refine where_step s ⟨d, i⟩ q _ hs hq (by omega) (fun hb hi => ?_) (fun m hm hmd => (hon m hm hmd).mono fun _ _ ⟨a, r, b, c⟩ => ⟨a, r, by omega, c⟩)
        obtain ⟨j', e, hl'⟩ := dirB_lu hb hl hi
        obtain rfl : j' = j := by omega
        exact (ihj _ (by omega) hl').mono fun _ _ ⟨a, r, b, c⟩ => ⟨a, r, by omega, c⟩
  obtain ⟨j, hj, hl⟩ := hs.fi.lu x.d x.i
  have := h1 x.d
  exact (key _ x.d rfl j x.i hj hl).mono fun _ _ ⟨a, r, b, c⟩ => ⟨a, r, by omega, c⟩
end Go.Proofs.YtkdblnejpmbnfaaGreat.F
namespace Go.Proofs.YtkdblnejpmbnfaaGreat.F
open Go Go.Lx
set_option linter.unusedSimpArgs false
set_option linter.unusedVariables false
set_option maxRecDepth 100000
set_option maxHeartbeats 8000000
theorem copyM (s : Spc) (q : Nat) (hs : SI q s) (hq : q ≤ 900) : NewsE Tryz.prog gl 95 [SpL s] 6001 fun r e => ∃ τ, r = .agg [.sl 2 s.fs.length (s.fs.flatMap DvC), .osl 6001 τ 3 s.ms.length (s.ms.flatMap MoC)] ∧ e = .tok τ := by
  refine NewsE.name (i := 8) (Q := fun r e => ∃ τ, r = .agg [.sl 2 s.fs.length (s.fs.flatMap DvC), .osl 8 τ 3 s.ms.length (s.ms.flatMap MoC)] ∧ e = .tok τ) ?_ fun r e ⟨τ, h1, h2⟩ => ⟨_, by subst h1; exact leV.agg ⟨leV.refl _, leV.osl_name 8 6001 τ _ _ _, trivial⟩, τ, rfl, h2⟩
  refine fn_viewT Tryz.func95 t95 Tryz.ntmps95 (by simp) ?_
  have hF := hs.fi.ok (by omega) (by omega)
  have c1 := copyF s.fs hF
  have hml := hs.ml
  have hlm := len_mo s.ms
  unfold c95 r95
  rw [FiL_eq] at c1
  rw [SpL_eq]
  repeat' (first | (simp (disch := first | exact dd | fail) only [go_sem]) | (refine allI (fun b => ?_)) | (refine allT (fun τ => ?_)) | (refine brP (fun h => ?_) (fun h => ?_) <;> (try simp only [zgx, zbx] at h)) | refine call_U (c1) ?_ | refine callG_U (fun _ => c1) ?_ | refine call_T (c1) ?_ | refine callG_T (fun _ => c1) ?_ | refine call_N (c1) ?_ | refine call_of (c1) ?_ | refine callG_of (fun _ => c1) ?_ | (refine gd ?_) | fail)
  refine ⟨by simp only [roomy]; omega, fun τ => ?_⟩
  repeat' (first | (simp (disch := first | exact dd | fail) only [go_sem]) | (refine allI (fun b => ?_)) | (refine allT (fun τ => ?_)) | (refine brP (fun h => ?_) (fun h => ?_) <;> (try simp only [zgx, zbx] at h)) | (refine gd ?_) | fail)
  exact ⟨_, [(8, .tok τ)], leVH.of (leV.refl _) ⟨_, List.Sublist.cons_cons _ (List.nil_sublist _), List.Perm.refl _⟩, _, rfl, τ, rfl, rfl⟩
theorem copyS (s : Spc) (q : Nat) (hs : SI q s) (hq : q ≤ 900) : Pure Tryz.prog gl 95 [SpL s] (SpL s) := by
  refine fn_pureT Tryz.func95 t95 Tryz.ntmps95 (by simp) ?_
  have hF := hs.fi.ok (by omega) (by omega)
  have c1 := copyF s.fs hF
  have hml := hs.ml
  have hlm := len_mo s.ms
  unfold c95 r95
  rw [FiL_eq] at c1
  rw [SpL_eq]
  repeat' (first | (simp (disch := first | exact dd | fail) only [go_sem]) | (refine allI (fun b => ?_)) | (refine allT (fun τ => ?_)) | (refine brP (fun h => ?_) (fun h => ?_) <;> (try simp only [zgx, zbx] at h)) | refine call_U (c1) ?_ | refine callG_U (fun _ => c1) ?_ | refine call_T (c1) ?_ | refine callG_T (fun _ => c1) ?_ | refine call_N (c1) ?_ | refine call_of (c1) ?_ | refine callG_of (fun _ => c1) ?_ | (refine gd ?_) | fail)
  refine ⟨by simp only [roomy]; omega, fun τ => ?_⟩
  repeat' (first | (simp (disch := first | exact dd | fail) only [go_sem]) | (refine allI (fun b => ?_)) | (refine allT (fun τ => ?_)) | (refine brP (fun h => ?_) (fun h => ?_) <;> (try simp only [zgx, zbx] at h)) | (refine gd ?_) | fail)
  exact leV.agg ⟨leV.refl _, leV.osl_sl _ _ _ _ _, trivial⟩
def S2L (r : Spc × Int) : LV := .tup [SpL r.1, .int .i64 r.2]
theorem S2_err {e : Int} : leV (.tup [.agg [.fsl 1 0 [], .fsl 1 0 []], .int .i64 e]) (S2L (⟨[], []⟩, e)) := leV.tup ⟨leV.agg ⟨leV.nil_sl _ _, leV.nil_sl _ _, trivial⟩, leV.refl _, trivial⟩
theorem SI.add {q : Nat} {s : Spc} (hs : SI q s) {dev : Int} {x : At} (h1 : x.d = 0 ∨ ∃ m ∈ s.ms, m.dv = x.d) (h2 : x.d ≠ dev) (h3 : dev ≠ 0) (h4 : ∀ m ∈ s.ms, m.dv ≠ dev) : SI (q + 1) ⟨s.fs, s.ms ++ [⟨dev, x⟩]⟩ := by
  obtain ⟨ρ, r1, r2⟩ := hs.mi
  refine ⟨hs.fi.mono (by omega) (by omega), by have := hs.ml; simp; omega, fun d => if d = dev then ρ x.d + 1 else ρ d, fun d => ?_, fun m hm => ?_⟩
  · dsimp only
    have a := r1 x.d
    have b := r1 d
    split <;> omega
  · simp only [List.mem_append, List.mem_singleton] at hm
    rcases hm with hm | rfl
    · obtain ⟨a, b, c⟩ := r2 m hm
      have hd := h4 m hm
      have ho : m.on.d ≠ dev := by
        rcases c with c | ⟨m', hm', c⟩
        · omega
        · rw [← c]; exact h4 m' hm'
      refine ⟨by dsimp only; rw [if_neg ho, if_neg hd]; exact a, b, c.imp id fun ⟨m', hm', c⟩ => ⟨m', by simp [hm'], c⟩⟩
    · refine ⟨by dsimp only; rw [if_neg h2, if_pos rfl]; omega, h3, h1.imp id fun ⟨m', hm', c⟩ => ⟨m', by simp [hm'], c⟩⟩
theorem SI.rem {q : Nat} {s : Spc} (hs : SI q s) {dev : Int} (h : ∀ m ∈ s.ms, m.on.d ≠ dev) : SI q ⟨s.fs, s.ms.filter fun m => m.dv != dev⟩ := by
  obtain ⟨ρ, r1, r2⟩ := hs.mi
  refine ⟨hs.fi, Nat.le_trans (List.length_filter_le _ _) hs.ml, ρ, r1, fun m hm => ?_⟩
  obtain ⟨hm1, hm2⟩ := List.mem_filter.1 hm
  obtain ⟨a, b, c⟩ := r2 m hm1
  refine ⟨a, b, c.imp id fun ⟨m', hm', c⟩ => ⟨m', List.mem_filter.2 ⟨hm', ?_⟩, c⟩⟩
  have := h m hm1
  rw [← c] at this
  simpa using this
theorem add (s : Spc) (dev : Int) (x : At) (q : Nat) (hs : SI q s) (hq : q ≤ 900) : PureE Tryz.prog gl 139 [SpL s, .int .i64 dev, AtL x] fun v => ∃ r : Spc × Int, (r.2 = 0 → SI (q + 1) r.1) ∧ v = S2L r := by
  refine fn_viewT Tryz.func139 t139 Tryz.ntmps139 (by simp) ?_
  have hF := hs.fi.ok (by omega) (by omega)
  have hml := hs.ml
  have hlm := len_mo s.ms
  have hlf := hs.fi.len
  have c1 := node s.fs x hF
  have c2 := mtd s x.d (by omega)
  have c3 := mtd s dev (by omega)
  have c4 := cov s x (by omega)
  have c5 := copyM s q hs hq
  generalize nodeR s.fs x = R at *
  obtain ⟨n, nb⟩ := R
  dsimp only at c1
  rw [NoC_eq] at c1
  unfold c139 r139
  rw [FiL_eq] at c1
  rw [SpL_eq] at *
  rw [AtL_eq] at *
  repeat' (first | (simp (disch := first | exact dd | fail) only [go_sem, AtL_eq]) | (refine allI (fun b => ?_)) | (refine allT (fun τ => ?_)) | (refine brP (fun h => ?_) (fun h => ?_) <;> (try simp only [zgx, zbx] at h)) | refine call_U (c1) ?_ | refine callG_U (fun _ => c1) ?_ | refine call_T (c1) ?_ | refine callG_T (fun _ => c1) ?_ | refine call_N (c1) ?_ | refine call_of (c1) ?_ | refine callG_of (fun _ => c1) ?_ | (refine pureE_U c2 ?_; rintro _ ⟨b2, ⟨hb21, hb22⟩, rfl⟩) | (refine pureE_U c3 ?_; rintro _ ⟨b3, ⟨hb31, hb32⟩, rfl⟩) | (refine gd ?_) | fail)
  all_goals first
    | exact pureE_end S2_err ⟨(⟨[], []⟩, _), fun h => by simp at h, rfl⟩
    | skip
  have hb2 : b2 = true ∧ ¬ x.d = dev := by assumption
  cases b3
  · refine callG_LU (fun _ => ?_) (fun hg => by cases hg)
    refine pureE_U c4 ?_
    rintro _ ⟨bc, rfl⟩
    repeat' (first | (simp (disch := first | exact dd | fail) only [go_sem, un_any, pick_a0, pick_00a, pick_0a]) | (refine allI (fun b => ?_)) | (refine allT (fun τ => ?_)) | (refine brP (fun h => ?_) (fun h => ?_) <;> (try simp only [zgx, zbx] at h)) | (refine gd ?_) | fail)
    · exact pureE_end S2_err ⟨(⟨[], []⟩, _), fun h => by simp at h, rfl⟩
    · first | refine newsE_U (c5) ?_ | refine newsE_T (c5) ?_ | refine newsE_of (c5) ?_
      rintro _ _ ⟨τ, rfl, rfl⟩
      repeat' (first | (simp (disch := first | exact dd | fail) only [go_sem, zMo]) | (refine allI (fun b => ?_)) | (refine allT (fun τ => ?_)) | (refine brP (fun h => ?_) (fun h => ?_) <;> (try simp only [zgx, zbx] at h)) | (refine gd ?_) | fail)
      refine ⟨by simp only [roomy]; omega, fun τ2 => ?_⟩
      repeat' (first | (simp (disch := first | exact dd | fail) only [go_sem]) | (refine allI (fun b => ?_)) | (refine allT (fun τ => ?_)) | (refine brP (fun h => ?_) (fun h => ?_) <;> (try simp only [zgx, zbx] at h)) | (refine gd ?_) | fail)
      obtain ⟨d0, hd0⟩ := hb32 rfl
      refine pureE_end (r := S2L (⟨s.fs, s.ms ++ [⟨dev, x⟩]⟩, 0)) (leV.tup ⟨leV.agg ⟨leV.refl _, (leV.osl_sl _ _ _ _ _).trans (leV.of_eq ?_), trivial⟩, leV.refl _, trivial⟩) ⟨_, fun _ => hs.add (hb21 hb2.1) hb2.2 d0 hd0, rfl⟩
      simp [List.flatMap_append, MoC_eq]
  · refine callG_LU (fun hg => by cases hg) (fun _ => ?_)
    repeat' (first | (simp (disch := first | exact dd | fail) only [go_sem, un_any, pick_a0, pick_00a, pick_0a]) | (refine allI (fun b => ?_)) | (refine allT (fun τ => ?_)) | (refine brP (fun h => ?_) (fun h => ?_) <;> (try simp only [zgx, zbx] at h)) | (refine gd ?_) | fail)
    exact pureE_end S2_err ⟨(⟨[], []⟩, _), fun h => by simp at h, rfl⟩
theorem rem6 (s : Spc) (dev : Int) (q : Nat) (hs : SI q s) (hq : q ≤ 900) : PureE Tryz.prog gl 158 [SpL s, .int .i64 dev] fun v => ∃ r : Spc × Int, (r.2 = 0 → SI (q + 1) r.1) ∧ v = S2L r := by
  refine fn_viewT Tryz.func158 t158 Tryz.ntmps158 (by simp) ?_
  have hF := hs.fi.ok (by omega) (by omega)
  have hml := hs.ml
  have hlm := len_mo s.ms
  have hlf := hs.fi.len
  have c3 := mtd s dev (by omega)
  have c5 := copyS s q hs hq
  unfold c158 r158
  rw [SpL_eq] at *
  repeat' (first | (simp (disch := first | exact dd | fail) only [go_sem, un_any, pick_a0, pick_00a, pick_0a]) | (refine allI (fun b => ?_)) | (refine allT (fun τ => ?_)) | (refine brP (fun h => ?_) (fun h => ?_) <;> (try simp only [zgx, zbx] at h)) | (refine callG_LU (fun hg => ?_) (fun hg => ?_) <;> (try simp only [hg])) | (refine pureE_U c3 ?_; rintro _ ⟨b3, hb3, rfl⟩) | (refine gd ?_) | fail)
  all_goals first
    | exact pureE_end S2_err ⟨(⟨[], []⟩, _), fun h => by simp at h, rfl⟩
    | skip
  rename_i b2
  refine loopI (ι := Nat × List Mo × Tok) (fun y => y.1 ≤ s.ms.length ∧ y.2.1 = (s.ms.take y.1).filter (fun m => m.dv != dev) ∧ ∀ j, j < y.1 → (s.ms.getD j mo0).on.d ≠ dev) (fun y => [(7, .int .i64 y.1), (6, .osl 50 y.2.2 3 y.2.1.length (y.2.1.flatMap MoC)), (5, .int .i64 0), (4, .ptr 4 b 0), (2, .ptr 2 b2 0), (1, .int .i64 dev)]) (fun y => [(50, .tok y.2.2), (4, .blk b [.fsl 1 0 [], .fsl 1 0 []]), (2, .blk b2 [.sl 2 s.fs.length (s.fs.flatMap DvC), .sl 3 s.ms.length (s.ms.flatMap MoC)])]) (fun y => s.ms.length - y.1) (0, [], ⟨0, 0, 0⟩) ⟨by dsimp only; omega, by simp, fun j hj => absurd hj (by dsimp only; omega)⟩ (Ents.dum 50 (Ents.envH ⟨leV.refl _, leV.nil_osl _ _ _ _, leV.refl _, leV.refl _, leV.refl _, leV.refl _, trivial⟩ rfl)) ?_
  rintro ⟨i, l, τ⟩ ⟨hi, hl, hj⟩
  dsimp only at hi hl hj ⊢
  have hll : l.length ≤ 1000 := by rw [hl]; exact Nat.le_trans (List.length_filter_le _ _) (by rw [List.length_take]; omega)
  simp (disch := first | exact dd | fail) only [go_sem]
  refine brP (fun hb => ?_) (fun hb => ?_)
  · have hlt : i < s.ms.length := by simpa using hb
    have e1 : (s.ms.flatMap MoC).getD (i * 3) .any = .int .i64 (s.ms.getD i mo0).dv := by rw [← Nat.add_zero (i * 3), gMo hlt (by omega)]; rfl
    have e2 : (s.ms.flatMap MoC).getD (i * 3 + 1) .any = .int .i64 (s.ms.getD i mo0).on.d := by rw [gMo hlt (by omega)]; rfl
    have e3 := tMo hlt
    have hts := take_succ_getD mo0 s.ms hlt
    generalize hM : s.ms.getD i mo0 = m at *
    rw [MoC_eq] at e3
    have hF2 : (s.ms.take (i + 1)).filter (fun m => m.dv != dev) = l ++ (if m.dv = dev then [] else [m]) := by
      rw [hts, List.filter_append, ← hl]
      congr 1
      by_cases h : m.dv = dev <;> simp [h]
    repeat' (first | (simp (disch := first | exact dd | fail) only [go_sem, e1, e2, e3, zMo]) | (refine allI (fun b => ?_)) | (refine allT (fun τ => ?_)) | (refine brP (fun h => ?_) (fun h => ?_) <;> (try simp only [zgx, zbx] at h)) | (refine gd ?_) | fail)
    · exact pureE_end S2_err ⟨(⟨[], []⟩, _), fun h => by simp at h, rfl⟩
    · have hne : ¬ m.on.d = dev := by
        rename_i hz hw
        first | exact hz | exact hw | (simpa using hz) | (simpa using hw)
      have hnd : ¬ m.dv = dev := by first | assumption | simpa using h
      rw [if_neg hnd] at hF2
      refine ⟨by simp only [roomy]; omega, fun τ2 => ⟨⟨(i + 1, l ++ [m], τ2), by dsimp only; omega, hF2.symm, fun j hj2 => ?_⟩, by dsimp only; omega, Ents.envH ⟨leV.refl _, leV.of_eq ?_, leV.refl _, leV.refl _, leV.refl _, leV.refl _, trivial⟩ rfl⟩⟩
      · rcases (by omega : j < i ∨ j = i) with h3 | rfl
        · exact hj j h3
        · rw [hM]; exact hne
      · simp [go_sem, List.flatMap_append, MoC_eq]
    · have hne : ¬ m.on.d = dev := by
        rename_i hz hw
        first | exact hz | exact hw | (simpa using hz) | (simpa using hw)
      have hnd : m.dv = dev := by first | assumption | simpa using h
      rw [if_pos hnd, List.append_nil] at hF2
      refine ⟨⟨(i + 1, l, τ), by dsimp only; omega, hF2.symm, fun j hj2 => ?_⟩, by dsimp only; omega, Ents.envH ⟨leV.refl _, leV.refl _, leV.refl _, leV.refl _, leV.refl _, leV.refl _, trivial⟩ rfl⟩
      rcases (by omega : j < i ∨ j = i) with h3 | rfl
      · exact hj j h3
      · rw [hM]; exact hne
  · have hje : i = s.ms.length := by simp only [decide_eq_false_iff_not] at hb; omega
    rw [hje, List.take_length] at hl
    repeat' (first | (simp (disch := first | exact dd | fail) only [go_sem]) | (refine allI (fun b => ?_)) | (refine allT (fun τ => ?_)) | (refine brP (fun h => ?_) (fun h => ?_) <;> (try simp only [zgx, zbx] at h)) | refine call_U (c5) ?_ | refine callG_U (fun _ => c5) ?_ | refine call_T (c5) ?_ | refine callG_T (fun _ => c5) ?_ | refine call_N (c5) ?_ | refine call_of (c5) ?_ | refine callG_of (fun _ => c5) ?_ | (refine gd ?_) | fail)
    refine pureE_end (r := S2L (⟨s.fs, l⟩, 0)) (leV.tup ⟨leV.agg ⟨leV.refl _, leV.osl_sl _ _ _ _ _, trivial⟩, leV.refl _, trivial⟩) ⟨_, fun _ => ?_, rfl⟩
    have h3 : SI q ⟨s.fs, l⟩ := by
      rw [hl]
      refine hs.rem fun m hm => ?_
      obtain ⟨j, hjl, rfl⟩ := List.getElem_of_mem hm
      have := hj j (by omega)
      simpa [List.getD, hjl] using this
    obtain ⟨a, b, c, d, e⟩ := h3
    exact ⟨a.mono (by omega) (by omega), Nat.le_trans b (by omega), c, fun x => Nat.le_trans (d x) (by omega), e⟩
end Go.Proofs.YtkdblnejpmbnfaaGreat.F
namespace Go.Proofs.YtkdblnejpmbnfaaGreat.F
open Go Go.Lx
set_option linter.unusedSimpArgs false
set_option linter.unusedVariables false
set_option maxRecDepth 100000
set_option maxHeartbeats 16000000
theorem may8 (n : No) (a b c : Int) : PureE Tryz.prog gl 147 [.agg (NoC n), .int .i64 a, .int .i64 b, .int .i64 c] fun v => ∃ r : Bool, v = .bool r := by
  refine fn_viewT Tryz.func147 t147 Tryz.ntmps147 (by simp) ?_
  unfold c147 r147
  rw [NoC_eq]
  repeat' (first | (simp (disch := first | exact dd | fail) only [go_sem]) | (refine allI (fun b => ?_)) | (refine allT (fun τ => ?_)) | (refine brP (fun h => ?_) (fun h => ?_) <;> (try simp only [zgx, zbx] at h)) | (refine gd ?_) | fail)
  all_goals first
    | exact pureE_end (leV.refl _) ⟨_, rfl⟩
    | trace_state
theorem root (s : Spc) (q : Nat) (hs : SI q s) (hq : q ≤ 900) : PureE Tryz.prog gl 118 [SpL s] fun v => ∃ y : At, v = AtL y := by
  refine fn_viewT Tryz.func118 t118 Tryz.ntmps118 (by simp) ?_
  have hml := hs.ml
  have c1 := down s ⟨0, 1⟩ (by omega)
  unfold c118 r118
  rw [AtL_eq] at c1
  rw [SpL_eq] at *
  repeat' (first | (simp (disch := first | exact dd | fail) only [go_sem, AtL_eq]) | (refine allI (fun b => ?_)) | (refine allT (fun τ => ?_)) | (refine brP (fun h => ?_) (fun h => ?_) <;> (try simp only [zgx, zbx] at h)) | (refine pureE_U c1 ?_; rintro _ ⟨y, rfl⟩) | (refine gd ?_) | fail)
  exact pureE_end (leV.refl _) ⟨y, rfl⟩
structure Sp7 where
  l : List (List UInt8)
  a : Bool
  z : Bool
theorem split (s : List UInt8) (hs : s.length ≤ 1000) : PureE Tryz.prog gl 117 [.str s] fun v => ∃ r : Sp7, r.l.length ≤ 1001 ∧ v = .tup [.sl 1 r.l.length (r.l.map LV.str), .bool r.a, .bool r.z] := by
  refine fn_viewT Tryz.func117 t117 Tryz.ntmps117 (by simp) ?_
  unfold c117 r117
  repeat' (first | (simp (disch := first | exact dd | fail) only [go_sem]) | (refine allI (fun b => ?_)) | (refine allT (fun τ => ?_)) | (refine brP (fun h => ?_) (fun h => ?_) <;> (try simp only [zgx, zbx] at h)) | (refine gd ?_) | fail)
  refine loopI (ι := Nat × Nat × List (List UInt8) × Tok) (fun y => y.1 ≤ s.length + 1 ∧ y.2.1 ≤ y.1 ∧ y.2.2.1.length ≤ y.1) (fun y => [(7, .int .i64 y.1), (6, .int .i64 y.2.1), (5, .osl 33 y.2.2.2 1 y.2.2.1.length (y.2.2.1.map LV.str)), (0, .str s)]) (fun y => [(33, .tok y.2.2.2)]) (fun y => s.length + 1 - y.1) (0, 0, [], ⟨0, 0, 0⟩) (by simp) (Ents.dum 33 (Ents.envH ⟨leV.refl _, leV.refl _, leV.nil_osl _ _ _ _, leV.refl _, trivial⟩ rfl)) ?_
  rintro ⟨i, f, l, τ⟩ ⟨hi, hf, hl⟩
  dsimp only at hi hf hl ⊢
  repeat' (first | (simp (disch := first | exact dd | fail) only [go_sem]) | (refine allI (fun b => ?_)) | (refine allT (fun τ => ?_)) | (refine brP (fun h => ?_) (fun h => ?_) <;> (try simp only [zgx, zbx] at h)) | (refine gd ?_) | fail)
  · exact ⟨by simp only [roomy]; omega, fun τ2 => ⟨⟨(i + 1, i + 1, l ++ [(s.drop f).take (i - f)], τ2), by dsimp only; omega, by dsimp only; omega, by simp; omega⟩, by dsimp only; omega, Ents.envH ⟨leV.refl _, leV.refl _, leV.of_eq (by simp [go_sem]), leV.refl _, trivial⟩ rfl⟩⟩
  · exact ⟨⟨(i + 1, i + 1, l, τ), by dsimp only; omega, by dsimp only; omega, by dsimp only; omega⟩, by dsimp only; omega, Ents.envH (by simp [go_sem]) rfl⟩
  · exact ⟨⟨(i + 1, f, l, τ), by dsimp only; omega, by dsimp only; omega, by dsimp only; omega⟩, by dsimp only; omega, Ents.envH (by simp [go_sem]) rfl⟩
  · refine pureE_end (r := .tup [.sl 1 l.length (l.map LV.str), .bool _, .bool _]) (leV.tup ⟨leV.osl_sl _ _ _ _ _, leV.refl _, leV.refl _, trivial⟩) ?_
    exact ⟨⟨l, _, _⟩, by dsimp only; omega, rfl⟩
structure Fnd where
  dir : At
  nm : List UInt8
  file : At
  ex : Bool
  sl : Bool
  path : List UInt8
def FnC (f : Fnd) : List LV := [.int .i64 f.dir.d, .int .i64 f.dir.i, .str f.nm, .int .i64 f.file.d, .int .i64 f.file.i, .bool f.ex, .bool f.sl, .str f.path]
theorem FnC_eq (f : Fnd) : FnC f = [.int .i64 f.dir.d, .int .i64 f.dir.i, .str f.nm, .int .i64 f.file.d, .int .i64 f.file.i, .bool f.ex, .bool f.sl, .str f.path] := Eq.trans rfl rfl
def fn0 : Fnd := ⟨⟨0, 0⟩, [], ⟨0, 0⟩, false, false, []⟩
theorem len_fn (l : List Fnd) : (l.flatMap FnC).length = l.length * 8 := length_rows (f := FnC) (w := 8) (fun _ => rfl) l
theorem find7 (s : Spc) (x : At) (p : List UInt8) (fo : Bool) (q : Nat) (hs : SI q s) (hq : q ≤ 900) (hp : p.length ≤ 1000) : PureE Tryz.prog gl 98 [SpL s, AtL x, .str p, .bool fo] fun v => ∃ r : Fnd × Int, r.1.nm.length ≤ 12 ∧ v = .tup [.agg (FnC r.1), .int .i64 r.2] := by
  refine fn_viewT Tryz.func98 t98 Tryz.ntmps98 (by simp) ?_
  have hF := hs.fi.ok (by omega) (by omega)
  have hml := hs.ml
  have c1 := split p hp
  have c2 := root s q hs hq
  have c3 := fun z => dir s.fs z hF
  have c4 := fun z => up s z q hs hq
  have c5 := fun z => down s z (by omega)
  have c6 := fun z w => look s.fs z w hF
  have c7 := fun z => node s.fs z hF
  have c8 := fun z => where_ s z q hs hq
  have htg := fun z => nodeR_tg (x := z) hs.fi
  have hE : ∀ e : Int, ∃ r : Fnd × Int, r.1.nm.length ≤ 12 ∧ (.tup [.agg [.int .i64 0, .int .i64 0, .str [], .int .i64 0, .int .i64 0, .bool false, .bool false, .str []], .int .i64 e] : LV) = .tup [.agg (FnC r.1), .int .i64 r.2] := fun e => ⟨(fn0, e), by simp [fn0], rfl⟩
  unfold c98 r98
  simp only [AtL_eq] at c3 c4 c5 c6 c7 c8
  simp only [FiL_eq] at c3 c6 c7
  simp only [SpL_eq] at *
  rw [AtL_eq]
  repeat' (first | (simp (disch := first | exact dd | fail) only [go_sem, AtL_eq, zFo]) | (refine allI (fun b => ?_)) | (refine allT (fun τ => ?_)) | (refine brP (fun h => ?_) (fun h => ?_) <;> (try simp only [zgx, zbx] at h)) | refine call_U (c3 _) ?_ | refine callG_U (fun _ => c3 _) ?_ | refine call_T (c3 _) ?_ | refine callG_T (fun _ => c3 _) ?_ | refine call_N (c3 _) ?_ | refine call_of (c3 _) ?_ | refine callG_of (fun _ => c3 _) ?_ | (refine pureE_U c1 ?_; rintro _ ⟨r, hr, rfl⟩) | (refine pureE_U c2 ?_; rintro _ ⟨y, rfl⟩) | (refine gd ?_) | fail)
  all_goals first
    | exact pureE_end (leV.refl _) (hE _)
    | skip
  · rename_i b4 b5 b8 h1 h2 b13 h3
    refine loopI (ι := List (List UInt8) × At × Fnd × Nat) (fun z => z.2.2.2 ≤ 8 ∧ z.1.length ≤ 1001 + 1001 * z.2.2.2 ∧ z.2.2.1.nm.length ≤ 12) (fun z => [(15, .int .i64 z.2.2.2), (14, .ptr 14 b 0), (13, .ptr 13 b13 0), (12, .bool r.z), (10, .sl 1 z.1.length (z.1.map LV.str)), (9, .int .i64 0), (8, .ptr 8 b8 0), (4, .ptr 4 b4 0), (3, .bool fo)]) (fun z => [(14, .blk b [.int .i64 z.2.2.1.dir.d, .int .i64 z.2.2.1.dir.i, .str z.2.2.1.nm, .int .i64 z.2.2.1.file.d, .int .i64 z.2.2.1.file.i, .bool z.2.2.1.ex, .bool z.2.2.1.sl, .str z.2.2.1.path]), (13, .blk b13 [.int .i64 z.2.1.d, .int .i64 z.2.1.i]), (8, .blk b8 [.int .i64 0, .int .i64 0, .str [], .int .i64 0, .int .i64 0, .bool false, .bool false, .str []]), (5, .blk b5 [.int .i64 x.d, .int .i64 x.i]), (4, .blk b4 [.sl 2 s.fs.length (s.fs.flatMap DvC), .sl 3 s.ms.length (s.ms.flatMap MoC)])]) (fun z => (8 - z.2.2.2) * 3000 + z.1.length) (r.l, y, ⟨y, [], y, true, false, []⟩, 0) ⟨by dsimp only; omega, by dsimp only; omega, by simp⟩ (Ents.envH (by simp [go_sem]) rfl) ?_
    rintro ⟨l, cd, F, lk⟩ ⟨g1, g2, g3⟩
    dsimp only at g1 g2 g3 ⊢
    rcases l with _ | ⟨w, l⟩
    · repeat' (first | (simp (disch := first | exact dd | fail) only [go_sem, AtL_eq, zFo, NoC_eq, zNo, un_any, pick_a0, pick_0a0, pick_00a, pick_0a]) | (refine allI (fun b => ?_)) | (refine allT (fun τ => ?_)) | (refine brP (fun h => ?_) (fun h => ?_) <;> (try simp only [zgx, zbx] at h)) | refine call_U (c3 _) ?_ | refine callG_U (fun _ => c3 _) ?_ | refine call_T (c3 _) ?_ | refine callG_T (fun _ => c3 _) ?_ | refine call_U (c7 _) ?_ | refine callG_U (fun _ => c7 _) ?_ | refine call_T (c7 _) ?_ | refine callG_T (fun _ => c7 _) ?_ | refine call_N (c3 _) ?_ | refine call_of (c3 _) ?_ | refine callG_of (fun _ => c3 _) ?_ | refine call_N (c7 _) ?_ | refine call_of (c7 _) ?_ | refine callG_of (fun _ => c7 _) ?_ | (refine callG_LU (fun hg => ?_) (fun hg => ?_) <;> first | exact absurd hg (by decide) | (try simp only [hg])) | (refine pureE_of (c4 _) ?_; rintro _ ⟨y4, rfl⟩) | (refine pureE_of (c5 _) ?_; rintro _ ⟨y5, rfl⟩) | (refine pureE_U (c6 _ _) ?_; rintro _ ⟨r6, hr6, rfl⟩) | (refine pureE_U (split _ (htg _)) ?_; rintro _ ⟨r9, hr9, rfl⟩) | (refine pureE_U c2 ?_; rintro _ ⟨y2, rfl⟩) | (refine pureE_U (nm _ (by omega)) ?_; rintro _ ⟨bn, hbn, rfl⟩) | (refine pureE_U (c8 _) ?_; rintro _ ⟨r8, hr8, rfl⟩) | (refine pureE_U (join _ _ (by omega)) ?_; rintro _ ⟨wj, hwj, rfl⟩) | (refine ⟨(by simp only [roomy, List.length_append, List.length_map]; omega : roomy _ _), fun τ => ?_⟩) | (refine gd ?_) | fail)
      all_goals first
        | (exfalso; omega)
        | exact pureE_end (leV.refl _) (hE _)
        | exact pureE_end (leV.refl _) ⟨(⟨F.dir, F.nm, F.file, F.ex, r.z, _⟩, 0), g3, rfl⟩
        | exact pureE_end (leV.refl _) ⟨(⟨_, _, _, _, _, _⟩, _), by first | assumption | omega | (dsimp only; omega), rfl⟩
        | exact pureE_end (leV.refl _) ⟨(⟨_, _, ⟨0, 0⟩, _, _, _⟩, _), by first | assumption | omega | (dsimp only; omega), rfl⟩
        | skip
    · simp only [List.length_cons] at g2
      have ht : List.take l.length (List.map LV.str l) = List.map LV.str l := List.take_of_length_le (by simp)
      repeat' (first | (simp (disch := first | exact dd | fail) only [go_sem, List.length_cons, List.map_cons, AtL_eq, zFo, NoC_eq, zNo, un_any, pick_a0, pick_0a0, pick_00a, pick_0a]) | (refine allI (fun b => ?_)) | (refine allT (fun τ => ?_)) | (refine brP (fun h => ?_) (fun h => ?_) <;> (try simp only [zgx, zbx] at h)) | refine call_U (c3 _) ?_ | refine callG_U (fun _ => c3 _) ?_ | refine call_T (c3 _) ?_ | refine callG_T (fun _ => c3 _) ?_ | refine call_U (c7 _) ?_ | refine callG_U (fun _ => c7 _) ?_ | refine call_T (c7 _) ?_ | refine callG_T (fun _ => c7 _) ?_ | refine call_N (c3 _) ?_ | refine call_of (c3 _) ?_ | refine callG_of (fun _ => c3 _) ?_ | refine call_N (c7 _) ?_ | refine call_of (c7 _) ?_ | refine callG_of (fun _ => c7 _) ?_ | (refine callG_LU (fun hg => ?_) (fun hg => ?_) <;> first | exact absurd hg (by decide) | (try simp only [hg])) | (refine pureE_of (c4 _) ?_; rintro _ ⟨y4, rfl⟩) | (refine pureE_of (c5 _) ?_; rintro _ ⟨y5, rfl⟩) | (refine pureE_U (c6 _ _) ?_; rintro _ ⟨r6, hr6, rfl⟩) | (refine pureE_U (split _ (htg _)) ?_; rintro _ ⟨r9, hr9, rfl⟩) | (refine pureE_U c2 ?_; rintro _ ⟨y2, rfl⟩) | (refine pureE_U (nm _ (by omega)) ?_; rintro _ ⟨bn, hbn, rfl⟩) | (refine pureE_U (c8 _) ?_; rintro _ ⟨r8, hr8, rfl⟩) | (refine pureE_U (join _ _ (by omega)) ?_; rintro _ ⟨wj, hwj, rfl⟩) | (refine ⟨(by simp only [roomy, List.length_append, List.length_map]; omega : roomy _ _), fun τ => ?_⟩) | (refine gd ?_) | fail)
      all_goals first
        | (exfalso; omega)
        | exact pureE_end (leV.refl _) (hE _)
        | exact pureE_end (leV.refl _) ⟨(⟨F.dir, F.nm, F.file, F.ex, r.z, _⟩, 0), g3, rfl⟩
        | exact pureE_end (leV.refl _) ⟨(⟨_, _, _, _, _, _⟩, _), by first | assumption | omega | (dsimp only; omega), rfl⟩
        | exact pureE_end (leV.refl _) ⟨(⟨_, _, ⟨0, 0⟩, _, _, _⟩, _), by first | assumption | omega | (dsimp only; omega), rfl⟩
        | skip
      · exact ⟨⟨(l, y5, ⟨y5, [], y5, true, false, []⟩, lk), by dsimp only; omega, by dsimp only; omega, by first | simp | omega⟩, by dsimp only [List.length_cons]; omega, Ents.sub ⟨leV.refl _, leV.refl _, leV.refl _, leV.refl _, leV.of_eq (by simp [go_sem, ht]), leV.refl _, leV.refl _, leV.refl _, leV.refl _, trivial⟩ ⟨_, (by repeat (first | exact List.Sublist.refl _ | apply List.Sublist.cons)), List.Perm.refl _⟩⟩
      · exact ⟨⟨(l, F.file, ⟨F.file, [], F.file, true, false, []⟩, lk), by dsimp only; omega, by dsimp only; omega, by first | simp | omega⟩, by dsimp only [List.length_cons]; omega, Ents.sub ⟨leV.refl _, leV.refl _, leV.refl _, leV.refl _, leV.of_eq (by simp [go_sem, ht]), leV.refl _, leV.refl _, leV.refl _, leV.refl _, trivial⟩ ⟨_, (by repeat (first | exact List.Sublist.refl _ | apply List.Sublist.cons)), List.Perm.refl _⟩⟩
      · exact ⟨⟨(r9.l ++ l, y2, ⟨y2, [], y2, true, false, []⟩, lk + 1), by dsimp only; omega, by simp only [List.length_append]; omega, by first | simp | omega⟩, by simp only [List.length_cons, List.length_append]; omega, Ents.sub ⟨leV.refl _, leV.refl _, leV.refl _, leV.refl _, (leV.osl_sl _ _ _ _ _).trans (leV.of_eq (by simp [go_sem, ht])), leV.refl _, leV.refl _, leV.refl _, leV.refl _, trivial⟩ ⟨_, (by repeat (first | exact List.Sublist.refl _ | apply List.Sublist.cons)), List.Perm.refl _⟩⟩
      · exact ⟨⟨(r9.l ++ l, F.file, ⟨F.file, [], F.file, true, false, []⟩, lk + 1), by dsimp only; omega, by simp only [List.length_append]; omega, by first | simp | omega⟩, by simp only [List.length_cons, List.length_append]; omega, Ents.sub ⟨leV.refl _, leV.refl _, leV.refl _, leV.refl _, (leV.osl_sl _ _ _ _ _).trans (leV.of_eq (by simp [go_sem, ht])), leV.refl _, leV.refl _, leV.refl _, leV.refl _, trivial⟩ ⟨_, (by repeat (first | exact List.Sublist.refl _ | apply List.Sublist.cons)), List.Perm.refl _⟩⟩
      · exact ⟨⟨(l, F.file, ⟨F.file, w, y5, true, false, []⟩, lk), by dsimp only; omega, by dsimp only; omega, by first | omega | (dsimp only; omega) | (have hq : decide ((12:Int) < w.length) = false := (by assumption); simp at hq; dsimp only; omega)⟩, by dsimp only [List.length_cons]; omega, Ents.sub ⟨leV.refl _, leV.refl _, leV.refl _, leV.refl _, leV.of_eq (by simp [go_sem, ht]), leV.refl _, leV.refl _, leV.refl _, leV.refl _, trivial⟩ ⟨_, (by repeat (first | exact List.Sublist.refl _ | apply List.Sublist.cons)), List.Perm.refl _⟩⟩
  · rename_i b4 b5 b8 h1 h2 b13 h3
    refine loopI (ι := List (List UInt8) × At × Fnd × Nat) (fun z => z.2.2.2 ≤ 8 ∧ z.1.length ≤ 1001 + 1001 * z.2.2.2 ∧ z.2.2.1.nm.length ≤ 12) (fun z => [(15, .int .i64 z.2.2.2), (14, .ptr 14 b 0), (13, .ptr 13 b13 0), (12, .bool r.z), (10, .sl 1 z.1.length (z.1.map LV.str)), (9, .int .i64 0), (8, .ptr 8 b8 0), (4, .ptr 4 b4 0), (3, .bool fo)]) (fun z => [(14, .blk b [.int .i64 z.2.2.1.dir.d, .int .i64 z.2.2.1.dir.i, .str z.2.2.1.nm, .int .i64 z.2.2.1.file.d, .int .i64 z.2.2.1.file.i, .bool z.2.2.1.ex, .bool z.2.2.1.sl, .str z.2.2.1.path]), (13, .blk b13 [.int .i64 z.2.1.d, .int .i64 z.2.1.i]), (8, .blk b8 [.int .i64 0, .int .i64 0, .str [], .int .i64 0, .int .i64 0, .bool false, .bool false, .str []]), (5, .blk b5 [.int .i64 x.d, .int .i64 x.i]), (4, .blk b4 [.sl 2 s.fs.length (s.fs.flatMap DvC), .sl 3 s.ms.length (s.ms.flatMap MoC)])]) (fun z => (8 - z.2.2.2) * 3000 + z.1.length) (r.l, x, ⟨x, [], x, true, false, []⟩, 0) ⟨by dsimp only; omega, by dsimp only; omega, by simp⟩ (Ents.envH (by simp [go_sem]) rfl) ?_
    rintro ⟨l, cd, F, lk⟩ ⟨g1, g2, g3⟩
    dsimp only at g1 g2 g3 ⊢
    rcases l with _ | ⟨w, l⟩
    · repeat' (first | (simp (disch := first | exact dd | fail) only [go_sem, AtL_eq, zFo, NoC_eq, zNo, un_any, pick_a0, pick_0a0, pick_00a, pick_0a]) | (refine allI (fun b => ?_)) | (refine allT (fun τ => ?_)) | (refine brP (fun h => ?_) (fun h => ?_) <;> (try simp only [zgx, zbx] at h)) | refine call_U (c3 _) ?_ | refine callG_U (fun _ => c3 _) ?_ | refine call_T (c3 _) ?_ | refine callG_T (fun _ => c3 _) ?_ | refine call_U (c7 _) ?_ | refine callG_U (fun _ => c7 _) ?_ | refine call_T (c7 _) ?_ | refine callG_T (fun _ => c7 _) ?_ | refine call_N (c3 _) ?_ | refine call_of (c3 _) ?_ | refine callG_of (fun _ => c3 _) ?_ | refine call_N (c7 _) ?_ | refine call_of (c7 _) ?_ | refine callG_of (fun _ => c7 _) ?_ | (refine callG_LU (fun hg => ?_) (fun hg => ?_) <;> first | exact absurd hg (by decide) | (try simp only [hg])) | (refine pureE_of (c4 _) ?_; rintro _ ⟨y4, rfl⟩) | (refine pureE_of (c5 _) ?_; rintro _ ⟨y5, rfl⟩) | (refine pureE_U (c6 _ _) ?_; rintro _ ⟨r6, hr6, rfl⟩) | (refine pureE_U (split _ (htg _)) ?_; rintro _ ⟨r9, hr9, rfl⟩) | (refine pureE_U c2 ?_; rintro _ ⟨y2, rfl⟩) | (refine pureE_U (nm _ (by omega)) ?_; rintro _ ⟨bn, hbn, rfl⟩) | (refine pureE_U (c8 _) ?_; rintro _ ⟨r8, hr8, rfl⟩) | (refine pureE_U (join _ _ (by omega)) ?_; rintro _ ⟨wj, hwj, rfl⟩) | (refine ⟨(by simp only [roomy, List.length_append, List.length_map]; omega : roomy _ _), fun τ => ?_⟩) | (refine gd ?_) | fail)
      all_goals first
        | (exfalso; omega)
        | exact pureE_end (leV.refl _) (hE _)
        | exact pureE_end (leV.refl _) ⟨(⟨F.dir, F.nm, F.file, F.ex, r.z, _⟩, 0), g3, rfl⟩
        | exact pureE_end (leV.refl _) ⟨(⟨_, _, _, _, _, _⟩, _), by first | assumption | omega | (dsimp only; omega), rfl⟩
        | exact pureE_end (leV.refl _) ⟨(⟨_, _, ⟨0, 0⟩, _, _, _⟩, _), by first | assumption | omega | (dsimp only; omega), rfl⟩
        | skip
    · simp only [List.length_cons] at g2
      have ht : List.take l.length (List.map LV.str l) = List.map LV.str l := List.take_of_length_le (by simp)
      repeat' (first | (simp (disch := first | exact dd | fail) only [go_sem, List.length_cons, List.map_cons, AtL_eq, zFo, NoC_eq, zNo, un_any, pick_a0, pick_0a0, pick_00a, pick_0a]) | (refine allI (fun b => ?_)) | (refine allT (fun τ => ?_)) | (refine brP (fun h => ?_) (fun h => ?_) <;> (try simp only [zgx, zbx] at h)) | refine call_U (c3 _) ?_ | refine callG_U (fun _ => c3 _) ?_ | refine call_T (c3 _) ?_ | refine callG_T (fun _ => c3 _) ?_ | refine call_U (c7 _) ?_ | refine callG_U (fun _ => c7 _) ?_ | refine call_T (c7 _) ?_ | refine callG_T (fun _ => c7 _) ?_ | refine call_N (c3 _) ?_ | refine call_of (c3 _) ?_ | refine callG_of (fun _ => c3 _) ?_ | refine call_N (c7 _) ?_ | refine call_of (c7 _) ?_ | refine callG_of (fun _ => c7 _) ?_ | (refine callG_LU (fun hg => ?_) (fun hg => ?_) <;> first | exact absurd hg (by decide) | (try simp only [hg])) | (refine pureE_of (c4 _) ?_; rintro _ ⟨y4, rfl⟩) | (refine pureE_of (c5 _) ?_; rintro _ ⟨y5, rfl⟩) | (refine pureE_U (c6 _ _) ?_; rintro _ ⟨r6, hr6, rfl⟩) | (refine pureE_U (split _ (htg _)) ?_; rintro _ ⟨r9, hr9, rfl⟩) | (refine pureE_U c2 ?_; rintro _ ⟨y2, rfl⟩) | (refine pureE_U (nm _ (by omega)) ?_; rintro _ ⟨bn, hbn, rfl⟩) | (refine pureE_U (c8 _) ?_; rintro _ ⟨r8, hr8, rfl⟩) | (refine pureE_U (join _ _ (by omega)) ?_; rintro _ ⟨wj, hwj, rfl⟩) | (refine ⟨(by simp only [roomy, List.length_append, List.length_map]; omega : roomy _ _), fun τ => ?_⟩) | (refine gd ?_) | fail)
      all_goals first
        | (exfalso; omega)
        | exact pureE_end (leV.refl _) (hE _)
        | exact pureE_end (leV.refl _) ⟨(⟨F.dir, F.nm, F.file, F.ex, r.z, _⟩, 0), g3, rfl⟩
        | exact pureE_end (leV.refl _) ⟨(⟨_, _, _, _, _, _⟩, _), by first | assumption | omega | (dsimp only; omega), rfl⟩
        | exact pureE_end (leV.refl _) ⟨(⟨_, _, ⟨0, 0⟩, _, _, _⟩, _), by first | assumption | omega | (dsimp only; omega), rfl⟩
        | skip
      · exact ⟨⟨(l, y5, ⟨y5, [], y5, true, false, []⟩, lk), by dsimp only; omega, by dsimp only; omega, by first | simp | omega⟩, by dsimp only [List.length_cons]; omega, Ents.sub ⟨leV.refl _, leV.refl _, leV.refl _, leV.refl _, leV.of_eq (by simp [go_sem, ht]), leV.refl _, leV.refl _, leV.refl _, leV.refl _, trivial⟩ ⟨_, (by repeat (first | exact List.Sublist.refl _ | apply List.Sublist.cons)), List.Perm.refl _⟩⟩
      · exact ⟨⟨(l, F.file, ⟨F.file, [], F.file, true, false, []⟩, lk), by dsimp only; omega, by dsimp only; omega, by first | simp | omega⟩, by dsimp only [List.length_cons]; omega, Ents.sub ⟨leV.refl _, leV.refl _, leV.refl _, leV.refl _, leV.of_eq (by simp [go_sem, ht]), leV.refl _, leV.refl _, leV.refl _, leV.refl _, trivial⟩ ⟨_, (by repeat (first | exact List.Sublist.refl _ | apply List.Sublist.cons)), List.Perm.refl _⟩⟩
      · exact ⟨⟨(r9.l ++ l, y2, ⟨y2, [], y2, true, false, []⟩, lk + 1), by dsimp only; omega, by simp only [List.length_append]; omega, by first | simp | omega⟩, by simp only [List.length_cons, List.length_append]; omega, Ents.sub ⟨leV.refl _, leV.refl _, leV.refl _, leV.refl _, (leV.osl_sl _ _ _ _ _).trans (leV.of_eq (by simp [go_sem, ht])), leV.refl _, leV.refl _, leV.refl _, leV.refl _, trivial⟩ ⟨_, (by repeat (first | exact List.Sublist.refl _ | apply List.Sublist.cons)), List.Perm.refl _⟩⟩
      · exact ⟨⟨(r9.l ++ l, F.file, ⟨F.file, [], F.file, true, false, []⟩, lk + 1), by dsimp only; omega, by simp only [List.length_append]; omega, by first | simp | omega⟩, by simp only [List.length_cons, List.length_append]; omega, Ents.sub ⟨leV.refl _, leV.refl _, leV.refl _, leV.refl _, (leV.osl_sl _ _ _ _ _).trans (leV.of_eq (by simp [go_sem, ht])), leV.refl _, leV.refl _, leV.refl _, leV.refl _, trivial⟩ ⟨_, (by repeat (first | exact List.Sublist.refl _ | apply List.Sublist.cons)), List.Perm.refl _⟩⟩
      · exact ⟨⟨(l, F.file, ⟨F.file, w, y5, true, false, []⟩, lk), by dsimp only; omega, by dsimp only; omega, by first | omega | (dsimp only; omega) | (have hq : decide ((12:Int) < w.length) = false := (by assumption); simp at hq; dsimp only; omega)⟩, by dsimp only [List.length_cons]; omega, Ents.sub ⟨leV.refl _, leV.refl _, leV.refl _, leV.refl _, leV.of_eq (by simp [go_sem, ht]), leV.refl _, leV.refl _, leV.refl _, leV.refl _, trivial⟩ ⟨_, (by repeat (first | exact List.Sublist.refl _ | apply List.Sublist.cons)), List.Perm.refl _⟩⟩
end Go.Proofs.YtkdblnejpmbnfaaGreat.F
namespace Go.Proofs.YtkdblnejpmbnfaaGreat
open Go Go.Lx
set_option linter.unusedSimpArgs false
set_option linter.unusedVariables false
set_option maxRecDepth 100000
set_option maxHeartbeats 8000000
theorem name : Gen 110 [] 5 fun r => ∃ s, s.length ≤ 40 ∧ r = .str s := by
  refine Gen.mk fun b l a hl ha => ?_
  refine fn_viewT Tryz.func110 t110 Tryz.ntmps110 (by simp) ?_
  have hq := hl.2.2
  unfold c110 r110
  repeat' (first | (simp (disch := first | exact dd | fail) only [go_sem]) | (refine allI (fun b => ?_)) | (refine allT (fun τ => ?_)) | (refine brP (fun h => ?_) (fun h => ?_) <;> (try simp only [zgx, zbx] at h)) | (refine actsE_U (gn _ (by omega) 1000 _ _ _ (hl.at (by omega) (by omega)) (by omega)) rfl ?_; rintro _ _ ⟨_, _, ⟨_, _, rfl⟩, rfl⟩) | (refine actsE_T (gn _ (by omega) 1000 _ _ _ (hl.at (by omega) (by omega)) (by omega)) rfl ?_; rintro _ _ ⟨_, _, ⟨_, _, rfl⟩, rfl⟩) | (refine actsE_of (gn _ (by omega) 1000 _ _ _ (hl.at (by omega) (by omega)) (by omega)) rfl ?_; rintro _ _ ⟨_, _, ⟨_, _, rfl⟩, rfl⟩) | (refine actsE_U (gr _ _ (by omega) 1000 _ _ _ (hl.at (by omega) (by omega)) (by omega)) rfl ?_; rintro _ _ ⟨_, _, ⟨_, _, rfl⟩, rfl⟩) | (refine actsE_T (gr _ _ (by omega) 1000 _ _ _ (hl.at (by omega) (by omega)) (by omega)) rfl ?_; rintro _ _ ⟨_, _, ⟨_, _, rfl⟩, rfl⟩) | (refine actsE_of (gr _ _ (by omega) 1000 _ _ _ (hl.at (by omega) (by omega)) (by omega)) rfl ?_; rintro _ _ ⟨_, _, ⟨_, _, rfl⟩, rfl⟩) | (refine actsE_U (gp _ _ (by decide) (by rfl) (by rfl) 1000 _ _ _ (hl.at (by omega) (by omega)) (by omega)) rfl ?_; rintro _ _ ⟨_, _, ⟨_, _, rfl⟩, rfl⟩) | (refine actsE_T (gp _ _ (by decide) (by rfl) (by rfl) 1000 _ _ _ (hl.at (by omega) (by omega)) (by omega)) rfl ?_; rintro _ _ ⟨_, _, ⟨_, _, rfl⟩, rfl⟩) | (refine actsE_of (gp _ _ (by decide) (by rfl) (by rfl) 1000 _ _ _ (hl.at (by omega) (by omega)) (by omega)) rfl ?_; rintro _ _ ⟨_, _, ⟨_, _, rfl⟩, rfl⟩) | (refine actsE_U (gw 40 _ _ (by decide) (by rfl) (by rfl) 1000 _ _ _ (hl.at (by omega) (by omega)) (by omega)) rfl ?_; rintro _ _ ⟨_, _, ⟨_, _, rfl⟩, rfl⟩) | (refine actsE_T (gw 40 _ _ (by decide) (by rfl) (by rfl) 1000 _ _ _ (hl.at (by omega) (by omega)) (by omega)) rfl ?_; rintro _ _ ⟨_, _, ⟨_, _, rfl⟩, rfl⟩) | (refine actsE_of (gw 40 _ _ (by decide) (by rfl) (by rfl) 1000 _ _ _ (hl.at (by omega) (by omega)) (by omega)) rfl ?_; rintro _ _ ⟨_, _, ⟨_, _, rfl⟩, rfl⟩) | (apply And.intro; focus omega) | (refine callG_LU (fun hg => ?_) (fun hg => ?_) <;> (try simp only [hg])))
  all_goals (apply gend (leV.refl _); (focus (repeat (first | exact List.Sublist.refl _ | apply List.Sublist.cons))); (focus omega); exact ⟨_, by omega, rfl⟩)
theorem path : Gen 68 [] 60 fun r => ∃ s, s.length ≤ 500 ∧ r = .str s := by
  refine Gen.mk fun b l a hl ha => ?_
  refine fn_viewT Tryz.func68 t68 Tryz.ntmps68 (by simp) ?_
  have hq := hl.2.2
  unfold c68 r68
  repeat' (first | (simp (disch := first | exact dd | fail) only [go_sem]) | (refine allI (fun b => ?_)) | (refine allT (fun τ => ?_)) | (refine brP (fun h => ?_) (fun h => ?_) <;> (try simp only [zgx, zbx] at h)) | (refine actsE_U (gn _ (by omega) 1000 _ _ _ (hl.at (by omega) (by omega)) (by omega)) rfl ?_; rintro _ _ ⟨_, _, ⟨_, _, rfl⟩, rfl⟩) | (refine actsE_T (gn _ (by omega) 1000 _ _ _ (hl.at (by omega) (by omega)) (by omega)) rfl ?_; rintro _ _ ⟨_, _, ⟨_, _, rfl⟩, rfl⟩) | (refine actsE_of (gn _ (by omega) 1000 _ _ _ (hl.at (by omega) (by omega)) (by omega)) rfl ?_; rintro _ _ ⟨_, _, ⟨_, _, rfl⟩, rfl⟩) | (refine actsE_U (gr _ _ (by omega) 1000 _ _ _ (hl.at (by omega) (by omega)) (by omega)) rfl ?_; rintro _ _ ⟨_, _, ⟨_, _, rfl⟩, rfl⟩) | (refine actsE_T (gr _ _ (by omega) 1000 _ _ _ (hl.at (by omega) (by omega)) (by omega)) rfl ?_; rintro _ _ ⟨_, _, ⟨_, _, rfl⟩, rfl⟩) | (refine actsE_of (gr _ _ (by omega) 1000 _ _ _ (hl.at (by omega) (by omega)) (by omega)) rfl ?_; rintro _ _ ⟨_, _, ⟨_, _, rfl⟩, rfl⟩) | (refine actsE_U (gp _ _ (by decide) (by rfl) (by rfl) 1000 _ _ _ (hl.at (by omega) (by omega)) (by omega)) rfl ?_; rintro _ _ ⟨_, _, ⟨_, _, rfl⟩, rfl⟩) | (refine actsE_T (gp _ _ (by decide) (by rfl) (by rfl) 1000 _ _ _ (hl.at (by omega) (by omega)) (by omega)) rfl ?_; rintro _ _ ⟨_, _, ⟨_, _, rfl⟩, rfl⟩) | (refine actsE_of (gp _ _ (by decide) (by rfl) (by rfl) 1000 _ _ _ (hl.at (by omega) (by omega)) (by omega)) rfl ?_; rintro _ _ ⟨_, _, ⟨_, _, rfl⟩, rfl⟩) | (refine actsE_U (gw 40 _ _ (by decide) (by rfl) (by rfl) 1000 _ _ _ (hl.at (by omega) (by omega)) (by omega)) rfl ?_; rintro _ _ ⟨_, _, ⟨_, _, rfl⟩, rfl⟩) | (refine actsE_T (gw 40 _ _ (by decide) (by rfl) (by rfl) 1000 _ _ _ (hl.at (by omega) (by omega)) (by omega)) rfl ?_; rintro _ _ ⟨_, _, ⟨_, _, rfl⟩, rfl⟩) | (refine actsE_of (gw 40 _ _ (by decide) (by rfl) (by rfl) 1000 _ _ _ (hl.at (by omega) (by omega)) (by omega)) rfl ?_; rintro _ _ ⟨_, _, ⟨_, _, rfl⟩, rfl⟩) | (apply And.intro; focus omega) | (refine callG_LU (fun hg => ?_) (fun hg => ?_) <;> (try simp only [hg])))
  all_goals
    rename_i a1 ha1 v hv
    have hv := memI (ns := [1, 1, 2, 2, 3, 0, 4]) hv
    have hv : 0 ≤ v ∧ v ≤ 4 := by simp at hv; omega
    refine loopI (ι := Int × Int × List UInt8) (fun y => (0 ≤ y.1 ∧ y.1 ≤ v) ∧ (a1 ≤ y.2.1 ∧ y.2.1 ≤ a1 + 10 * y.1) ∧ y.2.2.length ≤ 41 * y.1 + 1) (fun y => [(5, .int .i64 y.1), (4, .int .i64 v), (3, .str y.2.2), (2, .str []), (0, .ptr 1000 b 0)]) (fun y => [(1000, SB b l y.2.1)]) (fun y => (v - y.1).toNat) (0, a1, _) ⟨by dsimp only; omega, by dsimp only; omega, ?_⟩ (Ents.envH ⟨leV.refl _, leV.refl _, leV.refl _, leV.refl _, leV.refl _, trivial⟩ rfl) ?_
    · simp
    rintro ⟨i, a2, s⟩ ⟨h1, h2, h3⟩
    dsimp only at h1 h2 h3 ⊢
    repeat' (first | (simp (disch := first | exact dd | fail) only [go_sem, List.length_append, List.length_cons, List.length_nil]) | (refine allI (fun b => ?_)) | (refine allT (fun τ => ?_)) | (refine brP (fun h => ?_) (fun h => ?_) <;> (try simp only [zgx, zbx] at h)) | (refine actsE_U (gn _ (by omega) 1000 _ _ _ (hl.at (by omega) (by omega)) (by omega)) rfl ?_; rintro _ _ ⟨_, _, ⟨_, _, rfl⟩, rfl⟩) | (refine actsE_T (gn _ (by omega) 1000 _ _ _ (hl.at (by omega) (by omega)) (by omega)) rfl ?_; rintro _ _ ⟨_, _, ⟨_, _, rfl⟩, rfl⟩) | (refine actsE_of (gn _ (by omega) 1000 _ _ _ (hl.at (by omega) (by omega)) (by omega)) rfl ?_; rintro _ _ ⟨_, _, ⟨_, _, rfl⟩, rfl⟩) | (refine actsE_U (gr _ _ (by omega) 1000 _ _ _ (hl.at (by omega) (by omega)) (by omega)) rfl ?_; rintro _ _ ⟨_, _, ⟨_, _, rfl⟩, rfl⟩) | (refine actsE_T (gr _ _ (by omega) 1000 _ _ _ (hl.at (by omega) (by omega)) (by omega)) rfl ?_; rintro _ _ ⟨_, _, ⟨_, _, rfl⟩, rfl⟩) | (refine actsE_of (gr _ _ (by omega) 1000 _ _ _ (hl.at (by omega) (by omega)) (by omega)) rfl ?_; rintro _ _ ⟨_, _, ⟨_, _, rfl⟩, rfl⟩) | (refine actsE_U (gp _ _ (by decide) (by rfl) (by rfl) 1000 _ _ _ (hl.at (by omega) (by omega)) (by omega)) rfl ?_; rintro _ _ ⟨_, _, ⟨_, _, rfl⟩, rfl⟩) | (refine actsE_T (gp _ _ (by decide) (by rfl) (by rfl) 1000 _ _ _ (hl.at (by omega) (by omega)) (by omega)) rfl ?_; rintro _ _ ⟨_, _, ⟨_, _, rfl⟩, rfl⟩) | (refine actsE_of (gp _ _ (by decide) (by rfl) (by rfl) 1000 _ _ _ (hl.at (by omega) (by omega)) (by omega)) rfl ?_; rintro _ _ ⟨_, _, ⟨_, _, rfl⟩, rfl⟩) | (refine actsE_U (gw 40 _ _ (by decide) (by rfl) (by rfl) 1000 _ _ _ (hl.at (by omega) (by omega)) (by omega)) rfl ?_; rintro _ _ ⟨_, _, ⟨_, _, rfl⟩, rfl⟩) | (refine actsE_T (gw 40 _ _ (by decide) (by rfl) (by rfl) 1000 _ _ _ (hl.at (by omega) (by omega)) (by omega)) rfl ?_; rintro _ _ ⟨_, _, ⟨_, _, rfl⟩, rfl⟩) | (refine actsE_of (gw 40 _ _ (by decide) (by rfl) (by rfl) 1000 _ _ _ (hl.at (by omega) (by omega)) (by omega)) rfl ?_; rintro _ _ ⟨_, _, ⟨_, _, rfl⟩, rfl⟩) | (refine actsE_U (name 1000 _ _ _ (hl.at (by omega) (by omega)) (by omega)) rfl ?_; rintro _ _ ⟨_, _, ⟨_, _, rfl⟩, rfl⟩) | (refine actsE_T (name 1000 _ _ _ (hl.at (by omega) (by omega)) (by omega)) rfl ?_; rintro _ _ ⟨_, _, ⟨_, _, rfl⟩, rfl⟩) | (refine actsE_of (name 1000 _ _ _ (hl.at (by omega) (by omega)) (by omega)) rfl ?_; rintro _ _ ⟨_, _, ⟨_, _, rfl⟩, rfl⟩) | (apply And.intro; focus omega) | (refine callG_LU (fun hg => ?_) (fun hg => ?_) <;> (try simp only [hg])))
  all_goals first
    | exact ⟨⟨(i + 1, _, _), by dsimp only; omega, by dsimp only; omega, by simp only [List.length_append, List.length_cons, List.length_nil]; omega⟩, by dsimp only; omega, Ents.envH ⟨leV.refl _, leV.refl _, leV.refl _, leV.refl _, leV.refl _, trivial⟩ rfl⟩
    | ((apply gend (leV.refl _); (focus (repeat (first | exact List.Sublist.refl _ | apply List.Sublist.cons))); (focus omega); exact ⟨_, by first | omega | (simp only [List.length_append, List.length_cons, List.length_nil]; omega), rfl⟩))
    | trace_state
end Go.Proofs.YtkdblnejpmbnfaaGreat
namespace Go.Proofs.YtkdblnejpmbnfaaGreat
open Go Go.Lx
set_option linter.unusedSimpArgs false
set_option linter.unusedVariables false
set_option maxRecDepth 100000
set_option maxHeartbeats 16000000
structure Rw where
  n : List UInt8
  a : Int
  b : Int
  c : Int
  d : Int
def RwC (r : Rw) : List LV := [.str r.n, .int .i64 r.a, .int .i64 r.b, .int .i64 r.c, .int .i64 r.d]
theorem RwC_eq (r : Rw) : RwC r = [.str r.n, .int .i64 r.a, .int .i64 r.b, .int .i64 r.c, .int .i64 r.d] := Eq.trans rfl rfl
def rw0 : Rw := ⟨[], 0, 0, 0, 0⟩
def rws : List Rw := [⟨[102, 111, 114, 107], 0, 0, 0, 0⟩, ⟨[101, 120, 101, 99, 118, 101], 0, 1, 0, 4⟩, ⟨[101, 120, 105, 116], 1, 0, 0, 0⟩, ⟨[115, 101, 116, 117, 105, 100], 1, 0, 0, 0⟩, ⟨[115, 101, 116, 103, 105, 100], 1, 0, 0, 0⟩, ⟨[108, 111, 103, 105, 110], 1, 0, 0, 0⟩, ⟨[111, 112, 101, 110], 2, 1, 0, 0⟩, ⟨[99, 108, 111, 115, 101], 1, 0, 0, 0⟩, ⟨[108, 105, 110, 107], 0, 2, 0, 0⟩, ⟨[115, 121, 109, 108, 105, 110, 107], 0, 1, 1, 1⟩, ⟨[117, 110, 108, 105, 110, 107], 0, 1, 0, 0⟩, ⟨[109, 107, 100, 105, 114], 1, 1, 0, 0⟩, ⟨[114, 109, 100, 105, 114], 0, 1, 0, 0⟩, ⟨[114, 101, 110, 97, 109, 101], 0, 2, 0, 0⟩, ⟨[99, 104, 109, 111, 100], 1, 1, 0, 0⟩, ⟨[99, 104, 111, 119, 110], 2, 1, 0, 0⟩, ⟨[99, 104, 100, 105, 114], 0, 1, 0, 0⟩, ⟨[109, 111, 117, 110, 116], 1, 1, 0, 0⟩, ⟨[117, 109, 111, 117, 110, 116], 1, 0, 0, 0⟩, ⟨[99, 111, 110, 110, 101, 99, 116], 1, 0, 1, 1⟩, ⟨[107, 105, 108, 108], 2, 0, 0, 0⟩, ⟨[116, 114, 117, 110, 99, 97, 116, 101], 1, 1, 0, 0⟩]
def shOk (r : Rw) : Prop := (0 ≤ r.a ∧ r.a ≤ 4) ∧ (0 ≤ r.b ∧ r.b ≤ 2) ∧ (0 ≤ r.c ∧ r.c ≤ r.d ∧ r.d ≤ 20)
instance (r : Rw) : Decidable (shOk r) := by unfold shOk; infer_instance
theorem rws_ok : ∀ r ∈ rws, shOk r := by decide +kernel
theorem tab10 : Pure Tryz.prog gl 116 [] (.fsl 5 22 (rws.flatMap RwC)) := by
  refine fn_pureT Tryz.func116 t116 Tryz.ntmps116 (by simp) ?_
  unfold c116 r116
  repeat' (first | (simp (disch := first | exact dd | fail) only [go_sem]) | (refine allI (fun b => ?_)) | (refine allT (fun τ => ?_)) | (refine brP (fun h => ?_) (fun h => ?_) <;> (try simp only [zgx, zbx] at h)) | (refine gd ?_) | fail)
  exact ⟨trivial, leV.of_eq rfl⟩
theorem cnt10 : Pure Tryz.prog gl 115 [] (.int .i64 22) := by
  refine fn_pureT Tryz.func115 t115 Tryz.ntmps115 (by simp) ?_
  unfold c115 r115
  repeat' (first | (simp (disch := first | exact dd | fail) only [go_sem]) | (refine allI (fun b => ?_)) | (refine allT (fun τ => ?_)) | (refine brP (fun h => ?_) (fun h => ?_) <;> (try simp only [zgx, zbx] at h)) | refine call_U (tab10) ?_ | refine callG_U (fun _ => tab10) ?_ | refine call_T (tab10) ?_ | refine callG_T (fun _ => tab10) ?_ | refine call_N (tab10) ?_ | refine call_of (tab10) ?_ | refine callG_of (fun _ => tab10) ?_ | (refine gd ?_) | fail)
def rowN (n : Int) : Rw := if 0 ≤ n ∧ n < 22 then rws.getD n.toNat rw0 else rw0
theorem rowN_ok (n : Int) : shOk (rowN n) := by
  unfold rowN
  split
  · exact rws_ok _ (getD_memA rw0 (by show n.toNat < 22; omega))
  · decide
theorem get10 (n : Int) : Pure Tryz.prog gl 96 [.int .i64 n] (.agg (RwC (rowN n))) := by
  refine fn_pureT Tryz.func96 t96 Tryz.ntmps96 (by simp) ?_
  unfold c96 r96
  have hlen : rws.length = 22 := rfl
  have hl110 : (rws.flatMap RwC).length = 110 := rfl
  by_cases hn : 0 ≤ n ∧ n < 22
  · have hi : n.toNat < rws.length := by omega
    have e2 : ((rws.flatMap RwC).drop (n.toNat * 5)).take 5 = RwC (rws.getD n.toNat rw0) := take_rows (f := RwC) (fun _ => rfl) rw0 _ hi
    rw [rowN, if_pos hn]
    generalize rws.getD n.toNat rw0 = r at *
    rw [RwC_eq] at e2 ⊢
    repeat' (first | (simp (disch := first | exact dd | fail) only [go_sem, e2]) | (refine allI (fun b => ?_)) | (refine allT (fun τ => ?_)) | (refine brP (fun h => ?_) (fun h => ?_) <;> (try simp only [zgx, zbx] at h)) | refine call_U (cnt10) ?_ | refine callG_U (fun _ => cnt10) ?_ | refine call_T (cnt10) ?_ | refine callG_T (fun _ => cnt10) ?_ | refine call_U (tab10) ?_ | refine callG_U (fun _ => tab10) ?_ | refine call_T (tab10) ?_ | refine callG_T (fun _ => tab10) ?_ | refine call_N (cnt10) ?_ | refine call_of (cnt10) ?_ | refine callG_of (fun _ => cnt10) ?_ | refine call_N (tab10) ?_ | refine call_of (tab10) ?_ | refine callG_of (fun _ => tab10) ?_ | (refine gd ?_) | fail)
    all_goals first | omega | (rw [hl110]; omega) | (exfalso; omega)
  · rw [rowN, if_neg hn, RwC_eq]
    repeat' (first | (simp (disch := first | exact dd | fail) only [go_sem]) | (refine allI (fun b => ?_)) | (refine allT (fun τ => ?_)) | (refine brP (fun h => ?_) (fun h => ?_) <;> (try simp only [zgx, zbx] at h)) | refine call_U (cnt10) ?_ | refine callG_U (fun _ => cnt10) ?_ | refine call_T (cnt10) ?_ | refine callG_T (fun _ => cnt10) ?_ | refine call_U (tab10) ?_ | refine callG_U (fun _ => tab10) ?_ | refine call_T (tab10) ?_ | refine callG_T (fun _ => tab10) ?_ | refine call_N (cnt10) ?_ | refine call_of (cnt10) ?_ | refine callG_of (fun _ => cnt10) ?_ | refine call_N (tab10) ?_ | refine call_of (tab10) ?_ | refine callG_of (fun _ => tab10) ?_ | (refine gd ?_) | fail)
    all_goals first | omega | (exfalso; omega) | exact leV.refl _
structure Sh where
  a : Int
  b : Int
  c : Int
  d : Int
def shOk4 (r : Sh) : Prop := (0 ≤ r.a ∧ r.a ≤ 4) ∧ (0 ≤ r.b ∧ r.b ≤ 2) ∧ (0 ≤ r.c ∧ r.c ≤ r.d ∧ r.d ≤ 20)
theorem shape (n : Int) : PureE Tryz.prog gl 67 [.int .i64 n] fun v => ∃ r, shOk4 r ∧ v = .tup [.int .i64 r.a, .int .i64 r.b, .int .i64 r.c, .int .i64 r.d] := by
  refine fn_viewT Tryz.func67 t67 Tryz.ntmps67 (by simp) ?_
  unfold c67 r67
  simp (disch := first | exact dd | fail) only [go_sem]
  have hg := get10 n
  have hr := rowN_ok n
  generalize rowN n = r at *
  rw [RwC_eq] at hg
  repeat' (first | (simp (disch := first | exact dd | fail) only [go_sem]) | (refine allI (fun b => ?_)) | (refine allT (fun τ => ?_)) | (refine brP (fun h => ?_) (fun h => ?_) <;> (try simp only [zgx, zbx] at h)) | refine call_U (hg) ?_ | refine callG_U (fun _ => hg) ?_ | refine call_T (hg) ?_ | refine callG_T (fun _ => hg) ?_ | refine call_N (hg) ?_ | refine call_of (hg) ?_ | refine callG_of (fun _ => hg) ?_ | (refine gd ?_) | fail)
  exact F.pureE_end (leV.refl _) ⟨⟨_, _, _, _⟩, hr, rfl⟩
structure Ca where
  n : Int
  a0 : Int
  a1 : Int
  a2 : Int
  a3 : Int
  ps : List (List UInt8)
  xs : List (List UInt8)
def StS' (ws : List (List UInt8)) : LV := .sl 1 ws.length (ws.map LV.str)
def CaC (c : Ca) : List LV := [.int .i64 c.n, .int .i64 c.a0, .int .i64 c.a1, .int .i64 c.a2, .int .i64 c.a3, StS' c.ps, StS' c.xs]
end Go.Proofs.YtkdblnejpmbnfaaGreat
