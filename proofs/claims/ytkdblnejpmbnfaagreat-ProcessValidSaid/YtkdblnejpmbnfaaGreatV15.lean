/- kauditmake: calls: the generator. -/
import Derived.Test.YtkdblnejpmbnfaaGreatV14
import Derived.Test.YtkdblnejpmbnfaaGreatV11
import Derived.Test.YtkdblnejpmbnfaaGreatV08
import Derived.Test.YtkdblnejpmbnfaaGreatV12
namespace Go.Proofs.YtkdblnejpmbnfaaGreat
open Go Go.Lx
set_option linter.unusedSimpArgs false
set_option linter.unusedVariables false
set_option maxRecDepth 100000
set_option maxHeartbeats 16000000
theorem ca_le {i j : Nat} {τ τ' : Tok} {n m : Nat} {cs ds : List LV} {x1 x2 x3 x4 x5 : LV} : leV (.agg [x1, x2, x3, x4, x5, .osl i τ 1 n cs, .osl j τ' 1 m ds]) (.agg [x1, x2, x3, x4, x5, .sl 1 n cs, .sl 1 m ds]) :=
  leV.agg ⟨leV.refl _, leV.refl _, leV.refl _, leV.refl _, leV.refl _, leV.osl_sl _ _ _ _ _, leV.osl_sl _ _ _ _ _, trivial⟩
/-- the sizes of a call -/
def CaOk (c : Ca) : Prop := (c.ps.length ≤ 1000 ∧ ∀ s ∈ c.ps, s.length ≤ 1000) ∧ (c.xs.length ≤ 1000 ∧ ∀ s ∈ c.xs, s.length ≤ 1000)
theorem mem_snoc {l : List (List UInt8)} {w : List UInt8} (h : ∀ s ∈ l, s.length ≤ 1000) (hw : w.length ≤ 1000) : ∀ s ∈ l ++ [w], s.length ≤ 1000 := fun s hs => by
  rcases List.mem_append.1 hs with hs | hs
  · exact h s hs
  · simp only [List.mem_singleton] at hs
    subst hs
    exact hw
theorem call : Gen 21 [] 500 fun r => ∃ c : Ca, CaOk c ∧ r = .agg (CaC c) := by
  refine Gen.mk fun sb l a hl ha => ?_
  refine fn_viewT Tryz.func21 t21 Tryz.ntmps21 (by simp) ?_
  have hq := hl.2.2
  unfold c21 r21
  repeat' (first | (simp (disch := first | exact dd | fail) only [go_sem]) | (refine allI (fun b => ?_)) | (refine allT (fun τ => ?_)) | (refine brP (fun h => ?_) (fun h => ?_) <;> (try simp only [zgx, zbx] at h)) | (refine actsE_U (gn _ (by omega) 1000 _ _ _ (hl.at (by omega) (by omega)) (by omega)) rfl ?_; rintro _ _ ⟨_, _, ⟨_, _, rfl⟩, rfl⟩) | (refine actsE_T (gn _ (by omega) 1000 _ _ _ (hl.at (by omega) (by omega)) (by omega)) rfl ?_; rintro _ _ ⟨_, _, ⟨_, _, rfl⟩, rfl⟩) | (refine actsE_of (gn _ (by omega) 1000 _ _ _ (hl.at (by omega) (by omega)) (by omega)) rfl ?_; rintro _ _ ⟨_, _, ⟨_, _, rfl⟩, rfl⟩) | (refine actsE_U (gr _ _ (by omega) 1000 _ _ _ (hl.at (by omega) (by omega)) (by omega)) rfl ?_; rintro _ _ ⟨_, _, ⟨_, _, rfl⟩, rfl⟩) | (refine actsE_T (gr _ _ (by omega) 1000 _ _ _ (hl.at (by omega) (by omega)) (by omega)) rfl ?_; rintro _ _ ⟨_, _, ⟨_, _, rfl⟩, rfl⟩) | (refine actsE_of (gr _ _ (by omega) 1000 _ _ _ (hl.at (by omega) (by omega)) (by omega)) rfl ?_; rintro _ _ ⟨_, _, ⟨_, _, rfl⟩, rfl⟩) | (refine actsE_U (gp _ _ (by decide) (by rfl) (by rfl) 1000 _ _ _ (hl.at (by omega) (by omega)) (by omega)) rfl ?_; rintro _ _ ⟨_, _, ⟨_, _, rfl⟩, rfl⟩) | (refine actsE_T (gp _ _ (by decide) (by rfl) (by rfl) 1000 _ _ _ (hl.at (by omega) (by omega)) (by omega)) rfl ?_; rintro _ _ ⟨_, _, ⟨_, _, rfl⟩, rfl⟩) | (refine actsE_of (gp _ _ (by decide) (by rfl) (by rfl) 1000 _ _ _ (hl.at (by omega) (by omega)) (by omega)) rfl ?_; rintro _ _ ⟨_, _, ⟨_, _, rfl⟩, rfl⟩) | (refine actsE_U (gw 40 _ _ (by decide) (by rfl) (by rfl) 1000 _ _ _ (hl.at (by omega) (by omega)) (by omega)) rfl ?_; rintro _ _ ⟨_, _, ⟨_, _, rfl⟩, rfl⟩) | (refine actsE_T (gw 40 _ _ (by decide) (by rfl) (by rfl) 1000 _ _ _ (hl.at (by omega) (by omega)) (by omega)) rfl ?_; rintro _ _ ⟨_, _, ⟨_, _, rfl⟩, rfl⟩) | (refine actsE_of (gw 40 _ _ (by decide) (by rfl) (by rfl) 1000 _ _ _ (hl.at (by omega) (by omega)) (by omega)) rfl ?_; rintro _ _ ⟨_, _, ⟨_, _, rfl⟩, rfl⟩) | (apply And.intro; focus omega) | (refine callG_LU (fun hg => ?_) (fun hg => ?_) <;> (try simp only [hg])))
  first | refine pureE_U (shape _) ?_ | refine pureE_T (shape _) ?_ | refine pureE_of (shape _) ?_
  rintro _ ⟨sh, hsh, rfl⟩
  obtain ⟨hs1, hs2, hs3⟩ := hsh
  rename_i b3 a1 ha1 v hv
  repeat' (first | (simp (disch := first | exact dd | fail) only [go_sem]) | (refine allI (fun b => ?_)) | (refine allT (fun τ => ?_)) | (refine brP (fun h => ?_) (fun h => ?_) <;> (try simp only [zgx, zbx] at h)) | (refine actsE_U (gn _ (by omega) 1000 _ _ _ (hl.at (by omega) (by omega)) (by omega)) rfl ?_; rintro _ _ ⟨_, _, ⟨_, _, rfl⟩, rfl⟩) | (refine actsE_T (gn _ (by omega) 1000 _ _ _ (hl.at (by omega) (by omega)) (by omega)) rfl ?_; rintro _ _ ⟨_, _, ⟨_, _, rfl⟩, rfl⟩) | (refine actsE_of (gn _ (by omega) 1000 _ _ _ (hl.at (by omega) (by omega)) (by omega)) rfl ?_; rintro _ _ ⟨_, _, ⟨_, _, rfl⟩, rfl⟩) | (refine actsE_U (gr _ _ (by omega) 1000 _ _ _ (hl.at (by omega) (by omega)) (by omega)) rfl ?_; rintro _ _ ⟨_, _, ⟨_, _, rfl⟩, rfl⟩) | (refine actsE_T (gr _ _ (by omega) 1000 _ _ _ (hl.at (by omega) (by omega)) (by omega)) rfl ?_; rintro _ _ ⟨_, _, ⟨_, _, rfl⟩, rfl⟩) | (refine actsE_of (gr _ _ (by omega) 1000 _ _ _ (hl.at (by omega) (by omega)) (by omega)) rfl ?_; rintro _ _ ⟨_, _, ⟨_, _, rfl⟩, rfl⟩) | (refine actsE_U (gp _ _ (by decide) (by rfl) (by rfl) 1000 _ _ _ (hl.at (by omega) (by omega)) (by omega)) rfl ?_; rintro _ _ ⟨_, _, ⟨_, _, rfl⟩, rfl⟩) | (refine actsE_T (gp _ _ (by decide) (by rfl) (by rfl) 1000 _ _ _ (hl.at (by omega) (by omega)) (by omega)) rfl ?_; rintro _ _ ⟨_, _, ⟨_, _, rfl⟩, rfl⟩) | (refine actsE_of (gp _ _ (by decide) (by rfl) (by rfl) 1000 _ _ _ (hl.at (by omega) (by omega)) (by omega)) rfl ?_; rintro _ _ ⟨_, _, ⟨_, _, rfl⟩, rfl⟩) | (refine actsE_U (gw 40 _ _ (by decide) (by rfl) (by rfl) 1000 _ _ _ (hl.at (by omega) (by omega)) (by omega)) rfl ?_; rintro _ _ ⟨_, _, ⟨_, _, rfl⟩, rfl⟩) | (refine actsE_T (gw 40 _ _ (by decide) (by rfl) (by rfl) 1000 _ _ _ (hl.at (by omega) (by omega)) (by omega)) rfl ?_; rintro _ _ ⟨_, _, ⟨_, _, rfl⟩, rfl⟩) | (refine actsE_of (gw 40 _ _ (by decide) (by rfl) (by rfl) 1000 _ _ _ (hl.at (by omega) (by omega)) (by omega)) rfl ?_; rintro _ _ ⟨_, _, ⟨_, _, rfl⟩, rfl⟩) | (apply And.intro; focus omega) | (refine callG_LU (fun hg => ?_) (fun hg => ?_) <;> (try simp only [hg])))
  refine loopI (ι := Int × Int × Int × Int × Int × Int) (fun y => (0 ≤ y.1 ∧ y.1 ≤ sh.a) ∧ (a1 ≤ y.2.1 ∧ y.2.1 ≤ a1 + y.1)) (fun y => [(8, .int .i64 y.1), (7, .int .i64 sh.d), (6, .int .i64 sh.c), (5, .int .i64 sh.b), (4, .int .i64 sh.a), (3, .ptr 3 _ 0), (2, .ptr 2 _ 0), (0, .ptr 1000 sb 0)]) (fun y => [(3, .blk _ [.int .i64 v, .int .i64 y.2.2.1, .int .i64 y.2.2.2.1, .int .i64 y.2.2.2.2.1, .int .i64 y.2.2.2.2.2, .fsl 1 0 [], .fsl 1 0 []]), (2, .blk _ [.int .i64 0, .int .i64 0, .int .i64 0, .int .i64 0, .int .i64 0, .fsl 1 0 [], .fsl 1 0 []]), (1000, SB sb l y.2.1)]) (fun y => (sh.a - y.1).toNat) (0, a1, 0, 0, 0, 0) (by dsimp only; omega) (Ents.envH ⟨leV.refl _, leV.refl _, leV.refl _, leV.refl _, leV.refl _, leV.refl _, leV.refl _, leV.refl _, trivial⟩ rfl) ?_
  rintro ⟨i, a2, x0, x1, x2, x3⟩ hi
  dsimp only at hi ⊢
  simp (disch := first | exact dd | fail) only [go_sem]
  refine brP (fun hb => ?_) (fun hb => ?_)
  · simp only [decide_eq_true_eq] at hb
    rcases (by omega : i = 0 ∨ i = 1 ∨ i = 2 ∨ i = 3) with rfl | rfl | rfl | rfl
    all_goals
      repeat' (first | (simp (disch := first | exact dd | fail) only [go_sem]) | (refine allI (fun b => ?_)) | (refine allT (fun τ => ?_)) | (refine brP (fun h => ?_) (fun h => ?_) <;> (try simp only [zgx, zbx] at h)) | (refine actsE_U (gn _ (by omega) 1000 _ _ _ (hl.at (by omega) (by omega)) (by omega)) rfl ?_; rintro _ _ ⟨_, _, ⟨_, _, rfl⟩, rfl⟩) | (refine actsE_T (gn _ (by omega) 1000 _ _ _ (hl.at (by omega) (by omega)) (by omega)) rfl ?_; rintro _ _ ⟨_, _, ⟨_, _, rfl⟩, rfl⟩) | (refine actsE_of (gn _ (by omega) 1000 _ _ _ (hl.at (by omega) (by omega)) (by omega)) rfl ?_; rintro _ _ ⟨_, _, ⟨_, _, rfl⟩, rfl⟩) | (refine actsE_U (gr _ _ (by omega) 1000 _ _ _ (hl.at (by omega) (by omega)) (by omega)) rfl ?_; rintro _ _ ⟨_, _, ⟨_, _, rfl⟩, rfl⟩) | (refine actsE_T (gr _ _ (by omega) 1000 _ _ _ (hl.at (by omega) (by omega)) (by omega)) rfl ?_; rintro _ _ ⟨_, _, ⟨_, _, rfl⟩, rfl⟩) | (refine actsE_of (gr _ _ (by omega) 1000 _ _ _ (hl.at (by omega) (by omega)) (by omega)) rfl ?_; rintro _ _ ⟨_, _, ⟨_, _, rfl⟩, rfl⟩) | (refine actsE_U (gp _ _ (by decide) (by rfl) (by rfl) 1000 _ _ _ (hl.at (by omega) (by omega)) (by omega)) rfl ?_; rintro _ _ ⟨_, _, ⟨_, _, rfl⟩, rfl⟩) | (refine actsE_T (gp _ _ (by decide) (by rfl) (by rfl) 1000 _ _ _ (hl.at (by omega) (by omega)) (by omega)) rfl ?_; rintro _ _ ⟨_, _, ⟨_, _, rfl⟩, rfl⟩) | (refine actsE_of (gp _ _ (by decide) (by rfl) (by rfl) 1000 _ _ _ (hl.at (by omega) (by omega)) (by omega)) rfl ?_; rintro _ _ ⟨_, _, ⟨_, _, rfl⟩, rfl⟩) | (refine actsE_U (gw 40 _ _ (by decide) (by rfl) (by rfl) 1000 _ _ _ (hl.at (by omega) (by omega)) (by omega)) rfl ?_; rintro _ _ ⟨_, _, ⟨_, _, rfl⟩, rfl⟩) | (refine actsE_T (gw 40 _ _ (by decide) (by rfl) (by rfl) 1000 _ _ _ (hl.at (by omega) (by omega)) (by omega)) rfl ?_; rintro _ _ ⟨_, _, ⟨_, _, rfl⟩, rfl⟩) | (refine actsE_of (gw 40 _ _ (by decide) (by rfl) (by rfl) 1000 _ _ _ (hl.at (by omega) (by omega)) (by omega)) rfl ?_; rintro _ _ ⟨_, _, ⟨_, _, rfl⟩, rfl⟩) | (apply And.intro; focus omega) | (refine callG_LU (fun hg => ?_) (fun hg => ?_) <;> (try simp only [hg])))
      exact ⟨⟨(_, _, _, _, _, _), by dsimp only; omega⟩, by dsimp only; omega, Ents.envH ⟨leV.refl _, leV.refl _, leV.refl _, leV.refl _, leV.refl _, leV.refl _, leV.refl _, leV.refl _, trivial⟩ rfl⟩
  · repeat' (first | (simp (disch := first | exact dd | fail) only [go_sem]) | (refine allI (fun b => ?_)) | (refine allT (fun τ => ?_)) | (refine brP (fun h => ?_) (fun h => ?_) <;> (try simp only [zgx, zbx] at h)) | (refine actsE_U (gn _ (by omega) 1000 _ _ _ (hl.at (by omega) (by omega)) (by omega)) rfl ?_; rintro _ _ ⟨_, _, ⟨_, _, rfl⟩, rfl⟩) | (refine actsE_T (gn _ (by omega) 1000 _ _ _ (hl.at (by omega) (by omega)) (by omega)) rfl ?_; rintro _ _ ⟨_, _, ⟨_, _, rfl⟩, rfl⟩) | (refine actsE_of (gn _ (by omega) 1000 _ _ _ (hl.at (by omega) (by omega)) (by omega)) rfl ?_; rintro _ _ ⟨_, _, ⟨_, _, rfl⟩, rfl⟩) | (refine actsE_U (gr _ _ (by omega) 1000 _ _ _ (hl.at (by omega) (by omega)) (by omega)) rfl ?_; rintro _ _ ⟨_, _, ⟨_, _, rfl⟩, rfl⟩) | (refine actsE_T (gr _ _ (by omega) 1000 _ _ _ (hl.at (by omega) (by omega)) (by omega)) rfl ?_; rintro _ _ ⟨_, _, ⟨_, _, rfl⟩, rfl⟩) | (refine actsE_of (gr _ _ (by omega) 1000 _ _ _ (hl.at (by omega) (by omega)) (by omega)) rfl ?_; rintro _ _ ⟨_, _, ⟨_, _, rfl⟩, rfl⟩) | (refine actsE_U (gp _ _ (by decide) (by rfl) (by rfl) 1000 _ _ _ (hl.at (by omega) (by omega)) (by omega)) rfl ?_; rintro _ _ ⟨_, _, ⟨_, _, rfl⟩, rfl⟩) | (refine actsE_T (gp _ _ (by decide) (by rfl) (by rfl) 1000 _ _ _ (hl.at (by omega) (by omega)) (by omega)) rfl ?_; rintro _ _ ⟨_, _, ⟨_, _, rfl⟩, rfl⟩) | (refine actsE_of (gp _ _ (by decide) (by rfl) (by rfl) 1000 _ _ _ (hl.at (by omega) (by omega)) (by omega)) rfl ?_; rintro _ _ ⟨_, _, ⟨_, _, rfl⟩, rfl⟩) | (refine actsE_U (gw 40 _ _ (by decide) (by rfl) (by rfl) 1000 _ _ _ (hl.at (by omega) (by omega)) (by omega)) rfl ?_; rintro _ _ ⟨_, _, ⟨_, _, rfl⟩, rfl⟩) | (refine actsE_T (gw 40 _ _ (by decide) (by rfl) (by rfl) 1000 _ _ _ (hl.at (by omega) (by omega)) (by omega)) rfl ?_; rintro _ _ ⟨_, _, ⟨_, _, rfl⟩, rfl⟩) | (refine actsE_of (gw 40 _ _ (by decide) (by rfl) (by rfl) 1000 _ _ _ (hl.at (by omega) (by omega)) (by omega)) rfl ?_; rintro _ _ ⟨_, _, ⟨_, _, rfl⟩, rfl⟩) | (apply And.intro; focus omega) | (refine callG_LU (fun hg => ?_) (fun hg => ?_) <;> (try simp only [hg])))
    all_goals
      refine loopI (ι := Int × Int × List (List UInt8) × Tok) (fun y => (0 ≤ y.1 ∧ y.1 ≤ sh.b) ∧ (a ≤ y.2.1 ∧ y.2.1 ≤ a + 20 + 60 * y.1) ∧ y.2.2.1.length ≤ y.1 ∧ ∀ s ∈ y.2.2.1, s.length ≤ 1000) (fun y => [(9, .int .i64 y.1), (7, .int .i64 sh.d), (6, .int .i64 sh.c), (5, .int .i64 sh.b), (3, .ptr 3 _ 0), (2, .ptr 2 _ 0), (0, .ptr 1000 sb 0)]) (fun y => [(79, .tok y.2.2.2), (3, .blk _ [.int .i64 v, .int .i64 _, .int .i64 _, .int .i64 _, .int .i64 _, .osl 79 y.2.2.2 1 y.2.2.1.length (y.2.2.1.map LV.str), .fsl 1 0 []]), (2, .blk _ [.int .i64 0, .int .i64 0, .int .i64 0, .int .i64 0, .int .i64 0, .fsl 1 0 [], .fsl 1 0 []]), (1000, SB sb l y.2.1)]) (fun y => (sh.b - y.1).toNat) (0, _, [], ⟨0, 0, 0⟩) ⟨by dsimp only; omega, ?_, by simp⟩ (Ents.dum 79 (Ents.le ⟨leV.refl _, leV.refl _, leV.refl _, leV.refl _, leV.refl _, leV.refl _, leV.refl _, trivial⟩ ⟨rfl, ⟨rfl, leV.refl _, leV.refl _, leV.refl _, leV.refl _, leV.refl _, leV.nil_osl _ _ _ _, leV.refl _, trivial⟩, ⟨rfl, leVs.refl _⟩, ⟨rfl, leVs.refl _⟩, trivial⟩)) ?_
      · dsimp only; omega
      rintro ⟨i, a2, ws, τ⟩ ⟨h1, h2, h3, h3b⟩
      dsimp only at h1 h2 h3 h3b ⊢
      repeat' (first | (simp (disch := first | exact dd | fail) only [go_sem]) | (refine allI (fun b => ?_)) | (refine allT (fun τ => ?_)) | (refine brP (fun h => ?_) (fun h => ?_) <;> (try simp only [zgx, zbx] at h)) | (refine actsE_U (gn _ (by omega) 1000 _ _ _ (hl.at (by omega) (by omega)) (by omega)) rfl ?_; rintro _ _ ⟨_, _, ⟨_, _, rfl⟩, rfl⟩) | (refine actsE_T (gn _ (by omega) 1000 _ _ _ (hl.at (by omega) (by omega)) (by omega)) rfl ?_; rintro _ _ ⟨_, _, ⟨_, _, rfl⟩, rfl⟩) | (refine actsE_of (gn _ (by omega) 1000 _ _ _ (hl.at (by omega) (by omega)) (by omega)) rfl ?_; rintro _ _ ⟨_, _, ⟨_, _, rfl⟩, rfl⟩) | (refine actsE_U (gr _ _ (by omega) 1000 _ _ _ (hl.at (by omega) (by omega)) (by omega)) rfl ?_; rintro _ _ ⟨_, _, ⟨_, _, rfl⟩, rfl⟩) | (refine actsE_T (gr _ _ (by omega) 1000 _ _ _ (hl.at (by omega) (by omega)) (by omega)) rfl ?_; rintro _ _ ⟨_, _, ⟨_, _, rfl⟩, rfl⟩) | (refine actsE_of (gr _ _ (by omega) 1000 _ _ _ (hl.at (by omega) (by omega)) (by omega)) rfl ?_; rintro _ _ ⟨_, _, ⟨_, _, rfl⟩, rfl⟩) | (refine actsE_U (gp _ _ (by decide) (by rfl) (by rfl) 1000 _ _ _ (hl.at (by omega) (by omega)) (by omega)) rfl ?_; rintro _ _ ⟨_, _, ⟨_, _, rfl⟩, rfl⟩) | (refine actsE_T (gp _ _ (by decide) (by rfl) (by rfl) 1000 _ _ _ (hl.at (by omega) (by omega)) (by omega)) rfl ?_; rintro _ _ ⟨_, _, ⟨_, _, rfl⟩, rfl⟩) | (refine actsE_of (gp _ _ (by decide) (by rfl) (by rfl) 1000 _ _ _ (hl.at (by omega) (by omega)) (by omega)) rfl ?_; rintro _ _ ⟨_, _, ⟨_, _, rfl⟩, rfl⟩) | (refine actsE_U (gw 40 _ _ (by decide) (by rfl) (by rfl) 1000 _ _ _ (hl.at (by omega) (by omega)) (by omega)) rfl ?_; rintro _ _ ⟨_, _, ⟨_, _, rfl⟩, rfl⟩) | (refine actsE_T (gw 40 _ _ (by decide) (by rfl) (by rfl) 1000 _ _ _ (hl.at (by omega) (by omega)) (by omega)) rfl ?_; rintro _ _ ⟨_, _, ⟨_, _, rfl⟩, rfl⟩) | (refine actsE_of (gw 40 _ _ (by decide) (by rfl) (by rfl) 1000 _ _ _ (hl.at (by omega) (by omega)) (by omega)) rfl ?_; rintro _ _ ⟨_, _, ⟨_, _, rfl⟩, rfl⟩) | (refine actsE_U (path 1000 _ _ _ (hl.at (by omega) (by omega)) (by omega)) rfl ?_; rintro _ _ ⟨_, _, ⟨_, _, rfl⟩, rfl⟩) | (refine actsE_T (path 1000 _ _ _ (hl.at (by omega) (by omega)) (by omega)) rfl ?_; rintro _ _ ⟨_, _, ⟨_, _, rfl⟩, rfl⟩) | (refine actsE_of (path 1000 _ _ _ (hl.at (by omega) (by omega)) (by omega)) rfl ?_; rintro _ _ ⟨_, _, ⟨_, _, rfl⟩, rfl⟩) | (apply And.intro; focus omega) | (refine callG_LU (fun hg => ?_) (fun hg => ?_) <;> (try simp only [hg])))
    all_goals first
      | (rename_i a3 ha3 w hw
         exact ⟨by simp only [roomy]; omega, fun τ2 => ⟨⟨(i + 1, a3, ws ++ [w], τ2), by dsimp only; omega, by dsimp only; omega, by simp; omega, mem_snoc h3b (by omega)⟩, by dsimp only; omega, Ents.le ⟨leV.refl _, leV.refl _, leV.refl _, leV.refl _, leV.refl _, leV.refl _, leV.refl _, trivial⟩ ⟨rfl, ⟨rfl, leV.refl _, leV.refl _, leV.refl _, leV.refl _, leV.refl _, leV.of_eq (by simp), leV.refl _, trivial⟩, ⟨rfl, leVs.refl _⟩, ⟨rfl, leVs.refl _⟩, trivial⟩⟩⟩)
      | (rename_i a3 ha3 v2 hv2
         refine loopI (ι := Int × Int × List (List UInt8) × Tok) (fun y => (0 ≤ y.1 ∧ y.1 ≤ v2) ∧ (a3 ≤ y.2.1 ∧ y.2.1 ≤ a3 + 2 * (v2 - y.1)) ∧ y.2.2.1.length ≤ v2 - y.1 ∧ ∀ s ∈ y.2.2.1, s.length ≤ 1000) (fun y => [(10, .int .i64 y.1), (3, .ptr 3 _ 0), (2, .ptr 2 _ 0), (0, .ptr 1000 sb 0)]) (fun y => [(95, .tok y.2.2.2), (79, .tok τ), (3, .blk _ [.int .i64 v, .int .i64 _, .int .i64 _, .int .i64 _, .int .i64 _, .osl 79 τ 1 ws.length (ws.map LV.str), .osl 95 y.2.2.2 1 y.2.2.1.length (y.2.2.1.map LV.str)]), (2, .blk _ [.int .i64 0, .int .i64 0, .int .i64 0, .int .i64 0, .int .i64 0, .fsl 1 0 [], .fsl 1 0 []]), (1000, SB sb l y.2.1)]) (fun y => y.1.toNat) (v2, _, [], ⟨0, 0, 0⟩) ⟨by dsimp only; omega, by dsimp only; omega, by simp⟩ (Ents.dum 95 (Ents.le ⟨leV.refl _, leV.refl _, leV.refl _, leV.refl _, trivial⟩ ⟨rfl, rfl, ⟨rfl, leV.refl _, leV.refl _, leV.refl _, leV.refl _, leV.refl _, leV.refl _, leV.nil_osl _ _ _ _, trivial⟩, ⟨rfl, leVs.refl _⟩, ⟨rfl, leVs.refl _⟩, trivial⟩)) ?_
         rintro ⟨j, a4, us, τ'⟩ ⟨h4, h5, h6, h6b⟩
         dsimp only at h4 h5 h6 h6b ⊢
         repeat' (first | (simp (disch := first | exact dd | fail) only [go_sem]) | (refine allI (fun b => ?_)) | (refine allT (fun τ => ?_)) | (refine brP (fun h => ?_) (fun h => ?_) <;> (try simp only [zgx, zbx] at h)) | (refine actsE_U (gn _ (by omega) 1000 _ _ _ (hl.at (by omega) (by omega)) (by omega)) rfl ?_; rintro _ _ ⟨_, _, ⟨_, _, rfl⟩, rfl⟩) | (refine actsE_T (gn _ (by omega) 1000 _ _ _ (hl.at (by omega) (by omega)) (by omega)) rfl ?_; rintro _ _ ⟨_, _, ⟨_, _, rfl⟩, rfl⟩) | (refine actsE_of (gn _ (by omega) 1000 _ _ _ (hl.at (by omega) (by omega)) (by omega)) rfl ?_; rintro _ _ ⟨_, _, ⟨_, _, rfl⟩, rfl⟩) | (refine actsE_U (gr _ _ (by omega) 1000 _ _ _ (hl.at (by omega) (by omega)) (by omega)) rfl ?_; rintro _ _ ⟨_, _, ⟨_, _, rfl⟩, rfl⟩) | (refine actsE_T (gr _ _ (by omega) 1000 _ _ _ (hl.at (by omega) (by omega)) (by omega)) rfl ?_; rintro _ _ ⟨_, _, ⟨_, _, rfl⟩, rfl⟩) | (refine actsE_of (gr _ _ (by omega) 1000 _ _ _ (hl.at (by omega) (by omega)) (by omega)) rfl ?_; rintro _ _ ⟨_, _, ⟨_, _, rfl⟩, rfl⟩) | (refine actsE_U (gp _ _ (by decide) (by rfl) (by rfl) 1000 _ _ _ (hl.at (by omega) (by omega)) (by omega)) rfl ?_; rintro _ _ ⟨_, _, ⟨_, _, rfl⟩, rfl⟩) | (refine actsE_T (gp _ _ (by decide) (by rfl) (by rfl) 1000 _ _ _ (hl.at (by omega) (by omega)) (by omega)) rfl ?_; rintro _ _ ⟨_, _, ⟨_, _, rfl⟩, rfl⟩) | (refine actsE_of (gp _ _ (by decide) (by rfl) (by rfl) 1000 _ _ _ (hl.at (by omega) (by omega)) (by omega)) rfl ?_; rintro _ _ ⟨_, _, ⟨_, _, rfl⟩, rfl⟩) | (refine actsE_U (gw 40 _ _ (by decide) (by rfl) (by rfl) 1000 _ _ _ (hl.at (by omega) (by omega)) (by omega)) rfl ?_; rintro _ _ ⟨_, _, ⟨_, _, rfl⟩, rfl⟩) | (refine actsE_T (gw 40 _ _ (by decide) (by rfl) (by rfl) 1000 _ _ _ (hl.at (by omega) (by omega)) (by omega)) rfl ?_; rintro _ _ ⟨_, _, ⟨_, _, rfl⟩, rfl⟩) | (refine actsE_of (gw 40 _ _ (by decide) (by rfl) (by rfl) 1000 _ _ _ (hl.at (by omega) (by omega)) (by omega)) rfl ?_; rintro _ _ ⟨_, _, ⟨_, _, rfl⟩, rfl⟩) | (apply And.intro; focus omega) | (refine callG_LU (fun hg => ?_) (fun hg => ?_) <;> (try simp only [hg]))))
      | (rename_i a3 ha3 w hw
         exact ⟨⟨(i + 1, a3, ws ++ [w], τ), by dsimp only; omega, by dsimp only; omega, by simp; omega, mem_snoc h3b (by omega)⟩, by dsimp only; omega, Ents.le ⟨leV.refl _, leV.refl _, leV.refl _, leV.refl _, leV.refl _, leV.refl _, leV.refl _, trivial⟩ ⟨rfl, ⟨rfl, leV.refl _, leV.refl _, leV.refl _, leV.refl _, leV.refl _, leV.of_eq (by simp), leV.refl _, trivial⟩, ⟨rfl, leVs.refl _⟩, ⟨rfl, leVs.refl _⟩, trivial⟩⟩)
      | trace_state
    all_goals first
      | (rename_i a5 ha5 w hw
         exact ⟨by simp only [roomy]; omega, fun τ2 => ⟨⟨(j - 1, a5, us ++ [w], τ2), by dsimp only; omega, by dsimp only; omega, by simp; omega, mem_snoc h6b (by omega)⟩, by dsimp only; omega, Ents.le ⟨leV.refl _, leV.refl _, leV.refl _, leV.refl _, trivial⟩ ⟨rfl, rfl, ⟨rfl, leV.refl _, leV.refl _, leV.refl _, leV.refl _, leV.refl _, leV.refl _, leV.of_eq (by simp), trivial⟩, ⟨rfl, leVs.refl _⟩, ⟨rfl, leVs.refl _⟩, trivial⟩⟩⟩)
      | (rename_i a5 ha5 w hw
         exact ⟨⟨(j - 1, a5, us ++ [w], τ), by dsimp only; omega, by dsimp only; omega, by simp; omega, mem_snoc h6b (by omega)⟩, by dsimp only; omega, Ents.le ⟨leV.refl _, leV.refl _, leV.refl _, leV.refl _, trivial⟩ ⟨rfl, rfl, ⟨rfl, leV.refl _, leV.refl _, leV.refl _, leV.refl _, leV.refl _, leV.refl _, leV.of_eq (by simp), trivial⟩, ⟨rfl, leVs.refl _⟩, ⟨rfl, leVs.refl _⟩, trivial⟩⟩)
      | (apply gend ca_le; (focus (repeat (first | exact List.Sublist.refl _ | apply List.Sublist.cons))); (focus omega); exact ⟨⟨_, _, _, _, _, ws, us⟩, ⟨⟨by dsimp only; omega, h3b⟩, by dsimp only; omega, h6b⟩, rfl⟩)
      | trace_state
end Go.Proofs.YtkdblnejpmbnfaaGreat
namespace Go.Proofs.YtkdblnejpmbnfaaGreat.F
open Go Go.Lx
set_option linter.unusedSimpArgs false
set_option linter.unusedVariables false
set_option maxRecDepth 100000
set_option maxHeartbeats 16000000
/-- a call that is in order -/
structure CkOk (c : Ca) : Prop where
  n : 0 ≤ c.n ∧ c.n < 22
  ps : (c.ps.length : Int) = (rowN c.n).b
  xs : (rowN c.n).c ≤ c.xs.length
  pl : ∀ s ∈ c.ps, s.length ≤ 128
theorem CaC_eq (c : Ca) : CaC c = [.int .i64 c.n, .int .i64 c.a0, .int .i64 c.a1, .int .i64 c.a2, .int .i64 c.a3, .sl 1 c.ps.length (c.ps.map LV.str), .sl 1 c.xs.length (c.xs.map LV.str)] := Eq.trans rfl rfl
theorem gStr {l : List (List UInt8)} {i : Nat} (h : i < l.length) : (l.map LV.str).getD i .any = .str (l.getD i []) := by
  simp [List.getD, h]
theorem rowN_no {n : Int} (h : (rowN n).n ≠ []) : 0 ≤ n ∧ n < 22 := by
  unfold rowN at h
  split at h
  · assumption
  · exact absurd rfl h
theorem check (c : Ca) (hc : CaOk c) : PureE Tryz.prog gl 63 [.agg (CaC c)] fun v => ∃ e : Int, (e = 0 → CkOk c) ∧ v = .int .i64 e := by
  refine fn_viewT Tryz.func63 t63 Tryz.ntmps63 (by simp) ?_
  obtain ⟨⟨h1, h2⟩, h3, h4⟩ := hc
  have hg := get10 c.n
  have hr := rowN_ok c.n
  have hn := rowN_no (n := c.n)
  have hK := fun (a : (rowN c.n).n ≠ []) (b : (c.ps.length : Int) = (rowN c.n).b) (d : (rowN c.n).c ≤ c.xs.length) (e : ∀ s ∈ c.ps, s.length ≤ 128) => (⟨hn a, b, d, e⟩ : CkOk c)
  generalize rowN c.n = r at *
  obtain ⟨hr1, hr2, hr3⟩ := hr
  rw [RwC_eq] at hg
  unfold c63 r63
  rw [CaC_eq]
  repeat' (first | (simp (disch := first | exact dd | fail) only [go_sem]) | (refine allI (fun b => ?_)) | (refine allT (fun τ => ?_)) | (refine brP (fun h => ?_) (fun h => ?_) <;> (try simp only [zgx, zbx] at h)) | refine call_U (hg) ?_ | refine callG_U (fun _ => hg) ?_ | refine call_T (hg) ?_ | refine callG_T (fun _ => hg) ?_ | refine call_N (hg) ?_ | refine call_of (hg) ?_ | refine callG_of (fun _ => hg) ?_ | (refine gd ?_) | fail)
  · exact pureE_end (leV.refl _) ⟨100, by simp, rfl⟩
  · rename_i b1
    refine loopI (ι := Int) (fun i => r.a ≤ i ∧ i ≤ 4) (fun i => [(4, .int .i64 i), (3, .ptr 3 b 0), (1, .ptr 1 b1 0)]) (fun i => [(3, .blk b [.str r.n, .int .i64 r.a, .int .i64 r.b, .int .i64 r.c, .int .i64 r.d]), (1, .blk b1 [.int .i64 c.n, .int .i64 c.a0, .int .i64 c.a1, .int .i64 c.a2, .int .i64 c.a3, .sl 1 c.ps.length (c.ps.map LV.str), .sl 1 c.xs.length (c.xs.map LV.str)])]) (fun i => (4 - i).toNat) r.a (by omega) (Ents.envH (by simp [go_sem]) rfl) ?_
    intro i hi
    simp (disch := first | exact dd | fail) only [go_sem]
    refine brP (fun hb => ?_) (fun hb => ?_)
    · simp only [decide_eq_true_eq] at hb
      rcases (by omega : i = 0 ∨ i = 1 ∨ i = 2 ∨ i = 3) with rfl | rfl | rfl | rfl
      all_goals
        repeat' (first | (simp (disch := first | exact dd | fail) only [go_sem]) | (refine allI (fun b => ?_)) | (refine allT (fun τ => ?_)) | (refine brP (fun h => ?_) (fun h => ?_) <;> (try simp only [zgx, zbx] at h)) | (refine gd ?_) | fail)
        · exact pureE_end (leV.refl _) ⟨101, by simp, rfl⟩
        · first
            | exact ⟨⟨1, by omega⟩, by dsimp only; omega, Ents.envH (by simp [go_sem]) rfl⟩
            | exact ⟨⟨2, by omega⟩, by dsimp only; omega, Ents.envH (by simp [go_sem]) rfl⟩
            | exact ⟨⟨3, by omega⟩, by dsimp only; omega, Ents.envH (by simp [go_sem]) rfl⟩
            | exact ⟨⟨4, by omega⟩, by dsimp only; omega, Ents.envH (by simp [go_sem]) rfl⟩
    · repeat' (first | (simp (disch := first | exact dd | fail) only [go_sem, pick_a0, pick_0a0, pick_00a, pick_0a]) | (refine allI (fun b => ?_)) | (refine allT (fun τ => ?_)) | (refine brP (fun h => ?_) (fun h => ?_) <;> (try simp only [zgx, zbx] at h)) | (refine gd ?_) | fail)
      · exact pureE_end (leV.refl _) ⟨101, by simp, rfl⟩
      · rename_i hsh
        simp only [bne_eq_false_iff_eq] at h
        obtain ⟨⟨k1, k2⟩, k3⟩ := h
        refine loopI (ι := Nat) (fun i => i ≤ c.ps.length ∧ ∀ j, j < i → (c.ps.getD j []).length ≤ 128) (fun i => [(5, .int .i64 i), (3, .ptr 3 b 0), (1, .ptr 1 b1 0)]) (fun i => [(3, .blk b [.str r.n, .int .i64 r.a, .int .i64 r.b, .int .i64 r.c, .int .i64 r.d]), (1, .blk b1 [.int .i64 c.n, .int .i64 c.a0, .int .i64 c.a1, .int .i64 c.a2, .int .i64 c.a3, .sl 1 c.ps.length (c.ps.map LV.str), .sl 1 c.xs.length (c.xs.map LV.str)])]) (fun i => c.ps.length - i) 0 ⟨by omega, fun j hj => absurd hj (by omega)⟩ (Ents.envH (by simp [go_sem]) rfl) ?_
        rintro j ⟨hj, hjl⟩
        simp (disch := first | exact dd | fail) only [go_sem]
        refine brP (fun hb => ?_) (fun hb => ?_)
        · have hlt : j < c.ps.length := by simpa using hb
          have e1 : (c.ps.map LV.str).getD (j * 1) .any = .str (c.ps.getD j []) := by rw [Nat.mul_one]; exact gStr hlt
          have e2 := h2 _ (getD_memA ([] : List UInt8) hlt)
          generalize hw : c.ps.getD j [] = w at *
          repeat' (first | (simp (disch := first | exact dd | fail) only [go_sem, e1, List.length_map]) | (refine allI (fun b => ?_)) | (refine allT (fun τ => ?_)) | (refine brP (fun h => ?_) (fun h => ?_) <;> (try simp only [zgx, zbx] at h)) | (refine gd ?_) | fail)
          · exact pureE_end (leV.refl _) ⟨102, by simp, rfl⟩
          · refine ⟨⟨j + 1, by omega, fun k hk => ?_⟩, by dsimp only; omega, Ents.envH (by simp [go_sem]) rfl⟩
            rcases (by omega : k < j ∨ k = j) with h5 | rfl
            · exact hjl k h5
            · rw [hw]; omega
        · simp (disch := first | exact dd | fail) only [go_sem]
          have hpl : ∀ s ∈ c.ps, s.length ≤ 128 := fun s hs => by
            obtain ⟨k, hk, rfl⟩ := List.getElem_of_mem hs
            have := hjl k (by simp only [decide_eq_false_iff_not] at hb; omega)
            simpa [List.getD, hk] using this
          refine loopI (ι := Nat) (fun i => i ≤ c.xs.length) (fun i => [(6, .int .i64 i), (1, .ptr 1 b1 0)]) (fun i => [(1, .blk b1 [.int .i64 c.n, .int .i64 c.a0, .int .i64 c.a1, .int .i64 c.a2, .int .i64 c.a3, .sl 1 c.ps.length (c.ps.map LV.str), .sl 1 c.xs.length (c.xs.map LV.str)])]) (fun i => c.xs.length - i) 0 (by omega) (Ents.sub (by simp [go_sem]) ⟨_, List.Sublist.cons _ (List.Sublist.refl _), List.Perm.refl _⟩) ?_
          intro k hk
          simp (disch := first | exact dd | fail) only [go_sem]
          refine brP (fun hb2 => ?_) (fun hb2 => ?_)
          · have hlt : k < c.xs.length := by simpa using hb2
            have e1 : (c.xs.map LV.str).getD (k * 1) .any = .str (c.xs.getD k []) := by rw [Nat.mul_one]; exact gStr hlt
            have e2 := h4 _ (getD_memA ([] : List UInt8) hlt)
            generalize hw : c.xs.getD k [] = w at *
            repeat' (first | (simp (disch := first | exact dd | fail) only [go_sem, e1, List.length_map]) | (refine allI (fun b => ?_)) | (refine allT (fun τ => ?_)) | (refine brP (fun h => ?_) (fun h => ?_) <;> (try simp only [zgx, zbx] at h)) | (refine gd ?_) | fail)
            · exact pureE_end (leV.refl _) ⟨102, by simp, rfl⟩
            · exact ⟨⟨k + 1, by omega⟩, by dsimp only; omega, Ents.envH (by simp [go_sem]) rfl⟩
          · repeat' (first | (simp (disch := first | exact dd | fail) only [go_sem]) | (refine allI (fun b => ?_)) | (refine allT (fun τ => ?_)) | (refine brP (fun h => ?_) (fun h => ?_) <;> (try simp only [zgx, zbx] at h)) | (refine gd ?_) | fail)
            refine pureE_end (leV.refl _) ⟨0, fun _ => ?_, rfl⟩
            exact hK (by assumption) (by omega) (by omega) hpl
/-- what a call is for -/
theorem rowN_b1 {n : Int} (h8 : n ≠ 8) (h13 : n ≠ 13) : (rowN n).b ≤ 1 := by
  have key : ∀ k : Fin 22, k.val ≠ 8 → k.val ≠ 13 → (rws.getD k.val rw0).b ≤ 1 := by decide +kernel
  unfold rowN
  split
  · rename_i h
    exact key ⟨n.toNat, by omega⟩ (by simp only; omega) (by simp only; omega)
  · decide
theorem perms (c : Ca) : PureE Tryz.prog gl 97 [.agg (CaC c)] fun v => ∃ l : List Int, ((rowN c.n).b ≤ l.length ∧ l.length ≤ 2) ∧ v = .sl 1 l.length (l.map (LV.int .i64)) := by
  refine fn_viewT Tryz.func97 t97 Tryz.ntmps97 (by simp) ?_
  have hb := rowN_b1 (n := c.n)
  have hb2 := (rowN_ok c.n).2.1
  generalize (rowN c.n).b = B at *
  unfold c97 r97
  rw [CaC_eq]
  repeat' (first | (simp (disch := first | exact dd | fail) only [go_sem]) | (refine allI (fun b => ?_)) | (refine allT (fun τ => ?_)) | (refine brP (fun h => ?_) (fun h => ?_) <;> (try simp only [zgx, zbx] at h)) | (refine gd ?_) | fail)
  all_goals first
    | exact pureE_end (leV.fsl_sl _ _ _) ⟨[_], ⟨by simp; omega, by simp⟩, rfl⟩
    | exact pureE_end (leV.fsl_sl _ _ _) ⟨[_, _], ⟨by simp; omega, by simp⟩, rfl⟩
    | trace_state
theorem follows (c : Ca) : PureE Tryz.prog gl 99 [.agg (CaC c)] fun v => ∃ b : Bool, v = .bool b := by
  refine fn_viewT Tryz.func99 t99 Tryz.ntmps99 (by simp) ?_
  unfold c99 r99
  rw [CaC_eq]
  repeat' (first | (simp (disch := first | exact dd | fail) only [go_sem]) | (refine allI (fun b => ?_)) | (refine allT (fun τ => ?_)) | (refine brP (fun h => ?_) (fun h => ?_) <;> (try simp only [zgx, zbx] at h)) | (refine gd ?_) | fail)
  all_goals first
    | exact pureE_end (leV.refl _) ⟨_, rfl⟩
    | trace_state
theorem mode (n : Int) : Pure Tryz.prog gl 101 [.int .i64 n] (.bool (decide (0 ≤ n ∧ n ≤ 511))) := by
  refine fn_pureT Tryz.func101 t101 Tryz.ntmps101 (by simp) ?_
  unfold c101 r101
  repeat' (first | (simp (disch := first | exact dd | fail) only [go_sem]) | (refine allI (fun b => ?_)) | (refine allT (fun τ => ?_)) | (refine brP (fun h => ?_) (fun h => ?_) <;> (try simp only [zgx, zbx] at h)) | (refine gd ?_) | fail)
  simp [Bool.decide_and]
/-- an item -/
structure It where
  gv : List UInt8
  pa : List UInt8
  dir : At
  nm : List UInt8
  fi : At
  ro : Int
  ki : Int
  mo : Int
  u : Int
  g : Int
  pe : Int
def ItC (x : It) : List LV := [.str x.gv, .str x.pa, .int .i64 x.dir.d, .int .i64 x.dir.i, .str x.nm, .int .i64 x.fi.d, .int .i64 x.fi.i, .int .i64 x.ro, .int .i64 x.ki, .int .i64 x.mo, .int .i64 x.u, .int .i64 x.g, .int .i64 x.pe]
theorem ItC_eq (x : It) : ItC x = [.str x.gv, .str x.pa, .int .i64 x.dir.d, .int .i64 x.dir.i, .str x.nm, .int .i64 x.fi.d, .int .i64 x.fi.i, .int .i64 x.ro, .int .i64 x.ki, .int .i64 x.mo, .int .i64 x.u, .int .i64 x.g, .int .i64 x.pe] := Eq.trans rfl rfl
theorem len_it (l : List It) : (l.flatMap ItC).length = l.length * 13 := length_rows (f := ItC) (w := 13) (fun _ => rfl) l
theorem item (s : Spc) (gv : List UInt8) (pe : Int) (f : Fnd) (q : Nat) (hs : SI q s) (hq : q ≤ 900) : PureE Tryz.prog gl 100 [SpL s, .str gv, .int .i64 pe, .agg (FnC f)] fun v => ∃ x : It, v = .agg (ItC x) := by
  refine fn_viewT Tryz.func100 t100 Tryz.ntmps100 (by simp) ?_
  have hF := hs.fi.ok (by omega) (by omega)
  have c1 := node s.fs f.file hF
  generalize nodeR s.fs f.file = R at *
  obtain ⟨n, nb⟩ := R
  dsimp only at c1
  rw [NoC_eq] at c1
  unfold c100 r100
  rw [FiL_eq, AtL_eq] at c1
  rw [SpL_eq, FnC_eq]
  repeat' (first | (simp (disch := first | exact dd | fail) only [go_sem]) | (refine allI (fun b => ?_)) | (refine allT (fun τ => ?_)) | (refine brP (fun h => ?_) (fun h => ?_) <;> (try simp only [zgx, zbx] at h)) | refine call_U (c1) ?_ | refine callG_U (fun _ => c1) ?_ | refine call_T (c1) ?_ | refine callG_T (fun _ => c1) ?_ | refine call_N (c1) ?_ | refine call_of (c1) ?_ | refine callG_of (fun _ => c1) ?_ | (refine gd ?_) | fail)
  exact pureE_end (leV.refl _) ⟨⟨_, _, ⟨_, _⟩, _, ⟨_, _⟩, _, _, _, _, _, _⟩, rfl⟩
end Go.Proofs.YtkdblnejpmbnfaaGreat.F
namespace Go.Proofs.YtkdblnejpmbnfaaGreat
open Go Go.Lx
set_option linter.unusedSimpArgs false
set_option linter.unusedVariables false
theorem findI_get {t : Tb} {pid : Int} (h : 0 ≤ findI t pid) : ∃ i, i < t.ps.length ∧ findI t pid = (i : Nat) ∧ (pAt t i).pid = pid ∧ ∀ j, j < i → (pAt t j).pid ≠ pid := by
  rcases firstI_cases t.ps.length (findP t pid) with ⟨h1, _⟩ | ⟨i, h1, h2, h3, h4⟩
  · rw [findI, h1] at h; omega
  · refine ⟨i, h1, h2, by simpa [findP, pAt] using h3, fun j hj => ?_⟩
    have := h4 j hj
    simpa [findP, pAt] using this
theorem findI_is {t : Tb} {pid : Int} {i : Nat} (hi : i < t.ps.length) (h : (pAt t i).pid = pid) (hn : ∀ j, j < i → (pAt t j).pid ≠ pid) : findI t pid = i :=
  firstI_is hi (by simpa [findP, pAt] using h) fun j hj => by simpa [findP, pAt] using hn j hj
theorem pAt_set {t : Tb} {i : Nat} {p : Ps} (j : Nat) (hi : i < t.ps.length) : pAt (setP t i p) j = if j = i then p else pAt t j := by
  simp only [pAt, setP, List.getD_eq_getElem?_getD, List.getElem?_set]
  split
  · rename_i h; subst h; simp [hi]
  · rename_i h; rw [if_neg (fun h2 => h h2.symm)]
theorem mem_pAt {t : Tb} {p : Ps} (h : p ∈ t.ps) : ∃ j, j < t.ps.length ∧ pAt t j = p := by
  obtain ⟨j, hj, rfl⟩ := List.getElem_of_mem h
  exact ⟨j, hj, by simp [pAt, hj]⟩
theorem pAt_mem {t : Tb} {j : Nat} (h : j < t.ps.length) : pAt t j ∈ t.ps := getD_memA ps0 h
theorem chR_ok {t : Tb} {pid : Int} {g : Nat → Int × Tb} (h : (chR t pid g).1 = 0) : 0 ≤ findI t pid ∧ (g (findI t pid).toNat).1 = 0 ∧ (chR t pid g).2 = (g (findI t pid).toNat).2 := by
  unfold chR at h ⊢
  by_cases h1 : findI t pid < 0
  · rw [if_pos h1] at h; exact absurd h (by decide)
  · rw [if_neg h1] at h ⊢
    by_cases h2 : (g (findI t pid).toNat).1 = 0
    · rw [if_neg (by simpa using h2)]
      exact ⟨by omega, h2, rfl⟩
    · rw [if_pos h2] at h; exact absurd h h2
theorem pAt_app {t : Tb} {p : Ps} {n : Int} (j : Nat) : pAt { t with nx := n, ps := t.ps ++ [p] } j = if j < t.ps.length then pAt t j else if j = t.ps.length then p else ps0 := by
  simp only [pAt, List.getD_eq_getElem?_getD]
  split
  · rename_i h; rw [List.getElem?_append_left h]
  · rename_i h
    rw [List.getElem?_append_right (by omega)]
    split
    · rename_i h2; subst h2; simp
    · rw [List.getElem?_eq_none (by simp; omega)]; rfl
end Go.Proofs.YtkdblnejpmbnfaaGreat
namespace Go.Proofs.YtkdblnejpmbnfaaGreat
open Go Go.Lx
set_option linter.unusedSimpArgs false
set_option linter.unusedVariables false
set_option maxRecDepth 100000
set_option maxHeartbeats 4000000
theorem take_drop_Sp {cs : List LV} {n j c w k : Nat} (hc : cs.length = n * w) (hj : j ≤ n) (hn : n ≤ c) : List.take ((n - j) * w) (List.drop (if c = j then 0 else j * w) (Sp cs k)) = cs.drop (j * w) := by
  by_cases h : c = j
  · obtain rfl : n = j := by omega
    rw [Nat.sub_self, Nat.zero_mul, List.take_zero, List.drop_eq_nil_of_le (by omega)]
  · rw [if_neg h, Sp, List.drop_append_of_le_length (by rw [hc]; exact Nat.mul_le_mul_right w hj)]
    refine List.take_left' ?_
    rw [List.length_drop, hc, Nat.sub_mul]
theorem cut_len {cs : List LV} {n i j w : Nat} (hc : cs.length = n * w) (hi : i ≤ j) (hj : j ≤ n) : (cs.take (i * w) ++ cs.drop (j * w)).length = (i + (n - j)) * w := by
  rw [List.length_append, List.length_take, List.length_drop, hc, Nat.min_eq_left (Nat.mul_le_mul_right w (by omega)), Nat.add_mul, Nat.sub_mul]
theorem delp (b n c i j : Nat) (cs : List LV) (hc : cs.length = n * 14) (hn : n ≤ c) (hi : i ≤ j) (hj : j ≤ n) (hb : n ≤ 1000000000) :
    ActsE Tryz.prog gl 71 [.msl 6000 14 b 0 n c, .int .i64 i, .int .i64 j] 6000 (.blk b (Sp cs ((c - n) * 14))) fun r e => r = .msl 6000 14 b 0 (n - (j - i)) c ∧ e = .blk b (Sp (cs.take (i * 14) ++ cs.drop (j * 14)) ((c - (n - (j - i))) * 14)) := by
  refine fn_viewT Tryz.func71 t71 Tryz.ntmps71 (by simp) ?_
  unfold c71 r71
  simp (disch := first | exact dd | fail) only [go_sem]
  refine ⟨by omega, ?_⟩
  have hl : (Sp cs ((c - n) * 14)).length = c * 14 := by rw [length_Sp, hc]; omega
  repeat' (first | (simp (disch := first | exact dd | fail) only [go_sem]) | (refine allI (fun b => ?_)) | (refine allT (fun τ => ?_)) | (refine brP (fun h => ?_) (fun h => ?_) <;> (try simp only [zgx, zbx] at h)))
  · obtain rfl : i = j := by omega
    rw [Nat.sub_self, Nat.sub_zero, List.take_append_drop]
    exact viewE_end (leV.refl _) (List.Sublist.refl _) ⟨rfl, rfl⟩
  · have e0 : (if c = 0 then 0 else 0) = 0 := by split <;> rfl
    have e2 : ¬ c = i + (n - j) := by omega
    have e3 := cut_len hc hi hj
    have e4 : (Sp cs ((c - n) * 14)).take (i * 14) = cs.take (i * 14) := take_Sp_le (by rw [hc]; exact Nat.mul_le_mul_right _ (by omega))
    simp only [Nat.sub_zero, e0, if_neg e2, Nat.zero_add, take_drop_Sp hc hj hn, e4]
    refine ⟨by omega, by omega, by split <;> omega, rfl, .inr ?_⟩
    have e5 : n - (j - i) = i + (n - j) := by omega
    have e6 : (cs.drop (j * 14)).length = (n - j) * 14 := by rw [List.length_drop, hc, Nat.sub_mul]
    rw [e5, e6]
    refine ⟨by omega, by omega, by omega, ?_, ?_⟩
    · simp only [List.length_append, List.length_drop, List.length_take, hl, hc]
      omega
    rw [List.take_left' e3, List.append_assoc]
    refine ⟨_, [(6000, .blk b (Sp (cs.take (i * 14) ++ cs.drop (j * 14)) ((c - (i + (n - j))) * 14)))], leVH.le ⟨⟨rfl, leVs.sp ?_⟩, trivial⟩, _, rfl, rfl, rfl⟩
    simp only [List.length_append, List.length_drop, List.length_take, hl, hc, zeros, List.length_map, List.length_range]
    omega
theorem cut_rows : ∀ (l : List Ps) (i : Nat), (l.flatMap PsC).take (i * 14) ++ (l.flatMap PsC).drop ((i + 1) * 14) = (l.eraseIdx i).flatMap PsC
  | [], i => by simp
  | p :: l, 0 => by
    have hp : (PsC p).length = 14 := rfl
    simp [List.flatMap_cons, List.drop_append, hp]
  | p :: l, i + 1 => by
    have hp : (PsC p).length = 14 := rfl
    have ih := cut_rows l i
    rw [List.flatMap_cons, List.eraseIdx_cons_succ, List.flatMap_cons, ← ih, List.take_append, List.drop_append, hp, List.take_of_length_le (by omega), List.drop_eq_nil_of_le (by omega), show (i + 1) * 14 - 14 = i * 14 by omega, show (i + 1 + 1) * 14 - 14 = (i + 1) * 14 by omega]
    simp
/-- the children of a process that ends -/
def orp (pid : Int) (p : Ps) : Ps := if p.ppid = pid then { p with ppid := 1 } else p
def rmP (t : Tb) (pid : Int) (i : Nat) : List Ps := (t.ps.eraseIdx i).map (orp pid)
def rmT (t : Tb) (pid : Int) : Tb := if findI t pid < 0 then t else { t with ps := rmP t pid (findI t pid).toNat }
theorem noPs (l : List Ps) : noNs (l.flatMap PsC) = true := by
  refine noNs_flat l fun p _ => ?_
  have h : noNs (p.op.flatMap DeC) = true := noNs_flat _ fun _ _ => rfl
  rw [PsC_eq, DeS_eq]
  simp [noNs, noN, h]
theorem noTb (t : Tb) (pid : Int) : noNs [TbL t, .int .i64 pid] = true := by
  rw [TbL_eq]
  simp [noNs, noN, noPs]
theorem gl0 (g : Nat) : gl g = none := rfl
theorem lentT {b c : Nat} {t : Tb} {pid : Int} {H : Heap} (hc : t.ps.length ≤ c) (hH : getH H 6000 = some (.blk b (Sp (t.ps.flatMap PsC) ((c - t.ps.length) * 14)))) : Lent gl H [.agg [.int .i64 t.nx, .int .i64 t.ns, .msl 6000 14 b 0 t.ps.length c], .int .i64 pid] (delH H 6000) [TbL t, .int .i64 pid] := by
  have hl := len_ps t.ps
  have h := Lent.pub (gl := gl) (args := [.agg [.int .i64 t.nx, .int .i64 t.ns, .msl 6000 14 b 0 t.ps.length c], .int .i64 pid]) 6000 hH (by simp [go_sem, length_Sp, hl]; omega)
  have e : (pubAs 6000 b (Sp (t.ps.flatMap PsC) ((c - t.ps.length) * 14)) [.agg [.int .i64 t.nx, .int .i64 t.ns, .msl 6000 14 b 0 t.ps.length c], .int .i64 pid]).2 = [TbL t, .int .i64 pid] := by
    rw [TbL_eq]
    simp [go_sem, Sp, ← hl]
  rw [e] at h
  exact h
/-- a list of which the first elements were changed -/
def mapTo {α : Type} (f : α → α) (l : List α) (j : Nat) : List α := (l.take j).map f ++ l.drop j
theorem mapTo_zero {α : Type} (f : α → α) (l : List α) : mapTo f l 0 = l := by simp [mapTo]
theorem mapTo_all {α : Type} (f : α → α) (l : List α) : mapTo f l l.length = l.map f := by simp [mapTo]
theorem mapTo_length {α : Type} (f : α → α) (l : List α) (j : Nat) : (mapTo f l j).length = l.length := by simp [mapTo]; omega
theorem mapTo_getD {α : Type} (d : α) (f : α → α) (l : List α) (j : Nat) (h : j < l.length) : (mapTo f l j).getD j d = l.getD j d := by
  have h2 : (List.map f (l.take j)).length = j := by simp; omega
  simp only [mapTo, List.getD_eq_getElem?_getD]
  rw [List.getElem?_append_right (by omega), h2]
  simp
theorem mapTo_succ {α : Type} (d : α) (f : α → α) (l : List α) (j : Nat) (h : j < l.length) : mapTo f l (j + 1) = (mapTo f l j).set j (f (l.getD j d)) := by
  have h2 : (List.map f (l.take j)).length = j := by simp; omega
  rw [mapTo, take_succ_getD d l h, List.map_append, mapTo, List.set_append_right _ _ (by omega), h2, Nat.sub_self, List.drop_eq_getElem_cons h, List.set_cons_zero]
  simp
theorem set_same {l : List Ps} {j : Nat} {q : Ps} (h : l.getD j ps0 = q) (hj : j < l.length) : l.set j q = l := by
  subst h
  simp [List.getD, hj]
theorem remove (t : Tb) (pid : Int) (bt b c : Nat) (ht : t.ps.length ≤ 1000000) (hc : t.ps.length ≤ c) : LCalls Tryz.prog gl 25 [.ptr 3 bt 0, .int .i64 pid] (ChH bt t b c) fun v H => ∃ b' c', (rmT t pid).ps.length ≤ c' ∧ H = ChH bt (rmT t pid) b' c' := by
  refine fn_viewT Tryz.func25 t25 Tryz.ntmps25 (by simp) ?_
  have hF := find t pid ht
  have hlt := findI_lt t pid
  have hR : rmT t pid = if findI t pid < 0 then t else { t with ps := rmP t pid (findI t pid).toNat } := rfl
  generalize findI t pid = k at *
  unfold c25 r25 ChH
  repeat' (first | (simp (disch := first | exact dd | fail) only [go_sem]) | (refine allI (fun b => ?_)) | (refine allT (fun τ => ?_)) | (refine brP (fun h => ?_) (fun h => ?_) <;> (try simp only [zgx, zbx] at h)) | (refine gd ?_) | fail)
  refine lend_U gl0 (lentT hc (by rfl)) (noTb t pid) hF rfl ?_
  repeat' (first | (simp (disch := first | exact dd | fail) only [go_sem]) | (refine allI (fun b => ?_)) | (refine allT (fun τ => ?_)) | (refine brP (fun h => ?_) (fun h => ?_) <;> (try simp only [zgx, zbx] at h)) | (refine gd ?_) | fail)
  · rw [hR, if_pos (by assumption)]
    exact ⟨_, _, leVH.of (leV.any _) ⟨_, List.Sublist.refl _, List.Perm.refl _⟩, b, c, hc, rfl⟩
  · obtain ⟨n, rfl⟩ : ∃ n : Nat, k = (n : Int) := ⟨k.toNat, by omega⟩
    rw [Int.toNat_natCast, if_neg (by omega)] at hR
    have hle := len_ps t.ps
    have hd := delp b t.ps.length c n (n + 1) _ hle hc (by omega) (by omega) (by omega)
    first | refine actsE_U (hd) (by first | rfl | simp only [getH, if_true]) ?_ | refine actsE_T (hd) (by first | rfl | simp only [getH, if_true]) ?_ | refine actsE_N (hd) (by first | rfl | simp only [getH, if_true]) ?_ | refine actsE_of (hd) (by first | rfl | simp only [getH, if_true]) ?_
    rintro _ _ ⟨rfl, rfl⟩
    have hE : (t.ps.eraseIdx n).length = t.ps.length - 1 := by rw [List.length_eraseIdx, if_pos (by omega)]
    rw [cut_rows]
    rw [show t.ps.length - (n + 1 - n) = (t.ps.eraseIdx n).length by omega]
    have hr : rmP t pid n = (t.ps.eraseIdx n).map (orp pid) := rfl
    rw [hr] at hR
    generalize t.ps.eraseIdx n = E at *
    repeat' (first | (simp (disch := first | exact dd | fail) only [go_sem]) | (refine allI (fun b => ?_)) | (refine allT (fun τ => ?_)) | (refine brP (fun h => ?_) (fun h => ?_) <;> (try simp only [zgx, zbx] at h)) | (refine gd ?_) | fail)
    refine loopI (ι := Nat) (fun j => j ≤ E.length) (fun j => [(29, .int .i64 j), (28, .int .i64 E.length), (0, .ptr 3 bt 0), (1, .int .i64 pid)]) (fun j => [(3, .blk bt [.int .i64 t.nx, .int .i64 t.ns, .msl 6000 14 b 0 E.length c]), (6000, .blk b (Sp ((mapTo (orp pid) E j).flatMap PsC) ((c - E.length) * 14)))]) (fun j => E.length - j) 0 (by omega) (Ents.envH (by simp [go_sem]) (by rw [mapTo_zero])) ?_
    intro j hj
    simp (disch := first | exact dd | fail) only [go_sem]
    refine brP (fun hb => ?_) (fun hb => ?_)
    · have hjl : j < E.length := by simp only [decide_eq_true_eq] at hb; omega
      have hml := mapTo_length (orp pid) E j
      have hml2 := len_ps (mapTo (orp pid) E j)
      have hs := length_Sp ((mapTo (orp pid) E j).flatMap PsC) ((c - E.length) * 14)
      have g1 := gdSp (k := (c - E.length) * 14) (l := mapTo (orp pid) E j) (i := j) (j := 1) (by omega) (by omega)
      have hG := mapTo_getD ps0 (orp pid) E j hjl
      have hS := mapTo_succ ps0 (orp pid) E j hjl
      have hrow := fun (p' : Ps) (he : PsC p' = putC (PsC ((mapTo (orp pid) E j).getD j ps0)) 1 (.int .i64 1)) => rowSet (l := mapTo (orp pid) E j) (i := j) (j := 1) (k := (c - E.length) * 14) p' (by omega) (by omega) he
      rw [hG] at g1 hrow
      generalize E.getD j ps0 = q at *
      rw [PsC_eq] at g1
      simp only [List.getD_cons_zero, List.getD_cons_succ] at g1
      repeat' (first | (simp (disch := first | exact dd | fail) only [go_sem, g1, putC_eq, putC_len]) | (refine allI (fun b => ?_)) | (refine allT (fun τ => ?_)) | (refine brP (fun h => ?_) (fun h => ?_) <;> (try simp only [zgx, zbx] at h)) | (refine gd ?_) | fail)
      · rw [hrow { q with ppid := 1 } (Eq.trans rfl rfl)]
        refine ⟨⟨j + 1, by omega⟩, by dsimp only; omega, Ents.envH (by simp [go_sem]) ?_⟩
        dsimp only
        rw [hS, orp, if_pos (by assumption)]
      · refine ⟨⟨j + 1, by omega⟩, by dsimp only; omega, Ents.envH (by simp [go_sem]) ?_⟩
        dsimp only
        rw [hS, orp, if_neg (by assumption), set_same hG (by omega)]
    · have hje : j = E.length := by simp only [decide_eq_false_iff_not] at hb; omega
      repeat' (first | (simp (disch := first | exact dd | fail) only [go_sem]) | (refine allI (fun b => ?_)) | (refine allT (fun τ => ?_)) | (refine brP (fun h => ?_) (fun h => ?_) <;> (try simp only [zgx, zbx] at h)) | (refine gd ?_) | fail)
      subst hje
      rw [mapTo_all, hR]
      exact ⟨_, _, leVH.of (leV.any _) ⟨_, List.Sublist.refl _, List.Perm.refl _⟩, b, c, by simp; omega, by simp⟩
/-- a process ends -/
def xtG (pid : Int) (t : Tb) : Int × Tb := if pid = 1 then (1, t) else (0, rmT t pid)
theorem xtE {e : Int} {t : Tb} {bt b c : Nat} {Hc : Heap} (hc : t.ps.length ≤ c) : ∃ r' H', leVH gl (.int .i64 e) (ChH bt t b c ++ Hc) r' H' ∧ ∃ b' c', ((e, t) : Int × Tb).2.ps.length ≤ c' ∧ r' = .int .i64 ((e, t) : Int × Tb).1 ∧ H' = ChH bt ((e, t) : Int × Tb).2 b' c' ++ Hc :=
  ⟨_, _, leVH.of (leV.refl _) ⟨_, List.Sublist.refl _, List.Perm.refl _⟩, b, c, hc, rfl, rfl⟩
theorem xt0 (pid : Int) (b4 : Nat) (t : Tb) (i : Nat) (ht : t.ps.length ≤ 1000000) (bt b c : Nat) (hc : t.ps.length ≤ c) : LCalls Tryz.prog gl 24 [.ptr 3 bt 0, .ptr 6000 b (i * 14), .ptr 6001 b4 0] (ChH bt t b c ++ [(6001, .blk b4 [.int .i64 pid])]) fun v H => ∃ b' c', (xtG pid t).2.ps.length ≤ c' ∧ v = .int .i64 (xtG pid t).1 ∧ H = ChH bt (xtG pid t).2 b' c' ++ [(6001, .blk b4 [.int .i64 pid])] := by
  refine fn_viewT Tryz.func24 t24 Tryz.ntmps24 (by simp) ?_
  have hr := remove t pid bt b c ht hc
  have hR : xtG pid t = if pid = 1 then (1, t) else (0, rmT t pid) := rfl
  have hH : ∀ t b c, ChH bt t b c = [(3, .blk bt [.int .i64 t.nx, .int .i64 t.ns, .msl 6000 14 b 0 t.ps.length c]), (6000, .blk b (Sp (t.ps.flatMap PsC) ((c - t.ps.length) * 14)))] := fun _ _ _ => rfl
  unfold c24 r24
  rw [hH t b c]
  simp only [List.cons_append, List.nil_append]
  repeat' (first | (simp (disch := first | exact dd | fail) only [go_sem]) | (refine allI (fun b => ?_)) | (refine allT (fun τ => ?_)) | (refine brP (fun h => ?_) (fun h => ?_) <;> (try simp only [zgx, zbx] at h)) | (refine gd ?_) | fail)
  · rw [hR, if_pos (by assumption)]
    exact xtE hc
  · refine actsP_U (H2 := [(6001, _)]) hr (List.Perm.refl _) ?_
    rintro _ _ ⟨b', c', h1, rfl⟩
    rw [hR, if_neg (by assumption)]
    generalize rmT t pid = t' at *
    rw [hH t' b' c']
    simp only [List.cons_append, List.nil_append]
    repeat' (first | (simp (disch := first | exact dd | fail) only [go_sem]) | (refine allI (fun b => ?_)) | (refine allT (fun τ => ?_)) | (refine brP (fun h => ?_) (fun h => ?_) <;> (try simp only [zgx, zbx] at h)) | (refine gd ?_) | fail)
    exact ⟨_, _, leVH.of (leV.refl _) ⟨_, List.Sublist.refl _, (List.perm_middle (l₁ := [_, _]) (l₂ := [])).symm⟩, b', c', h1, rfl, rfl⟩
theorem xt1 (pid : Int) (b4 : Nat) (t : Tb) (i : Nat) (ht : t.ps.length ≤ 1000000) : ClOk 24 [.ptr 3 b4 0] [(3, .blk b4 [.int .i64 pid])] t i (xtG pid t) := by
  intro bt b c hc
  refine callLab ((xt0 pid b4 t i ht bt b c hc).mono ?_) rfl fun M vs h => h
  rintro v H ⟨b', c', h1, rfl, rfl⟩
  exact ⟨ChH bt (xtG pid t).2 b' c' ++ [(3, .blk b4 [.int .i64 pid])], by simp [ChH], b', c', h1, rfl, rfl⟩
def xtR (t : Tb) (pid : Int) : Int × Tb := chR t pid fun _ => xtG pid t
theorem xt (t : Tb) (pid : Int) (ht : okT t) : Pure Tryz.prog gl 9 [TbL t, .int .i64 pid] (.tup [TbL (xtR t pid).2, .int .i64 (xtR t pid).1]) := by
  refine fn_pureT Tryz.func9 t9 Tryz.ntmps9 (by simp) ?_
  have hF := findI_lt t pid
  unfold c9 r9
  rw [TbL_eq t]
  repeat' (first | (simp (disch := first | exact dd | fail) only [go_sem]) | (refine allI (fun b => ?_)) | (refine allT (fun τ => ?_)) | (refine brP (fun h => ?_) (fun h => ?_) <;> (try simp only [zgx, zbx] at h)) | (refine gd ?_) | fail)
  rename_i b1 b2
  refine actsP_U (change t pid ht 24 [.ptr 3 b2 0] [(3, _)] (fun _ => xtG pid t) (by kernel_rfl) fun i hi => xt1 pid b2 t i ht.1) (List.Perm.swap _ _ _) ?_
  rintro _ _ ⟨rfl, rfl⟩
  have hR : xtR t pid = chR t pid fun _ => xtG pid t := rfl
  rw [← hR]
  generalize xtR t pid = R at *
  obtain ⟨e, t'⟩ := R
  dsimp only
  rw [TbL_eq t']
  repeat' (first | (simp (disch := first | exact dd | fail) only [go_sem]) | (refine allI (fun b => ?_)) | (refine allT (fun τ => ?_)) | (refine brP (fun h => ?_) (fun h => ?_) <;> (try simp only [zgx, zbx] at h)) | (refine gd ?_) | fail)
end Go.Proofs.YtkdblnejpmbnfaaGreat
namespace Go.Proofs.YtkdblnejpmbnfaaGreat
open Go Go.Lx
set_option linter.unusedSimpArgs false
set_option linter.unusedVariables false
/-- open files: numbers ascend, below eight -/
structure OpW (l : List De) : Prop where
  len : l.length ≤ 8
  all : ∀ x ∈ l, 0 ≤ x.fd ∧ x.fd < 8
  asc : l.Pairwise fun x y => x.fd < y.fd
theorem OpW.nil : OpW [] := ⟨by simp, by simp, List.Pairwise.nil⟩
theorem OpW.sub {l l' : List De} (h : OpW l) (hs : l'.Sublist l) : OpW l' := ⟨Nat.le_trans hs.length_le h.len, fun x hx => h.all x (hs.subset hx), h.asc.sublist hs⟩
/-- a valid process of a table -/
structure OkW (t : Tb) (p : Ps) : Prop where
  pid : p.pid < t.nx
  u : idB p.uid = true
  e : idB p.euid = true
  g : idB p.gid = true
  eg : idB p.egid = true
  au : 0 ≤ p.auid ∧ p.auid ≤ 4294967295
  se : p.ses = 4294967295 ∨ (0 ≤ p.ses ∧ p.ses < t.ns)
  op : OpW p.op
/-- a valid table -/
structure VW (t : Tb) : Prop where
  nx : 1 ≤ t.nx ∧ t.nx ≤ 1073741824
  ns : 1 ≤ t.ns ∧ t.ns ≤ 1073741824
  len : 1 ≤ t.ps.length ∧ t.ps.length ≤ 16
  first : (pAt t 0).pid = 1 ∧ (pAt t 0).ppid = 0
  asc : ∀ i, i + 1 < t.ps.length → (pAt t i).pid < (pAt t (i + 1)).pid
  all : ∀ i, i < t.ps.length → OkW t (pAt t i)
  par : ∀ i, i + 1 < t.ps.length → 0 ≤ findI t (pAt t (i + 1)).ppid ∧ (pAt t (i + 1)).ppid < (pAt t (i + 1)).pid
theorem VW.ok {t : Tb} (h : VW t) : okT t := ⟨by have := h.len; omega, fun p hp => by obtain ⟨j, hj, rfl⟩ := mem_pAt hp; have := (h.all j hj).op.len; omega⟩
theorem VW.lt {t : Tb} (h : VW t) : ∀ (j i : Nat), i < j → j < t.ps.length → (pAt t i).pid < (pAt t j).pid
  | j + 1, i, hij, hj => by
    have h1 := h.asc j hj
    rcases Nat.lt_or_ge i j with h2 | h2
    · have := VW.lt h j i h2 (by omega); omega
    · obtain rfl : i = j := by omega
      exact h1
theorem VW.inj {t : Tb} (h : VW t) {i j : Nat} (hi : i < t.ps.length) (hj : j < t.ps.length) (he : (pAt t i).pid = (pAt t j).pid) : i = j := by
  rcases Nat.lt_trichotomy i j with h1 | h1 | h1
  · have := h.lt j i h1 hj; omega
  · exact h1
  · have := h.lt i j h1 hi; omega
theorem findI_nn {t : Tb} {i : Nat} {pid : Int} (hi : i < t.ps.length) (hp : (pAt t i).pid = pid) : 0 ≤ findI t pid := by
  rcases firstI_cases t.ps.length (findP t pid) with ⟨_, h2⟩ | ⟨k, h1, h2, _⟩
  · have := h2 i hi
    simp [findP, pAt] at this hp
    exact absurd hp this
  · rw [findI, h2]; omega
/-- Fork -/
theorem VW.fk {t : Tb} (h : VW t) {pid : Int} (hn : t.nx + 1 ≤ 1073741824) (h0 : (fkR t pid).1 = 0) : VW (fkR t pid).2 ∧ (fkR t pid).2.nx = t.nx + 1 ∧ (fkR t pid).2.ns = t.ns := by
  obtain ⟨h1, h2, h3⟩ := chR_ok h0
  obtain ⟨i, hi, h4, h5, h6⟩ := findI_get h1
  rw [fkR, h3, h4, Int.toNat_natCast]
  rw [h4, Int.toNat_natCast, fkG] at h2
  split at h2
  · simp at h2
  rename_i hc
  rw [fkG, if_neg hc]
  refine ⟨?_, rfl, rfl⟩
  have hA : ∀ j, j < t.ps.length → pAt { t with nx := t.nx + 1, ps := t.ps ++ [{ pAt t i with pid := t.nx, ppid := pid }] } j = pAt t j := fun j hj => by rw [pAt_app, if_pos hj]
  have hB : pAt { t with nx := t.nx + 1, ps := t.ps ++ [{ pAt t i with pid := t.nx, ppid := pid }] } t.ps.length = { pAt t i with pid := t.nx, ppid := pid } := by rw [pAt_app, if_neg (by omega), if_pos rfl]
  have hL : ({ t with nx := t.nx + 1, ps := t.ps ++ [{ pAt t i with pid := t.nx, ppid := pid }] } : Tb).ps.length = t.ps.length + 1 := by simp
  generalize hT : ({ t with nx := t.nx + 1, ps := t.ps ++ [{ pAt t i with pid := t.nx, ppid := pid }] } : Tb) = T at *
  show VW T
  have hNx : T.nx = t.nx + 1 := by rw [← hT]
  have hNs : T.ns = t.ns := by rw [← hT]
  have hlen := h.len
  have hf := h.first
  have hnx := h.nx
  have hok : ∀ p, OkW t p → OkW T p := fun p hp => ⟨by have := hp.pid; omega, hp.u, hp.e, hp.g, hp.eg, hp.au, by rw [hNs]; exact hp.se, hp.op⟩
  refine ⟨by omega, by rw [hNs]; exact h.ns, by omega, by rw [hA 0 (by omega)]; exact hf, fun j hj => ?_, fun j hj => ?_, fun j hj => ?_⟩
  · rcases Nat.lt_or_ge (j + 1) t.ps.length with h7 | h7
    · rw [hA _ (by omega), hA _ h7]; exact h.asc j h7
    · obtain h8 : j + 1 = t.ps.length := by omega
      rw [hA _ (by omega), h8, hB]
      exact (h.all j (by omega)).pid
  · rcases Nat.lt_or_ge j t.ps.length with h7 | h7
    · rw [hA _ h7]; exact hok _ (h.all j h7)
    · obtain h8 : j = t.ps.length := by omega
      rw [h8, hB]
      have hp := h.all i hi
      exact ⟨by dsimp only; omega, hp.u, hp.e, hp.g, hp.eg, hp.au, by rw [hNs]; exact hp.se, hp.op⟩
  · rcases Nat.lt_or_ge (j + 1) t.ps.length with h7 | h7
    · rw [hA _ h7]
      have hp := h.par j h7
      obtain ⟨k, hk, _, hk3, _⟩ := findI_get hp.1
      exact ⟨findI_nn (i := k) (by omega) (by rw [hA k hk]; exact hk3), hp.2⟩
    · obtain h8 : j + 1 = t.ps.length := by omega
      rw [h8, hB]
      refine ⟨findI_nn (i := i) (by omega) (by rw [hA i hi]; exact h5), ?_⟩
      have := (h.all i hi).pid
      dsimp only
      omega
/-- Exit -/
theorem VW.xt {t : Tb} (h : VW t) {pid : Int} (h0 : (xtR t pid).1 = 0) : VW (xtR t pid).2 ∧ (xtR t pid).2.nx = t.nx ∧ (xtR t pid).2.ns = t.ns := by
  obtain ⟨h1, h2, h3⟩ := chR_ok h0
  obtain ⟨i, hi, h4, h5, h6⟩ := findI_get h1
  rw [xtR, h3]
  rw [xtG] at h2 ⊢
  split at h2
  · simp at h2
  rename_i c1
  rw [if_neg c1, rmT, if_neg (by omega), h4, Int.toNat_natCast]
  refine ⟨?_, rfl, rfl⟩
  have hf := h.first
  have hlen := h.len
  have hi0 : 0 < i := by
    rcases Nat.eq_zero_or_pos i with e | e
    · subst e; omega
    · exact e
  have hL : ({ t with ps := rmP t pid i } : Tb).ps.length = t.ps.length - 1 := by simp [rmP, List.length_eraseIdx, hi]
  have hS : ∀ j, j < t.ps.length - 1 → pAt ({ t with ps := rmP t pid i } : Tb) j = orp pid (pAt t (if j < i then j else j + 1)) := fun j hj => by
    have h8 : j < (t.ps.eraseIdx i).length := by rw [List.length_eraseIdx, if_pos hi]; omega
    simp only [pAt, rmP, List.getD_eq_getElem?_getD, List.getElem?_map]
    rw [List.getElem?_eq_getElem h8, Option.map_some, Option.getD_some, List.getElem_eraseIdx]
    split
    · rw [List.getElem?_eq_getElem (by omega)]; rfl
    · rw [List.getElem?_eq_getElem (by omega)]; rfl
  have hX : ({ t with ps := rmP t pid i } : Tb).nx = t.nx := rfl
  have hN : ({ t with ps := rmP t pid i } : Tb).ns = t.ns := rfl
  generalize ({ t with ps := rmP t pid i } : Tb) = T at *
  show VW T
  have hpid : ∀ p, (orp pid p).pid = p.pid := fun p => by unfold orp; split <;> rfl
  have ho : ∀ p, OkW t p → OkW T (orp pid p) := fun p hp => by
    have hq : OkW T p := ⟨by rw [hX]; exact hp.pid, hp.u, hp.e, hp.g, hp.eg, hp.au, by rw [hN]; exact hp.se, hp.op⟩
    unfold orp
    split
    · exact ⟨hq.pid, hq.u, hq.e, hq.g, hq.eg, hq.au, hq.se, hq.op⟩
    · exact hq
  have h00 : pAt T 0 = orp pid (pAt t 0) := by rw [hS 0 (by omega), if_pos (by omega)]
  refine ⟨by rw [hX]; exact h.nx, by rw [hN]; exact h.ns, by omega, ?_, fun j hj => ?_, fun j hj => ?_, fun j hj => ?_⟩
  · rw [h00, hpid]
    refine ⟨hf.1, ?_⟩
    have h9 : pid ≠ 0 := fun e => by
      have := (h.lt i 0 hi0 hi)
      omega
    unfold orp
    rw [if_neg (by omega)]
    exact hf.2
  · rw [hS j (by omega), hS (j + 1) (by omega), hpid, hpid]
    refine h.lt _ _ ?_ ?_
    · split <;> split <;> omega
    · split <;> omega
  · rw [hS j (by omega)]
    exact ho _ (h.all _ (by split <;> omega))
  · rw [hS (j + 1) (by omega)]
    have hk : ∃ k, (if j + 1 < i then j + 1 else j + 1 + 1) = k + 1 ∧ k + 1 < t.ps.length := by
      split
      · exact ⟨j, rfl, by omega⟩
      · exact ⟨j + 1, rfl, by omega⟩
    obtain ⟨k, hk1, hk2⟩ := hk
    rw [hk1, hpid]
    have hp := h.par k hk2
    obtain ⟨m, hm, _, hm3, _⟩ := findI_get hp.1
    have h11 : (pAt t 0).pid < (pAt t (k + 1)).pid := h.lt (k + 1) 0 (by omega) hk2
    unfold orp
    split
    · exact ⟨findI_nn (i := 0) (by omega) (by rw [h00, hpid]; exact hf.1), by dsimp only; omega⟩
    · rename_i c2
      refine ⟨?_, hp.2⟩
      have hmi : m ≠ i := fun e => by subst e; exact c2 (by rw [← hm3]; exact h5)
      rcases Nat.lt_or_ge m i with h7 | h7
      · exact findI_nn (i := m) (by omega) (by rw [hS m (by omega), if_pos h7, hpid]; exact hm3)
      · obtain ⟨n, rfl⟩ : ∃ n, m = n + 1 := ⟨m - 1, by omega⟩
        exact findI_nn (i := n) (by omega) (by rw [hS n (by omega), if_neg (by omega), hpid]; exact hm3)
/-- what is set in one process -/
theorem VW.set {t : Tb} (h : VW t) {i : Nat} (hi : i < t.ps.length) {p : Ps} (h1 : p.pid = (pAt t i).pid) (h2 : p.ppid = (pAt t i).ppid) (h3 : OkW t p) : VW (setP t i p) := by
  have hS : ∀ j, pAt (setP t i p) j = if j = i then p else pAt t j := fun j => pAt_set (t := t) j hi
  have hL : (setP t i p).ps.length = t.ps.length := by simp [setP]
  have hX : (setP t i p).nx = t.nx := rfl
  have hN : (setP t i p).ns = t.ns := rfl
  generalize setP t i p = T at *
  have hpid : ∀ j, (pAt T j).pid = (pAt t j).pid := fun j => by
    rw [hS]; split
    · rename_i e; subst e; exact h1
    · rfl
  have hppid : ∀ j, (pAt T j).ppid = (pAt t j).ppid := fun j => by
    rw [hS]; split
    · rename_i e; subst e; exact h2
    · rfl
  have hok : ∀ q, OkW t q → OkW T q := fun q hq => ⟨by rw [hX]; exact hq.pid, hq.u, hq.e, hq.g, hq.eg, hq.au, by rw [hN]; exact hq.se, hq.op⟩
  refine ⟨by rw [hX]; exact h.nx, by rw [hN]; exact h.ns, by rw [hL]; exact h.len, by rw [hpid, hppid]; exact h.first, fun j hj => ?_, fun j hj => ?_, fun j hj => ?_⟩
  · rw [hpid, hpid]; exact h.asc j (by omega)
  · rw [hS]
    split
    · exact hok _ h3
    · exact hok _ (h.all j (by omega))
  · rw [hppid, hpid]
    have hp := h.par j (by omega)
    obtain ⟨k, hk, _, hk3, _⟩ := findI_get hp.1
    exact ⟨findI_nn (i := k) (by omega) (by rw [hpid]; exact hk3), hp.2⟩
theorem VW.more {t : Tb} (h : VW t) {n : Int} (h1 : t.ns ≤ n ∧ n ≤ 1073741824) : VW { t with ns := n } := by
  have hS : ∀ j, pAt ({ t with ns := n } : Tb) j = pAt t j := fun _ => rfl
  have hF : ∀ pid, findI ({ t with ns := n } : Tb) pid = findI t pid := fun _ => rfl
  have hL : ({ t with ns := n } : Tb).ps.length = t.ps.length := rfl
  have hns := h.ns
  refine ⟨h.nx, by dsimp only; omega, h.len, h.first, h.asc, fun j hj => ?_, h.par⟩
  have hq := h.all j hj
  exact ⟨hq.pid, hq.u, hq.e, hq.g, hq.eg, hq.au, hq.se.imp id fun h2 => ⟨h2.1, Int.lt_of_lt_of_le h2.2 h1.1⟩, hq.op⟩
/-- a change of one process -/
theorem VW.ch {t : Tb} (h : VW t) {pid : Int} {g : Nat → Int × Tb} (hg : ∀ i, i < t.ps.length → findI t pid = i → (pAt t i).pid = pid → (g i).1 = 0 → VW (g i).2) (h0 : (chR t pid g).1 = 0) : VW (chR t pid g).2 := by
  obtain ⟨h1, h2, h3⟩ := chR_ok h0
  obtain ⟨i, hi, h4, h5, h6⟩ := findI_get h1
  rw [h3]
  rw [h4, Int.toNat_natCast] at h2 ⊢
  exact hg i hi h4 h5 h2
theorem becR_id {u : Int} {pr : Bool} {x y : Int} (hx : idB x = true) (hy : idB y = true) : idB (becR u pr x y).2.1 = true ∧ idB (becR u pr x y).2.2 = true := by
  unfold becR
  split
  · exact ⟨hx, hy⟩
  · rename_i h
    have hu : idB u = true := by simpa using h
    split
    · exact ⟨hu, hu⟩
    · split
      · exact ⟨hx, hu⟩
      · exact ⟨hx, hy⟩
theorem VW.su {t : Tb} (h : VW t) {pid u : Int} (h0 : (suR t pid u).1 = 0) : VW (suR t pid u).2 :=
  h.ch (fun i hi _ _ _ => by
    have hp := h.all i hi
    have hb := becR_id (u := u) (pr := (pAt t i).euid == 0) hp.u hp.e
    exact h.set hi rfl rfl ⟨hp.pid, hb.1, hb.2, hp.g, hp.eg, hp.au, hp.se, hp.op⟩) h0
theorem VW.sg {t : Tb} (h : VW t) {pid u : Int} (h0 : (sgR t pid u).1 = 0) : VW (sgR t pid u).2 :=
  h.ch (fun i hi _ _ _ => by
    have hp := h.all i hi
    have hb := becR_id (u := u) (pr := (pAt t i).euid == 0) hp.g hp.eg
    exact h.set hi rfl rfl ⟨hp.pid, hp.u, hp.e, hb.1, hb.2, hp.au, hp.se, hp.op⟩) h0
theorem VW.ex {t : Tb} (h : VW t) {pid : Int} {e c : List UInt8} (h0 : (exR t pid e c).1 = 0) : VW (exR t pid e c).2 :=
  h.ch (fun i hi _ _ _ => by
    have hp := h.all i hi
    exact h.set hi rfl rfl ⟨hp.pid, hp.u, hp.e, hp.g, hp.eg, hp.au, hp.se, hp.op⟩) h0
theorem VW.lo {t : Tb} (h : VW t) {pid u : Int} (h0 : (loR t pid u).1 = 0) : VW (loR t pid u).2 :=
  h.ch (fun i hi _ _ h2 => by
    have hp := h.all i hi
    rw [loG] at h2 ⊢
    split at h2
    · simp at h2
    rename_i c1
    split at h2
    · simp at h2
    rename_i c2
    split at h2
    · simp at h2
    rename_i c3
    rw [if_neg c1, if_neg c2, if_neg c3]
    have hu : 0 ≤ u ∧ u < 4294967295 := by
      have : idB u = true := by simpa using c1
      simpa [idB] using this
    have hns := h.ns
    have h9 := (h.more (n := t.ns + 1) (by omega)).set (i := i) (p := { pAt t i with auid := u, ses := t.ns }) hi rfl rfl ⟨hp.pid, hp.u, hp.e, hp.g, hp.eg, by dsimp only; omega, .inr (by dsimp only; omega), hp.op⟩
    exact h9) h0
/-- the working directory; audited -/
def cdG (d i : Int) (t : Tb) (k : Nat) : Int × Tb := (0, setP t k { pAt t k with cd := d, ci := i })
def cdR (t : Tb) (pid d i : Int) : Int × Tb := chR t pid (cdG d i t)
def auG (b : Bool) (t : Tb) (k : Nat) : Int × Tb := (0, setP t k { pAt t k with au := b })
def auR (t : Tb) (pid : Int) (b : Bool) : Int × Tb := chR t pid (auG b t)
theorem VW.cd {t : Tb} (h : VW t) {pid d i : Int} (h0 : (cdR t pid d i).1 = 0) : VW (cdR t pid d i).2 :=
  h.ch (fun i hi _ _ _ => by
    have hp := h.all i hi
    exact h.set hi rfl rfl ⟨hp.pid, hp.u, hp.e, hp.g, hp.eg, hp.au, hp.se, hp.op⟩) h0
/-- open files -/
def lfO : List De → Nat → Nat
  | [], k => k
  | x :: l, k => if x.fd = k then lfO l (k + 1) else k
theorem lfO_le : ∀ (l : List De) (k : Nat), k ≤ lfO l k ∧ lfO l k ≤ k + l.length
  | [], k => by simp [lfO]
  | x :: l, k => by
    have := lfO_le l (k + 1)
    simp only [lfO, List.length_cons]
    split <;> omega
theorem lfO_step {l : List De} {k : Nat} (h : k < l.length) : lfO (l.drop k) k = if (l.getD k de0).fd = k then lfO (l.drop (k + 1)) (k + 1) else k := by
  rw [List.drop_eq_getElem_cons h, lfO]
  simp [List.getD, h]
theorem lfO_end {l : List De} {k : Nat} (h : ¬ k < l.length) : lfO (l.drop k) k = k := by
  rw [List.drop_eq_nil_of_le (by omega)]; rfl
theorem lfO_low : ∀ (l : List De) (k : Nat), ∀ x ∈ l.take (lfO l k - k), (x.fd < lfO l k)
  | [], k, x, hx => by simp at hx
  | y :: l, k, x, hx => by
    simp only [lfO] at hx ⊢
    split at hx
    · rename_i e
      rw [if_pos e]
      have h1 := lfO_le l (k + 1)
      obtain ⟨m, hm⟩ : ∃ m, lfO l (k + 1) - k = m + 1 := ⟨lfO l (k + 1) - k - 1, by omega⟩
      rw [hm, List.take_succ_cons] at hx
      rcases List.mem_cons.1 hx with rfl | hx
      · omega
      · exact lfO_low l (k + 1) x (by rw [show lfO l (k + 1) - (k + 1) = m by omega]; exact hx)
    · simp at hx
theorem lfO_high : ∀ (l : List De) (k : Nat), (∀ x ∈ l, (k : Int) ≤ x.fd) → l.Pairwise (fun x y => x.fd < y.fd) → ∀ x ∈ l.drop (lfO l k - k), (lfO l k < x.fd)
  | [], k, _, _, x, hx => by simp at hx
  | y :: l, k, h1, h2, x, hx => by
    simp only [lfO] at hx ⊢
    obtain ⟨h3, h4⟩ := List.pairwise_cons.1 h2
    split at hx
    · rename_i e
      rw [if_pos e]
      have h5 := lfO_le l (k + 1)
      obtain ⟨m, hm⟩ : ∃ m, lfO l (k + 1) - k = m + 1 := ⟨lfO l (k + 1) - k - 1, by omega⟩
      rw [hm, List.drop_succ_cons] at hx
      exact lfO_high l (k + 1) (fun z hz => by have := h3 z hz; omega) h4 x (by rw [show lfO l (k + 1) - (k + 1) = m by omega]; exact hx)
    · rename_i e
      rw [if_neg e]
      have hy := h1 y (by simp)
      simp only [Nat.sub_self, List.drop_zero] at hx
      rcases List.mem_cons.1 hx with rfl | hx
      · omega
      · have := h3 x hx; omega
def opL (l : List De) (d i fl : Int) : List De := l.take (lfO l 0) ++ ⟨lfO l 0, d, i, fl⟩ :: l.drop (lfO l 0)
theorem OpW.open_ {l : List De} (h : OpW l) (hl : l.length < 8) (d i fl : Int) : OpW (opL l d i fl) := by
  have h1 := lfO_le l 0
  have h2 := lfO_low l 0
  have h3 := lfO_high l 0 (fun x hx => (h.all x hx).1) h.asc
  simp only [Nat.sub_zero] at h2 h3
  have hS : (l.take (lfO l 0) ++ l.drop (lfO l 0)).Pairwise fun x y => x.fd < y.fd := by rw [List.take_append_drop]; exact h.asc
  obtain ⟨p1, p2, p3⟩ := List.pairwise_append.1 hS
  refine ⟨by simp [opL]; omega, fun x hx => ?_, List.pairwise_append.2 ⟨p1, List.pairwise_cons.2 ⟨fun x hx => h3 x hx, p2⟩, fun x hx y hy => ?_⟩⟩
  · simp only [opL, List.mem_append, List.mem_cons] at hx
    rcases hx with hx | rfl | hx
    · exact h.all x (List.mem_of_mem_take hx)
    · dsimp only; omega
    · exact h.all x (List.mem_of_mem_drop hx)
  · rcases List.mem_cons.1 hy with rfl | hy
    · exact h2 x hx
    · exact p3 x hx y hy
def ofG (d i fl : Int) (t : Tb) (k : Nat) : Int × Tb := if 8 ≤ (pAt t k).op.length then (24, t) else (0, setP t k { pAt t k with op := opL (pAt t k).op d i fl })
def ofR (t : Tb) (pid d i fl : Int) : Int × Tb := chR t pid (ofG d i fl t)
/-- the number of the file that is opened -/
def ofN (t : Tb) (pid : Int) : Nat := lfO (pAt t (findI t pid).toNat).op 0
theorem VW.of {t : Tb} (h : VW t) {pid d i fl : Int} (h0 : (ofR t pid d i fl).1 = 0) : VW (ofR t pid d i fl).2 :=
  h.ch (fun k hi _ _ h2 => by
    have hp := h.all k hi
    rw [ofG] at h2 ⊢
    split at h2
    · simp at h2
    rename_i c1
    rw [if_neg c1]
    exact h.set hi rfl rfl ⟨hp.pid, hp.u, hp.e, hp.g, hp.eg, hp.au, hp.se, hp.op.open_ (by omega) _ _ _⟩) h0
def fdF (l : List De) (fd : Int) : List De := l.filter fun x => x.fd != fd
def cfG (fd : Int) (t : Tb) (k : Nat) : Int × Tb := if (fdF (pAt t k).op fd).length = (pAt t k).op.length then (9, t) else (0, setP t k { pAt t k with op := fdF (pAt t k).op fd })
def cfR (t : Tb) (pid fd : Int) : Int × Tb := chR t pid (cfG fd t)
theorem VW.cf {t : Tb} (h : VW t) {pid fd : Int} (h0 : (cfR t pid fd).1 = 0) : VW (cfR t pid fd).2 :=
  h.ch (fun k hi _ _ h2 => by
    have hp := h.all k hi
    rw [cfG] at h2 ⊢
    split at h2
    · simp at h2
    rename_i c1
    rw [if_neg c1]
    exact h.set hi rfl rfl ⟨hp.pid, hp.u, hp.e, hp.g, hp.eg, hp.au, hp.se, hp.op.sub List.filter_sublist⟩) h0
/-- Kill -/
def kiG (tg : Int) (ends : Bool) (t : Tb) (k : Nat) : Int × Tb :=
  if findI t tg < 0 then (3, t) else if tg = 1 ∨ ((pAt t k).euid ≠ 0 ∧ (pAt t k).euid ≠ (pAt t (findI t tg).toNat).uid) then (1, t) else if ends = true then (0, rmT t tg) else (0, t)
def kiR (t : Tb) (pid tg : Int) (ends : Bool) : Int × Tb := chR t pid (kiG tg ends t)
theorem xtR_eq {t : Tb} {pid : Int} (h : 0 ≤ findI t pid) (h1 : pid ≠ 1) : xtR t pid = (0, rmT t pid) := by
  rw [xtR, chR, if_neg (by omega), xtG, if_neg h1, if_neg (by simp)]
theorem VW.ki {t : Tb} (h : VW t) {pid tg : Int} {ends : Bool} (h0 : (kiR t pid tg ends).1 = 0) : VW (kiR t pid tg ends).2 :=
  h.ch (fun k hi _ _ h2 => by
    rw [kiG] at h2 ⊢
    split at h2
    · simp at h2
    rename_i c1
    split at h2
    · simp at h2
    rename_i c2
    rw [if_neg c1, if_neg c2]
    cases ends
    · rw [if_neg (by simp)]; exact h
    · rw [if_pos rfl]
      have he := xtR_eq (t := t) (pid := tg) (by omega) fun e => c2 (.inl e)
      have := (h.xt (pid := tg) (by rw [he])).1
      rw [he] at this
      exact this) h0
/-- a process is put in place of that with its number -/
def putP (t : Tb) (p : Ps) : Tb := { t with ps := t.ps.map fun x => if x.pid = p.pid then p else x }
theorem VW.put {t : Tb} (h : VW t) {i : Nat} {p : Ps} (hi : i < t.ps.length) (hp : p.pid = (pAt t i).pid) : putP t p = setP t i p := by
  unfold putP setP
  congr 1
  refine List.ext_getElem (by simp) fun j h1 h2 => ?_
  have hj : j < t.ps.length := by simpa using h1
  rw [List.getElem_map, List.getElem_set]
  have e : t.ps[j] = pAt t j := by simp [pAt, hj]
  rw [e, hp]
  by_cases hij : i = j
  · subst hij; rw [if_pos rfl, if_pos rfl]
  · rw [if_neg hij, if_neg fun he => hij (h.inj hj hi he).symm]
theorem VW.get1 {t : Tb} (h : VW t) {pid : Int} (h1 : 0 ≤ findI t pid) : ∃ i, i < t.ps.length ∧ findI t pid = (i : Nat) ∧ (pAt t i).pid = pid ∧ getR t pid = (pAt t i, true) := by
  obtain ⟨i, hi, h4, h5, h6⟩ := findI_get h1
  exact ⟨i, hi, h4, h5, by rw [getR, if_neg (by omega), h4, Int.toNat_natCast]⟩
theorem VW_new (d i : Int) : VW (tnew d i) := by
  refine ⟨by simp [tnew], by simp [tnew], by simp [tnew], ⟨rfl, rfl⟩, fun i hi => ?_, fun i hi => ?_, fun i hi => ?_⟩
  · simp [tnew] at hi
  · obtain rfl : i = 0 := by simp [tnew] at hi; exact hi
    exact ⟨by simp [tnew, pAt, p1], rfl, rfl, rfl, rfl, by simp [tnew, pAt, p1], .inl rfl, OpW.nil⟩
  · simp [tnew] at hi
end Go.Proofs.YtkdblnejpmbnfaaGreat
namespace Go.Proofs.YtkdblnejpmbnfaaGreat
open Go Go.Lx
set_option linter.unusedSimpArgs false
set_option linter.unusedVariables false
set_option maxRecDepth 100000
set_option maxHeartbeats 4000000
theorem rget (t : Tb) (pid : Int) (ht : okT t) : Pure Tryz.prog gl 11 [TbL t, .int .i64 pid] (.tup [.agg (PsC (getR t pid).1), .bool (getR t pid).2]) := by
  refine fn_pureT Tryz.func11 t11 Tryz.ntmps11 (by simp) ?_
  have hle := len_ps t.ps
  have hR : getR t pid = if findI t pid < 0 then (ps0, false) else (pAt t (findI t pid).toNat, true) := rfl
  unfold c11 r11
  rw [TbL_eq t]
  repeat' (first | (simp (disch := first | exact dd | fail) only [go_sem]) | (refine allI (fun b => ?_)) | (refine allT (fun τ => ?_)) | (refine brP (fun h => ?_) (fun h => ?_) <;> (try simp only [zgx, zbx] at h)) | (refine gd ?_) | fail)
  refine loopI (ι := Nat) (fun i => i ≤ t.ps.length ∧ ∀ j, j < i → (pAt t j).pid ≠ pid) (fun i => (6, .int .i64 i) :: _) (fun _ => _) (fun i => t.ps.length - i) 0 ⟨by omega, fun j hj => absurd hj (by omega)⟩ Ents.same ?_
  rintro i ⟨hi, hn⟩
  simp (disch := first | exact dd | fail) only [go_sem]
  refine brP (fun hb => ?_) (fun hb => ?_)
  · have hlt : i < t.ps.length := by simp only [decide_eq_true_eq] at hb; omega
    have e2 : ((t.ps.flatMap PsC).drop (i * 14)).take 14 = PsC (pAt t i) := take_rows (f := PsC) (fun _ => rfl) ps0 _ hlt
    have hcp := rcp (pAt t i) (ht.2 _ (pAt_mem hlt))
    have hf : (pAt t i).pid = pid → findI t pid = i := fun h => findI_is hlt h hn
    have e3 : (t.ps.flatMap PsC).getD (i * 14) .any = .int .i64 (pAt t i).pid := by
      rw [← Nat.add_zero (i * 14), getD_rows (f := PsC) (w := 14) (fun _ => rfl) (by omega) ps0 _ _ hlt]; rfl
    have hm := ht.1
    generalize hp : pAt t i = p at *
    rw [PsC_eq] at e2 hcp
    repeat' (first | (simp (disch := first | exact dd | fail) only [go_sem, e2, e3, zPs]) | (refine allI (fun b => ?_)) | (refine allT (fun τ => ?_)) | (refine brP (fun h => ?_) (fun h => ?_) <;> (try simp only [zgx, zbx] at h)) | refine call_U (hcp) ?_ | refine callG_U (fun _ => hcp) ?_ | refine call_T (hcp) ?_ | refine callG_T (fun _ => hcp) ?_ | refine call_N (hcp) ?_ | refine call_of (hcp) ?_ | refine callG_of (fun _ => hcp) ?_ | (refine gd ?_) | fail)
    · rename_i h
      rw [hR, hf h, if_neg (by omega), Int.toNat_natCast, hp]
      exact leV.refl _
    · rename_i h
      rw [← hp] at h
      exact ⟨⟨i + 1, by omega, fun j hj => (by omega : j < i ∨ j = i).elim (hn j) fun e => e ▸ h⟩, by dsimp only; omega, Ents.envH (by simp [go_sem]) rfl⟩
  · have hle : i = t.ps.length := by simp only [decide_eq_false_iff_not] at hb; omega
    repeat' (first | (simp (disch := first | exact dd | fail) only [go_sem]) | (refine allI (fun b => ?_)) | (refine allT (fun τ => ?_)) | (refine brP (fun h => ?_) (fun h => ?_) <;> (try simp only [zgx, zbx] at h)) | (refine gd ?_) | fail)
    have hf : findI t pid < 0 := by
      rcases Int.lt_or_le (findI t pid) 0 with h | h
      · exact h
      · obtain ⟨k, h1, h2, h3, h4⟩ := findI_get h
        exact absurd h3 (hn k (by omega))
    rw [hR, if_pos hf]
    exact leV.tup ⟨leV.agg ps0le, leV.refl _, trivial⟩
theorem rid (n : Int) : Pure Tryz.prog gl 76 [.int .i64 n] (.bool (idB n)) := by
  refine fn_pureT Tryz.func76 t76 Tryz.ntmps76 (by simp) ?_
  unfold c76 r76
  repeat' (first | (simp (disch := first | exact dd | fail) only [go_sem]) | (refine allI (fun b => ?_)) | (refine allT (fun τ => ?_)) | (refine brP (fun h => ?_) (fun h => ?_) <;> (try simp only [zgx, zbx] at h)) | (refine gd ?_) | fail)
  simp [idB, Bool.decide_and]
theorem gpid (t : Tb) (ht : t.ps.length ≤ 1000000) (h0 : 1 ≤ t.ps.length) : Gen 8 [TbL t] 2 fun r => ∃ v, True ∧ r = .int .i64 v := by
  refine Gen.mk fun b l a hl ha => ?_
  refine fn_viewT Tryz.func8 t8 Tryz.ntmps8 (by simp) ?_
  have hq := hl.2.2
  have hle := len_ps t.ps
  have d1 : ((t.ps.length : Int) == 0) = false := by rw [beq_eq_false_iff_ne]; omega
  have e3 : ∀ i, i < t.ps.length → (t.ps.flatMap PsC).getD (i * 14) .any = .int .i64 (pAt t i).pid := fun i h => by
    rw [← Nat.add_zero (i * 14), getD_rows (f := PsC) (w := 14) (fun _ => rfl) (by omega) ps0 _ _ h]; rfl
  unfold c8 r8
  rw [TbL_eq t]
  repeat' (first | (simp (disch := first | exact dd | fail) only [go_sem, d1, true_and]) | (refine allI (fun b => ?_)) | (refine allT (fun τ => ?_)) | (refine brP (fun h => ?_) (fun h => ?_) <;> (try simp only [zgx, zbx] at h)) | (refine actsE_U (gn _ (by omega) 1000 _ _ _ (hl.at (by omega) (by omega)) (by omega)) rfl ?_; rintro _ _ ⟨_, _, ⟨_, _, rfl⟩, rfl⟩) | (refine actsE_T (gn _ (by omega) 1000 _ _ _ (hl.at (by omega) (by omega)) (by omega)) rfl ?_; rintro _ _ ⟨_, _, ⟨_, _, rfl⟩, rfl⟩) | (refine actsE_of (gn _ (by omega) 1000 _ _ _ (hl.at (by omega) (by omega)) (by omega)) rfl ?_; rintro _ _ ⟨_, _, ⟨_, _, rfl⟩, rfl⟩) | (refine actsE_U (gr _ _ (by omega) 1000 _ _ _ (hl.at (by omega) (by omega)) (by omega)) rfl ?_; rintro _ _ ⟨_, _, ⟨_, _, rfl⟩, rfl⟩) | (refine actsE_T (gr _ _ (by omega) 1000 _ _ _ (hl.at (by omega) (by omega)) (by omega)) rfl ?_; rintro _ _ ⟨_, _, ⟨_, _, rfl⟩, rfl⟩) | (refine actsE_of (gr _ _ (by omega) 1000 _ _ _ (hl.at (by omega) (by omega)) (by omega)) rfl ?_; rintro _ _ ⟨_, _, ⟨_, _, rfl⟩, rfl⟩) | (refine actsE_U (gp _ _ (by decide) (by rfl) (by rfl) 1000 _ _ _ (hl.at (by omega) (by omega)) (by omega)) rfl ?_; rintro _ _ ⟨_, _, ⟨_, _, rfl⟩, rfl⟩) | (refine actsE_T (gp _ _ (by decide) (by rfl) (by rfl) 1000 _ _ _ (hl.at (by omega) (by omega)) (by omega)) rfl ?_; rintro _ _ ⟨_, _, ⟨_, _, rfl⟩, rfl⟩) | (refine actsE_of (gp _ _ (by decide) (by rfl) (by rfl) 1000 _ _ _ (hl.at (by omega) (by omega)) (by omega)) rfl ?_; rintro _ _ ⟨_, _, ⟨_, _, rfl⟩, rfl⟩) | (refine actsE_U (gw 40 _ _ (by decide) (by rfl) (by rfl) 1000 _ _ _ (hl.at (by omega) (by omega)) (by omega)) rfl ?_; rintro _ _ ⟨_, _, ⟨_, _, rfl⟩, rfl⟩) | (refine actsE_T (gw 40 _ _ (by decide) (by rfl) (by rfl) 1000 _ _ _ (hl.at (by omega) (by omega)) (by omega)) rfl ?_; rintro _ _ ⟨_, _, ⟨_, _, rfl⟩, rfl⟩) | (refine actsE_of (gw 40 _ _ (by decide) (by rfl) (by rfl) 1000 _ _ _ (hl.at (by omega) (by omega)) (by omega)) rfl ?_; rintro _ _ ⟨_, _, ⟨_, _, rfl⟩, rfl⟩) | (apply And.intro; focus omega) | (refine callG_LU (fun hg => ?_) (fun hg => ?_) <;> (try simp only [hg])))
  · (apply gend (leV.refl _); (focus (repeat (first | exact List.Sublist.refl _ | apply List.Sublist.cons))); (focus omega); exact ⟨_, rfl⟩)
  · rename_i v hv
    rw [e3 v.toNat (by omega)]
    repeat' (first | (simp (disch := first | exact dd | fail) only [go_sem, true_and]) | (refine allI (fun b => ?_)) | (refine allT (fun τ => ?_)) | (refine brP (fun h => ?_) (fun h => ?_) <;> (try simp only [zgx, zbx] at h)) | (refine actsE_U (gn _ (by omega) 1000 _ _ _ (hl.at (by omega) (by omega)) (by omega)) rfl ?_; rintro _ _ ⟨_, _, ⟨_, _, rfl⟩, rfl⟩) | (refine actsE_T (gn _ (by omega) 1000 _ _ _ (hl.at (by omega) (by omega)) (by omega)) rfl ?_; rintro _ _ ⟨_, _, ⟨_, _, rfl⟩, rfl⟩) | (refine actsE_of (gn _ (by omega) 1000 _ _ _ (hl.at (by omega) (by omega)) (by omega)) rfl ?_; rintro _ _ ⟨_, _, ⟨_, _, rfl⟩, rfl⟩) | (refine actsE_U (gr _ _ (by omega) 1000 _ _ _ (hl.at (by omega) (by omega)) (by omega)) rfl ?_; rintro _ _ ⟨_, _, ⟨_, _, rfl⟩, rfl⟩) | (refine actsE_T (gr _ _ (by omega) 1000 _ _ _ (hl.at (by omega) (by omega)) (by omega)) rfl ?_; rintro _ _ ⟨_, _, ⟨_, _, rfl⟩, rfl⟩) | (refine actsE_of (gr _ _ (by omega) 1000 _ _ _ (hl.at (by omega) (by omega)) (by omega)) rfl ?_; rintro _ _ ⟨_, _, ⟨_, _, rfl⟩, rfl⟩) | (refine actsE_U (gp _ _ (by decide) (by rfl) (by rfl) 1000 _ _ _ (hl.at (by omega) (by omega)) (by omega)) rfl ?_; rintro _ _ ⟨_, _, ⟨_, _, rfl⟩, rfl⟩) | (refine actsE_T (gp _ _ (by decide) (by rfl) (by rfl) 1000 _ _ _ (hl.at (by omega) (by omega)) (by omega)) rfl ?_; rintro _ _ ⟨_, _, ⟨_, _, rfl⟩, rfl⟩) | (refine actsE_of (gp _ _ (by decide) (by rfl) (by rfl) 1000 _ _ _ (hl.at (by omega) (by omega)) (by omega)) rfl ?_; rintro _ _ ⟨_, _, ⟨_, _, rfl⟩, rfl⟩) | (refine actsE_U (gw 40 _ _ (by decide) (by rfl) (by rfl) 1000 _ _ _ (hl.at (by omega) (by omega)) (by omega)) rfl ?_; rintro _ _ ⟨_, _, ⟨_, _, rfl⟩, rfl⟩) | (refine actsE_T (gw 40 _ _ (by decide) (by rfl) (by rfl) 1000 _ _ _ (hl.at (by omega) (by omega)) (by omega)) rfl ?_; rintro _ _ ⟨_, _, ⟨_, _, rfl⟩, rfl⟩) | (refine actsE_of (gw 40 _ _ (by decide) (by rfl) (by rfl) 1000 _ _ _ (hl.at (by omega) (by omega)) (by omega)) rfl ?_; rintro _ _ ⟨_, _, ⟨_, _, rfl⟩, rfl⟩) | (apply And.intro; focus omega) | (refine callG_LU (fun hg => ?_) (fun hg => ?_) <;> (try simp only [hg])))
    (apply gend (leV.refl _); (focus (repeat (first | exact List.Sublist.refl _ | apply List.Sublist.cons))); (focus omega); exact ⟨_, rfl⟩)
  · rename_i hg
    cases hg
end Go.Proofs.YtkdblnejpmbnfaaGreat
