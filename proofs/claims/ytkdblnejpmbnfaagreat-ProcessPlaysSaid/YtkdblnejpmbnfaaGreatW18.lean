/- kauditmake: calls: the generator. -/
import Derived.Test.YtkdblnejpmbnfaaGreatW17
import Derived.Test.YtkdblnejpmbnfaaGreatW12
namespace Go.Proofs.YtkdblnejpmbnfaaGreat
open Go Go.Lx
set_option linter.unusedSimpArgs false
set_option linter.unusedVariables false
set_option maxRecDepth 100000
set_option maxHeartbeats 16000000
theorem ca_le {i j : Nat} {τ τ' : Tok} {n m : Nat} {cs ds : List LV} {x1 x2 x3 x4 x5 : LV} : leV (.agg [x1, x2, x3, x4, x5, .osl i τ 1 n cs, .osl j τ' 1 m ds]) (.agg [x1, x2, x3, x4, x5, .sl 1 n cs, .sl 1 m ds]) :=
  leV.agg ⟨leV.refl _, leV.refl _, leV.refl _, leV.refl _, leV.refl _, leV.osl_sl _ _ _ _ _, leV.osl_sl _ _ _ _ _, trivial⟩
def CaOk (c : Ca) : Prop := (c.ps.length ≤ 1000 ∧ ∀ s ∈ c.ps, s.length ≤ 1000) ∧ (c.xs.length ≤ 1000 ∧ ∀ s ∈ c.xs, s.length ≤ 1000)
theorem mem_snoc {l : List (List UInt8)} {w : List UInt8} (h : ∀ s ∈ l, s.length ≤ 1000) (hw : w.length ≤ 1000) : ∀ s ∈ l ++ [w], s.length ≤ 1000 := fun s hs => by
  rcases List.mem_append.1 hs with hs | hs
  · exact h s hs
  · simp only [List.mem_singleton] at hs
    subst hs
    exact hw
theorem call : Gen 21 [] 500 fun r => ∃ c : Ca, CaOk c ∧ r = .agg (CaC c) := by
  refine Gen.mk fun sb l a hl ha => ?_
  refine fn_viewT Tryz.func21 t21 Tryz.ntmps21 (by simp) ?_
  have hq := hl.2.2
  unfold c21 r21
  repeat' (first | (simp (disch := first | exact dd | fail) only [go_sem]) | (refine allI (fun b => ?_)) | (refine allT (fun τ => ?_)) | (refine brP (fun h => ?_) (fun h => ?_) <;> (try simp only [zgx, zbx] at h)) | (refine actsE_U (gn _ (by omega) 1000 _ _ _ (hl.at (by omega) (by omega)) (by omega)) rfl ?_; rintro _ _ ⟨_, _, ⟨_, _, rfl⟩, rfl⟩) | (refine actsE_T (gn _ (by omega) 1000 _ _ _ (hl.at (by omega) (by omega)) (by omega)) rfl ?_; rintro _ _ ⟨_, _, ⟨_, _, rfl⟩, rfl⟩) | (refine actsE_of (gn _ (by omega) 1000 _ _ _ (hl.at (by omega) (by omega)) (by omega)) rfl ?_; rintro _ _ ⟨_, _, ⟨_, _, rfl⟩, rfl⟩) | (refine actsE_U (gr _ _ (by omega) 1000 _ _ _ (hl.at (by omega) (by omega)) (by omega)) rfl ?_; rintro _ _ ⟨_, _, ⟨_, _, rfl⟩, rfl⟩) | (refine actsE_T (gr _ _ (by omega) 1000 _ _ _ (hl.at (by omega) (by omega)) (by omega)) rfl ?_; rintro _ _ ⟨_, _, ⟨_, _, rfl⟩, rfl⟩) | (refine actsE_of (gr _ _ (by omega) 1000 _ _ _ (hl.at (by omega) (by omega)) (by omega)) rfl ?_; rintro _ _ ⟨_, _, ⟨_, _, rfl⟩, rfl⟩) | (refine actsE_U (gp _ _ (by decide) (by rfl) (by rfl) 1000 _ _ _ (hl.at (by omega) (by omega)) (by omega)) rfl ?_; rintro _ _ ⟨_, _, ⟨_, _, rfl⟩, rfl⟩) | (refine actsE_T (gp _ _ (by decide) (by rfl) (by rfl) 1000 _ _ _ (hl.at (by omega) (by omega)) (by omega)) rfl ?_; rintro _ _ ⟨_, _, ⟨_, _, rfl⟩, rfl⟩) | (refine actsE_of (gp _ _ (by decide) (by rfl) (by rfl) 1000 _ _ _ (hl.at (by omega) (by omega)) (by omega)) rfl ?_; rintro _ _ ⟨_, _, ⟨_, _, rfl⟩, rfl⟩) | (refine actsE_U (gw 40 _ _ (by decide) (by rfl) (by rfl) 1000 _ _ _ (hl.at (by omega) (by omega)) (by omega)) rfl ?_; rintro _ _ ⟨_, _, ⟨_, _, rfl⟩, rfl⟩) | (refine actsE_T (gw 40 _ _ (by decide) (by rfl) (by rfl) 1000 _ _ _ (hl.at (by omega) (by omega)) (by omega)) rfl ?_; rintro _ _ ⟨_, _, ⟨_, _, rfl⟩, rfl⟩) | (refine actsE_of (gw 40 _ _ (by decide) (by rfl) (by rfl) 1000 _ _ _ (hl.at (by omega) (by omega)) (by omega)) rfl ?_; rintro _ _ ⟨_, _, ⟨_, _, rfl⟩, rfl⟩) | (apply And.intro; focus omega) | (refine callG_LU (fun hg => ?_) (fun hg => ?_) <;> (try simp only [hg])))
  first | refine pureE_U (shape _) ?_ | refine pureE_T (shape _) ?_ | refine pureE_of (shape _) ?_
  rintro _ ⟨sh, hsh, rfl⟩
  obtain ⟨hs1, hs2, hs3⟩ := hsh
  rename_i b3 a1 ha1 v hv
  repeat' (first | (simp (disch := first | exact dd | fail) only [go_sem]) | (refine allI (fun b => ?_)) | (refine allT (fun τ => ?_)) | (refine brP (fun h => ?_) (fun h => ?_) <;> (try simp only [zgx, zbx] at h)) | (refine actsE_U (gn _ (by omega) 1000 _ _ _ (hl.at (by omega) (by omega)) (by omega)) rfl ?_; rintro _ _ ⟨_, _, ⟨_, _, rfl⟩, rfl⟩) | (refine actsE_T (gn _ (by omega) 1000 _ _ _ (hl.at (by omega) (by omega)) (by omega)) rfl ?_; rintro _ _ ⟨_, _, ⟨_, _, rfl⟩, rfl⟩) | (refine actsE_of (gn _ (by omega) 1000 _ _ _ (hl.at (by omega) (by omega)) (by omega)) rfl ?_; rintro _ _ ⟨_, _, ⟨_, _, rfl⟩, rfl⟩) | (refine actsE_U (gr _ _ (by omega) 1000 _ _ _ (hl.at (by omega) (by omega)) (by omega)) rfl ?_; rintro _ _ ⟨_, _, ⟨_, _, rfl⟩, rfl⟩) | (refine actsE_T (gr _ _ (by omega) 1000 _ _ _ (hl.at (by omega) (by omega)) (by omega)) rfl ?_; rintro _ _ ⟨_, _, ⟨_, _, rfl⟩, rfl⟩) | (refine actsE_of (gr _ _ (by omega) 1000 _ _ _ (hl.at (by omega) (by omega)) (by omega)) rfl ?_; rintro _ _ ⟨_, _, ⟨_, _, rfl⟩, rfl⟩) | (refine actsE_U (gp _ _ (by decide) (by rfl) (by rfl) 1000 _ _ _ (hl.at (by omega) (by omega)) (by omega)) rfl ?_; rintro _ _ ⟨_, _, ⟨_, _, rfl⟩, rfl⟩) | (refine actsE_T (gp _ _ (by decide) (by rfl) (by rfl) 1000 _ _ _ (hl.at (by omega) (by omega)) (by omega)) rfl ?_; rintro _ _ ⟨_, _, ⟨_, _, rfl⟩, rfl⟩) | (refine actsE_of (gp _ _ (by decide) (by rfl) (by rfl) 1000 _ _ _ (hl.at (by omega) (by omega)) (by omega)) rfl ?_; rintro _ _ ⟨_, _, ⟨_, _, rfl⟩, rfl⟩) | (refine actsE_U (gw 40 _ _ (by decide) (by rfl) (by rfl) 1000 _ _ _ (hl.at (by omega) (by omega)) (by omega)) rfl ?_; rintro _ _ ⟨_, _, ⟨_, _, rfl⟩, rfl⟩) | (refine actsE_T (gw 40 _ _ (by decide) (by rfl) (by rfl) 1000 _ _ _ (hl.at (by omega) (by omega)) (by omega)) rfl ?_; rintro _ _ ⟨_, _, ⟨_, _, rfl⟩, rfl⟩) | (refine actsE_of (gw 40 _ _ (by decide) (by rfl) (by rfl) 1000 _ _ _ (hl.at (by omega) (by omega)) (by omega)) rfl ?_; rintro _ _ ⟨_, _, ⟨_, _, rfl⟩, rfl⟩) | (apply And.intro; focus omega) | (refine callG_LU (fun hg => ?_) (fun hg => ?_) <;> (try simp only [hg])))
  refine loopI (ι := Int × Int × Int × Int × Int × Int) (fun y => (0 ≤ y.1 ∧ y.1 ≤ sh.a) ∧ (a1 ≤ y.2.1 ∧ y.2.1 ≤ a1 + y.1)) (fun y => [(8, .int .i64 y.1), (7, .int .i64 sh.d), (6, .int .i64 sh.c), (5, .int .i64 sh.b), (4, .int .i64 sh.a), (3, .ptr 3 _ 0), (2, .ptr 2 _ 0), (0, .ptr 1000 sb 0)]) (fun y => [(3, .blk _ [.int .i64 v, .int .i64 y.2.2.1, .int .i64 y.2.2.2.1, .int .i64 y.2.2.2.2.1, .int .i64 y.2.2.2.2.2, .fsl 1 0 [], .fsl 1 0 []]), (2, .blk _ [.int .i64 0, .int .i64 0, .int .i64 0, .int .i64 0, .int .i64 0, .fsl 1 0 [], .fsl 1 0 []]), (1000, SB sb l y.2.1)]) (fun y => (sh.a - y.1).toNat) (0, a1, 0, 0, 0, 0) (by dsimp only; omega) (Ents.envH ⟨leV.refl _, leV.refl _, leV.refl _, leV.refl _, leV.refl _, leV.refl _, leV.refl _, leV.refl _, trivial⟩ rfl) ?_
  rintro ⟨i, a2, x0, x1, x2, x3⟩ hi
  dsimp only at hi ⊢
  simp (disch := first | exact dd | fail) only [go_sem]
  refine brP (fun hb => ?_) (fun hb => ?_)
  · simp only [decide_eq_true_eq] at hb
    rcases (by omega : i = 0 ∨ i = 1 ∨ i = 2 ∨ i = 3) with rfl | rfl | rfl | rfl
    all_goals
      repeat' (first | (simp (disch := first | exact dd | fail) only [go_sem]) | (refine allI (fun b => ?_)) | (refine allT (fun τ => ?_)) | (refine brP (fun h => ?_) (fun h => ?_) <;> (try simp only [zgx, zbx] at h)) | (refine actsE_U (gn _ (by omega) 1000 _ _ _ (hl.at (by omega) (by omega)) (by omega)) rfl ?_; rintro _ _ ⟨_, _, ⟨_, _, rfl⟩, rfl⟩) | (refine actsE_T (gn _ (by omega) 1000 _ _ _ (hl.at (by omega) (by omega)) (by omega)) rfl ?_; rintro _ _ ⟨_, _, ⟨_, _, rfl⟩, rfl⟩) | (refine actsE_of (gn _ (by omega) 1000 _ _ _ (hl.at (by omega) (by omega)) (by omega)) rfl ?_; rintro _ _ ⟨_, _, ⟨_, _, rfl⟩, rfl⟩) | (refine actsE_U (gr _ _ (by omega) 1000 _ _ _ (hl.at (by omega) (by omega)) (by omega)) rfl ?_; rintro _ _ ⟨_, _, ⟨_, _, rfl⟩, rfl⟩) | (refine actsE_T (gr _ _ (by omega) 1000 _ _ _ (hl.at (by omega) (by omega)) (by omega)) rfl ?_; rintro _ _ ⟨_, _, ⟨_, _, rfl⟩, rfl⟩) | (refine actsE_of (gr _ _ (by omega) 1000 _ _ _ (hl.at (by omega) (by omega)) (by omega)) rfl ?_; rintro _ _ ⟨_, _, ⟨_, _, rfl⟩, rfl⟩) | (refine actsE_U (gp _ _ (by decide) (by rfl) (by rfl) 1000 _ _ _ (hl.at (by omega) (by omega)) (by omega)) rfl ?_; rintro _ _ ⟨_, _, ⟨_, _, rfl⟩, rfl⟩) | (refine actsE_T (gp _ _ (by decide) (by rfl) (by rfl) 1000 _ _ _ (hl.at (by omega) (by omega)) (by omega)) rfl ?_; rintro _ _ ⟨_, _, ⟨_, _, rfl⟩, rfl⟩) | (refine actsE_of (gp _ _ (by decide) (by rfl) (by rfl) 1000 _ _ _ (hl.at (by omega) (by omega)) (by omega)) rfl ?_; rintro _ _ ⟨_, _, ⟨_, _, rfl⟩, rfl⟩) | (refine actsE_U (gw 40 _ _ (by decide) (by rfl) (by rfl) 1000 _ _ _ (hl.at (by omega) (by omega)) (by omega)) rfl ?_; rintro _ _ ⟨_, _, ⟨_, _, rfl⟩, rfl⟩) | (refine actsE_T (gw 40 _ _ (by decide) (by rfl) (by rfl) 1000 _ _ _ (hl.at (by omega) (by omega)) (by omega)) rfl ?_; rintro _ _ ⟨_, _, ⟨_, _, rfl⟩, rfl⟩) | (refine actsE_of (gw 40 _ _ (by decide) (by rfl) (by rfl) 1000 _ _ _ (hl.at (by omega) (by omega)) (by omega)) rfl ?_; rintro _ _ ⟨_, _, ⟨_, _, rfl⟩, rfl⟩) | (apply And.intro; focus omega) | (refine callG_LU (fun hg => ?_) (fun hg => ?_) <;> (try simp only [hg])))
      exact ⟨⟨(_, _, _, _, _, _), by dsimp only; omega⟩, by dsimp only; omega, Ents.envH ⟨leV.refl _, leV.refl _, leV.refl _, leV.refl _, leV.refl _, leV.refl _, leV.refl _, leV.refl _, trivial⟩ rfl⟩
  · repeat' (first | (simp (disch := first | exact dd | fail) only [go_sem]) | (refine allI (fun b => ?_)) | (refine allT (fun τ => ?_)) | (refine brP (fun h => ?_) (fun h => ?_) <;> (try simp only [zgx, zbx] at h)) | (refine actsE_U (gn _ (by omega) 1000 _ _ _ (hl.at (by omega) (by omega)) (by omega)) rfl ?_; rintro _ _ ⟨_, _, ⟨_, _, rfl⟩, rfl⟩) | (refine actsE_T (gn _ (by omega) 1000 _ _ _ (hl.at (by omega) (by omega)) (by omega)) rfl ?_; rintro _ _ ⟨_, _, ⟨_, _, rfl⟩, rfl⟩) | (refine actsE_of (gn _ (by omega) 1000 _ _ _ (hl.at (by omega) (by omega)) (by omega)) rfl ?_; rintro _ _ ⟨_, _, ⟨_, _, rfl⟩, rfl⟩) | (refine actsE_U (gr _ _ (by omega) 1000 _ _ _ (hl.at (by omega) (by omega)) (by omega)) rfl ?_; rintro _ _ ⟨_, _, ⟨_, _, rfl⟩, rfl⟩) | (refine actsE_T (gr _ _ (by omega) 1000 _ _ _ (hl.at (by omega) (by omega)) (by omega)) rfl ?_; rintro _ _ ⟨_, _, ⟨_, _, rfl⟩, rfl⟩) | (refine actsE_of (gr _ _ (by omega) 1000 _ _ _ (hl.at (by omega) (by omega)) (by omega)) rfl ?_; rintro _ _ ⟨_, _, ⟨_, _, rfl⟩, rfl⟩) | (refine actsE_U (gp _ _ (by decide) (by rfl) (by rfl) 1000 _ _ _ (hl.at (by omega) (by omega)) (by omega)) rfl ?_; rintro _ _ ⟨_, _, ⟨_, _, rfl⟩, rfl⟩) | (refine actsE_T (gp _ _ (by decide) (by rfl) (by rfl) 1000 _ _ _ (hl.at (by omega) (by omega)) (by omega)) rfl ?_; rintro _ _ ⟨_, _, ⟨_, _, rfl⟩, rfl⟩) | (refine actsE_of (gp _ _ (by decide) (by rfl) (by rfl) 1000 _ _ _ (hl.at (by omega) (by omega)) (by omega)) rfl ?_; rintro _ _ ⟨_, _, ⟨_, _, rfl⟩, rfl⟩) | (refine actsE_U (gw 40 _ _ (by decide) (by rfl) (by rfl) 1000 _ _ _ (hl.at (by omega) (by omega)) (by omega)) rfl ?_; rintro _ _ ⟨_, _, ⟨_, _, rfl⟩, rfl⟩) | (refine actsE_T (gw 40 _ _ (by decide) (by rfl) (by rfl) 1000 _ _ _ (hl.at (by omega) (by omega)) (by omega)) rfl ?_; rintro _ _ ⟨_, _, ⟨_, _, rfl⟩, rfl⟩) | (refine actsE_of (gw 40 _ _ (by decide) (by rfl) (by rfl) 1000 _ _ _ (hl.at (by omega) (by omega)) (by omega)) rfl ?_; rintro _ _ ⟨_, _, ⟨_, _, rfl⟩, rfl⟩) | (apply And.intro; focus omega) | (refine callG_LU (fun hg => ?_) (fun hg => ?_) <;> (try simp only [hg])))
    all_goals
      refine loopI (ι := Int × Int × List (List UInt8) × Tok) (fun y => (0 ≤ y.1 ∧ y.1 ≤ sh.b) ∧ (a ≤ y.2.1 ∧ y.2.1 ≤ a + 20 + 60 * y.1) ∧ y.2.2.1.length ≤ y.1 ∧ ∀ s ∈ y.2.2.1, s.length ≤ 1000) (fun y => [(9, .int .i64 y.1), (7, .int .i64 sh.d), (6, .int .i64 sh.c), (5, .int .i64 sh.b), (3, .ptr 3 _ 0), (2, .ptr 2 _ 0), (0, .ptr 1000 sb 0)]) (fun y => [(79, .tok y.2.2.2), (3, .blk _ [.int .i64 v, .int .i64 _, .int .i64 _, .int .i64 _, .int .i64 _, .osl 79 y.2.2.2 1 y.2.2.1.length (y.2.2.1.map LV.str), .fsl 1 0 []]), (2, .blk _ [.int .i64 0, .int .i64 0, .int .i64 0, .int .i64 0, .int .i64 0, .fsl 1 0 [], .fsl 1 0 []]), (1000, SB sb l y.2.1)]) (fun y => (sh.b - y.1).toNat) (0, _, [], ⟨0, 0, 0⟩) ⟨by dsimp only; omega, ?_, by simp⟩ (Ents.dum 79 (Ents.le ⟨leV.refl _, leV.refl _, leV.refl _, leV.refl _, leV.refl _, leV.refl _, leV.refl _, trivial⟩ ⟨rfl, ⟨rfl, leV.refl _, leV.refl _, leV.refl _, leV.refl _, leV.refl _, leV.nil_osl _ _ _ _, leV.refl _, trivial⟩, ⟨rfl, leVs.refl _⟩, ⟨rfl, leVs.refl _⟩, trivial⟩)) ?_
      · dsimp only; omega
      rintro ⟨i, a2, ws, τ⟩ ⟨h1, h2, h3, h3b⟩
      dsimp only at h1 h2 h3 h3b ⊢
      repeat' (first | (simp (disch := first | exact dd | fail) only [go_sem]) | (refine allI (fun b => ?_)) | (refine allT (fun τ => ?_)) | (refine brP (fun h => ?_) (fun h => ?_) <;> (try simp only [zgx, zbx] at h)) | (refine actsE_U (gn _ (by omega) 1000 _ _ _ (hl.at (by omega) (by omega)) (by omega)) rfl ?_; rintro _ _ ⟨_, _, ⟨_, _, rfl⟩, rfl⟩) | (refine actsE_T (gn _ (by omega) 1000 _ _ _ (hl.at (by omega) (by omega)) (by omega)) rfl ?_; rintro _ _ ⟨_, _, ⟨_, _, rfl⟩, rfl⟩) | (refine actsE_of (gn _ (by omega) 1000 _ _ _ (hl.at (by omega) (by omega)) (by omega)) rfl ?_; rintro _ _ ⟨_, _, ⟨_, _, rfl⟩, rfl⟩) | (refine actsE_U (gr _ _ (by omega) 1000 _ _ _ (hl.at (by omega) (by omega)) (by omega)) rfl ?_; rintro _ _ ⟨_, _, ⟨_, _, rfl⟩, rfl⟩) | (refine actsE_T (gr _ _ (by omega) 1000 _ _ _ (hl.at (by omega) (by omega)) (by omega)) rfl ?_; rintro _ _ ⟨_, _, ⟨_, _, rfl⟩, rfl⟩) | (refine actsE_of (gr _ _ (by omega) 1000 _ _ _ (hl.at (by omega) (by omega)) (by omega)) rfl ?_; rintro _ _ ⟨_, _, ⟨_, _, rfl⟩, rfl⟩) | (refine actsE_U (gp _ _ (by decide) (by rfl) (by rfl) 1000 _ _ _ (hl.at (by omega) (by omega)) (by omega)) rfl ?_; rintro _ _ ⟨_, _, ⟨_, _, rfl⟩, rfl⟩) | (refine actsE_T (gp _ _ (by decide) (by rfl) (by rfl) 1000 _ _ _ (hl.at (by omega) (by omega)) (by omega)) rfl ?_; rintro _ _ ⟨_, _, ⟨_, _, rfl⟩, rfl⟩) | (refine actsE_of (gp _ _ (by decide) (by rfl) (by rfl) 1000 _ _ _ (hl.at (by omega) (by omega)) (by omega)) rfl ?_; rintro _ _ ⟨_, _, ⟨_, _, rfl⟩, rfl⟩) | (refine actsE_U (gw 40 _ _ (by decide) (by rfl) (by rfl) 1000 _ _ _ (hl.at (by omega) (by omega)) (by omega)) rfl ?_; rintro _ _ ⟨_, _, ⟨_, _, rfl⟩, rfl⟩) | (refine actsE_T (gw 40 _ _ (by decide) (by rfl) (by rfl) 1000 _ _ _ (hl.at (by omega) (by omega)) (by omega)) rfl ?_; rintro _ _ ⟨_, _, ⟨_, _, rfl⟩, rfl⟩) | (refine actsE_of (gw 40 _ _ (by decide) (by rfl) (by rfl) 1000 _ _ _ (hl.at (by omega) (by omega)) (by omega)) rfl ?_; rintro _ _ ⟨_, _, ⟨_, _, rfl⟩, rfl⟩) | (refine actsE_U (path 1000 _ _ _ (hl.at (by omega) (by omega)) (by omega)) rfl ?_; rintro _ _ ⟨_, _, ⟨_, _, rfl⟩, rfl⟩) | (refine actsE_T (path 1000 _ _ _ (hl.at (by omega) (by omega)) (by omega)) rfl ?_; rintro _ _ ⟨_, _, ⟨_, _, rfl⟩, rfl⟩) | (refine actsE_of (path 1000 _ _ _ (hl.at (by omega) (by omega)) (by omega)) rfl ?_; rintro _ _ ⟨_, _, ⟨_, _, rfl⟩, rfl⟩) | (apply And.intro; focus omega) | (refine callG_LU (fun hg => ?_) (fun hg => ?_) <;> (try simp only [hg])))
    all_goals first
      | (rename_i a3 ha3 w hw
         exact ⟨by simp only [roomy]; omega, fun τ2 => ⟨⟨(i + 1, a3, ws ++ [w], τ2), by dsimp only; omega, by dsimp only; omega, by simp; omega, mem_snoc h3b (by omega)⟩, by dsimp only; omega, Ents.le ⟨leV.refl _, leV.refl _, leV.refl _, leV.refl _, leV.refl _, leV.refl _, leV.refl _, trivial⟩ ⟨rfl, ⟨rfl, leV.refl _, leV.refl _, leV.refl _, leV.refl _, leV.refl _, leV.of_eq (by simp), leV.refl _, trivial⟩, ⟨rfl, leVs.refl _⟩, ⟨rfl, leVs.refl _⟩, trivial⟩⟩⟩)
      | (rename_i a3 ha3 v2 hv2
         refine loopI (ι := Int × Int × List (List UInt8) × Tok) (fun y => (0 ≤ y.1 ∧ y.1 ≤ v2) ∧ (a3 ≤ y.2.1 ∧ y.2.1 ≤ a3 + 2 * (v2 - y.1)) ∧ y.2.2.1.length ≤ v2 - y.1 ∧ ∀ s ∈ y.2.2.1, s.length ≤ 1000) (fun y => [(10, .int .i64 y.1), (3, .ptr 3 _ 0), (2, .ptr 2 _ 0), (0, .ptr 1000 sb 0)]) (fun y => [(95, .tok y.2.2.2), (79, .tok τ), (3, .blk _ [.int .i64 v, .int .i64 _, .int .i64 _, .int .i64 _, .int .i64 _, .osl 79 τ 1 ws.length (ws.map LV.str), .osl 95 y.2.2.2 1 y.2.2.1.length (y.2.2.1.map LV.str)]), (2, .blk _ [.int .i64 0, .int .i64 0, .int .i64 0, .int .i64 0, .int .i64 0, .fsl 1 0 [], .fsl 1 0 []]), (1000, SB sb l y.2.1)]) (fun y => y.1.toNat) (v2, _, [], ⟨0, 0, 0⟩) ⟨by dsimp only; omega, by dsimp only; omega, by simp⟩ (Ents.dum 95 (Ents.le ⟨leV.refl _, leV.refl _, leV.refl _, leV.refl _, trivial⟩ ⟨rfl, rfl, ⟨rfl, leV.refl _, leV.refl _, leV.refl _, leV.refl _, leV.refl _, leV.refl _, leV.nil_osl _ _ _ _, trivial⟩, ⟨rfl, leVs.refl _⟩, ⟨rfl, leVs.refl _⟩, trivial⟩)) ?_
         rintro ⟨j, a4, us, τ'⟩ ⟨h4, h5, h6, h6b⟩
         dsimp only at h4 h5 h6 h6b ⊢
         repeat' (first | (simp (disch := first | exact dd | fail) only [go_sem]) | (refine allI (fun b => ?_)) | (refine allT (fun τ => ?_)) | (refine brP (fun h => ?_) (fun h => ?_) <;> (try simp only [zgx, zbx] at h)) | (refine actsE_U (gn _ (by omega) 1000 _ _ _ (hl.at (by omega) (by omega)) (by omega)) rfl ?_; rintro _ _ ⟨_, _, ⟨_, _, rfl⟩, rfl⟩) | (refine actsE_T (gn _ (by omega) 1000 _ _ _ (hl.at (by omega) (by omega)) (by omega)) rfl ?_; rintro _ _ ⟨_, _, ⟨_, _, rfl⟩, rfl⟩) | (refine actsE_of (gn _ (by omega) 1000 _ _ _ (hl.at (by omega) (by omega)) (by omega)) rfl ?_; rintro _ _ ⟨_, _, ⟨_, _, rfl⟩, rfl⟩) | (refine actsE_U (gr _ _ (by omega) 1000 _ _ _ (hl.at (by omega) (by omega)) (by omega)) rfl ?_; rintro _ _ ⟨_, _, ⟨_, _, rfl⟩, rfl⟩) | (refine actsE_T (gr _ _ (by omega) 1000 _ _ _ (hl.at (by omega) (by omega)) (by omega)) rfl ?_; rintro _ _ ⟨_, _, ⟨_, _, rfl⟩, rfl⟩) | (refine actsE_of (gr _ _ (by omega) 1000 _ _ _ (hl.at (by omega) (by omega)) (by omega)) rfl ?_; rintro _ _ ⟨_, _, ⟨_, _, rfl⟩, rfl⟩) | (refine actsE_U (gp _ _ (by decide) (by rfl) (by rfl) 1000 _ _ _ (hl.at (by omega) (by omega)) (by omega)) rfl ?_; rintro _ _ ⟨_, _, ⟨_, _, rfl⟩, rfl⟩) | (refine actsE_T (gp _ _ (by decide) (by rfl) (by rfl) 1000 _ _ _ (hl.at (by omega) (by omega)) (by omega)) rfl ?_; rintro _ _ ⟨_, _, ⟨_, _, rfl⟩, rfl⟩) | (refine actsE_of (gp _ _ (by decide) (by rfl) (by rfl) 1000 _ _ _ (hl.at (by omega) (by omega)) (by omega)) rfl ?_; rintro _ _ ⟨_, _, ⟨_, _, rfl⟩, rfl⟩) | (refine actsE_U (gw 40 _ _ (by decide) (by rfl) (by rfl) 1000 _ _ _ (hl.at (by omega) (by omega)) (by omega)) rfl ?_; rintro _ _ ⟨_, _, ⟨_, _, rfl⟩, rfl⟩) | (refine actsE_T (gw 40 _ _ (by decide) (by rfl) (by rfl) 1000 _ _ _ (hl.at (by omega) (by omega)) (by omega)) rfl ?_; rintro _ _ ⟨_, _, ⟨_, _, rfl⟩, rfl⟩) | (refine actsE_of (gw 40 _ _ (by decide) (by rfl) (by rfl) 1000 _ _ _ (hl.at (by omega) (by omega)) (by omega)) rfl ?_; rintro _ _ ⟨_, _, ⟨_, _, rfl⟩, rfl⟩) | (apply And.intro; focus omega) | (refine callG_LU (fun hg => ?_) (fun hg => ?_) <;> (try simp only [hg]))))
      | (rename_i a3 ha3 w hw
         exact ⟨⟨(i + 1, a3, ws ++ [w], τ), by dsimp only; omega, by dsimp only; omega, by simp; omega, mem_snoc h3b (by omega)⟩, by dsimp only; omega, Ents.le ⟨leV.refl _, leV.refl _, leV.refl _, leV.refl _, leV.refl _, leV.refl _, leV.refl _, trivial⟩ ⟨rfl, ⟨rfl, leV.refl _, leV.refl _, leV.refl _, leV.refl _, leV.refl _, leV.of_eq (by simp), leV.refl _, trivial⟩, ⟨rfl, leVs.refl _⟩, ⟨rfl, leVs.refl _⟩, trivial⟩⟩)
      | trace_state
    all_goals first
      | (rename_i a5 ha5 w hw
         exact ⟨by simp only [roomy]; omega, fun τ2 => ⟨⟨(j - 1, a5, us ++ [w], τ2), by dsimp only; omega, by dsimp only; omega, by simp; omega, mem_snoc h6b (by omega)⟩, by dsimp only; omega, Ents.le ⟨leV.refl _, leV.refl _, leV.refl _, leV.refl _, trivial⟩ ⟨rfl, rfl, ⟨rfl, leV.refl _, leV.refl _, leV.refl _, leV.refl _, leV.refl _, leV.refl _, leV.of_eq (by simp), trivial⟩, ⟨rfl, leVs.refl _⟩, ⟨rfl, leVs.refl _⟩, trivial⟩⟩⟩)
      | (rename_i a5 ha5 w hw
         exact ⟨⟨(j - 1, a5, us ++ [w], τ), by dsimp only; omega, by dsimp only; omega, by simp; omega, mem_snoc h6b (by omega)⟩, by dsimp only; omega, Ents.le ⟨leV.refl _, leV.refl _, leV.refl _, leV.refl _, trivial⟩ ⟨rfl, rfl, ⟨rfl, leV.refl _, leV.refl _, leV.refl _, leV.refl _, leV.refl _, leV.refl _, leV.of_eq (by simp), trivial⟩, ⟨rfl, leVs.refl _⟩, ⟨rfl, leVs.refl _⟩, trivial⟩⟩)
      | (apply gend ca_le; (focus (repeat (first | exact List.Sublist.refl _ | apply List.Sublist.cons))); (focus omega); exact ⟨⟨_, _, _, _, _, ws, us⟩, ⟨⟨by dsimp only; omega, h3b⟩, by dsimp only; omega, h6b⟩, rfl⟩)
      | trace_state
end Go.Proofs.YtkdblnejpmbnfaaGreat
namespace Go.Proofs.YtkdblnejpmbnfaaGreat.F
open Go Go.Lx
set_option linter.unusedSimpArgs false
set_option linter.unusedVariables false
set_option maxRecDepth 100000
set_option maxHeartbeats 16000000
structure CkOk (c : Ca) : Prop where
  n : 0 ≤ c.n ∧ c.n < 22
  ps : (c.ps.length : Int) = (rowN c.n).b
  xs : (rowN c.n).c ≤ c.xs.length
  pl : ∀ s ∈ c.ps, s.length ≤ 128
theorem CaC_eq (c : Ca) : CaC c = [.int .i64 c.n, .int .i64 c.a0, .int .i64 c.a1, .int .i64 c.a2, .int .i64 c.a3, .sl 1 c.ps.length (c.ps.map LV.str), .sl 1 c.xs.length (c.xs.map LV.str)] := Eq.trans rfl rfl
theorem gStr {l : List (List UInt8)} {i : Nat} (h : i < l.length) : (l.map LV.str).getD i .any = .str (l.getD i []) := by
  simp [List.getD, h]
theorem rowN_no {n : Int} (h : (rowN n).n ≠ []) : 0 ≤ n ∧ n < 22 := by
  unfold rowN at h
  split at h
  · assumption
  · exact absurd rfl h
theorem check (c : Ca) (hc : CaOk c) : PureE Tryz.prog gl 63 [.agg (CaC c)] fun v => ∃ e : Int, (e = 0 → CkOk c) ∧ v = .int .i64 e := by
  refine fn_viewT Tryz.func63 t63 Tryz.ntmps63 (by simp) ?_
  obtain ⟨⟨h1, h2⟩, h3, h4⟩ := hc
  have hg := get10 c.n
  have hr := rowN_ok c.n
  have hn := rowN_no (n := c.n)
  have hK := fun (a : (rowN c.n).n ≠ []) (b : (c.ps.length : Int) = (rowN c.n).b) (d : (rowN c.n).c ≤ c.xs.length) (e : ∀ s ∈ c.ps, s.length ≤ 128) => (⟨hn a, b, d, e⟩ : CkOk c)
  generalize rowN c.n = r at *
  obtain ⟨hr1, hr2, hr3⟩ := hr
  rw [RwC_eq] at hg
  unfold c63 r63
  rw [CaC_eq]
  repeat' (first | (simp (disch := first | exact dd | fail) only [go_sem]) | (refine allI (fun b => ?_)) | (refine allT (fun τ => ?_)) | (refine brP (fun h => ?_) (fun h => ?_) <;> (try simp only [zgx, zbx] at h)) | refine call_U (hg) ?_ | refine callG_U (fun _ => hg) ?_ | refine call_T (hg) ?_ | refine callG_T (fun _ => hg) ?_ | refine call_N (hg) ?_ | refine call_of (hg) ?_ | refine callG_of (fun _ => hg) ?_ | (refine gd ?_) | fail)
  · exact pureE_end (leV.refl _) ⟨100, by simp, rfl⟩
  · rename_i b1
    refine loopI (ι := Int) (fun i => r.a ≤ i ∧ i ≤ 4) (fun i => [(4, .int .i64 i), (3, .ptr 3 b 0), (1, .ptr 1 b1 0)]) (fun i => [(3, .blk b [.str r.n, .int .i64 r.a, .int .i64 r.b, .int .i64 r.c, .int .i64 r.d]), (1, .blk b1 [.int .i64 c.n, .int .i64 c.a0, .int .i64 c.a1, .int .i64 c.a2, .int .i64 c.a3, .sl 1 c.ps.length (c.ps.map LV.str), .sl 1 c.xs.length (c.xs.map LV.str)])]) (fun i => (4 - i).toNat) r.a (by omega) (Ents.envH (by simp [go_sem]) rfl) ?_
    intro i hi
    simp (disch := first | exact dd | fail) only [go_sem]
    refine brP (fun hb => ?_) (fun hb => ?_)
    · simp only [decide_eq_true_eq] at hb
      rcases (by omega : i = 0 ∨ i = 1 ∨ i = 2 ∨ i = 3) with rfl | rfl | rfl | rfl
      all_goals
        repeat' (first | (simp (disch := first | exact dd | fail) only [go_sem]) | (refine allI (fun b => ?_)) | (refine allT (fun τ => ?_)) | (refine brP (fun h => ?_) (fun h => ?_) <;> (try simp only [zgx, zbx] at h)) | (refine gd ?_) | fail)
        · exact pureE_end (leV.refl _) ⟨101, by simp, rfl⟩
        · first
            | exact ⟨⟨1, by omega⟩, by dsimp only; omega, Ents.envH (by simp [go_sem]) rfl⟩
            | exact ⟨⟨2, by omega⟩, by dsimp only; omega, Ents.envH (by simp [go_sem]) rfl⟩
            | exact ⟨⟨3, by omega⟩, by dsimp only; omega, Ents.envH (by simp [go_sem]) rfl⟩
            | exact ⟨⟨4, by omega⟩, by dsimp only; omega, Ents.envH (by simp [go_sem]) rfl⟩
    · repeat' (first | (simp (disch := first | exact dd | fail) only [go_sem, pick_a0, pick_0a0, pick_00a, pick_0a]) | (refine allI (fun b => ?_)) | (refine allT (fun τ => ?_)) | (refine brP (fun h => ?_) (fun h => ?_) <;> (try simp only [zgx, zbx] at h)) | (refine gd ?_) | fail)
      · exact pureE_end (leV.refl _) ⟨101, by simp, rfl⟩
      · rename_i hsh
        simp only [bne_eq_false_iff_eq] at h
        obtain ⟨⟨k1, k2⟩, k3⟩ := h
        refine loopI (ι := Nat) (fun i => i ≤ c.ps.length ∧ ∀ j, j < i → (c.ps.getD j []).length ≤ 128) (fun i => [(5, .int .i64 i), (3, .ptr 3 b 0), (1, .ptr 1 b1 0)]) (fun i => [(3, .blk b [.str r.n, .int .i64 r.a, .int .i64 r.b, .int .i64 r.c, .int .i64 r.d]), (1, .blk b1 [.int .i64 c.n, .int .i64 c.a0, .int .i64 c.a1, .int .i64 c.a2, .int .i64 c.a3, .sl 1 c.ps.length (c.ps.map LV.str), .sl 1 c.xs.length (c.xs.map LV.str)])]) (fun i => c.ps.length - i) 0 ⟨by omega, fun j hj => absurd hj (by omega)⟩ (Ents.envH (by simp [go_sem]) rfl) ?_
        rintro j ⟨hj, hjl⟩
        simp (disch := first | exact dd | fail) only [go_sem]
        refine brP (fun hb => ?_) (fun hb => ?_)
        · have hlt : j < c.ps.length := by simpa using hb
          have e1 : (c.ps.map LV.str).getD (j * 1) .any = .str (c.ps.getD j []) := by rw [Nat.mul_one]; exact gStr hlt
          have e2 := h2 _ (getD_memA ([] : List UInt8) hlt)
          generalize hw : c.ps.getD j [] = w at *
          repeat' (first | (simp (disch := first | exact dd | fail) only [go_sem, e1, List.length_map]) | (refine allI (fun b => ?_)) | (refine allT (fun τ => ?_)) | (refine brP (fun h => ?_) (fun h => ?_) <;> (try simp only [zgx, zbx] at h)) | (refine gd ?_) | fail)
          · exact pureE_end (leV.refl _) ⟨102, by simp, rfl⟩
          · refine ⟨⟨j + 1, by omega, fun k hk => ?_⟩, by dsimp only; omega, Ents.envH (by simp [go_sem]) rfl⟩
            rcases (by omega : k < j ∨ k = j) with h5 | rfl
            · exact hjl k h5
            · rw [hw]; omega
        · simp (disch := first | exact dd | fail) only [go_sem]
          have hpl : ∀ s ∈ c.ps, s.length ≤ 128 := fun s hs => by
            obtain ⟨k, hk, rfl⟩ := List.getElem_of_mem hs
            have := hjl k (by simp only [decide_eq_false_iff_not] at hb; omega)
            simpa [List.getD, hk] using this
          refine loopI (ι := Nat) (fun i => i ≤ c.xs.length) (fun i => [(6, .int .i64 i), (1, .ptr 1 b1 0)]) (fun i => [(1, .blk b1 [.int .i64 c.n, .int .i64 c.a0, .int .i64 c.a1, .int .i64 c.a2, .int .i64 c.a3, .sl 1 c.ps.length (c.ps.map LV.str), .sl 1 c.xs.length (c.xs.map LV.str)])]) (fun i => c.xs.length - i) 0 (by omega) (Ents.sub (by simp [go_sem]) ⟨_, List.Sublist.cons _ (List.Sublist.refl _), List.Perm.refl _⟩) ?_
          intro k hk
          simp (disch := first | exact dd | fail) only [go_sem]
          refine brP (fun hb2 => ?_) (fun hb2 => ?_)
          · have hlt : k < c.xs.length := by simpa using hb2
            have e1 : (c.xs.map LV.str).getD (k * 1) .any = .str (c.xs.getD k []) := by rw [Nat.mul_one]; exact gStr hlt
            have e2 := h4 _ (getD_memA ([] : List UInt8) hlt)
            generalize hw : c.xs.getD k [] = w at *
            repeat' (first | (simp (disch := first | exact dd | fail) only [go_sem, e1, List.length_map]) | (refine allI (fun b => ?_)) | (refine allT (fun τ => ?_)) | (refine brP (fun h => ?_) (fun h => ?_) <;> (try simp only [zgx, zbx] at h)) | (refine gd ?_) | fail)
            · exact pureE_end (leV.refl _) ⟨102, by simp, rfl⟩
            · exact ⟨⟨k + 1, by omega⟩, by dsimp only; omega, Ents.envH (by simp [go_sem]) rfl⟩
          · repeat' (first | (simp (disch := first | exact dd | fail) only [go_sem]) | (refine allI (fun b => ?_)) | (refine allT (fun τ => ?_)) | (refine brP (fun h => ?_) (fun h => ?_) <;> (try simp only [zgx, zbx] at h)) | (refine gd ?_) | fail)
            refine pureE_end (leV.refl _) ⟨0, fun _ => ?_, rfl⟩
            exact hK (by assumption) (by omega) (by omega) hpl
theorem rowN_b1 {n : Int} (h8 : n ≠ 8) (h13 : n ≠ 13) : (rowN n).b ≤ 1 := by
  have key : ∀ k : Fin 22, k.val ≠ 8 → k.val ≠ 13 → (rws.getD k.val rw0).b ≤ 1 := by decide +kernel
  unfold rowN
  split
  · rename_i h
    exact key ⟨n.toNat, by omega⟩ (by simp only; omega) (by simp only; omega)
  · decide
theorem perms (c : Ca) : PureE Tryz.prog gl 97 [.agg (CaC c)] fun v => ∃ l : List Int, ((rowN c.n).b ≤ l.length ∧ l.length ≤ 2) ∧ v = .sl 1 l.length (l.map (LV.int .i64)) := by
  refine fn_viewT Tryz.func97 t97 Tryz.ntmps97 (by simp) ?_
  have hb := rowN_b1 (n := c.n)
  have hb2 := (rowN_ok c.n).2.1
  generalize (rowN c.n).b = B at *
  unfold c97 r97
  rw [CaC_eq]
  repeat' (first | (simp (disch := first | exact dd | fail) only [go_sem]) | (refine allI (fun b => ?_)) | (refine allT (fun τ => ?_)) | (refine brP (fun h => ?_) (fun h => ?_) <;> (try simp only [zgx, zbx] at h)) | (refine gd ?_) | fail)
  all_goals first
    | exact pureE_end (leV.fsl_sl _ _ _) ⟨[_], ⟨by simp; omega, by simp⟩, rfl⟩
    | exact pureE_end (leV.fsl_sl _ _ _) ⟨[_, _], ⟨by simp; omega, by simp⟩, rfl⟩
    | trace_state
theorem follows (c : Ca) : PureE Tryz.prog gl 99 [.agg (CaC c)] fun v => ∃ b : Bool, v = .bool b := by
  refine fn_viewT Tryz.func99 t99 Tryz.ntmps99 (by simp) ?_
  unfold c99 r99
  rw [CaC_eq]
  repeat' (first | (simp (disch := first | exact dd | fail) only [go_sem]) | (refine allI (fun b => ?_)) | (refine allT (fun τ => ?_)) | (refine brP (fun h => ?_) (fun h => ?_) <;> (try simp only [zgx, zbx] at h)) | (refine gd ?_) | fail)
  all_goals first
    | exact pureE_end (leV.refl _) ⟨_, rfl⟩
    | trace_state
theorem mode (n : Int) : Pure Tryz.prog gl 101 [.int .i64 n] (.bool (decide (0 ≤ n ∧ n ≤ 511))) := by
  refine fn_pureT Tryz.func101 t101 Tryz.ntmps101 (by simp) ?_
  unfold c101 r101
  repeat' (first | (simp (disch := first | exact dd | fail) only [go_sem]) | (refine allI (fun b => ?_)) | (refine allT (fun τ => ?_)) | (refine brP (fun h => ?_) (fun h => ?_) <;> (try simp only [zgx, zbx] at h)) | (refine gd ?_) | fail)
  simp [Bool.decide_and]
structure It where
  gv : List UInt8
  pa : List UInt8
  dir : At
  nm : List UInt8
  fi : At
  ro : Int
  ki : Int
  mo : Int
  u : Int
  g : Int
  pe : Int
def ItC (x : It) : List LV := [.str x.gv, .str x.pa, .int .i64 x.dir.d, .int .i64 x.dir.i, .str x.nm, .int .i64 x.fi.d, .int .i64 x.fi.i, .int .i64 x.ro, .int .i64 x.ki, .int .i64 x.mo, .int .i64 x.u, .int .i64 x.g, .int .i64 x.pe]
theorem ItC_eq (x : It) : ItC x = [.str x.gv, .str x.pa, .int .i64 x.dir.d, .int .i64 x.dir.i, .str x.nm, .int .i64 x.fi.d, .int .i64 x.fi.i, .int .i64 x.ro, .int .i64 x.ki, .int .i64 x.mo, .int .i64 x.u, .int .i64 x.g, .int .i64 x.pe] := Eq.trans rfl rfl
theorem len_it (l : List It) : (l.flatMap ItC).length = l.length * 13 := length_rows (f := ItC) (w := 13) (fun _ => rfl) l
theorem item (s : Spc) (gv : List UInt8) (pe : Int) (f : Fnd) (q : Nat) (hs : SI q s) (hq : q ≤ 900) : PureE Tryz.prog gl 100 [SpL s, .str gv, .int .i64 pe, .agg (FnC f)] fun v => ∃ x : It, v = .agg (ItC x) := by
  refine fn_viewT Tryz.func100 t100 Tryz.ntmps100 (by simp) ?_
  have hF := hs.fi.ok (by omega) (by omega)
  have c1 := node s.fs f.file hF
  generalize nodeR s.fs f.file = R at *
  obtain ⟨n, nb⟩ := R
  dsimp only at c1
  rw [NoC_eq] at c1
  unfold c100 r100
  rw [FiL_eq, AtL_eq] at c1
  rw [SpL_eq, FnC_eq]
  repeat' (first | (simp (disch := first | exact dd | fail) only [go_sem]) | (refine allI (fun b => ?_)) | (refine allT (fun τ => ?_)) | (refine brP (fun h => ?_) (fun h => ?_) <;> (try simp only [zgx, zbx] at h)) | refine call_U (c1) ?_ | refine callG_U (fun _ => c1) ?_ | refine call_T (c1) ?_ | refine callG_T (fun _ => c1) ?_ | refine call_N (c1) ?_ | refine call_of (c1) ?_ | refine callG_of (fun _ => c1) ?_ | (refine gd ?_) | fail)
  exact pureE_end (leV.refl _) ⟨⟨_, _, ⟨_, _⟩, _, ⟨_, _⟩, _, _, _, _, _, _⟩, rfl⟩
end Go.Proofs.YtkdblnejpmbnfaaGreat.F
namespace Go.Proofs.YtkdblnejpmbnfaaGreat.F
open Go Go.Lx
set_option linter.unusedSimpArgs false
set_option linter.unusedVariables false
set_option maxRecDepth 100000
set_option maxHeartbeats 16000000
structure Wk where
  s : Spc
  t : Tb
  p : Ps
  c : Ca
  ex : Int
  ch : Int
  go : Int
  cg : List Ch
def WkO (w : Wk) (o i : LV) : List LV := [.sl 2 w.s.fs.length (w.s.fs.flatMap DvC), .sl 3 w.s.ms.length (w.s.ms.flatMap MoC), .int .i64 w.t.nx, .int .i64 w.t.ns, .sl 14 w.t.ps.length (w.t.ps.flatMap PsC),
  .int .i64 w.p.pid, .int .i64 w.p.ppid, .int .i64 w.p.uid, .int .i64 w.p.euid, .int .i64 w.p.gid, .int .i64 w.p.egid, .int .i64 w.p.auid, .int .i64 w.p.ses, .int .i64 w.p.cd, .int .i64 w.p.ci, .str w.p.comm, .str w.p.exe, DeS w.p.op, .bool w.p.au,
  .int .i64 w.c.n, .int .i64 w.c.a0, .int .i64 w.c.a1, .int .i64 w.c.a2, .int .i64 w.c.a3, .sl 1 w.c.ps.length (w.c.ps.map LV.str), .sl 1 w.c.xs.length (w.c.xs.map LV.str), o, .int .i64 w.ex, .int .i64 w.ch, .int .i64 w.go, i, .sl 7 w.cg.length (w.cg.flatMap ChC)]
theorem WkO_eq (w : Wk) (o i : LV) : WkO w o i = [.sl 2 w.s.fs.length (w.s.fs.flatMap DvC), .sl 3 w.s.ms.length (w.s.ms.flatMap MoC), .int .i64 w.t.nx, .int .i64 w.t.ns, .sl 14 w.t.ps.length (w.t.ps.flatMap PsC),
  .int .i64 w.p.pid, .int .i64 w.p.ppid, .int .i64 w.p.uid, .int .i64 w.p.euid, .int .i64 w.p.gid, .int .i64 w.p.egid, .int .i64 w.p.auid, .int .i64 w.p.ses, .int .i64 w.p.cd, .int .i64 w.p.ci, .str w.p.comm, .str w.p.exe, DeS w.p.op, .bool w.p.au,
  .int .i64 w.c.n, .int .i64 w.c.a0, .int .i64 w.c.a1, .int .i64 w.c.a2, .int .i64 w.c.a3, .sl 1 w.c.ps.length (w.c.ps.map LV.str), .sl 1 w.c.xs.length (w.c.xs.map LV.str), o, .int .i64 w.ex, .int .i64 w.ch, .int .i64 w.go, i, .sl 7 w.cg.length (w.cg.flatMap ChC)] := Eq.trans rfl rfl
theorem wEnd {x r : LV} {H H1 : Heap} {Q : LV → Prop} (h : leV x r) (hs : H1.Sublist H) (hq : Q r) : ∃ r' H', leVH gl x H r' H' ∧ Q r' ∧ H' = H1 := ⟨r, H1, leVH.of h ⟨_, hs, List.Perm.refl _⟩, hq, rfl⟩
theorem may (w : Wk) (o i : LV) (b q : Nat) (x : At) (n : Int) (hs : SI q w.s) (hq : q ≤ 900) : LCalls Tryz.prog gl 127 [.ptr 36 b 0, AtL x, .int .i64 n] [(36, .blk b (WkO w o i))] fun r H => (∃ v : Bool, r = .bool v) ∧ H = [(36, .blk b (WkO w o i))] := by
  refine fn_viewT Tryz.func127 t127 Tryz.ntmps127 (by simp) ?_
  have hF := hs.fi.ok (by omega) (by omega)
  have c1 := node w.s.fs x hF
  generalize nodeR w.s.fs x = R at *
  obtain ⟨nd, nb⟩ := R
  dsimp only at c1
  have c2 := may8 nd
  rw [NoC_eq] at c1 c2
  rw [FiL_eq, AtL_eq] at c1
  unfold c127 r127
  rw [AtL_eq, WkO_eq]
  repeat' (first | (simp (disch := first | exact dd | fail) only [go_sem, NoC_eq]) | (refine allI (fun b => ?_)) | (refine allT (fun τ => ?_)) | (refine brP (fun h => ?_) (fun h => ?_) <;> (try simp only [zgx, zbx] at h)) | refine call_U (c1) ?_ | refine callG_U (fun _ => c1) ?_ | refine call_T (c1) ?_ | refine callG_T (fun _ => c1) ?_ | refine call_N (c1) ?_ | refine call_of (c1) ?_ | refine callG_of (fun _ => c1) ?_ | (refine pureE_U (c2 _ _ _) ?_; rintro _ ⟨v, rfl⟩) | (refine pureE_of (c2 _ _ _) ?_; rintro _ ⟨v, rfl⟩) | (refine gd ?_) | fail)
  all_goals first
    | exact wEnd (leV.refl _) (by repeat (first | exact List.Sublist.refl _ | apply List.Sublist.cons)) ⟨_, rfl⟩
    | trace_state
theorem used (w : Wk) (o i : LV) (b q : Nat) (x : At) (hs : SI q w.s) (hq : q ≤ 900) (hv : VW w.t) : LCalls Tryz.prog gl 135 [.ptr 36 b 0, AtL x] [(36, .blk b (WkO w o i))] fun r H => (∃ v : Bool, r = .bool v) ∧ H = [(36, .blk b (WkO w o i))] := by
  refine fn_viewT Tryz.func135 t135 Tryz.ntmps135 (by simp) ?_
  have hml := hs.ml
  have c1 := cov w.s x (by omega)
  have hle := len_ps w.t.ps
  have hl := hv.len
  unfold c135 r135
  rw [SpL_eq] at c1
  rw [AtL_eq] at *
  rw [WkO_eq]
  repeat' (first | (simp (disch := first | exact dd | fail) only [go_sem]) | (refine allI (fun b => ?_)) | (refine allT (fun τ => ?_)) | (refine brP (fun h => ?_) (fun h => ?_) <;> (try simp only [zgx, zbx] at h)) | (refine pureE_U c1 ?_; rintro _ ⟨v, rfl⟩) | (refine pureE_of c1 ?_; rintro _ ⟨v, rfl⟩) | (refine gd ?_) | fail)
  all_goals first
    | exact wEnd (leV.refl _) (by repeat (first | exact List.Sublist.refl _ | apply List.Sublist.cons)) ⟨_, rfl⟩
    | skip
  refine loopI (ι := Nat) (fun j => j ≤ w.t.ps.length) (fun j => (5, .int .i64 j) :: _) (fun _ => _) (fun j => w.t.ps.length - j) 0 (by omega) Ents.same ?_
  intro j hj
  simp (disch := first | exact dd | fail) only [go_sem]
  refine brP (fun hb => ?_) (fun hb => ?_)
  · have hlt : j < w.t.ps.length := by simpa using hb
    have e2 : ((w.t.ps.flatMap PsC).drop (j * 14 + 8)).take 2 = [.int .i64 (w.t.ps.getD j ps0).cd, .int .i64 (w.t.ps.getD j ps0).ci] := by
      have h := take_rows (f := PsC) (w := 14) (fun _ => rfl) ps0 w.t.ps hlt
      have e : ((w.t.ps.flatMap PsC).drop (j * 14 + 8)).take 2 = ((((w.t.ps.flatMap PsC).drop (j * 14)).take 14).drop 8).take 2 := by
        rw [List.drop_take, List.drop_drop, List.take_take]; rfl
      rw [e, h]; rfl
    generalize w.t.ps.getD j ps0 = p at *
    repeat' (first | (simp (disch := first | exact dd | fail) only [go_sem, e2]) | (refine allI (fun b => ?_)) | (refine allT (fun τ => ?_)) | (refine brP (fun h => ?_) (fun h => ?_) <;> (try simp only [zgx, zbx] at h)) | (refine gd ?_) | fail)
    · exact wEnd (leV.refl _) (by repeat (first | exact List.Sublist.refl _ | apply List.Sublist.cons)) ⟨_, rfl⟩
    · exact ⟨⟨j + 1, by omega⟩, by dsimp only; omega, Ents.envH (by simp [go_sem]) rfl⟩
  · repeat' (first | (simp (disch := first | exact dd | fail) only [go_sem]) | (refine allI (fun b => ?_)) | (refine allT (fun τ => ?_)) | (refine brP (fun h => ?_) (fun h => ?_) <;> (try simp only [zgx, zbx] at h)) | (refine gd ?_) | fail)
    exact wEnd (leV.refl _) (by repeat (first | exact List.Sublist.refl _ | apply List.Sublist.cons)) ⟨_, rfl⟩
def filW (e : Int) (fs : List Dv) (cg : List Ch) (w : Wk) : Wk := if e = 0 then { w with s := ⟨fs, w.s.ms⟩, cg := cg } else w
theorem files (w : Wk) (o i : LV) (b : Nat) (fs : List Dv) (cg : List Ch) (e : Int) : LCalls Tryz.prog gl 131 [.ptr 36 b 0, FiL fs, .sl 7 cg.length (cg.flatMap ChC), .int .i64 e] [(36, .blk b (WkO w o i))] fun r H => r = .int .i64 e ∧ H = [(36, .blk b (WkO (filW e fs cg w) o i))] := by
  refine fn_viewT Tryz.func131 t131 Tryz.ntmps131 (by simp) ?_
  unfold c131 r131
  rw [FiL_eq]
  by_cases he : e = 0
  · rw [filW, if_pos he, WkO_eq, WkO_eq]
    repeat' (first | (simp (disch := first | exact dd | fail) only [go_sem]) | (refine allI (fun b => ?_)) | (refine allT (fun τ => ?_)) | (refine brP (fun h => ?_) (fun h => ?_) <;> (try simp only [zgx, zbx] at h)) | (refine gd ?_) | fail)
    all_goals first
      | (exfalso; omega)
      | exact wEnd (leV.refl _) (by repeat (first | exact List.Sublist.refl _ | apply List.Sublist.cons)) rfl
      | trace_state
  · rw [filW, if_neg he, WkO_eq]
    repeat' (first | (simp (disch := first | exact dd | fail) only [go_sem]) | (refine allI (fun b => ?_)) | (refine allT (fun τ => ?_)) | (refine brP (fun h => ?_) (fun h => ?_) <;> (try simp only [zgx, zbx] at h)) | (refine gd ?_) | fail)
    all_goals first
      | (exfalso; omega)
      | exact wEnd (leV.refl _) (by repeat (first | exact List.Sublist.refl _ | apply List.Sublist.cons)) rfl
      | trace_state
def tabW (e : Int) (t : Tb) (w : Wk) : Wk := if e = 0 then { w with t := t } else w
theorem table (w : Wk) (o i : LV) (b : Nat) (t : Tb) (e : Int) : LCalls Tryz.prog gl 129 [.ptr 36 b 0, TbL t, .int .i64 e] [(36, .blk b (WkO w o i))] fun r H => r = .int .i64 e ∧ H = [(36, .blk b (WkO (tabW e t w) o i))] := by
  refine fn_viewT Tryz.func129 t129 Tryz.ntmps129 (by simp) ?_
  unfold c129 r129
  rw [TbL_eq]
  by_cases he : e = 0
  · rw [tabW, if_pos he, WkO_eq, WkO_eq]
    repeat' (first | (simp (disch := first | exact dd | fail) only [go_sem]) | (refine allI (fun b => ?_)) | (refine allT (fun τ => ?_)) | (refine brP (fun h => ?_) (fun h => ?_) <;> (try simp only [zgx, zbx] at h)) | (refine gd ?_) | fail)
    all_goals first
      | (exfalso; omega)
      | exact wEnd (leV.refl _) (by repeat (first | exact List.Sublist.refl _ | apply List.Sublist.cons)) rfl
      | trace_state
  · rw [tabW, if_neg he, WkO_eq]
    repeat' (first | (simp (disch := first | exact dd | fail) only [go_sem]) | (refine allI (fun b => ?_)) | (refine allT (fun τ => ?_)) | (refine brP (fun h => ?_) (fun h => ?_) <;> (try simp only [zgx, zbx] at h)) | (refine gd ?_) | fail)
    all_goals first
      | (exfalso; omega)
      | exact wEnd (leV.refl _) (by repeat (first | exact List.Sublist.refl _ | apply List.Sublist.cons)) rfl
      | trace_state
def FoS (τ : Tok) (fo : List Fnd) : LV := .osl 111 τ 8 fo.length (fo.flatMap FnC)
theorem FoS_eq (τ : Tok) (fo : List Fnd) : FoS τ fo = .osl 111 τ 8 fo.length (fo.flatMap FnC) := Eq.trans rfl rfl
theorem gFn {fo : List Fnd} {j k : Nat} (h : j < fo.length) (hk : k < 8) : (fo.flatMap FnC).getD (j * 8 + k) .any = (FnC (fo.getD j fn0)).getD k .any := getD_rows (f := FnC) (w := 8) (fun _ => rfl) hk fn0 _ _ h
theorem tFn {fo : List Fnd} {j : Nat} (h : j < fo.length) : ((fo.flatMap FnC).drop (j * 8)).take 8 = FnC (fo.getD j fn0) := take_rows (f := FnC) (w := 8) (fun _ => rfl) fn0 _ h
theorem tFnD {fo : List Fnd} {j : Nat} (h : j < fo.length) : ((fo.flatMap FnC).drop (j * 8)).take 2 = [.int .i64 (fo.getD j fn0).dir.d, .int .i64 (fo.getD j fn0).dir.i] := by
  have e : ((fo.flatMap FnC).drop (j * 8)).take 2 = ((((fo.flatMap FnC).drop (j * 8)).take 8)).take 2 := by
    rw [List.take_take]; rfl
  rw [e, tFn h]; rfl
theorem tFnF {fo : List Fnd} {j : Nat} (h : j < fo.length) : ((fo.flatMap FnC).drop (j * 8 + 3)).take 2 = [.int .i64 (fo.getD j fn0).file.d, .int .i64 (fo.getD j fn0).file.i] := by
  have e : ((fo.flatMap FnC).drop (j * 8 + 3)).take 2 = ((((fo.flatMap FnC).drop (j * 8)).take 8).drop 3).take 2 := by
    rw [List.drop_take, List.drop_drop, List.take_take]; rfl
  rw [e, tFn h]; rfl
theorem wdir (w : Wk) (τ : Tok) (fo : List Fnd) (i : LV) (b q j : Nat) (hj : j < fo.length) (hl : fo.length ≤ 1000) (hs : SI q w.s) (hq : q ≤ 900) : LCalls Tryz.prog gl 130 [.ptr 36 b 0, .int .i64 j] [(36, .blk b (WkO w (FoS τ fo) i))] fun r H => r = .bool (dirB w.s.fs (fo.getD j fn0).file) ∧ H = [(36, .blk b (WkO w (FoS τ fo) i))] := by
  refine fn_viewT Tryz.func130 t130 Tryz.ntmps130 (by simp) ?_
  have hF := hs.fi.ok (by omega) (by omega)
  have e3 := tFnF hj
  have hlf := len_fn fo
  have c1 := dir w.s.fs (fo.getD j fn0).file hF
  generalize fo.getD j fn0 = f at *
  unfold c130 r130
  rw [FiL_eq, AtL_eq] at c1
  rw [WkO_eq, FoS_eq]
  repeat' (first | (simp (disch := first | exact dd | fail) only [go_sem, e3]) | (refine allI (fun b => ?_)) | (refine allT (fun τ => ?_)) | (refine brP (fun h => ?_) (fun h => ?_) <;> (try simp only [zgx, zbx] at h)) | refine call_U (c1) ?_ | refine callG_U (fun _ => c1) ?_ | refine call_T (c1) ?_ | refine callG_T (fun _ => c1) ?_ | refine call_N (c1) ?_ | refine call_of (c1) ?_ | refine callG_of (fun _ => c1) ?_ | (refine gd ?_) | fail)
  all_goals first
    | exact wEnd (leV.refl _) (by repeat (first | exact List.Sublist.refl _ | apply List.Sublist.cons)) rfl
    | trace_state
def ItM (bi ci : Nat) (it : List It) : LV := .msl 43 13 bi 0 it.length ci
theorem ItM_eq (bi ci : Nat) (it : List It) : ItM bi ci it = .msl 43 13 bi 0 it.length ci := Eq.trans rfl rfl
def ItB (bi ci : Nat) (it : List It) : Ent := .blk bi (Sp (it.flatMap ItC) ((ci - it.length) * 13))
theorem made (w : Wk) (o : LV) (b q bi ci : Nat) (it : List It) (j : Nat) (x : At) (hj : j < it.length) (hl : it.length ≤ 2) (hc : it.length ≤ ci) (hs : SI q w.s) (hq : q ≤ 900) : LCalls Tryz.prog gl 133 [.ptr 36 b 0, .int .i64 j, AtL x] [(36, .blk b (WkO w o (ItM bi ci it))), (43, ItB bi ci it)] fun _ H => ∃ it' : List It, it'.length = it.length ∧ H = [(36, .blk b (WkO w o (ItM bi ci it'))), (43, ItB bi ci it')] := by
  refine fn_viewT Tryz.func133 t133 Tryz.ntmps133 (by simp) ?_
  have hF := hs.fi.ok (by omega) (by omega)
  have c1 := node w.s.fs x hF
  generalize nodeR w.s.fs x = R at *
  obtain ⟨nd, nb⟩ := R
  dsimp only at c1
  rw [NoC_eq] at c1
  rw [FiL_eq, AtL_eq] at c1
  unfold c133 r133
  rw [AtL_eq, WkO_eq, ItM_eq, ItB]
  rcases it with _ | ⟨y, _ | ⟨z, it⟩⟩
  · simp at hj
  · obtain rfl : j = 0 := by simp at hj; exact hj
    simp only [List.flatMap_cons, List.flatMap_nil, List.append_nil, List.length_cons, List.length_nil, ItC_eq, Sp, List.cons_append, List.nil_append] at *
    repeat' (first | (simp (disch := first | exact dd | fail) only [go_sem, NoC_eq]) | (refine allI (fun b => ?_)) | (refine allT (fun τ => ?_)) | (refine brP (fun h => ?_) (fun h => ?_) <;> (try simp only [zgx, zbx] at h)) | refine call_U (c1) ?_ | refine callG_U (fun _ => c1) ?_ | refine call_T (c1) ?_ | refine callG_T (fun _ => c1) ?_ | refine call_N (c1) ?_ | refine call_of (c1) ?_ | refine callG_of (fun _ => c1) ?_ | (refine gd ?_) | fail)
    refine ⟨_, _, leVH.of (leV.any _) ⟨_, List.Sublist.cons _ (List.Sublist.cons _ (List.Sublist.refl _)), List.Perm.refl _⟩, [⟨y.gv, y.pa, y.dir, y.nm, x, 2, nd.kind, nd.mode, nd.uid, nd.gid, y.pe⟩], rfl, rfl⟩
  · obtain rfl : it = [] := by
      rcases it with _ | ⟨a, l⟩
      · rfl
      · simp at hl
    rcases (by simp at hj; omega : j = 0 ∨ j = 1) with rfl | rfl
    · simp only [List.flatMap_cons, List.flatMap_nil, List.append_nil, List.length_cons, List.length_nil, ItC_eq, Sp, List.cons_append, List.nil_append] at *
      repeat' (first | (simp (disch := first | exact dd | fail) only [go_sem, NoC_eq]) | (refine allI (fun b => ?_)) | (refine allT (fun τ => ?_)) | (refine brP (fun h => ?_) (fun h => ?_) <;> (try simp only [zgx, zbx] at h)) | refine call_U (c1) ?_ | refine callG_U (fun _ => c1) ?_ | refine call_T (c1) ?_ | refine callG_T (fun _ => c1) ?_ | refine call_N (c1) ?_ | refine call_of (c1) ?_ | refine callG_of (fun _ => c1) ?_ | (refine gd ?_) | fail)
      refine ⟨_, _, leVH.of (leV.any _) ⟨_, List.Sublist.cons _ (List.Sublist.cons _ (List.Sublist.refl _)), List.Perm.refl _⟩, [⟨y.gv, y.pa, y.dir, y.nm, x, 2, nd.kind, nd.mode, nd.uid, nd.gid, y.pe⟩, z], rfl, rfl⟩
    · simp only [List.flatMap_cons, List.flatMap_nil, List.append_nil, List.length_cons, List.length_nil, ItC_eq, Sp, List.cons_append, List.nil_append] at *
      repeat' (first | (simp (disch := first | exact dd | fail) only [go_sem, NoC_eq]) | (refine allI (fun b => ?_)) | (refine allT (fun τ => ?_)) | (refine brP (fun h => ?_) (fun h => ?_) <;> (try simp only [zgx, zbx] at h)) | refine call_U (c1) ?_ | refine callG_U (fun _ => c1) ?_ | refine call_T (c1) ?_ | refine callG_T (fun _ => c1) ?_ | refine call_N (c1) ?_ | refine call_of (c1) ?_ | refine callG_of (fun _ => c1) ?_ | (refine gd ?_) | fail)
      refine ⟨_, _, leVH.of (leV.any _) ⟨_, List.Sublist.cons _ (List.Sublist.cons _ (List.Sublist.refl _)), List.Perm.refl _⟩, [y, ⟨z.gv, z.pa, z.dir, z.nm, x, 2, nd.kind, nd.mode, nd.uid, nd.gid, z.pe⟩], rfl, rfl⟩
end Go.Proofs.YtkdblnejpmbnfaaGreat.F
namespace Go.Proofs.YtkdblnejpmbnfaaGreat.F
open Go Go.Lx
set_option linter.unusedSimpArgs false
set_option linter.unusedVariables false
set_option maxRecDepth 100000
set_option maxHeartbeats 16000000
theorem rowN_c {n : Int} (h : n = 9 ∨ n = 19) : (rowN n).c = 1 := by
  rcases h with rfl | rfl <;> decide
theorem rowN_b {n : Int} (h : n = 1 ∨ n = 6 ∨ (8 ≤ n ∧ n ≤ 17) ∨ n = 21) : 1 ≤ (rowN n).b := by
  have key : ∀ k : Fin 22, (k.val = 1 ∨ k.val = 6 ∨ (8 ≤ k.val ∧ k.val ≤ 17) ∨ k.val = 21) → 1 ≤ (rws.getD k.val rw0).b := by decide +kernel
  rw [rowN, if_pos (by omega)]
  exact key ⟨n.toNat, by omega⟩ (by simp only; omega)
theorem rowN_b2 {n : Int} (h : n = 8 ∨ n = 13) : (rowN n).b = 2 := by
  rcases h with rfl | rfl <;> decide
theorem before (w : Wk) (o i : LV) (b : Nat) (hck : CkOk w.c) (hca : CaOk w.c) : LCalls Tryz.prog gl 65 [.ptr 36 b 0] [(36, .blk b (WkO w o i))] fun r H => (∃ e : Int, r = .int .i64 e) ∧ H = [(36, .blk b (WkO w o i))] := by
  refine fn_viewT Tryz.func65 t65 Tryz.ntmps65 (by simp) ?_
  have c1 := mode
  have hx : w.c.n = 9 → 1 ≤ w.c.xs.length := fun h => by
    have h1 := hck.xs
    rw [rowN_c (.inl h)] at h1
    omega
  have hx1 : w.c.n = 9 → (w.c.xs.map LV.str).getD 0 .any = .str (w.c.xs.getD 0 []) := fun h => gStr (by have := hx h; omega)
  have hx2 : (w.c.xs.getD 0 []).length ≤ 1000 := by
    rcases h : w.c.xs with _ | ⟨s, l⟩
    · simp
    · simp only [List.getD_cons_zero]
      exact hca.2.2 s (by rw [h]; simp)
  generalize w.c.xs.getD 0 [] = s at *
  unfold c65 r65
  rw [WkO_eq]
  by_cases h9 : w.c.n = 9
  · have hx := hx h9
    have hx1 := hx1 h9
    repeat' (first | (simp (disch := first | exact dd | fail) only [go_sem, hx1, h9, List.length_map, DeS_eq, pick_a0, pick_0a0, pick_00a, pick_0a]) | (refine allI (fun b => ?_)) | (refine allT (fun τ => ?_)) | (refine brP (fun h => ?_) (fun h => ?_) <;> (try simp only [zgx, zbx] at h)) | refine call_U (c1 _) ?_ | refine callG_U (fun _ => c1 _) ?_ | refine call_T (c1 _) ?_ | refine callG_T (fun _ => c1 _) ?_ | refine call_N (c1 _) ?_ | refine call_of (c1 _) ?_ | refine callG_of (fun _ => c1 _) ?_ | (refine gd ?_) | fail)
    all_goals first
      | (exfalso; omega)
      | exact wEnd (leV.refl _) (by repeat (first | exact List.Sublist.refl _ | apply List.Sublist.cons)) ⟨_, rfl⟩
      | skip
    refine loopI (ι := Nat) (fun j => j ≤ s.length) (fun j => (4, .int .i64 j) :: _) (fun _ => _) (fun j => s.length - j) 0 (by omega) Ents.same ?_
    intro j hj
    repeat' (first | (simp (disch := first | exact dd | fail) only [go_sem, hx1, h9, List.length_map]) | (refine allI (fun b => ?_)) | (refine allT (fun τ => ?_)) | (refine brP (fun h => ?_) (fun h => ?_) <;> (try simp only [zgx, zbx] at h)) | (refine gd ?_) | fail)
    all_goals first
      | (exfalso; omega)
      | exact wEnd (leV.refl _) (by repeat (first | exact List.Sublist.refl _ | apply List.Sublist.cons)) ⟨_, rfl⟩
      | exact ⟨⟨j + 1, by omega⟩, by dsimp only; omega, Ents.envH (by simp [go_sem]) rfl⟩
      | trace_state
  · repeat' (first | (simp (disch := first | exact dd | fail) only [go_sem, List.length_map, DeS_eq, pick_a0, pick_0a0, pick_00a, pick_0a]) | (refine allI (fun b => ?_)) | (refine allT (fun τ => ?_)) | (refine brP (fun h => ?_) (fun h => ?_) <;> (try simp only [zgx, zbx] at h)) | refine call_U (c1 _) ?_ | refine callG_U (fun _ => c1 _) ?_ | refine call_T (c1 _) ?_ | refine callG_T (fun _ => c1 _) ?_ | refine call_N (c1 _) ?_ | refine call_of (c1 _) ?_ | refine callG_of (fun _ => c1 _) ?_ | (refine gd ?_) | fail)
    all_goals first
      | (exfalso; omega)
      | exact wEnd (leV.refl _) (by repeat (first | exact List.Sublist.refl _ | apply List.Sublist.cons)) ⟨_, rfl⟩
      | trace_state
theorem rowAllI {l : List It} {i k : Nat} (p : It) (h : i < l.length) : (Sp (l.flatMap ItC) k).take (i * 13) ++ ItC p ++ (Sp (l.flatMap ItC) k).drop (i * 13 + 13) = Sp ((l.set i p).flatMap ItC) k := by
  have hle := len_it l
  have h2 : (i + 1) * 13 ≤ l.length * 13 := Nat.mul_le_mul_right 13 h
  have h3 : (l.take i).flatMap ItC = (l.flatMap ItC).take (i * 13) := by
    have := len_it (l.take i)
    rw [List.length_take, Nat.min_eq_left (by omega)] at this
    conv => rhs; rw [← List.take_append_drop i l, List.flatMap_append, List.take_left' this]
  have h4 : (l.drop (i + 1)).flatMap ItC = (l.flatMap ItC).drop (i * 13 + 13) := by
    have := len_it (l.take (i + 1))
    rw [List.length_take, Nat.min_eq_left (by omega)] at this
    conv => rhs; rw [← List.take_append_drop (i + 1) l, List.flatMap_append, List.drop_left' (by omega)]
  rw [Sp, Sp, List.take_append_of_le_length (by omega), List.drop_append_of_le_length (by omega), List.set_eq_take_append_cons_drop, if_pos h, List.flatMap_append, List.flatMap_cons, h3, h4]
  simp only [List.append_assoc]
theorem WkO_nil (w : Wk) (τ : Tok) : leVs (WkO w (.fsl 1 0 []) (.fsl 1 0 [])) (WkO w (FoS τ []) (ItM 0 0 [])) := by
  rw [WkO_eq, WkO_eq]
  exact ⟨leV.refl _, leV.refl _, leV.refl _, leV.refl _, leV.refl _, leV.refl _, leV.refl _, leV.refl _, leV.refl _, leV.refl _, leV.refl _, leV.refl _, leV.refl _, leV.refl _, leV.refl _, leV.refl _, leV.refl _, leV.refl _, leV.refl _, leV.refl _, leV.refl _, leV.refl _, leV.refl _, leV.refl _, leV.refl _, leV.refl _, leV.nil_osl _ _ _ _, leV.refl _, leV.refl _, leV.refl _, leV.nil_msl _ _ _, leV.refl _, trivial⟩
theorem nm_snoc {l : List Fnd} {f : Fnd} (h : ∀ f ∈ l, f.nm.length ≤ 12) (hf : f.nm.length ≤ 12) : ∀ g ∈ l ++ [f], g.nm.length ≤ 12 := fun g hg => by
  rcases List.mem_append.1 hg with hg | hg
  · exact h g hg
  · simp only [List.mem_singleton] at hg
    subst hg
    exact hf
structure LkOk (w : Wk) (fo : List Fnd) (it : List It) (ci : Nat) : Prop where
  lf : fo.length = w.c.ps.length
  li : it.length = w.c.ps.length
  lc : it.length ≤ ci
  ln : ∀ f ∈ fo, f.nm.length ≤ 12
theorem looks (w : Wk) (b q : Nat) (e : Int) (hs : SI q w.s) (hq : q ≤ 900) (hck : CkOk w.c) (hca : CaOk w.c) : LCalls Tryz.prog gl 64 [.ptr 36 b 0, .int .i64 e] [(36, .blk b (WkO w (.fsl 1 0 []) (.fsl 1 0 [])))] fun r H => ∃ (e' : Int) (fo : List Fnd) (it : List It) (τ : Tok) (bi ci : Nat), LkOk w fo it ci ∧ r = .int .i64 e' ∧ H = [(36, .blk b (WkO w (FoS τ fo) (ItM bi ci it))), (43, ItB bi ci it), (111, .tok τ)] := by
  refine fn_viewT Tryz.func64 t64 Tryz.ntmps64 (by simp) ?_
  have c1 := perms w.c
  have c2 := follows w.c
  have c3 := fun p fo hp => find7 w.s ⟨w.p.cd, w.p.ci⟩ p fo q hs hq hp
  have c4 := fun gv pe f => item w.s gv pe f q hs hq
  have hps := hck.ps
  have hpl := hck.pl
  unfold c64 r64
  rw [CaC_eq] at c1 c2
  rw [SpL_eq] at *
  simp only [AtL_eq] at c3
  rw [WkO_eq]
  repeat' (first | (simp (disch := first | exact dd | fail) only [go_sem]) | (refine allI (fun b => ?_)) | (refine allT (fun τ => ?_)) | (refine brP (fun h => ?_) (fun h => ?_) <;> (try simp only [zgx, zbx] at h)) | (refine pureE_U c1 ?_; rintro _ ⟨pl, ⟨hpl1, hpl2⟩, rfl⟩) | (refine gd ?_) | fail)
  refine loopI (ι := Nat × List Fnd × List It × Tok × Nat × Nat × Int) (fun y => y.1 ≤ w.c.ps.length ∧ y.2.1.length = y.1 ∧ y.2.2.1.length = y.1 ∧ y.1 ≤ y.2.2.2.2.2.1 ∧ ∀ f ∈ y.2.1, f.nm.length ≤ 12) (fun y => [(6, .int .i64 y.1), (5, .sl 1 pl.length (pl.map (LV.int .i64))), (0, .ptr 36 b 0), (1, .int .i64 y.2.2.2.2.2.2)]) (fun y => [(36, .blk b (WkO w (FoS y.2.2.2.1 y.2.1) (ItM y.2.2.2.2.1 y.2.2.2.2.2.1 y.2.2.1))), (43, ItB y.2.2.2.2.1 y.2.2.2.2.2.1 y.2.2.1), (111, .tok y.2.2.2.1)]) (fun y => w.c.ps.length - y.1) (0, [], [], ⟨0, 0, 0⟩, 0, 0, e) (by simp) ?_ ?_
  · refine Ents.dum 111 (Ents.emp 43 (Ents.heap [(36, .blk b (WkO w (.fsl 1 0 []) (.fsl 1 0 []))), (43, .blk 0 []), (111, .tok ⟨0, 0, 0⟩)] (by simp [go_sem]) ⟨_, List.Sublist.refl _, List.perm_append_comm (l₁ := [(43, _), (111, _)]) (l₂ := [(36, _)])⟩ ⟨⟨rfl, WkO_nil w _⟩, ⟨rfl, ?_⟩, rfl, trivial⟩))
    simp [Sp, leVs]
  · rintro ⟨i, fo, it, τ, bi, ci, e⟩ ⟨h1, h2, h3, h4, h5⟩
    dsimp only at h1 h2 h3 h4 h5 ⊢
    have hB := (rowN_ok w.c.n).2.1
    have hitl := len_it it
    have hfol := len_fn fo
    have hS := length_Sp (it.flatMap ItC) ((ci - it.length) * 13)
    rw [WkO_eq, FoS_eq, ItM_eq, ItB]
    simp (disch := first | exact dd | fail) only [go_sem]
    refine brP (fun hb => ?_) (fun hb => ?_)
    · have hlt : i < w.c.ps.length := by simpa using hb
      have e1 : (w.c.ps.map LV.str).getD (i * 1) .any = .str (w.c.ps.getD i []) := by rw [Nat.mul_one]; exact gStr hlt
      have e2 : (pl.map (LV.int .i64)).getD (i * 1) .any = .int .i64 (pl.getD i 0) := by
        rw [Nat.mul_one]
        have : i < pl.length := by omega
        simp [List.getD, this]
      have hwl := hpl _ (getD_memA ([] : List UInt8) hlt)
      generalize w.c.ps.getD i [] = s at *
      generalize pl.getD i 0 = pe at *
      repeat' (first | (simp (disch := first | exact dd | fail) only [go_sem, e1, e2, zIt, zFo, List.length_map]) | (refine allI (fun b => ?_)) | (refine allT (fun τ => ?_)) | (refine brP (fun h => ?_) (fun h => ?_) <;> (try simp only [zgx, zbx] at h)) | (refine gd ?_) | fail)
      refine .inl ⟨by omega, by omega, by simp only [roomy]; omega, fun b2 k2 h6 => ?_⟩
      rw [take_Sp _ hitl]
      have hX : it.flatMap ItC ++ [.str s, .str [], .int .i64 0, .int .i64 0, .str [], .int .i64 0, .int .i64 0, .int .i64 1, .int .i64 0, .int .i64 0, .int .i64 0, .int .i64 0, .int .i64 pe] ++ List.replicate ((k2 - (it.length + 1)) * 13) .any = Sp ((it ++ [(⟨s, [], ⟨0, 0⟩, [], ⟨0, 0⟩, 1, 0, 0, 0, 0, pe⟩ : It)]).flatMap ItC) ((k2 - (it.length + 1)) * 13) := by
        simp [Sp, List.flatMap_append, ItC_eq]
      rw [hX]
      have hS2 := length_Sp ((it ++ [(⟨s, [], ⟨0, 0⟩, [], ⟨0, 0⟩, 1, 0, 0, 0, 0, pe⟩ : It)]).flatMap ItC) ((k2 - (it.length + 1)) * 13)
      have hL2 := len_it (it ++ [(⟨s, [], ⟨0, 0⟩, [], ⟨0, 0⟩, 1, 0, 0, 0, 0, pe⟩ : It)])
      rw [List.length_append, List.length_singleton] at hL2
      have hA := fun p => rowAllI (l := it ++ [(⟨s, [], ⟨0, 0⟩, [], ⟨0, 0⟩, 1, 0, 0, 0, 0, pe⟩ : It)]) (i := i) (k := (k2 - (it.length + 1)) * 13) p (by simp; omega)
      have hset : ∀ p, (it ++ [(⟨s, [], ⟨0, 0⟩, [], ⟨0, 0⟩, 1, 0, 0, 0, 0, pe⟩ : It)]).set i p = it ++ [p] := fun p => by
        rw [List.set_append_right _ _ (by omega), show i - it.length = 0 by omega]; rfl
      simp only [hset] at hA
      have c3 := fun fo => c3 s fo (by omega)
      have c4 := fun f => c4 s pe f
      repeat' (first | (simp (disch := first | exact dd | fail) only [go_sem, e1, e2, zIt, zFo, List.length_map]) | (refine allI (fun b => ?_)) | (refine allT (fun τ => ?_)) | (refine brP (fun h => ?_) (fun h => ?_) <;> (try simp only [zgx, zbx] at h)) | (refine pureE_of c2 ?_; rintro _ ⟨fb, rfl⟩) | (refine pureE_of (c3 _) ?_; rintro _ ⟨r, hr, rfl⟩; simp only [FnC_eq] at c4 ⊢) | (refine pureE_of (c4 _) ?_; rintro _ ⟨x, rfl⟩; simp only [ItC_eq] at hA ⊢) | (refine gd ?_) | fail)
      · refine ⟨by simp only [roomy]; omega, fun τ2 => ⟨⟨(i + 1, fo ++ [r.1], it ++ [x], τ2, b2, k2, r.2), by dsimp only; omega, by simp; omega, by simp; omega, by dsimp only; omega, nm_snoc h5 (by first | exact hr | simp [fn0])⟩, by dsimp only; omega, Ents.sub (by simp [go_sem]) ⟨_, List.Sublist.cons_cons _ (List.Sublist.cons _ (List.Sublist.refl _)), (List.reverse_perm _).symm.trans (List.Perm.of_eq ?_)⟩⟩⟩
        dsimp only
        rw [hA x]
        rw [WkO_eq, FoS_eq, ItM_eq, ItB, List.length_append, List.length_append, List.length_singleton, List.length_singleton, List.flatMap_append (xs := fo), List.flatMap_singleton, FnC_eq]
        rfl
      · refine ⟨by simp only [roomy]; omega, fun τ2 => ⟨⟨(i + 1, fo ++ [r.1], it ++ [⟨s, [], ⟨0, 0⟩, [], ⟨0, 0⟩, 1, 0, 0, 0, 0, pe⟩], τ2, b2, k2, r.2), by dsimp only; omega, by simp; omega, by simp; omega, by dsimp only; omega, nm_snoc h5 (by first | exact hr | simp [fn0])⟩, by dsimp only; omega, Ents.sub (by simp [go_sem]) ⟨_, List.Sublist.cons_cons _ (List.Sublist.cons _ (List.Sublist.refl _)), (List.reverse_perm _).symm.trans (List.Perm.of_eq ?_)⟩⟩⟩
        dsimp only
        rw [WkO_eq, FoS_eq, ItM_eq, ItB, List.length_append, List.length_append, List.length_singleton, List.length_singleton, List.flatMap_append (xs := fo), List.flatMap_singleton, FnC_eq]
        rfl
      · refine ⟨by simp only [roomy]; omega, fun τ2 => ⟨⟨(i + 1, fo ++ [fn0], it ++ [⟨s, [], ⟨0, 0⟩, [], ⟨0, 0⟩, 1, 0, 0, 0, 0, pe⟩], τ2, b2, k2, e), by dsimp only; omega, by simp; omega, by simp; omega, by dsimp only; omega, nm_snoc h5 (by first | exact hr | simp [fn0])⟩, by dsimp only; omega, Ents.sub (by simp [go_sem]) ⟨_, List.Sublist.cons_cons _ (List.Sublist.cons _ (List.Sublist.refl _)), (List.reverse_perm _).symm.trans (List.Perm.of_eq ?_)⟩⟩⟩
        dsimp only
        rw [WkO_eq, FoS_eq, ItM_eq, ItB, List.length_append, List.length_append, List.length_singleton, List.length_singleton, List.flatMap_append (xs := fo), List.flatMap_singleton, FnC_eq]
        rfl
    · have hie : i = w.c.ps.length := by simp only [decide_eq_false_iff_not] at hb; omega
      repeat' (first | (simp (disch := first | exact dd | fail) only [go_sem]) | (refine allI (fun b => ?_)) | (refine allT (fun τ => ?_)) | (refine brP (fun h => ?_) (fun h => ?_) <;> (try simp only [zgx, zbx] at h)) | (refine gd ?_) | fail)
      exact ⟨_, _, leVH.of (leV.refl _) ⟨_, List.Sublist.refl _, List.Perm.refl _⟩, e, fo, it, τ, bi, ci, ⟨by omega, by omega, by omega, h5⟩, rfl, rfl⟩
end Go.Proofs.YtkdblnejpmbnfaaGreat.F
namespace Go.Proofs.YtkdblnejpmbnfaaGreat.F
open Go Go.Lx
set_option linter.unusedSimpArgs false
set_option linter.unusedVariables false
set_option maxRecDepth 100000
set_option maxHeartbeats 16000000
theorem SI.fil {q : Nat} {s : Spc} (hs : SI q s) {fs : List Dv} (h : FI 16 (q + 2) fs) : SI (q + 2) ⟨fs, s.ms⟩ := by
  obtain ⟨ρ, r1, r2⟩ := hs.mi
  exact ⟨h, by have := hs.ml; dsimp only; omega, ρ, fun d => by have := r1 d; omega, r2⟩
theorem SI.up {q p : Nat} {s : Spc} (hs : SI q s) (h : q ≤ p) : SI p s := by
  obtain ⟨ρ, r1, r2⟩ := hs.mi
  exact ⟨hs.fi.mono (by omega) h, by have := hs.ml; omega, ρ, fun d => by have := r1 d; omega, r2⟩
def WH (b bi ci : Nat) (τ : Tok) (w : Wk) (fo : List Fnd) (it : List It) : Heap := [(36, .blk b (WkO w (FoS τ fo) (ItM bi ci it))), (43, ItB bi ci it)]
theorem WH_eq (b bi ci : Nat) (τ : Tok) (w : Wk) (fo : List Fnd) (it : List It) : WH b bi ci τ w fo it = [(36, .blk b [.sl 2 w.s.fs.length (w.s.fs.flatMap DvC), .sl 3 w.s.ms.length (w.s.ms.flatMap MoC), .int .i64 w.t.nx, .int .i64 w.t.ns, .sl 14 w.t.ps.length (w.t.ps.flatMap PsC),
  .int .i64 w.p.pid, .int .i64 w.p.ppid, .int .i64 w.p.uid, .int .i64 w.p.euid, .int .i64 w.p.gid, .int .i64 w.p.egid, .int .i64 w.p.auid, .int .i64 w.p.ses, .int .i64 w.p.cd, .int .i64 w.p.ci, .str w.p.comm, .str w.p.exe, DeS w.p.op, .bool w.p.au,
  .int .i64 w.c.n, .int .i64 w.c.a0, .int .i64 w.c.a1, .int .i64 w.c.a2, .int .i64 w.c.a3, .sl 1 w.c.ps.length (w.c.ps.map LV.str), .sl 1 w.c.xs.length (w.c.xs.map LV.str), .osl 111 τ 8 fo.length (fo.flatMap FnC), .int .i64 w.ex, .int .i64 w.ch, .int .i64 w.go, .msl 43 13 bi 0 it.length ci, .sl 7 w.cg.length (w.cg.flatMap ChC)]), (43, ItB bi ci it)] := Eq.trans rfl rfl
theorem create (w : Wk) (τ : Tok) (fo : List Fnd) (wb q bi ci j : Nat) (it : List It) (n : No) (hj : j < fo.length) (hji : j < it.length) (hl : fo.length ≤ 2 ∧ it.length ≤ 2) (hc : it.length ≤ ci) (hs : SI q w.s) (hq : q ≤ 890) (hnm : (fo.getD j fn0).nm.length ≤ 12) (ht : n.tg.length ≤ 1000) :
    LCalls Tryz.prog gl 128 [.ptr 36 wb 0, .int .i64 j, .agg (NoO n (.fsl 1 0 []))] (WH wb bi ci τ w fo it) fun r H => ∃ (e : Int) (fs : List Dv) (cg : List Ch) (it' : List It), (e = 0 → SI (q + 2) ⟨fs, w.s.ms⟩ ∧ cg.length = 1) ∧ it'.length = it.length ∧ r = .int .i64 e ∧ H = WH wb bi ci τ (filW e fs cg w) fo it' := by
  refine fn_viewT Tryz.func128 t128 Tryz.ntmps128 (by simp) ?_
  have hF := hs.fi
  have e1 := tFnD hj
  have e2 : (fo.flatMap FnC).getD (j * 8 + 2) .any = .str (fo.getD j fn0).nm := by rw [gFn hj (by omega)]; rfl
  have hlf := len_fn fo
  have c1 := make w.s.fs (fo.getD j fn0).dir (fo.getD j fn0).nm { n with uid := w.p.euid, gid := w.p.egid } q hF (by omega) (by omega) ht
  generalize fo.getD j fn0 = f at *
  unfold c128 r128
  rw [FiL_eq, AtL_eq] at c1
  unfold NoO at *
  rw [WH_eq]
  repeat' (first | (simp (disch := first | exact dd | fail) only [go_sem, e1, e2]) | (refine allI (fun b => ?_)) | (refine allT (fun τ => ?_)) | (refine brP (fun h => ?_) (fun h => ?_) <;> (try simp only [zgx, zbx] at h)) | (refine gd ?_) | fail)
  refine pureE_of c1 ?_
  rintro _ ⟨r, hr, rfl⟩
  rw [FRL_eq, FiL_eq, ChS]
  repeat' (first | (simp (disch := first | exact dd | fail) only [go_sem]) | (refine allI (fun b => ?_)) | (refine allT (fun τ => ?_)) | (refine brP (fun h => ?_) (fun h => ?_) <;> (try simp only [zgx, zbx] at h)) | (refine gd ?_) | fail)
  refine actsQ_of (files w (FoS τ fo) (ItM bi ci it) wb r.fs r.ch r.e) (pick_perm rfl (List.Perm.refl _)) ?_
  rintro _ _ ⟨rfl, rfl⟩
  by_cases he : r.e = 0
  · obtain ⟨h1, h2, h3⟩ := hr he
    obtain ⟨cc, hcc⟩ : ∃ cc, r.ch = [cc] := by
      rcases hx : r.ch with _ | ⟨cc, _ | ⟨c2, l⟩⟩
      · rw [hx] at h3; simp at h3
      · exact ⟨cc, rfl⟩
      · rw [hx] at h3; simp at h3
    have hS := hs.fil h1
    have hw : filW r.e r.fs r.ch w = { w with s := ⟨r.fs, w.s.ms⟩, cg := r.ch } := by rw [filW, if_pos he]
    rw [hw]
    rw [WkO_eq]
    have hm := fun x => made { w with s := ⟨r.fs, w.s.ms⟩, cg := r.ch } (FoS τ fo) wb (q + 2) bi ci it j x hji hl.2 hc hS (by omega)
    simp only [hcc, AtL_eq, List.flatMap_cons, List.flatMap_nil, List.append_nil, ChC_eq, List.length_cons, List.length_nil, List.cons_append, List.nil_append] at hm ⊢
    repeat' (first | (simp (disch := first | exact dd | fail) only [go_sem, he, FoS_eq, ItM_eq]) | (refine allI (fun b => ?_)) | (refine allT (fun τ => ?_)) | (refine brP (fun h => ?_) (fun h => ?_) <;> (try simp only [zgx, zbx] at h)) | (refine gd ?_) | fail)
    refine actsQ_U (hm cc.nw) (pick_perm rfl (pick_perm rfl (List.Perm.refl _))) ?_
    rintro _ _ ⟨it', hit, rfl⟩
    simp only [List.cons_append, List.nil_append]
    repeat' (first | (simp (disch := first | exact dd | fail) only [go_sem]) | (refine allI (fun b => ?_)) | (refine allT (fun τ => ?_)) | (refine brP (fun h => ?_) (fun h => ?_) <;> (try simp only [zgx, zbx] at h)) | (refine gd ?_) | fail)
    refine ⟨_, _, leVH.of (leV.refl _) ⟨_, List.Sublist.cons_cons _ (List.Sublist.cons_cons _ (List.nil_sublist _)), List.Perm.refl _⟩, 0, r.fs, [cc], it', fun _ => ⟨hS, rfl⟩, hit, rfl, ?_⟩
    rw [filW, if_pos rfl]
    rfl
  · have hw : filW r.e r.fs r.ch w = w := by rw [filW, if_neg he]
    have hz : (r.e == 0) = false := by simpa using he
    rw [hw]
    repeat' (first | (simp (disch := first | exact dd | fail) only [go_sem, hz]) | (refine allI (fun b => ?_)) | (refine allT (fun τ => ?_)) | (refine brP (fun h => ?_) (fun h => ?_) <;> (try simp only [zgx, zbx] at h)) | (refine gd ?_) | fail)
    refine ⟨_, _, leVH.of (leV.refl _) ⟨_, List.Sublist.cons_cons _ (List.Sublist.cons _ (List.Sublist.cons_cons _ (List.nil_sublist _))), List.Perm.refl _⟩, r.e, r.fs, r.ch, it, fun h => absurd h he, rfl, rfl, ?_⟩
    rw [filW, if_neg he]
    rfl
end Go.Proofs.YtkdblnejpmbnfaaGreat.F
namespace Go.Proofs.YtkdblnejpmbnfaaGreat.F
open Go Go.Lx
set_option linter.unusedSimpArgs false
set_option linter.unusedVariables false
set_option maxRecDepth 100000
set_option maxHeartbeats 16000000
def OpR (wb bi ci : Nat) (τ : Tok) (fo : List Fnd) (it : List It) (q : Nat) (r : LV) (H : Heap) : Prop := ∃ (e : Int) (w' : Wk) (it' : List It), (e = 0 → SI (q + 2) w'.s ∧ VW w'.t) ∧ it'.length = it.length ∧ r = .int .i64 e ∧ H = WH wb bi ci τ w' fo it'
theorem opE {wb bi ci q : Nat} {τ : Tok} {fo : List Fnd} {it : List It} {H : Heap} {e : Int} (w' : Wk) (it' : List It) (hs : (WH wb bi ci τ w' fo it').Sublist H) (h : e = 0 → SI (q + 2) w'.s ∧ VW w'.t) (hl : it'.length = it.length) : ∃ r' H', leVH gl (.int .i64 e) H r' H' ∧ OpR wb bi ci τ fo it q r' H' :=
  ⟨_, _, leVH.of (leV.refl _) ⟨_, hs, List.Perm.refl _⟩, e, w', it', h, hl, rfl, rfl⟩
structure WOk (q : Nat) (w : Wk) (fo : List Fnd) (it : List It) (ci : Nat) : Prop where
  s : SI q w.s
  t : VW w.t
  k : CkOk w.c
  a : CaOk w.c
  l : LkOk w fo it ci
theorem tFn0 {fo : List Fnd} (h : 0 < fo.length) : (fo.flatMap FnC).take 8 = FnC (fo.getD 0 fn0) := by
  have := tFn h
  simpa using this
theorem tFn1 {fo : List Fnd} (h : 1 < fo.length) : ((fo.flatMap FnC).drop 8).take 8 = FnC (fo.getD 1 fn0) := by
  have := tFn h
  simpa using this
theorem getD_fo {l : List Fnd} {j : Nat} (h : ∀ f ∈ l, f.nm.length ≤ 12) : (l.getD j fn0).nm.length ≤ 12 := by
  by_cases hj : j < l.length
  · exact h _ (getD_memA fn0 hj)
  · rw [List.getD_eq_getElem?_getD, List.getElem?_eq_none (by omega)]
    simp [fn0]
theorem fil_cases (e : Int) (fs : List Dv) (cg : List Ch) (w : Wk) : (e = 0 ∧ filW e fs cg w = { w with s := ⟨fs, w.s.ms⟩, cg := cg }) ∨ (e ≠ 0 ∧ filW e fs cg w = w) := by
  unfold filW
  split
  · exact .inl ⟨by assumption, rfl⟩
  · exact .inr ⟨by assumption, rfl⟩
theorem it1 {l : List It} (h : l.length = 1) : ∃ y, l = [y] := by
  rcases l with _ | ⟨y, _ | ⟨z, l⟩⟩
  · simp at h
  · exact ⟨y, rfl⟩
  · simp at h
theorem it2 {l : List It} (h : l.length = 2) : ∃ y z, l = [y, z] := by
  rcases l with _ | ⟨y, _ | ⟨z, _ | ⟨x, l⟩⟩⟩
  · simp at h
  · simp at h
  · exact ⟨y, z, rfl⟩
  · simp at h
theorem pick_ca (c a : Bool) : pickQ (.bool c) (.bool a) .any = (c = true, .bool a) := by simp [pickQ, LV.v, LV.g]
theorem pick_ac (c b : Bool) : pickQ (.bool c) .any (.bool b) = (c = false, .bool b) := by simp [pickQ, LV.v, LV.g]
theorem callG_L {P : Program} {gl : Glob} {g : Bool} {f : Nat} {args : List LV} {H : Heap} {K : LV → Heap → Prop} (h1 : g = true → LCalls P gl f args H K) (h2 : g = false → K .any H) : callG P gl g f args H K := .inr ⟨h1, h2⟩
theorem link_ (w : Wk) (τ : Tok) (fo : List Fnd) (wb q bi ci : Nat) (it : List It) (h1 : fo.length = 2) (ho : WOk q w fo it ci) (hq : q ≤ 880) : LCalls Tryz.prog gl 103 [.ptr 36 wb 0] (WH wb bi ci τ w fo it) (OpR wb bi ci τ fo it q) := by
  refine fn_viewT Tryz.func103 t103 Tryz.ntmps103 (by simp) ?_
  obtain ⟨hs, hv, hk, ha, hl⟩ := ho
  have l1 := hl.lf
  have l2 := hl.li
  have l3 := hl.lc
  have hlf := len_fn fo
  have e1 := tFn0 (fo := fo) (by omega)
  have e2 := tFn1 (fo := fo) (by omega)
  have cd := wdir w τ fo (ItM bi ci it) wb q 0 (by omega) (by omega) hs (by omega)
  have cm := fun d i n => may w (FoS τ fo) (ItM bi ci it) wb q ⟨d, i⟩ n hs (by omega)
  have hnm := getD_fo (j := 1) hl.ln
  have hm := fun (W : Wk) x hS => made W (FoS τ fo) wb (q + 2) bi ci it 1 x (by omega) (by omega) (by omega) hS (by omega)
  generalize fo.getD 0 fn0 = f at *
  generalize fo.getD 1 fn0 = g at *
  have cl := link w.s.fs g.dir g.nm f.file q hs.fi (by omega) (by omega)
  rw [FnC_eq] at e1 e2
  unfold c103 r103
  rw [FiL_eq, AtL_eq, AtL_eq] at cl
  rw [WH_eq]
  repeat' (first | (simp (disch := first | exact dd | fail) only [go_sem, e1, e2]) | (refine allI (fun b => ?_)) | (refine allT (fun τ => ?_)) | (refine brP (fun h => ?_) (fun h => ?_) <;> (try simp only [zgx, zbx] at h)) | (refine actsQ_U cd (pick_perm rfl (List.Perm.refl _)) ?_; rintro _ _ ⟨rfl, rfl⟩; simp only [WkO_eq, FoS_eq, ItM_eq, List.cons_append, List.nil_append]) | (refine actsQ_T cd (pick_perm rfl (List.Perm.refl _)) ?_; rintro _ _ ⟨rfl, rfl⟩; simp only [WkO_eq, FoS_eq, ItM_eq, List.cons_append, List.nil_append]) | (refine actsQ_of cd (pick_perm rfl (List.Perm.refl _)) ?_; rintro _ _ ⟨rfl, rfl⟩; simp only [WkO_eq, FoS_eq, ItM_eq, List.cons_append, List.nil_append]) | (refine actsQ_U (cm _ _ _) (pick_perm rfl (List.Perm.refl _)) ?_; rintro _ _ ⟨⟨v, rfl⟩, rfl⟩; simp only [WkO_eq, FoS_eq, ItM_eq, List.cons_append, List.nil_append]) | (refine actsQ_T (cm _ _ _) (pick_perm rfl (List.Perm.refl _)) ?_; rintro _ _ ⟨⟨v, rfl⟩, rfl⟩; simp only [WkO_eq, FoS_eq, ItM_eq, List.cons_append, List.nil_append]) | (refine actsQ_of (cm _ _ _) (pick_perm rfl (List.Perm.refl _)) ?_; rintro _ _ ⟨⟨v, rfl⟩, rfl⟩; simp only [WkO_eq, FoS_eq, ItM_eq, List.cons_append, List.nil_append]) | (refine pureE_of cl ?_; rintro _ ⟨r, hr, rfl⟩; rw [FRL_eq, FiL_eq, ChS]) | (refine actsQ_U (files w (FoS τ fo) (ItM bi ci it) wb r.fs r.ch r.e) (pick_perm rfl (List.Perm.refl _)) ?_; rintro _ _ ⟨rfl, rfl⟩; rcases fil_cases r.e r.fs r.ch w with ⟨he, hw⟩ | ⟨he, hw⟩ <;> rw [hw] <;> simp only [WkO_eq, FoS_eq, ItM_eq, List.cons_append, List.nil_append]) | (refine actsQ_T (files w (FoS τ fo) (ItM bi ci it) wb r.fs r.ch r.e) (pick_perm rfl (List.Perm.refl _)) ?_; rintro _ _ ⟨rfl, rfl⟩; rcases fil_cases r.e r.fs r.ch w with ⟨he, hw⟩ | ⟨he, hw⟩ <;> rw [hw] <;> simp only [WkO_eq, FoS_eq, ItM_eq, List.cons_append, List.nil_append]) | (refine actsQ_of (files w (FoS τ fo) (ItM bi ci it) wb r.fs r.ch r.e) (pick_perm rfl (List.Perm.refl _)) ?_; rintro _ _ ⟨rfl, rfl⟩; rcases fil_cases r.e r.fs r.ch w with ⟨he, hw⟩ | ⟨he, hw⟩ <;> rw [hw] <;> simp only [WkO_eq, FoS_eq, ItM_eq, List.cons_append, List.nil_append]) | (refine gd ?_) | fail)
  all_goals first
    | (refine opE w it ?_ (fun h => absurd h (by decide)) rfl; rw [WH]; (repeat (first | exact List.nil_sublist _ | apply List.Sublist.cons_cons | apply List.Sublist.cons)); done)
    | (refine opE w it ?_ (fun h => absurd h he) rfl; rw [WH]; (repeat (first | exact List.nil_sublist _ | apply List.Sublist.cons_cons | apply List.Sublist.cons)); done)
    | (exfalso; omega)
    | skip
  have hS := hs.fil (hr he).1
  refine actsQ_U (hm { w with s := ⟨r.fs, w.s.ms⟩, cg := r.ch } f.file hS) (pick_perm rfl (pick_perm rfl (List.Perm.refl _))) ?_
  rintro _ _ ⟨it', hit, rfl⟩
  simp only [List.cons_append, List.nil_append]
  repeat' (first | (simp (disch := first | exact dd | fail) only [go_sem]) | (refine allI (fun b => ?_)) | (refine allT (fun τ => ?_)) | (refine brP (fun h => ?_) (fun h => ?_) <;> (try simp only [zgx, zbx] at h)) | (refine gd ?_) | fail)
  (refine opE { w with s := ⟨r.fs, w.s.ms⟩, cg := r.ch } it' ?_ (fun _ => ⟨hS, hv⟩) hit; rw [WH]; (repeat (first | exact List.nil_sublist _ | apply List.Sublist.cons_cons | apply List.Sublist.cons)); done)
theorem rem_ (w : Wk) (τ : Tok) (fo : List Fnd) (wb q bi ci : Nat) (it : List It) (h1 : fo.length = 1) (ho : WOk q w fo it ci) (hq : q ≤ 880) : LCalls Tryz.prog gl 104 [.ptr 36 wb 0] (WH wb bi ci τ w fo it) (OpR wb bi ci τ fo it q) := by
  refine fn_viewT Tryz.func104 t104 Tryz.ntmps104 (by simp) ?_
  obtain ⟨hs, hv, hk, ha, hl⟩ := ho
  have l1 := hl.lf
  have l2 := hl.li
  have l3 := hl.lc
  obtain ⟨y, rfl⟩ := it1 (l := it) (by omega)
  have hF := hs.fi.ok (by omega) (by omega)
  have hlf := len_fn fo
  have e1 := tFn0 (fo := fo) (by omega)
  have cd := wdir w τ fo (ItM bi ci [y]) wb q 0 (by omega) (by omega) hs (by omega)
  have cm := fun d i n => may w (FoS τ fo) (ItM bi ci [y]) wb q ⟨d, i⟩ n hs (by omega)
  have cu := fun d i => used w (FoS τ fo) (ItM bi ci [y]) wb q ⟨d, i⟩ hs (by omega) hv
  have hnm := getD_fo (j := 0) hl.ln
  generalize fo.getD 0 fn0 = f at *
  have c1 := look w.s.fs f.dir f.nm hF
  have c2 := unlink w.s.fs f.dir f.nm q hs.fi (by omega) (by omega)
  have c3 := rmdir w.s.fs f.dir f.nm q hs.fi (by omega) (by omega)
  rw [FnC_eq] at e1
  unfold c104 r104
  rw [FiL_eq, AtL_eq] at c1 c2 c3
  rw [WH_eq]
  simp only [List.length_cons, List.length_nil] at *
  simp only [ItB, List.flatMap_cons, List.flatMap_nil, List.append_nil, ItC_eq, Sp, List.cons_append, List.nil_append, List.length_cons, List.length_nil]
  repeat' (first | (simp (disch := first | exact dd | fail) only [go_sem, e1, pick_ca, pick_ac, pick_000]) | (refine allI (fun b => ?_)) | (refine allT (fun τ => ?_)) | (refine brP (fun h => ?_) (fun h => ?_) <;> (try simp only [zgx, zbx] at h)) | (refine callG_LU (fun hg => ?_) (fun hg => ?_) <;> (try simp only [hg])) | (refine callG_L (fun hg => ?_) (fun hg => ?_) <;> (try simp only [hg])) | (refine actsQ_U cd (pick_perm rfl (List.Perm.refl _)) ?_; rintro _ _ ⟨rfl, rfl⟩; simp only [WkO_eq, FoS_eq, ItM_eq, List.cons_append, List.nil_append]) | (refine actsQ_T cd (pick_perm rfl (List.Perm.refl _)) ?_; rintro _ _ ⟨rfl, rfl⟩; simp only [WkO_eq, FoS_eq, ItM_eq, List.cons_append, List.nil_append]) | (refine actsQ_of cd (pick_perm rfl (List.Perm.refl _)) ?_; rintro _ _ ⟨rfl, rfl⟩; simp only [WkO_eq, FoS_eq, ItM_eq, List.cons_append, List.nil_append]) | (refine actsQ_U (cm _ _ _) (pick_perm rfl (List.Perm.refl _)) ?_; rintro _ _ ⟨⟨v, rfl⟩, rfl⟩; simp only [WkO_eq, FoS_eq, ItM_eq, List.cons_append, List.nil_append]) | (refine actsQ_T (cm _ _ _) (pick_perm rfl (List.Perm.refl _)) ?_; rintro _ _ ⟨⟨v, rfl⟩, rfl⟩; simp only [WkO_eq, FoS_eq, ItM_eq, List.cons_append, List.nil_append]) | (refine actsQ_of (cm _ _ _) (pick_perm rfl (List.Perm.refl _)) ?_; rintro _ _ ⟨⟨v, rfl⟩, rfl⟩; simp only [WkO_eq, FoS_eq, ItM_eq, List.cons_append, List.nil_append]) | (refine actsQ_U (cu _ _) (pick_perm rfl (List.Perm.refl _)) ?_; rintro _ _ ⟨⟨v, rfl⟩, rfl⟩; simp only [WkO_eq, FoS_eq, ItM_eq, List.cons_append, List.nil_append]) | (refine actsQ_T (cu _ _) (pick_perm rfl (List.Perm.refl _)) ?_; rintro _ _ ⟨⟨v, rfl⟩, rfl⟩; simp only [WkO_eq, FoS_eq, ItM_eq, List.cons_append, List.nil_append]) | (refine actsQ_of (cu _ _) (pick_perm rfl (List.Perm.refl _)) ?_; rintro _ _ ⟨⟨v, rfl⟩, rfl⟩; simp only [WkO_eq, FoS_eq, ItM_eq, List.cons_append, List.nil_append]) | (refine pureE_of c1 ?_; rintro _ ⟨o, ho, rfl⟩; rw [AtL_eq]) | (refine pureE_of c2 ?_; rintro _ ⟨r, hr, rfl⟩; rw [FRL_eq, FiL_eq, ChS]) | (refine pureE_of c3 ?_; rintro _ ⟨r, hr, rfl⟩; rw [FRL_eq, FiL_eq, ChS]) | (refine actsQ_U (files w (FoS τ fo) (ItM bi ci [y]) wb r.fs r.ch r.e) (pick_perm rfl (List.Perm.refl _)) ?_; rintro _ _ ⟨rfl, rfl⟩; rcases fil_cases r.e r.fs r.ch w with ⟨he, hw⟩ | ⟨he, hw⟩ <;> rw [hw] <;> simp only [WkO_eq, FoS_eq, ItM_eq, List.cons_append, List.nil_append]) | (refine actsQ_T (files w (FoS τ fo) (ItM bi ci [y]) wb r.fs r.ch r.e) (pick_perm rfl (List.Perm.refl _)) ?_; rintro _ _ ⟨rfl, rfl⟩; rcases fil_cases r.e r.fs r.ch w with ⟨he, hw⟩ | ⟨he, hw⟩ <;> rw [hw] <;> simp only [WkO_eq, FoS_eq, ItM_eq, List.cons_append, List.nil_append]) | (refine actsQ_of (files w (FoS τ fo) (ItM bi ci [y]) wb r.fs r.ch r.e) (pick_perm rfl (List.Perm.refl _)) ?_; rintro _ _ ⟨rfl, rfl⟩; rcases fil_cases r.e r.fs r.ch w with ⟨he, hw⟩ | ⟨he, hw⟩ <;> rw [hw] <;> simp only [WkO_eq, FoS_eq, ItM_eq, List.cons_append, List.nil_append]) | (refine gd ?_) | fail)
  all_goals first
    | (exfalso; omega)
    | (refine opE w [y] ?_ (fun h => absurd h (by decide)) rfl; rw [WH]; (repeat (first | exact List.nil_sublist _ | apply List.Sublist.cons_cons | apply List.Sublist.cons)); done)
    | (refine opE w [y] ?_ (fun h => absurd h he) rfl; rw [WH]; (repeat (first | exact List.nil_sublist _ | apply List.Sublist.cons_cons | apply List.Sublist.cons)); done)
    | (refine opE { w with s := ⟨r.fs, w.s.ms⟩, cg := r.ch } [{ y with ro := 3 }] ?_ (fun _ => ⟨hs.fil (hr he).1, hv⟩) rfl; rw [WH]; (repeat (first | exact List.nil_sublist _ | apply List.Sublist.cons_cons | apply List.Sublist.cons)); done)
    | (exfalso; omega)
    | trace_state
end Go.Proofs.YtkdblnejpmbnfaaGreat.F
namespace Go.Proofs.YtkdblnejpmbnfaaGreat.F
open Go Go.Lx
set_option linter.unusedSimpArgs false
set_option linter.unusedVariables false
set_option maxRecDepth 100000
set_option maxHeartbeats 16000000
theorem tab_cases (e : Int) (t : Tb) (w : Wk) : (e = 0 ∧ tabW e t w = { w with t := t }) ∨ (e ≠ 0 ∧ tabW e t w = w) := by
  unfold tabW
  split
  · exact .inl ⟨by assumption, rfl⟩
  · exact .inr ⟨by assumption, rfl⟩
theorem open_ (w : Wk) (τ : Tok) (fo : List Fnd) (wb q bi ci : Nat) (it : List It) (hn : w.c.n = 6) (ho : WOk q w fo it ci) (hq : q ≤ 880) : LCalls Tryz.prog gl 102 [.ptr 36 wb 0] (WH wb bi ci τ w fo it) (OpR wb bi ci τ fo it q) := by
  refine fn_viewT Tryz.func102 t102 Tryz.ntmps102 (by simp) ?_
  obtain ⟨hs, hv, hk, ha, hl⟩ := ho
  have hb := rowN_b (n := w.c.n) (by omega)
  have hb2 := (rowN_ok w.c.n).2.1
  have hps := hk.ps
  have l1 := hl.lf
  have l2 := hl.li
  have hlf := len_fn fo
  have hF := hs.fi.ok (by omega) (by omega)
  have e1 := tFn0 (fo := fo) (by omega)
  have hnm := getD_fo (j := 0) hl.ln
  have c1 := fun d i => node w.s.fs ⟨d, i⟩ hF
  have cm := fun d i n => may w (FoS τ fo) (ItM bi ci it) wb q ⟨d, i⟩ n hs (by omega)
  have cc := fun n ht => create w τ fo wb q bi ci 0 it n (by omega) (by omega) (by omega) hl.lc hs (by omega) hnm ht
  have co : ∀ pid d i fl, PureE Tryz.prog gl 45 [TbL w.t, .int .i64 pid, .agg [.int .i64 d, .int .i64 i], .int .i64 fl] fun v => ∃ (T : Tb) (n e : Int), (e = 0 → VW T) ∧ v = .tup [TbL T, .int .i64 n, .int .i64 e] := fun pid d i fl => (rof w.t pid d i fl hv).mono fun _ _ h => ⟨h.2, _, _, _, fun h0 => hv.of h0, h.1⟩
  generalize fo.getD 0 fn0 = f at *
  rw [FnC_eq] at e1
  unfold c102 r102
  simp only [FiL_eq, AtL_eq, NoC_eq] at c1 cm
  rw [TbL_eq w.t] at co
  rw [WH_eq]
  repeat' (first | (simp (disch := first | exact dd | fail) only [go_sem, e1]) | (refine allI (fun b => ?_)) | (refine allT (fun τ => ?_)) | (refine brP (fun h => ?_) (fun h => ?_) <;> (try simp only [zgx, zbx] at h)) | refine call_U (c1 _ _) ?_ | refine callG_U (fun _ => c1 _ _) ?_ | refine call_T (c1 _ _) ?_ | refine callG_T (fun _ => c1 _ _) ?_ | refine call_N (c1 _ _) ?_ | refine call_of (c1 _ _) ?_ | refine callG_of (fun _ => c1 _ _) ?_ | (refine actsQ_U (cm _ _ _) (pick_perm rfl (List.Perm.refl _)) ?_; rintro _ _ ⟨⟨v, rfl⟩, rfl⟩; simp only [WkO_eq, FoS_eq, ItM_eq, List.cons_append, List.nil_append]) | (refine actsQ_T (cm _ _ _) (pick_perm rfl (List.Perm.refl _)) ?_; rintro _ _ ⟨⟨v, rfl⟩, rfl⟩; simp only [WkO_eq, FoS_eq, ItM_eq, List.cons_append, List.nil_append]) | (refine actsQ_of (cm _ _ _) (pick_perm rfl (List.Perm.refl _)) ?_; rintro _ _ ⟨⟨v, rfl⟩, rfl⟩; simp only [WkO_eq, FoS_eq, ItM_eq, List.cons_append, List.nil_append]) | (refine gd ?_) | fail)
  all_goals first
    | (refine opE w it ?_ (fun h => absurd h (by decide)) rfl; rw [WH]; (repeat (first | exact List.nil_sublist _ | apply List.Sublist.cons_cons | apply List.Sublist.cons)); done)
    | ((refine pureE_of (co _ _ _ _) ?_; rintro _ ⟨T, n, e, hT, rfl⟩; rw [TbL_eq]); (repeat' (first | (simp (disch := first | exact dd | fail) only [go_sem]) | (refine allI (fun b => ?_)) | (refine allT (fun τ => ?_)) | (refine brP (fun h => ?_) (fun h => ?_) <;> (try simp only [zgx, zbx] at h)) | (refine actsQ_U (table { w with ex := n } (FoS τ fo) (ItM bi ci it) wb T e) (pick_perm rfl (List.Perm.refl _)) ?_; rintro _ _ ⟨rfl, rfl⟩; rcases tab_cases e T { w with ex := n } with ⟨he, hw⟩ | ⟨he, hw⟩ <;> rw [hw] <;> simp only [WkO_eq, FoS_eq, ItM_eq, List.cons_append, List.nil_append]) | (refine actsQ_T (table { w with ex := n } (FoS τ fo) (ItM bi ci it) wb T e) (pick_perm rfl (List.Perm.refl _)) ?_; rintro _ _ ⟨rfl, rfl⟩; rcases tab_cases e T { w with ex := n } with ⟨he, hw⟩ | ⟨he, hw⟩ <;> rw [hw] <;> simp only [WkO_eq, FoS_eq, ItM_eq, List.cons_append, List.nil_append]) | (refine actsQ_of (table { w with ex := n } (FoS τ fo) (ItM bi ci it) wb T e) (pick_perm rfl (List.Perm.refl _)) ?_; rintro _ _ ⟨rfl, rfl⟩; rcases tab_cases e T { w with ex := n } with ⟨he, hw⟩ | ⟨he, hw⟩ <;> rw [hw] <;> simp only [WkO_eq, FoS_eq, ItM_eq, List.cons_append, List.nil_append]) | (refine gd ?_) | fail)); all_goals first | (refine opE { w with ex := n, t := T } it ?_ (fun _ => ⟨hs.up (by omega), hT he⟩) rfl; rw [WH]; (repeat (first | exact List.nil_sublist _ | apply List.Sublist.cons_cons | apply List.Sublist.cons)); done) | (refine opE { w with ex := n } it ?_ (fun h => absurd h he) rfl; rw [WH]; (repeat (first | exact List.nil_sublist _ | apply List.Sublist.cons_cons | apply List.Sublist.cons)); done))
    | skip
  refine actsQ_U (cc ⟨0, 1, w.c.a1, 0, 0, 0, [], []⟩ (by simp)) (pick_perm rfl (pick_perm rfl (List.Perm.refl _))) ?_
  rintro _ _ ⟨e', fs', cg', it', hcr, hit, rfl, rfl⟩
  by_cases he : e' = 0
  · obtain ⟨hS, hcg⟩ := hcr he
    obtain ⟨ch, rfl⟩ : ∃ ch, cg' = [ch] := by
      rcases cg' with _ | ⟨ch, _ | ⟨c2, l⟩⟩
      · simp at hcg
      · exact ⟨ch, rfl⟩
      · simp at hcg
    rw [filW, if_pos he, WH_eq]
    simp only [List.flatMap_cons, List.flatMap_nil, List.append_nil, ChC_eq, List.length_cons, List.length_nil, List.cons_append, List.nil_append]
    repeat' (first | (simp (disch := first | exact dd | fail) only [go_sem, he]) | (refine allI (fun b => ?_)) | (refine allT (fun τ => ?_)) | (refine brP (fun h => ?_) (fun h => ?_) <;> (try simp only [zgx, zbx] at h)) | (refine pureE_of (co _ _ _ _) ?_; rintro _ ⟨T, n, e, hT, rfl⟩; rw [TbL_eq]) | (refine actsQ_U (table { w with s := ⟨fs', w.s.ms⟩, cg := [ch], ex := n } (FoS τ fo) (ItM bi ci it') wb T e) (pick_perm rfl (List.Perm.refl _)) ?_; rintro _ _ ⟨rfl, rfl⟩; rcases tab_cases e T { w with s := ⟨fs', w.s.ms⟩, cg := [ch], ex := n } with ⟨he, hw⟩ | ⟨he, hw⟩ <;> rw [hw] <;> simp only [WkO_eq, FoS_eq, ItM_eq, List.cons_append, List.nil_append]) | (refine actsQ_T (table { w with s := ⟨fs', w.s.ms⟩, cg := [ch], ex := n } (FoS τ fo) (ItM bi ci it') wb T e) (pick_perm rfl (List.Perm.refl _)) ?_; rintro _ _ ⟨rfl, rfl⟩; rcases tab_cases e T { w with s := ⟨fs', w.s.ms⟩, cg := [ch], ex := n } with ⟨he, hw⟩ | ⟨he, hw⟩ <;> rw [hw] <;> simp only [WkO_eq, FoS_eq, ItM_eq, List.cons_append, List.nil_append]) | (refine actsQ_of (table { w with s := ⟨fs', w.s.ms⟩, cg := [ch], ex := n } (FoS τ fo) (ItM bi ci it') wb T e) (pick_perm rfl (List.Perm.refl _)) ?_; rintro _ _ ⟨rfl, rfl⟩; rcases tab_cases e T { w with s := ⟨fs', w.s.ms⟩, cg := [ch], ex := n } with ⟨he, hw⟩ | ⟨he, hw⟩ <;> rw [hw] <;> simp only [WkO_eq, FoS_eq, ItM_eq, List.cons_append, List.nil_append]) | (refine gd ?_) | fail)
    all_goals first
      | (refine opE { w with s := ⟨fs', w.s.ms⟩, cg := [ch], ex := n, t := T } it' ?_ (fun _ => ⟨hS, hT he⟩) hit; rw [WH]; (repeat (first | exact List.nil_sublist _ | apply List.Sublist.cons_cons | apply List.Sublist.cons)); done)
      | (refine opE { w with s := ⟨fs', w.s.ms⟩, cg := [ch], ex := n } it' ?_ (fun h => absurd h he) hit; rw [WH]; (repeat (first | exact List.nil_sublist _ | apply List.Sublist.cons_cons | apply List.Sublist.cons)); done)
      | trace_state
  · have hz : (e' != 0) = true := by simpa using he
    rw [filW, if_neg he, WH_eq]
    simp only [List.cons_append, List.nil_append]
    repeat' (first | (simp (disch := first | exact dd | fail) only [go_sem, hz]) | (refine allI (fun b => ?_)) | (refine allT (fun τ => ?_)) | (refine brP (fun h => ?_) (fun h => ?_) <;> (try simp only [zgx, zbx] at h)) | (refine gd ?_) | fail)
    (refine opE w it' ?_ (fun h => absurd h he) hit; rw [WH]; (repeat (first | exact List.nil_sublist _ | apply List.Sublist.cons_cons | apply List.Sublist.cons)); done)
end Go.Proofs.YtkdblnejpmbnfaaGreat.F
