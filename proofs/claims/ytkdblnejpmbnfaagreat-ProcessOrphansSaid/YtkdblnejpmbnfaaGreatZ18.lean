/- kauditmake: a system. -/
import Derived.Test.YtkdblnejpmbnfaaGreatZ17
import Derived.Test.YtkdblnejpmbnfaaGreatZ15
import Derived.Test.YtkdblnejpmbnfaaGreatZ16
import Derived.Test.YtkdblnejpmbnfaaGreatZ12
import Derived.Test.YtkdblnejpmbnfaaGreatZ09
namespace Go.Proofs.YtkdblnejpmbnfaaGreat.F
open Go Go.Lx
set_option linter.unusedSimpArgs false
set_option linter.unusedVariables false
set_option maxRecDepth 100000
set_option maxHeartbeats 16000000
theorem system : Gen 7 [] 8000 fun r => ∃ (s : Spc) (t : Tb), (SI 40 s ∧ VW t) ∧ r = .agg (SyC s t) := by
  refine Gen.mk fun sb l a hl ha => ?_
  refine fn_viewT Tryz.func7 t7 Tryz.ntmps7 (by simp) ?_
  have hq := hl.2.2
  unfold c7 r7
  repeat' (first | (simp (disch := first | exact dd | fail) only [go_sem]) | (refine allI (fun b => ?_)) | (refine allT (fun τ => ?_)) | (refine brP (fun h => ?_) (fun h => ?_) <;> (try simp only [zgx, zbx] at h)) | (refine actsE_U (gn _ (by omega) 1000 _ _ _ (hl.at (by omega) (by omega)) (by omega)) rfl ?_; rintro _ _ ⟨_, _, ⟨_, _, rfl⟩, rfl⟩) | (refine actsE_T (gn _ (by omega) 1000 _ _ _ (hl.at (by omega) (by omega)) (by omega)) rfl ?_; rintro _ _ ⟨_, _, ⟨_, _, rfl⟩, rfl⟩) | (refine actsE_of (gn _ (by omega) 1000 _ _ _ (hl.at (by omega) (by omega)) (by omega)) rfl ?_; rintro _ _ ⟨_, _, ⟨_, _, rfl⟩, rfl⟩) | (refine actsE_U (gr _ _ (by omega) 1000 _ _ _ (hl.at (by omega) (by omega)) (by omega)) rfl ?_; rintro _ _ ⟨_, _, ⟨_, _, rfl⟩, rfl⟩) | (refine actsE_T (gr _ _ (by omega) 1000 _ _ _ (hl.at (by omega) (by omega)) (by omega)) rfl ?_; rintro _ _ ⟨_, _, ⟨_, _, rfl⟩, rfl⟩) | (refine actsE_of (gr _ _ (by omega) 1000 _ _ _ (hl.at (by omega) (by omega)) (by omega)) rfl ?_; rintro _ _ ⟨_, _, ⟨_, _, rfl⟩, rfl⟩) | (refine actsE_U (gp _ _ (by decide) (by rfl) (by rfl) 1000 _ _ _ (hl.at (by omega) (by omega)) (by omega)) rfl ?_; rintro _ _ ⟨_, _, ⟨_, _, rfl⟩, rfl⟩) | (refine actsE_T (gp _ _ (by decide) (by rfl) (by rfl) 1000 _ _ _ (hl.at (by omega) (by omega)) (by omega)) rfl ?_; rintro _ _ ⟨_, _, ⟨_, _, rfl⟩, rfl⟩) | (refine actsE_of (gp _ _ (by decide) (by rfl) (by rfl) 1000 _ _ _ (hl.at (by omega) (by omega)) (by omega)) rfl ?_; rintro _ _ ⟨_, _, ⟨_, _, rfl⟩, rfl⟩) | (refine actsE_U (gw 40 _ _ (by decide) (by rfl) (by rfl) 1000 _ _ _ (hl.at (by omega) (by omega)) (by omega)) rfl ?_; rintro _ _ ⟨_, _, ⟨_, _, rfl⟩, rfl⟩) | (refine actsE_T (gw 40 _ _ (by decide) (by rfl) (by rfl) 1000 _ _ _ (hl.at (by omega) (by omega)) (by omega)) rfl ?_; rintro _ _ ⟨_, _, ⟨_, _, rfl⟩, rfl⟩) | (refine actsE_of (gw 40 _ _ (by decide) (by rfl) (by rfl) 1000 _ _ _ (hl.at (by omega) (by omega)) (by omega)) rfl ?_; rintro _ _ ⟨_, _, ⟨_, _, rfl⟩, rfl⟩) | (apply And.intro; focus omega) | (refine callG_LU (fun hg => ?_) (fun hg => ?_) <;> (try simp only [hg])))
  rename_i a1 ha1 v hv
  obtain ⟨k, rfl⟩ : ∃ k : Nat, v = k := ⟨v.toNat, by omega⟩
  refine pureE_U (newy k (by omega)) ?_
  rintro _ ⟨s0, t0, ⟨hs0, hv0⟩, rfl⟩
  rw [SyC_eq]
  repeat' (first | (simp (disch := first | exact dd | fail) only [go_sem]) | (refine allI (fun b => ?_)) | (refine allT (fun τ => ?_)) | (refine brP (fun h => ?_) (fun h => ?_) <;> (try simp only [zgx, zbx] at h)) | (refine actsE_U (gn _ (by omega) 1000 _ _ _ (hl.at (by omega) (by omega)) (by omega)) rfl ?_; rintro _ _ ⟨_, _, ⟨_, _, rfl⟩, rfl⟩) | (refine actsE_T (gn _ (by omega) 1000 _ _ _ (hl.at (by omega) (by omega)) (by omega)) rfl ?_; rintro _ _ ⟨_, _, ⟨_, _, rfl⟩, rfl⟩) | (refine actsE_of (gn _ (by omega) 1000 _ _ _ (hl.at (by omega) (by omega)) (by omega)) rfl ?_; rintro _ _ ⟨_, _, ⟨_, _, rfl⟩, rfl⟩) | (refine actsE_U (gr _ _ (by omega) 1000 _ _ _ (hl.at (by omega) (by omega)) (by omega)) rfl ?_; rintro _ _ ⟨_, _, ⟨_, _, rfl⟩, rfl⟩) | (refine actsE_T (gr _ _ (by omega) 1000 _ _ _ (hl.at (by omega) (by omega)) (by omega)) rfl ?_; rintro _ _ ⟨_, _, ⟨_, _, rfl⟩, rfl⟩) | (refine actsE_of (gr _ _ (by omega) 1000 _ _ _ (hl.at (by omega) (by omega)) (by omega)) rfl ?_; rintro _ _ ⟨_, _, ⟨_, _, rfl⟩, rfl⟩) | (refine actsE_U (gp _ _ (by decide) (by rfl) (by rfl) 1000 _ _ _ (hl.at (by omega) (by omega)) (by omega)) rfl ?_; rintro _ _ ⟨_, _, ⟨_, _, rfl⟩, rfl⟩) | (refine actsE_T (gp _ _ (by decide) (by rfl) (by rfl) 1000 _ _ _ (hl.at (by omega) (by omega)) (by omega)) rfl ?_; rintro _ _ ⟨_, _, ⟨_, _, rfl⟩, rfl⟩) | (refine actsE_of (gp _ _ (by decide) (by rfl) (by rfl) 1000 _ _ _ (hl.at (by omega) (by omega)) (by omega)) rfl ?_; rintro _ _ ⟨_, _, ⟨_, _, rfl⟩, rfl⟩) | (refine actsE_U (gw 40 _ _ (by decide) (by rfl) (by rfl) 1000 _ _ _ (hl.at (by omega) (by omega)) (by omega)) rfl ?_; rintro _ _ ⟨_, _, ⟨_, _, rfl⟩, rfl⟩) | (refine actsE_T (gw 40 _ _ (by decide) (by rfl) (by rfl) 1000 _ _ _ (hl.at (by omega) (by omega)) (by omega)) rfl ?_; rintro _ _ ⟨_, _, ⟨_, _, rfl⟩, rfl⟩) | (refine actsE_of (gw 40 _ _ (by decide) (by rfl) (by rfl) 1000 _ _ _ (hl.at (by omega) (by omega)) (by omega)) rfl ?_; rintro _ _ ⟨_, _, ⟨_, _, rfl⟩, rfl⟩) | (apply And.intro; focus omega) | (refine callG_LU (fun hg => ?_) (fun hg => ?_) <;> (try simp only [hg])))
  rename_i a2 ha2 n hn
  refine loopI (ι := Int × Int × Spc × Tb) (fun y => (0 ≤ y.1 ∧ y.1 ≤ n) ∧ (a2 ≤ y.2.1 ∧ y.2.1 ≤ a2 + 510 * (n - y.1)) ∧ SI (2 * (n - y.1)).toNat y.2.2.1 ∧ VW y.2.2.2) (fun y => [(5, .int .i64 y.1), (3, .ptr 3 _ 0), (2, .ptr 2 _ 0), (0, .ptr 1000 sb 0)]) (fun y => [(3, .blk _ (SyC y.2.2.1 y.2.2.2)), (2, .blk _ [.fsl 1 0 [], .fsl 1 0 [], .int .i64 0, .int .i64 0, .fsl 1 0 []]), (1000, SB sb l y.2.1)]) (fun y => y.1.toNat) (n, a2, s0, t0) ⟨by dsimp only; omega, by dsimp only; omega, hs0.up (by omega), hv0⟩ Ents.same ?_
  rintro ⟨i, a3, s, t⟩ ⟨h1, h2, h3, h4⟩
  dsimp only at h1 h2 h3 h4 ⊢
  have cp := gpid t (by have := h4.len; omega) h4.len.1
  have cr := fun pid c hc => run s t pid c _ h3 h4 hc (by omega)
  rw [TbL_eq t] at cp
  rw [SyC_eq] at cr ⊢
  repeat' (first | (simp (disch := first | exact dd | fail) only [go_sem]) | (refine allI (fun b => ?_)) | (refine allT (fun τ => ?_)) | (refine brP (fun h => ?_) (fun h => ?_) <;> (try simp only [zgx, zbx] at h)) | (refine actsE_U (gn _ (by omega) 1000 _ _ _ (hl.at (by omega) (by omega)) (by omega)) rfl ?_; rintro _ _ ⟨_, _, ⟨_, _, rfl⟩, rfl⟩) | (refine actsE_T (gn _ (by omega) 1000 _ _ _ (hl.at (by omega) (by omega)) (by omega)) rfl ?_; rintro _ _ ⟨_, _, ⟨_, _, rfl⟩, rfl⟩) | (refine actsE_of (gn _ (by omega) 1000 _ _ _ (hl.at (by omega) (by omega)) (by omega)) rfl ?_; rintro _ _ ⟨_, _, ⟨_, _, rfl⟩, rfl⟩) | (refine actsE_U (gr _ _ (by omega) 1000 _ _ _ (hl.at (by omega) (by omega)) (by omega)) rfl ?_; rintro _ _ ⟨_, _, ⟨_, _, rfl⟩, rfl⟩) | (refine actsE_T (gr _ _ (by omega) 1000 _ _ _ (hl.at (by omega) (by omega)) (by omega)) rfl ?_; rintro _ _ ⟨_, _, ⟨_, _, rfl⟩, rfl⟩) | (refine actsE_of (gr _ _ (by omega) 1000 _ _ _ (hl.at (by omega) (by omega)) (by omega)) rfl ?_; rintro _ _ ⟨_, _, ⟨_, _, rfl⟩, rfl⟩) | (refine actsE_U (gp _ _ (by decide) (by rfl) (by rfl) 1000 _ _ _ (hl.at (by omega) (by omega)) (by omega)) rfl ?_; rintro _ _ ⟨_, _, ⟨_, _, rfl⟩, rfl⟩) | (refine actsE_T (gp _ _ (by decide) (by rfl) (by rfl) 1000 _ _ _ (hl.at (by omega) (by omega)) (by omega)) rfl ?_; rintro _ _ ⟨_, _, ⟨_, _, rfl⟩, rfl⟩) | (refine actsE_of (gp _ _ (by decide) (by rfl) (by rfl) 1000 _ _ _ (hl.at (by omega) (by omega)) (by omega)) rfl ?_; rintro _ _ ⟨_, _, ⟨_, _, rfl⟩, rfl⟩) | (refine actsE_U (gw 40 _ _ (by decide) (by rfl) (by rfl) 1000 _ _ _ (hl.at (by omega) (by omega)) (by omega)) rfl ?_; rintro _ _ ⟨_, _, ⟨_, _, rfl⟩, rfl⟩) | (refine actsE_T (gw 40 _ _ (by decide) (by rfl) (by rfl) 1000 _ _ _ (hl.at (by omega) (by omega)) (by omega)) rfl ?_; rintro _ _ ⟨_, _, ⟨_, _, rfl⟩, rfl⟩) | (refine actsE_of (gw 40 _ _ (by decide) (by rfl) (by rfl) 1000 _ _ _ (hl.at (by omega) (by omega)) (by omega)) rfl ?_; rintro _ _ ⟨_, _, ⟨_, _, rfl⟩, rfl⟩) | (refine actsE_U (cp 1000 _ _ _ (hl.at (by omega) (by omega)) (by omega)) rfl ?_; rintro _ _ ⟨_, _, ⟨_, _, rfl⟩, rfl⟩) | (refine actsE_T (cp 1000 _ _ _ (hl.at (by omega) (by omega)) (by omega)) rfl ?_; rintro _ _ ⟨_, _, ⟨_, _, rfl⟩, rfl⟩) | (refine actsE_of (cp 1000 _ _ _ (hl.at (by omega) (by omega)) (by omega)) rfl ?_; rintro _ _ ⟨_, _, ⟨_, _, rfl⟩, rfl⟩) | (refine actsE_U (call 1000 _ _ _ (hl.at (by omega) (by omega)) (by omega)) rfl ?_; rintro _ _ ⟨_, _, ⟨_, _, rfl⟩, rfl⟩) | (refine actsE_T (call 1000 _ _ _ (hl.at (by omega) (by omega)) (by omega)) rfl ?_; rintro _ _ ⟨_, _, ⟨_, _, rfl⟩, rfl⟩) | (refine actsE_of (call 1000 _ _ _ (hl.at (by omega) (by omega)) (by omega)) rfl ?_; rintro _ _ ⟨_, _, ⟨_, _, rfl⟩, rfl⟩) | (apply And.intro; focus omega) | (refine callG_LU (fun hg => ?_) (fun hg => ?_) <;> (try simp only [hg])))
  · rename_i a5 ha5 c5 hc5
    refine pureE_of (cr _ c5 hc5) ?_
    rintro _ ⟨s', t', ⟨hs', hv'⟩, rfl⟩
    rw [SyC_eq]
    repeat' (first | (simp (disch := first | exact dd | fail) only [go_sem]) | (refine allI (fun b => ?_)) | (refine allT (fun τ => ?_)) | (refine brP (fun h => ?_) (fun h => ?_) <;> (try simp only [zgx, zbx] at h)) | (refine actsE_U (gn _ (by omega) 1000 _ _ _ (hl.at (by omega) (by omega)) (by omega)) rfl ?_; rintro _ _ ⟨_, _, ⟨_, _, rfl⟩, rfl⟩) | (refine actsE_T (gn _ (by omega) 1000 _ _ _ (hl.at (by omega) (by omega)) (by omega)) rfl ?_; rintro _ _ ⟨_, _, ⟨_, _, rfl⟩, rfl⟩) | (refine actsE_of (gn _ (by omega) 1000 _ _ _ (hl.at (by omega) (by omega)) (by omega)) rfl ?_; rintro _ _ ⟨_, _, ⟨_, _, rfl⟩, rfl⟩) | (refine actsE_U (gr _ _ (by omega) 1000 _ _ _ (hl.at (by omega) (by omega)) (by omega)) rfl ?_; rintro _ _ ⟨_, _, ⟨_, _, rfl⟩, rfl⟩) | (refine actsE_T (gr _ _ (by omega) 1000 _ _ _ (hl.at (by omega) (by omega)) (by omega)) rfl ?_; rintro _ _ ⟨_, _, ⟨_, _, rfl⟩, rfl⟩) | (refine actsE_of (gr _ _ (by omega) 1000 _ _ _ (hl.at (by omega) (by omega)) (by omega)) rfl ?_; rintro _ _ ⟨_, _, ⟨_, _, rfl⟩, rfl⟩) | (refine actsE_U (gp _ _ (by decide) (by rfl) (by rfl) 1000 _ _ _ (hl.at (by omega) (by omega)) (by omega)) rfl ?_; rintro _ _ ⟨_, _, ⟨_, _, rfl⟩, rfl⟩) | (refine actsE_T (gp _ _ (by decide) (by rfl) (by rfl) 1000 _ _ _ (hl.at (by omega) (by omega)) (by omega)) rfl ?_; rintro _ _ ⟨_, _, ⟨_, _, rfl⟩, rfl⟩) | (refine actsE_of (gp _ _ (by decide) (by rfl) (by rfl) 1000 _ _ _ (hl.at (by omega) (by omega)) (by omega)) rfl ?_; rintro _ _ ⟨_, _, ⟨_, _, rfl⟩, rfl⟩) | (refine actsE_U (gw 40 _ _ (by decide) (by rfl) (by rfl) 1000 _ _ _ (hl.at (by omega) (by omega)) (by omega)) rfl ?_; rintro _ _ ⟨_, _, ⟨_, _, rfl⟩, rfl⟩) | (refine actsE_T (gw 40 _ _ (by decide) (by rfl) (by rfl) 1000 _ _ _ (hl.at (by omega) (by omega)) (by omega)) rfl ?_; rintro _ _ ⟨_, _, ⟨_, _, rfl⟩, rfl⟩) | (refine actsE_of (gw 40 _ _ (by decide) (by rfl) (by rfl) 1000 _ _ _ (hl.at (by omega) (by omega)) (by omega)) rfl ?_; rintro _ _ ⟨_, _, ⟨_, _, rfl⟩, rfl⟩) | (apply And.intro; focus omega) | (refine callG_LU (fun hg => ?_) (fun hg => ?_) <;> (try simp only [hg])))
    exact ⟨⟨(i - 1, a5, s', t'), by dsimp only; omega, by dsimp only; omega, hs'.up (by omega), hv'⟩, by dsimp only; omega, Ents.envH (by simp [go_sem]) rfl⟩
  · (apply gend (leV.refl _); (focus (repeat (first | exact List.Sublist.refl _ | apply List.Sublist.cons))); (focus omega); exact ⟨s, t, ⟨h3.up (by omega), h4⟩, rfl⟩)
end Go.Proofs.YtkdblnejpmbnfaaGreat.F
namespace Go.Proofs.YtkdblnejpmbnfaaGreat
open Go Go.Lx
set_option linter.unusedSimpArgs false
set_option linter.unusedVariables false
set_option maxRecDepth 100000
set_option maxHeartbeats 8000000
theorem samepW (p : Ps) (hp : p.op.length ≤ 1000000) : Pure Tryz.prog gl 12 [.agg (PsC p), .agg (PsC p)] (.bool true) := by
  refine fn_pureT Tryz.func12 t12 Tryz.ntmps12 (by simp) ?_
  have hle := len_de p.op
  unfold c12 r12
  rw [PsC_eq, DeS_eq]
  repeat' (first | (simp (disch := first | exact dd | fail) only [go_sem]) | (refine allI (fun b => ?_)) | (refine allT (fun τ => ?_)) | (refine brP (fun h => ?_) (fun h => ?_) <;> (try simp only [zgx, zbx] at h)) | (refine gd ?_) | fail)
  refine loopI (ι := Nat) (fun k => k ≤ p.op.length) (fun k => (5, .int .i64 k) :: _) (fun _ => _) (fun k => p.op.length - k) 0 (by omega) Ents.same ?_
  intro k hk
  simp (disch := first | exact dd | fail) only [go_sem]
  refine brP (fun hb => ?_) (fun hb => ?_)
  · have hlt : k < p.op.length := by simpa using hb
    have e2 : ((p.op.flatMap DeC).drop (k * 4)).take 4 = DeC (p.op.getD k de0) := take_rows (f := DeC) (fun _ => rfl) de0 _ hlt
    generalize p.op.getD k de0 = q at *
    rw [DeC_eq] at e2
    repeat' (first | (simp (disch := first | exact dd | fail) only [go_sem, e2]) | (refine allI (fun b => ?_)) | (refine allT (fun τ => ?_)) | (refine brP (fun h => ?_) (fun h => ?_) <;> (try simp only [zgx, zbx] at h)) | (refine gd ?_) | fail)
    exact ⟨⟨k + 1, by omega⟩, by dsimp only; omega, Ents.envH (by simp [go_sem]) rfl⟩
  · repeat' (first | (simp (disch := first | exact dd | fail) only [go_sem]) | (refine allI (fun b => ?_)) | (refine allT (fun τ => ?_)) | (refine brP (fun h => ?_) (fun h => ?_) <;> (try simp only [zgx, zbx] at h)) | (refine gd ?_) | fail)
end Go.Proofs.YtkdblnejpmbnfaaGreat
namespace Go.Proofs.YtkdblnejpmbnfaaGreat
open Go Go.Lx
set_option linter.unusedSimpArgs false
set_option linter.unusedVariables false
set_option maxRecDepth 100000
set_option maxHeartbeats 4000000
def ta : Tb := tnew 0 1
def tb : Tb := (fkR ta 1).2
def tc : Tb := (suR tb 2 5).2
theorem fk_ta : fkR ta 1 = (0, tb) := by rfl
theorem su_tb : suR tb 2 5 = (0, tc) := by rfl
theorem su_tc : suR tc 2 0 = (1, tb0) := by rfl
theorem get_tc : (getR tc 2).2 = true ∧ (getR tc 2).1.uid = 5 ∧ (getR tc 2).1.ppid = 1 := by refine ⟨rfl, rfl, rfl⟩
theorem ok_ta : okT ta := by
  refine ⟨by decide, fun p hp => ?_⟩
  simp only [ta, tnew, List.mem_singleton] at hp
  subst hp
  simp [p1]
theorem ok_tb : okT tb := by
  refine ⟨by decide, fun p hp => ?_⟩
  have : tb.ps = [p1 0 1, { p1 0 1 with pid := 2, ppid := 1 }] := rfl
  rw [this] at hp
  simp only [List.mem_cons, List.not_mem_nil, or_false] at hp
  rcases hp with rfl | rfl <;> simp [p1]
theorem ok_tc : okT tc := by
  refine ⟨by decide, fun p hp => ?_⟩
  have : tc.ps = [p1 0 1, { p1 0 1 with pid := 2, ppid := 1, uid := 5, euid := 5 }] := rfl
  rw [this] at hp
  simp only [List.mem_cons, List.not_mem_nil, or_false] at hp
  rcases hp with rfl | rfl <;> simp [p1]
theorem awake : Pure Tryz.prog gl 10 [] (.bool true) := by
  refine fn_pureT Tryz.func10 t10 Tryz.ntmps10 (by simp) ?_
  have h1 : Pure Tryz.prog gl 26 [.agg [.int .i64 0, .int .i64 1]] (TbL ta) := new9 0 1
  have h2 := fk ta 1 ok_ta (by decide)
  have h3 := su tb 2 5 ok_tb
  have h4 := su tc 2 0 ok_tc
  have h5 := get_ tc 2 ok_tc
  have n1 : ta.nx = 2 := rfl
  rw [fk_ta, n1] at h2
  rw [su_tb] at h3
  rw [su_tc] at h4
  obtain ⟨g1, g2, g3⟩ := get_tc
  rw [g1, PsC_eq, g2, g3] at h5
  simp only [if_true] at h2
  rw [TbL_eq, TbL_eq] at h2 h3
  rw [TbL_eq] at h1 h5
  rw [TbL_eq, TbL_eq] at h4
  generalize (getR tc 2).1 = q at *
  unfold c10 r10
  repeat' (first | (simp (disch := first | exact dd | fail) only [go_sem]) | (refine allI (fun b => ?_)) | (refine allT (fun τ => ?_)) | (refine brP (fun h => ?_) (fun h => ?_) <;> (try simp only [zgx, zbx] at h)) | refine call_U (h1) ?_ | refine callG_U (fun _ => h1) ?_ | refine call_T (h1) ?_ | refine callG_T (fun _ => h1) ?_ | refine call_U (h2) ?_ | refine callG_U (fun _ => h2) ?_ | refine call_T (h2) ?_ | refine callG_T (fun _ => h2) ?_ | refine call_U (h3) ?_ | refine callG_U (fun _ => h3) ?_ | refine call_T (h3) ?_ | refine callG_T (fun _ => h3) ?_ | refine call_U (h4) ?_ | refine callG_U (fun _ => h4) ?_ | refine call_T (h4) ?_ | refine callG_T (fun _ => h4) ?_ | refine call_U (h5) ?_ | refine callG_U (fun _ => h5) ?_ | refine call_T (h5) ?_ | refine callG_T (fun _ => h5) ?_ | refine call_N (h1) ?_ | refine call_of (h1) ?_ | refine callG_of (fun _ => h1) ?_ | refine call_N (h2) ?_ | refine call_of (h2) ?_ | refine callG_of (fun _ => h2) ?_ | refine call_N (h3) ?_ | refine call_of (h3) ?_ | refine callG_of (fun _ => h3) ?_ | refine call_N (h4) ?_ | refine call_of (h4) ?_ | refine callG_of (fun _ => h4) ?_ | refine call_N (h5) ?_ | refine call_of (h5) ?_ | refine callG_of (fun _ => h5) ?_ | (refine gd ?_) | fail)
end Go.Proofs.YtkdblnejpmbnfaaGreat
namespace Go.Proofs.YtkdblnejpmbnfaaGreat
open Go Go.Lx
set_option linter.unusedSimpArgs false
set_option linter.unusedVariables false
set_option maxRecDepth 100000
set_option maxHeartbeats 8000000
theorem rmT_at {t : Tb} {pid : Int} {k : Nat} (hk : k < t.ps.length) (hf : findI t pid = k) (j : Nat) (hj : j < t.ps.length - 1) : pAt (rmT t pid) j = orp pid (pAt t (if j < k then j else j + 1)) := by
  rw [rmT, if_neg (by omega), hf, Int.toNat_natCast]
  have h8 : j < (t.ps.eraseIdx k).length := by rw [List.length_eraseIdx, if_pos hk]; omega
  simp only [pAt, rmP, List.getD_eq_getElem?_getD, List.getElem?_map]
  rw [List.getElem?_eq_getElem h8, Option.map_some, Option.getD_some, List.getElem_eraseIdx]
  split
  · rw [List.getElem?_eq_getElem (by omega)]; rfl
  · rw [List.getElem?_eq_getElem (by omega)]; rfl
theorem rmT_len {t : Tb} {pid : Int} {k : Nat} (hk : k < t.ps.length) (hf : findI t pid = k) : (rmT t pid).ps.length = t.ps.length - 1 := by
  rw [rmT, if_neg (by omega), hf, Int.toNat_natCast]
  simp [rmP, List.length_eraseIdx, hk]
theorem orp_pid (pid : Int) (p : Ps) : (orp pid p).pid = p.pid := by unfold orp; split <;> rfl
/-- who is left when a process has ended -/
theorem rmT_get {t : Tb} (hv : VW t) {pid : Int} {k : Nat} (hk : k < t.ps.length) (hf : findI t pid = k) (hp : (pAt t k).pid = pid) (hv' : VW (rmT t pid)) (i : Nat) (hi : i < t.ps.length) : getR (rmT t pid) (pAt t i).pid = if i = k then (ps0, false) else (orp pid (pAt t i), true) := by
  have hL := rmT_len hk hf
  have hS := rmT_at hk hf
  generalize rmT t pid = U at *
  split
  · rename_i e
    subst e
    rw [getR, if_pos]
    rcases Int.lt_or_le (findI U (pAt t i).pid) 0 with h | h
    · exact h
    · obtain ⟨j, hj, _, hj3, _⟩ := findI_get h
      rw [hS j (by omega), orp_pid] at hj3
      have := hv.inj (i := if j < i then j else j + 1) (j := i) (by split <;> omega) hi hj3
      split at this <;> omega
  · rename_i e
    have hj : ∃ j, j < U.ps.length ∧ (if j < k then j else j + 1) = i := by
      rcases Nat.lt_or_ge i k with h | h
      · exact ⟨i, by omega, by rw [if_pos h]⟩
      · exact ⟨i - 1, by omega, by rw [if_neg (by omega)]; omega⟩
    obtain ⟨j, hj, he⟩ := hj
    have h1 := hS j (by omega)
    rw [he] at h1
    have h2 := hv'.find hj
    rw [h1, orp_pid] at h2
    rw [getR, if_neg (by omega), h2, Int.toNat_natCast, h1]
theorem orphansL (l : List Int) (hl : okS l 0) : Pure Tryz.prog gl 3 [Ms l] (.bool true) := by
  refine fn_pureT Tryz.func3 t3 Tryz.ntmps3 (by simp) ?_
  have hs := new_ l
  unfold Ms at hs ⊢
  unfold c3 r3
  repeat' (first | (simp (disch := first | exact dd | fail) only [go_sem]) | (refine allI (fun b => ?_)) | (refine allT (fun τ => ?_)) | (refine brP (fun h => ?_) (fun h => ?_) <;> (try simp only [zgx, zbx] at h)) | (refine gd ?_) | fail)
  first | refine newsE_U (hs) ?_ | refine newsE_T (hs) ?_ | refine newsE_of (hs) ?_
  rintro _ _ ⟨sb, rfl, rfl⟩
  repeat' (first | (simp (disch := first | exact dd | fail) only [go_sem]) | (refine allI (fun b => ?_)) | (refine allT (fun τ => ?_)) | (refine brP (fun h => ?_) (fun h => ?_) <;> (try simp only [zgx, zbx] at h)) | (refine gd ?_) | fail)
  first | refine actsE_U (F.system 3000 sb l 0 hl (by omega)) (by first | rfl | simp only [getH, if_true]) ?_ | refine actsE_T (F.system 3000 sb l 0 hl (by omega)) (by first | rfl | simp only [getH, if_true]) ?_ | refine actsE_N (F.system 3000 sb l 0 hl (by omega)) (by first | rfl | simp only [getH, if_true]) ?_ | refine actsE_of (F.system 3000 sb l 0 hl (by omega)) (by first | rfl | simp only [getH, if_true]) ?_
  rintro _ _ ⟨a1, ha1, ⟨s, t, ⟨-, hv⟩, rfl⟩, rfl⟩
  rw [F.SyC_eq]
  have hle := len_ps t.ps
  have hlen := hv.len
  repeat' (first | (simp (disch := first | exact dd | fail) only [go_sem]) | (refine allI (fun b => ?_)) | (refine allT (fun τ => ?_)) | (refine brP (fun h => ?_) (fun h => ?_) <;> (try simp only [zgx, zbx] at h)) | (refine gd ?_) | fail)
  have hpd := gpid t (by omega) (by omega) 3000 sb l a1 (hl.at (by omega) (by omega)) (by omega)
  rw [TbL_eq] at hpd
  first | refine actsE_U (hpd) (by first | rfl | simp only [getH, if_true]) ?_ | refine actsE_T (hpd) (by first | rfl | simp only [getH, if_true]) ?_ | refine actsE_N (hpd) (by first | rfl | simp only [getH, if_true]) ?_ | refine actsE_of (hpd) (by first | rfl | simp only [getH, if_true]) ?_
  rintro _ _ ⟨a2, ha2, ⟨pid, -, rfl⟩, rfl⟩
  have q1 := xt t pid hv.ok
  have hw := awake
  have hF := hv.first
  have hf1 : findI t 1 = 0 := by rw [← hF.1]; exact hv.find (by omega)
  rcases Int.lt_or_le (findI t pid) 0 with h0 | h0
  · have hx : xtR t pid = (3, tb0) := by rw [xtR, chR_no h0]
    have hne : pid ≠ 1 := fun e => by subst e; omega
    have d1 : (pid == 1) = false := by simpa using hne
    rw [hx, TbL_eq t, TbL_eq] at q1
    repeat' (first | (simp (disch := first | exact dd | fail) only [go_sem, d1]) | (refine allI (fun b => ?_)) | (refine allT (fun τ => ?_)) | (refine brP (fun h => ?_) (fun h => ?_) <;> (try simp only [zgx, zbx] at h)) | refine call_U (q1) ?_ | refine callG_U (fun _ => q1) ?_ | refine call_T (q1) ?_ | refine callG_T (fun _ => q1) ?_ | refine call_U (hw) ?_ | refine callG_U (fun _ => hw) ?_ | refine call_T (hw) ?_ | refine callG_T (fun _ => hw) ?_ | refine call_N (q1) ?_ | refine call_of (q1) ?_ | refine callG_of (fun _ => q1) ?_ | refine call_N (hw) ?_ | refine call_of (hw) ?_ | refine callG_of (fun _ => hw) ?_ | (refine gd ?_) | fail)
  · obtain ⟨k, hk, h4, h5, h6⟩ := hv.get1 h0
    by_cases h1 : pid = 1
    · have hx : xtR t pid = (1, tb0) := by rw [xtR, chR_yes h4, xtG, if_pos h1]; rfl
      have d1 : (pid == 1) = true := by simpa using h1
      rw [hx, TbL_eq t, TbL_eq] at q1
      repeat' (first | (simp (disch := first | exact dd | fail) only [go_sem, d1]) | (refine allI (fun b => ?_)) | (refine allT (fun τ => ?_)) | (refine brP (fun h => ?_) (fun h => ?_) <;> (try simp only [zgx, zbx] at h)) | refine call_U (q1) ?_ | refine callG_U (fun _ => q1) ?_ | refine call_T (q1) ?_ | refine callG_T (fun _ => q1) ?_ | refine call_U (hw) ?_ | refine callG_U (fun _ => hw) ?_ | refine call_T (hw) ?_ | refine callG_T (fun _ => hw) ?_ | refine call_N (q1) ?_ | refine call_of (q1) ?_ | refine callG_of (fun _ => q1) ?_ | refine call_N (hw) ?_ | refine call_of (hw) ?_ | refine callG_of (fun _ => hw) ?_ | (refine gd ?_) | fail)
    · have hx := xtR_eq h0 h1
      have hv' : VW (rmT t pid) := by
        have := (hv.xt (pid := pid) (by rw [hx])).1
        rwa [hx] at this
      have hg := rmT_get hv hk h4 h5 hv'
      have hL := rmT_len hk h4
      have hgt := fun n => rget (rmT t pid) n hv'.ok
      rw [hx] at q1
      dsimp only at q1
      generalize rmT t pid = U at *
      simp only [TbL_eq U] at hgt
      rw [TbL_eq t, TbL_eq U] at q1
      repeat' (first | (simp (disch := first | exact dd | fail) only [go_sem]) | (refine allI (fun b => ?_)) | (refine allT (fun τ => ?_)) | (refine brP (fun h => ?_) (fun h => ?_) <;> (try simp only [zgx, zbx] at h)) | refine call_U (q1) ?_ | refine callG_U (fun _ => q1) ?_ | refine call_T (q1) ?_ | refine callG_T (fun _ => q1) ?_ | refine call_N (q1) ?_ | refine call_of (q1) ?_ | refine callG_of (fun _ => q1) ?_ | (refine gd ?_) | fail)
      refine loopI (ι := Nat) (fun i => i ≤ t.ps.length) (fun i => (8, .int .i64 i) :: _) (fun _ => _) (fun i => t.ps.length - i) 0 (by omega) Ents.same ?_
      intro i hi
      simp (disch := first | exact dd | fail) only [go_sem]
      refine brP (fun hb => ?_) (fun hb => ?_)
      · have hlt : i < t.ps.length := by simpa using hb
        have e2 : ((t.ps.flatMap PsC).drop (i * 14)).take 14 = PsC (pAt t i) := take_rows (f := PsC) (w := 14) (fun _ => rfl) ps0 t.ps hlt
        have hg1 := hgt (pAt t i).pid
        rw [hg i hlt] at hg1
        have hop := (hv.all i hlt).op.len
        have hpp : i = k ∨ (pAt t i).pid ≠ pid := by
          rcases Nat.decEq i k with h | h
          · exact .inr fun e => h (hv.inj hlt hk (by omega))
          · exact .inl h
        have h5' : i = k → (pAt t i).pid = pid := fun e => by rw [e]; exact h5
        generalize pAt t i = p at *
        have hs1 := samepW p (by omega)
        have hs2 := samepW { p with ppid := 1 } (by dsimp only; omega)
        rw [PsC_eq] at e2 hs1 hs2
        by_cases hik : i = k
        · have h5' := h5' hik
          rw [if_pos hik] at hg1
          dsimp only at hg1
          rw [PsC_eq] at hg1
          have d2 : (p.pid != pid) = false := by simp [h5']
          repeat' (first | (simp (disch := first | exact dd | fail) only [go_sem, e2, d2, un_any, F.pick_ca, F.pick_ac, pick_0a0, pick_00a]) | (refine allI (fun b => ?_)) | (refine allT (fun τ => ?_)) | (refine brP (fun h => ?_) (fun h => ?_) <;> (try simp only [zgx, zbx] at h)) | refine call_U (hg1) ?_ | refine callG_U (fun _ => hg1) ?_ | refine call_T (hg1) ?_ | refine callG_T (fun _ => hg1) ?_ | refine call_N (hg1) ?_ | refine call_of (hg1) ?_ | refine callG_of (fun _ => hg1) ?_ | (refine callG_LU (fun hg => ?_) (fun hg => ?_) <;> (try simp only [hg])) | (refine callG_L (fun hg => ?_) (fun hg => ?_) <;> (try simp only [hg])) | (refine gd ?_) | fail)
          all_goals first
            | (exfalso; simp at hg; done)
            | exact ⟨⟨i + 1, by omega⟩, by dsimp only; omega, Ents.sub (by simp [go_sem]) ⟨_, List.Sublist.cons _ (List.Sublist.cons _ (List.Sublist.refl _)), List.Perm.refl _⟩⟩
        · rw [if_neg hik] at hg1
          dsimp only at hg1
          have d2 : (p.pid != pid) = true := by simp; omega
          by_cases hpk : p.ppid = pid
          · have ho : orp pid p = { p with ppid := 1 } := by rw [orp, if_pos hpk]
            have d3 : (p.ppid == pid) = true := by simpa using hpk
            rw [ho, PsC_eq] at hg1
            dsimp only at hg1
            repeat' (first | (simp (disch := first | exact dd | fail) only [go_sem, e2, d2, d3]) | (refine allI (fun b => ?_)) | (refine allT (fun τ => ?_)) | (refine brP (fun h => ?_) (fun h => ?_) <;> (try simp only [zgx, zbx] at h)) | refine call_U (hg1) ?_ | refine callG_U (fun _ => hg1) ?_ | refine call_T (hg1) ?_ | refine callG_T (fun _ => hg1) ?_ | refine call_U (hs2) ?_ | refine callG_U (fun _ => hs2) ?_ | refine call_T (hs2) ?_ | refine callG_T (fun _ => hs2) ?_ | refine call_N (hg1) ?_ | refine call_of (hg1) ?_ | refine callG_of (fun _ => hg1) ?_ | refine call_N (hs2) ?_ | refine call_of (hs2) ?_ | refine callG_of (fun _ => hs2) ?_ | (refine gd ?_) | fail)
            all_goals exact ⟨⟨i + 1, by omega⟩, by dsimp only; omega, Ents.sub (by simp [go_sem]) ⟨_, List.Sublist.cons _ (List.Sublist.cons _ (List.Sublist.refl _)), List.Perm.refl _⟩⟩
          · have ho : orp pid p = p := by rw [orp, if_neg hpk]
            have d3 : (p.ppid == pid) = false := by simpa using hpk
            rw [ho, PsC_eq] at hg1
            repeat' (first | (simp (disch := first | exact dd | fail) only [go_sem, e2, d2, d3]) | (refine allI (fun b => ?_)) | (refine allT (fun τ => ?_)) | (refine brP (fun h => ?_) (fun h => ?_) <;> (try simp only [zgx, zbx] at h)) | refine call_U (hg1) ?_ | refine callG_U (fun _ => hg1) ?_ | refine call_T (hg1) ?_ | refine callG_T (fun _ => hg1) ?_ | refine call_U (hs1) ?_ | refine callG_U (fun _ => hs1) ?_ | refine call_T (hs1) ?_ | refine callG_T (fun _ => hs1) ?_ | refine call_N (hg1) ?_ | refine call_of (hg1) ?_ | refine callG_of (fun _ => hg1) ?_ | refine call_N (hs1) ?_ | refine call_of (hs1) ?_ | refine callG_of (fun _ => hs1) ?_ | (refine gd ?_) | fail)
            all_goals exact ⟨⟨i + 1, by omega⟩, by dsimp only; omega, Ents.sub (by simp [go_sem]) ⟨_, List.Sublist.cons _ (List.Sublist.cons _ (List.Sublist.refl _)), List.Perm.refl _⟩⟩
      · have hL' : (U.ps.length : Int) = t.ps.length - 1 := by omega
        have d4 : ((U.ps.length : Int) == t.ps.length - 1) = true := by simpa using hL'
        repeat' (first | (simp (disch := first | exact dd | fail) only [go_sem, d4]) | (refine allI (fun b => ?_)) | (refine allT (fun τ => ?_)) | (refine brP (fun h => ?_) (fun h => ?_) <;> (try simp only [zgx, zbx] at h)) | refine call_U (hw) ?_ | refine callG_U (fun _ => hw) ?_ | refine call_T (hw) ?_ | refine callG_T (fun _ => hw) ?_ | refine call_N (hw) ?_ | refine call_of (hw) ?_ | refine callG_of (fun _ => hw) ?_ | (refine gd ?_) | fail)
        all_goals trace_state
end Go.Proofs.YtkdblnejpmbnfaaGreat
