/- kauditmake: a system. -/
import Derived.Test.YtkdblnejpmbnfaaGreatV17
import Derived.Test.YtkdblnejpmbnfaaGreatV15
import Derived.Test.YtkdblnejpmbnfaaGreatV12
import Derived.Test.YtkdblnejpmbnfaaGreatV11
import Derived.Test.YtkdblnejpmbnfaaGreatProg
import Derived.Test.YtkdblnejpmbnfaaGreatV06
import Derived.KernelRfl
import Derived.Test.YtkdblnejpmbnfaaGreatV14
namespace Go.Proofs.YtkdblnejpmbnfaaGreat.F
open Go Go.Lx
set_option linter.unusedSimpArgs false
set_option linter.unusedVariables false
set_option maxRecDepth 100000
set_option maxHeartbeats 16000000
theorem system : Gen 7 [] 8000 fun r => ∃ (s : Spc) (t : Tb), (SI 40 s ∧ VW t) ∧ r = .agg (SyC s t) := by
  refine Gen.mk fun sb l a hl ha => ?_
  refine fn_viewT Tryz.func7 t7 Tryz.ntmps7 (by simp) ?_
  have hq := hl.2.2
  unfold c7 r7
  repeat' (first | (simp (disch := first | exact dd | fail) only [go_sem]) | (refine allI (fun b => ?_)) | (refine allT (fun τ => ?_)) | (refine brP (fun h => ?_) (fun h => ?_) <;> (try simp only [zgx, zbx] at h)) | (refine actsE_U (gn _ (by omega) 1000 _ _ _ (hl.at (by omega) (by omega)) (by omega)) rfl ?_; rintro _ _ ⟨_, _, ⟨_, _, rfl⟩, rfl⟩) | (refine actsE_T (gn _ (by omega) 1000 _ _ _ (hl.at (by omega) (by omega)) (by omega)) rfl ?_; rintro _ _ ⟨_, _, ⟨_, _, rfl⟩, rfl⟩) | (refine actsE_of (gn _ (by omega) 1000 _ _ _ (hl.at (by omega) (by omega)) (by omega)) rfl ?_; rintro _ _ ⟨_, _, ⟨_, _, rfl⟩, rfl⟩) | (refine actsE_U (gr _ _ (by omega) 1000 _ _ _ (hl.at (by omega) (by omega)) (by omega)) rfl ?_; rintro _ _ ⟨_, _, ⟨_, _, rfl⟩, rfl⟩) | (refine actsE_T (gr _ _ (by omega) 1000 _ _ _ (hl.at (by omega) (by omega)) (by omega)) rfl ?_; rintro _ _ ⟨_, _, ⟨_, _, rfl⟩, rfl⟩) | (refine actsE_of (gr _ _ (by omega) 1000 _ _ _ (hl.at (by omega) (by omega)) (by omega)) rfl ?_; rintro _ _ ⟨_, _, ⟨_, _, rfl⟩, rfl⟩) | (refine actsE_U (gp _ _ (by decide) (by rfl) (by rfl) 1000 _ _ _ (hl.at (by omega) (by omega)) (by omega)) rfl ?_; rintro _ _ ⟨_, _, ⟨_, _, rfl⟩, rfl⟩) | (refine actsE_T (gp _ _ (by decide) (by rfl) (by rfl) 1000 _ _ _ (hl.at (by omega) (by omega)) (by omega)) rfl ?_; rintro _ _ ⟨_, _, ⟨_, _, rfl⟩, rfl⟩) | (refine actsE_of (gp _ _ (by decide) (by rfl) (by rfl) 1000 _ _ _ (hl.at (by omega) (by omega)) (by omega)) rfl ?_; rintro _ _ ⟨_, _, ⟨_, _, rfl⟩, rfl⟩) | (refine actsE_U (gw 40 _ _ (by decide) (by rfl) (by rfl) 1000 _ _ _ (hl.at (by omega) (by omega)) (by omega)) rfl ?_; rintro _ _ ⟨_, _, ⟨_, _, rfl⟩, rfl⟩) | (refine actsE_T (gw 40 _ _ (by decide) (by rfl) (by rfl) 1000 _ _ _ (hl.at (by omega) (by omega)) (by omega)) rfl ?_; rintro _ _ ⟨_, _, ⟨_, _, rfl⟩, rfl⟩) | (refine actsE_of (gw 40 _ _ (by decide) (by rfl) (by rfl) 1000 _ _ _ (hl.at (by omega) (by omega)) (by omega)) rfl ?_; rintro _ _ ⟨_, _, ⟨_, _, rfl⟩, rfl⟩) | (apply And.intro; focus omega) | (refine callG_LU (fun hg => ?_) (fun hg => ?_) <;> (try simp only [hg])))
  rename_i a1 ha1 v hv
  obtain ⟨k, rfl⟩ : ∃ k : Nat, v = k := ⟨v.toNat, by omega⟩
  refine pureE_U (newy k (by omega)) ?_
  rintro _ ⟨s0, t0, ⟨hs0, hv0⟩, rfl⟩
  rw [SyC_eq]
  repeat' (first | (simp (disch := first | exact dd | fail) only [go_sem]) | (refine allI (fun b => ?_)) | (refine allT (fun τ => ?_)) | (refine brP (fun h => ?_) (fun h => ?_) <;> (try simp only [zgx, zbx] at h)) | (refine actsE_U (gn _ (by omega) 1000 _ _ _ (hl.at (by omega) (by omega)) (by omega)) rfl ?_; rintro _ _ ⟨_, _, ⟨_, _, rfl⟩, rfl⟩) | (refine actsE_T (gn _ (by omega) 1000 _ _ _ (hl.at (by omega) (by omega)) (by omega)) rfl ?_; rintro _ _ ⟨_, _, ⟨_, _, rfl⟩, rfl⟩) | (refine actsE_of (gn _ (by omega) 1000 _ _ _ (hl.at (by omega) (by omega)) (by omega)) rfl ?_; rintro _ _ ⟨_, _, ⟨_, _, rfl⟩, rfl⟩) | (refine actsE_U (gr _ _ (by omega) 1000 _ _ _ (hl.at (by omega) (by omega)) (by omega)) rfl ?_; rintro _ _ ⟨_, _, ⟨_, _, rfl⟩, rfl⟩) | (refine actsE_T (gr _ _ (by omega) 1000 _ _ _ (hl.at (by omega) (by omega)) (by omega)) rfl ?_; rintro _ _ ⟨_, _, ⟨_, _, rfl⟩, rfl⟩) | (refine actsE_of (gr _ _ (by omega) 1000 _ _ _ (hl.at (by omega) (by omega)) (by omega)) rfl ?_; rintro _ _ ⟨_, _, ⟨_, _, rfl⟩, rfl⟩) | (refine actsE_U (gp _ _ (by decide) (by rfl) (by rfl) 1000 _ _ _ (hl.at (by omega) (by omega)) (by omega)) rfl ?_; rintro _ _ ⟨_, _, ⟨_, _, rfl⟩, rfl⟩) | (refine actsE_T (gp _ _ (by decide) (by rfl) (by rfl) 1000 _ _ _ (hl.at (by omega) (by omega)) (by omega)) rfl ?_; rintro _ _ ⟨_, _, ⟨_, _, rfl⟩, rfl⟩) | (refine actsE_of (gp _ _ (by decide) (by rfl) (by rfl) 1000 _ _ _ (hl.at (by omega) (by omega)) (by omega)) rfl ?_; rintro _ _ ⟨_, _, ⟨_, _, rfl⟩, rfl⟩) | (refine actsE_U (gw 40 _ _ (by decide) (by rfl) (by rfl) 1000 _ _ _ (hl.at (by omega) (by omega)) (by omega)) rfl ?_; rintro _ _ ⟨_, _, ⟨_, _, rfl⟩, rfl⟩) | (refine actsE_T (gw 40 _ _ (by decide) (by rfl) (by rfl) 1000 _ _ _ (hl.at (by omega) (by omega)) (by omega)) rfl ?_; rintro _ _ ⟨_, _, ⟨_, _, rfl⟩, rfl⟩) | (refine actsE_of (gw 40 _ _ (by decide) (by rfl) (by rfl) 1000 _ _ _ (hl.at (by omega) (by omega)) (by omega)) rfl ?_; rintro _ _ ⟨_, _, ⟨_, _, rfl⟩, rfl⟩) | (apply And.intro; focus omega) | (refine callG_LU (fun hg => ?_) (fun hg => ?_) <;> (try simp only [hg])))
  rename_i a2 ha2 n hn
  refine loopI (ι := Int × Int × Spc × Tb) (fun y => (0 ≤ y.1 ∧ y.1 ≤ n) ∧ (a2 ≤ y.2.1 ∧ y.2.1 ≤ a2 + 510 * (n - y.1)) ∧ SI (2 * (n - y.1)).toNat y.2.2.1 ∧ VW y.2.2.2) (fun y => [(5, .int .i64 y.1), (3, .ptr 3 _ 0), (2, .ptr 2 _ 0), (0, .ptr 1000 sb 0)]) (fun y => [(3, .blk _ (SyC y.2.2.1 y.2.2.2)), (2, .blk _ [.fsl 1 0 [], .fsl 1 0 [], .int .i64 0, .int .i64 0, .fsl 1 0 []]), (1000, SB sb l y.2.1)]) (fun y => y.1.toNat) (n, a2, s0, t0) ⟨by dsimp only; omega, by dsimp only; omega, hs0.up (by omega), hv0⟩ Ents.same ?_
  rintro ⟨i, a3, s, t⟩ ⟨h1, h2, h3, h4⟩
  dsimp only at h1 h2 h3 h4 ⊢
  have cp := gpid t (by have := h4.len; omega) h4.len.1
  have cr := fun pid c hc => run s t pid c _ h3 h4 hc (by omega)
  rw [TbL_eq t] at cp
  rw [SyC_eq] at cr ⊢
  repeat' (first | (simp (disch := first | exact dd | fail) only [go_sem]) | (refine allI (fun b => ?_)) | (refine allT (fun τ => ?_)) | (refine brP (fun h => ?_) (fun h => ?_) <;> (try simp only [zgx, zbx] at h)) | (refine actsE_U (gn _ (by omega) 1000 _ _ _ (hl.at (by omega) (by omega)) (by omega)) rfl ?_; rintro _ _ ⟨_, _, ⟨_, _, rfl⟩, rfl⟩) | (refine actsE_T (gn _ (by omega) 1000 _ _ _ (hl.at (by omega) (by omega)) (by omega)) rfl ?_; rintro _ _ ⟨_, _, ⟨_, _, rfl⟩, rfl⟩) | (refine actsE_of (gn _ (by omega) 1000 _ _ _ (hl.at (by omega) (by omega)) (by omega)) rfl ?_; rintro _ _ ⟨_, _, ⟨_, _, rfl⟩, rfl⟩) | (refine actsE_U (gr _ _ (by omega) 1000 _ _ _ (hl.at (by omega) (by omega)) (by omega)) rfl ?_; rintro _ _ ⟨_, _, ⟨_, _, rfl⟩, rfl⟩) | (refine actsE_T (gr _ _ (by omega) 1000 _ _ _ (hl.at (by omega) (by omega)) (by omega)) rfl ?_; rintro _ _ ⟨_, _, ⟨_, _, rfl⟩, rfl⟩) | (refine actsE_of (gr _ _ (by omega) 1000 _ _ _ (hl.at (by omega) (by omega)) (by omega)) rfl ?_; rintro _ _ ⟨_, _, ⟨_, _, rfl⟩, rfl⟩) | (refine actsE_U (gp _ _ (by decide) (by rfl) (by rfl) 1000 _ _ _ (hl.at (by omega) (by omega)) (by omega)) rfl ?_; rintro _ _ ⟨_, _, ⟨_, _, rfl⟩, rfl⟩) | (refine actsE_T (gp _ _ (by decide) (by rfl) (by rfl) 1000 _ _ _ (hl.at (by omega) (by omega)) (by omega)) rfl ?_; rintro _ _ ⟨_, _, ⟨_, _, rfl⟩, rfl⟩) | (refine actsE_of (gp _ _ (by decide) (by rfl) (by rfl) 1000 _ _ _ (hl.at (by omega) (by omega)) (by omega)) rfl ?_; rintro _ _ ⟨_, _, ⟨_, _, rfl⟩, rfl⟩) | (refine actsE_U (gw 40 _ _ (by decide) (by rfl) (by rfl) 1000 _ _ _ (hl.at (by omega) (by omega)) (by omega)) rfl ?_; rintro _ _ ⟨_, _, ⟨_, _, rfl⟩, rfl⟩) | (refine actsE_T (gw 40 _ _ (by decide) (by rfl) (by rfl) 1000 _ _ _ (hl.at (by omega) (by omega)) (by omega)) rfl ?_; rintro _ _ ⟨_, _, ⟨_, _, rfl⟩, rfl⟩) | (refine actsE_of (gw 40 _ _ (by decide) (by rfl) (by rfl) 1000 _ _ _ (hl.at (by omega) (by omega)) (by omega)) rfl ?_; rintro _ _ ⟨_, _, ⟨_, _, rfl⟩, rfl⟩) | (refine actsE_U (cp 1000 _ _ _ (hl.at (by omega) (by omega)) (by omega)) rfl ?_; rintro _ _ ⟨_, _, ⟨_, _, rfl⟩, rfl⟩) | (refine actsE_T (cp 1000 _ _ _ (hl.at (by omega) (by omega)) (by omega)) rfl ?_; rintro _ _ ⟨_, _, ⟨_, _, rfl⟩, rfl⟩) | (refine actsE_of (cp 1000 _ _ _ (hl.at (by omega) (by omega)) (by omega)) rfl ?_; rintro _ _ ⟨_, _, ⟨_, _, rfl⟩, rfl⟩) | (refine actsE_U (call 1000 _ _ _ (hl.at (by omega) (by omega)) (by omega)) rfl ?_; rintro _ _ ⟨_, _, ⟨_, _, rfl⟩, rfl⟩) | (refine actsE_T (call 1000 _ _ _ (hl.at (by omega) (by omega)) (by omega)) rfl ?_; rintro _ _ ⟨_, _, ⟨_, _, rfl⟩, rfl⟩) | (refine actsE_of (call 1000 _ _ _ (hl.at (by omega) (by omega)) (by omega)) rfl ?_; rintro _ _ ⟨_, _, ⟨_, _, rfl⟩, rfl⟩) | (apply And.intro; focus omega) | (refine callG_LU (fun hg => ?_) (fun hg => ?_) <;> (try simp only [hg])))
  · rename_i a5 ha5 c5 hc5
    refine pureE_of (cr _ c5 hc5) ?_
    rintro _ ⟨s', t', ⟨hs', hv'⟩, rfl⟩
    rw [SyC_eq]
    repeat' (first | (simp (disch := first | exact dd | fail) only [go_sem]) | (refine allI (fun b => ?_)) | (refine allT (fun τ => ?_)) | (refine brP (fun h => ?_) (fun h => ?_) <;> (try simp only [zgx, zbx] at h)) | (refine actsE_U (gn _ (by omega) 1000 _ _ _ (hl.at (by omega) (by omega)) (by omega)) rfl ?_; rintro _ _ ⟨_, _, ⟨_, _, rfl⟩, rfl⟩) | (refine actsE_T (gn _ (by omega) 1000 _ _ _ (hl.at (by omega) (by omega)) (by omega)) rfl ?_; rintro _ _ ⟨_, _, ⟨_, _, rfl⟩, rfl⟩) | (refine actsE_of (gn _ (by omega) 1000 _ _ _ (hl.at (by omega) (by omega)) (by omega)) rfl ?_; rintro _ _ ⟨_, _, ⟨_, _, rfl⟩, rfl⟩) | (refine actsE_U (gr _ _ (by omega) 1000 _ _ _ (hl.at (by omega) (by omega)) (by omega)) rfl ?_; rintro _ _ ⟨_, _, ⟨_, _, rfl⟩, rfl⟩) | (refine actsE_T (gr _ _ (by omega) 1000 _ _ _ (hl.at (by omega) (by omega)) (by omega)) rfl ?_; rintro _ _ ⟨_, _, ⟨_, _, rfl⟩, rfl⟩) | (refine actsE_of (gr _ _ (by omega) 1000 _ _ _ (hl.at (by omega) (by omega)) (by omega)) rfl ?_; rintro _ _ ⟨_, _, ⟨_, _, rfl⟩, rfl⟩) | (refine actsE_U (gp _ _ (by decide) (by rfl) (by rfl) 1000 _ _ _ (hl.at (by omega) (by omega)) (by omega)) rfl ?_; rintro _ _ ⟨_, _, ⟨_, _, rfl⟩, rfl⟩) | (refine actsE_T (gp _ _ (by decide) (by rfl) (by rfl) 1000 _ _ _ (hl.at (by omega) (by omega)) (by omega)) rfl ?_; rintro _ _ ⟨_, _, ⟨_, _, rfl⟩, rfl⟩) | (refine actsE_of (gp _ _ (by decide) (by rfl) (by rfl) 1000 _ _ _ (hl.at (by omega) (by omega)) (by omega)) rfl ?_; rintro _ _ ⟨_, _, ⟨_, _, rfl⟩, rfl⟩) | (refine actsE_U (gw 40 _ _ (by decide) (by rfl) (by rfl) 1000 _ _ _ (hl.at (by omega) (by omega)) (by omega)) rfl ?_; rintro _ _ ⟨_, _, ⟨_, _, rfl⟩, rfl⟩) | (refine actsE_T (gw 40 _ _ (by decide) (by rfl) (by rfl) 1000 _ _ _ (hl.at (by omega) (by omega)) (by omega)) rfl ?_; rintro _ _ ⟨_, _, ⟨_, _, rfl⟩, rfl⟩) | (refine actsE_of (gw 40 _ _ (by decide) (by rfl) (by rfl) 1000 _ _ _ (hl.at (by omega) (by omega)) (by omega)) rfl ?_; rintro _ _ ⟨_, _, ⟨_, _, rfl⟩, rfl⟩) | (apply And.intro; focus omega) | (refine callG_LU (fun hg => ?_) (fun hg => ?_) <;> (try simp only [hg])))
    exact ⟨⟨(i - 1, a5, s', t'), by dsimp only; omega, by dsimp only; omega, hs'.up (by omega), hv'⟩, by dsimp only; omega, Ents.envH (by simp [go_sem]) rfl⟩
  · (apply gend (leV.refl _); (focus (repeat (first | exact List.Sublist.refl _ | apply List.Sublist.cons))); (focus omega); exact ⟨s, t, ⟨h3.up (by omega), h4⟩, rfl⟩)
end Go.Proofs.YtkdblnejpmbnfaaGreat.F
namespace Go.Proofs.YtkdblnejpmbnfaaGreat
open Go Go.Lx
set_option linter.unusedSimpArgs false
set_option linter.unusedVariables false
set_option maxRecDepth 100000
set_option maxHeartbeats 8000000
theorem numberW (n : Int) : Pure Tryz.prog gl 32 [.int .i64 n] (.bool (decide (1 ≤ n) && decide (n ≤ 1073741824))) := by
  refine fn_pureT Tryz.func32 t32 Tryz.ntmps32 (by simp) ?_
  unfold c32 r32
  repeat' (first | (simp (disch := first | exact dd | fail) only [go_sem]) | (refine allI (fun b => ?_)) | (refine allT (fun τ => ?_)) | (refine brP (fun h => ?_) (fun h => ?_) <;> (try simp only [zgx, zbx] at h)) | (refine gd ?_) | fail)
/-- the parent of a process -/
def paB (t : Tb) (p : Ps) : Bool := if p.pid = 1 then p.ppid == 0 else decide (p.ppid < p.pid) && decide (0 ≤ findI t p.ppid)
theorem parentW (t : Tb) (p : Ps) (ht : t.ps.length ≤ 1000000) : Pure Tryz.prog gl 33 [TbL t, .agg (PsC p)] (.bool (paB t p)) := by
  refine fn_pureT Tryz.func33 t33 Tryz.ntmps33 (by simp) ?_
  have hf := find t p.ppid ht
  unfold c33 r33
  unfold paB
  rw [TbL_eq] at *
  rw [PsC_eq]
  repeat' (first | (simp (disch := first | exact dd | fail) only [go_sem]) | (refine allI (fun b => ?_)) | (refine allT (fun τ => ?_)) | (refine brP (fun h => ?_) (fun h => ?_) <;> (try simp only [zgx, zbx] at h)) | refine call_U (hf) ?_ | refine callG_U (fun _ => hf) ?_ | refine call_T (hf) ?_ | refine callG_T (fun _ => hf) ?_ | refine call_N (hf) ?_ | refine call_of (hf) ?_ | refine callG_of (fun _ => hf) ?_ | (refine gd ?_) | fail)
  all_goals simp [h]
/-- the identities of a process -/
def idsB (t : Tb) (p : Ps) : Bool := idB p.uid && idB p.euid && idB p.gid && idB p.egid && (decide (0 ≤ p.auid) && decide (p.auid ≤ 4294967295)) && (p.ses == 4294967295 || (decide (0 ≤ p.ses) && decide (p.ses < t.ns)))
theorem idensW (t : Tb) (p : Ps) : Pure Tryz.prog gl 34 [TbL t, .agg (PsC p)] (.bool (idsB t p)) := by
  refine fn_pureT Tryz.func34 t34 Tryz.ntmps34 (by simp) ?_
  have h1 := ident p.uid
  have h2 := ident p.euid
  have h3 := ident p.gid
  have h4 := ident p.egid
  unfold c34 r34
  unfold idsB
  rw [TbL_eq, PsC_eq]
  repeat' (first | (simp (disch := first | exact dd | fail) only [go_sem]) | (refine allI (fun b => ?_)) | (refine allT (fun τ => ?_)) | (refine brP (fun h => ?_) (fun h => ?_) <;> (try simp only [zgx, zbx] at h)) | refine call_U (h1) ?_ | refine callG_U (fun _ => h1) ?_ | refine call_T (h1) ?_ | refine callG_T (fun _ => h1) ?_ | refine call_U (h2) ?_ | refine callG_U (fun _ => h2) ?_ | refine call_T (h2) ?_ | refine callG_T (fun _ => h2) ?_ | refine call_U (h3) ?_ | refine callG_U (fun _ => h3) ?_ | refine call_T (h3) ?_ | refine callG_T (fun _ => h3) ?_ | refine call_U (h4) ?_ | refine callG_U (fun _ => h4) ?_ | refine call_T (h4) ?_ | refine callG_T (fun _ => h4) ?_ | refine call_N (h1) ?_ | refine call_of (h1) ?_ | refine callG_of (fun _ => h1) ?_ | refine call_N (h2) ?_ | refine call_of (h2) ?_ | refine callG_of (fun _ => h2) ?_ | refine call_N (h3) ?_ | refine call_of (h3) ?_ | refine callG_of (fun _ => h3) ?_ | refine call_N (h4) ?_ | refine call_of (h4) ?_ | refine callG_of (fun _ => h4) ?_ | (refine gd ?_) | fail)
  · rcases h with ((h | h) | h) | h <;> simp [h]
  · rw [show (decide (0 ≤ p.auid) && decide (p.auid ≤ 4294967295)) = false by simp; omega]
    simp
  · rw [show (decide (0 ≤ p.auid) && decide (p.auid ≤ 4294967295)) = true by simp; omega]
    simp_all
/-- the descriptors of a process -/
def fdB (l : List De) (k : Nat) : Bool := decide (0 ≤ (l.getD k de0).fd) && decide ((l.getD k de0).fd < 8) && (k == 0 || decide ((l.getD (k - 1) de0).fd < (l.getD k de0).fd))
def deB (l : List De) : Bool := (List.range l.length).all (fdB l)
theorem descsW (l : List De) (hl : l.length ≤ 1000000) : Pure Tryz.prog gl 35 [.sl 4 l.length (l.flatMap DeC)] (.bool (decide (l.length ≤ 8) && deB l)) := by
  refine fn_pureT Tryz.func35 t35 Tryz.ntmps35 (by simp) ?_
  have hle := len_de l
  unfold c35 r35
  repeat' (first | (simp (disch := first | exact dd | fail) only [go_sem]) | (refine allI (fun b => ?_)) | (refine allT (fun τ => ?_)) | (refine brP (fun h => ?_) (fun h => ?_) <;> (try simp only [zgx, zbx] at h)) | (refine gd ?_) | fail)
  · rw [show decide (l.length ≤ 8) = false by simp; omega]; rfl
  · have h8 : decide (l.length ≤ 8) = true := by simp; omega
    rw [h8, Bool.true_and]
    refine loopI (ι := Nat) (fun i => i ≤ l.length ∧ ∀ j, j < i → fdB l j = true) (fun i => (10, .int .i64 i) :: _) (fun _ => []) (fun i => l.length - i) 0 ⟨by omega, fun j hj => absurd hj (by omega)⟩ Ents.same ?_
    rintro i ⟨hi, hall⟩
    simp (disch := first | exact dd | fail) only [go_sem]
    refine brP (fun hb => ?_) (fun hb => ?_)
    · have hlt : i < l.length := by simpa using hb
      have e2 : ((l.flatMap DeC).drop (i * 4)).take 4 = DeC (l.getD i de0) := take_rows (f := DeC) (fun _ => rfl) de0 _ hlt
      have e3 : (l.flatMap DeC).getD ((i - 1) * 4) .any = .int .i64 (l.getD (i - 1) de0).fd := by
        rw [← Nat.add_zero ((i - 1) * 4), getD_rows (f := DeC) (w := 4) (fun _ => rfl) (by omega) de0 _ _ (by omega)]; rfl
      have hF : fdB l i = (decide (0 ≤ (l.getD i de0).fd) && decide ((l.getD i de0).fd < 8) && (i == 0 || decide ((l.getD (i - 1) de0).fd < (l.getD i de0).fd))) := rfl
      have hno : fdB l i = false → deB l = false := fun h => by
        rw [deB, List.all_eq_false]
        exact ⟨i, List.mem_range.2 hlt, by simp [h]⟩
      generalize hFi : fdB l i = F at *
      generalize l.getD i de0 = q at *
      generalize l.getD (i - 1) de0 = q' at *
      have d3 : ((i : Int) - 1).toNat = i - 1 := by omega
      rw [DeC_eq] at e2
      rcases Nat.eq_zero_or_pos i with h0 | h0
      · have d2 : decide (0 < (i : Int)) = false := by simp [h0]
        repeat' (first | (simp (disch := first | exact dd | fail) only [go_sem, e2, e3, d2, d3, zDe]) | (refine allI (fun b => ?_)) | (refine allT (fun τ => ?_)) | (refine brP (fun h => ?_) (fun h => ?_) <;> (try simp only [zgx, zbx] at h)) | (refine gd ?_) | fail)
        · exact (hno (by rw [hF]; simp; omega)).symm
        · refine ⟨⟨i + 1, by omega, fun j hj => (by omega : j < i ∨ j = i).elim (hall j) fun e => ?_⟩, by dsimp only; omega, Ents.sub (by simp [go_sem]) ⟨[], List.nil_sublist _, List.Perm.refl _⟩⟩
          rw [e, hFi, hF]
          simp
          omega
      · have d2 : decide (0 < (i : Int)) = true := by simp [h0]
        repeat' (first | (simp (disch := first | exact dd | fail) only [go_sem, e2, e3, d2, d3, zDe]) | (refine allI (fun b => ?_)) | (refine allT (fun τ => ?_)) | (refine brP (fun h => ?_) (fun h => ?_) <;> (try simp only [zgx, zbx] at h)) | (refine gd ?_) | fail)
        · exact (hno (by rw [hF]; simp; omega)).symm
        · refine ⟨⟨i + 1, by omega, fun j hj => (by omega : j < i ∨ j = i).elim (hall j) fun e => ?_⟩, by dsimp only; omega, Ents.sub (by simp [go_sem]) ⟨[], List.nil_sublist _, List.Perm.refl _⟩⟩
          rw [e, hFi, hF]
          simp
          omega
    · have : i = l.length := by simp only [decide_eq_false_iff_not] at hb; omega
      repeat' (first | (simp (disch := first | exact dd | fail) only [go_sem]) | (refine allI (fun b => ?_)) | (refine allT (fun τ => ?_)) | (refine brP (fun h => ?_) (fun h => ?_) <;> (try simp only [zgx, zbx] at h)) | (refine gd ?_) | fail)
      rw [deB, List.all_eq_true]
      exact fun j hj => hall j (by have := List.mem_range.1 hj; omega)
end Go.Proofs.YtkdblnejpmbnfaaGreat
namespace Go.Proofs.YtkdblnejpmbnfaaGreat
open Go Go.Lx
set_option linter.unusedSimpArgs false
set_option linter.unusedVariables false
set_option maxRecDepth 100000
set_option maxHeartbeats 8000000
/-- a process of a table, as the program checks it -/
def prB (t : Tb) (i : Nat) : Bool := decide ((pAt t i).pid < t.nx) && (i == 0 || decide ((pAt t (i - 1)).pid < (pAt t i).pid)) && (paB t (pAt t i) && idsB t (pAt t i) && (decide ((pAt t i).op.length ≤ 8) && deB (pAt t i).op))
def valB (t : Tb) : Bool := (decide (1 ≤ t.nx) && decide (t.nx ≤ 1073741824)) && (decide (1 ≤ t.ns) && decide (t.ns ≤ 1073741824)) && (decide (1 ≤ t.ps.length) && decide (t.ps.length ≤ 16)) && ((pAt t 0).pid == 1) && (List.range t.ps.length).all (prB t)
theorem validW (t : Tb) (ht : okT t) : Pure Tryz.prog gl 14 [TbL t] (.bool (valB t)) := by
  refine fn_pureT Tryz.func14 t14 Tryz.ntmps14 (by simp) ?_
  have hle := len_ps t.ps
  have hl0 := ht.1
  have n1 := numberW t.nx
  have n2 := numberW t.ns
  have hV : valB t = ((decide (1 ≤ t.nx) && decide (t.nx ≤ 1073741824)) && (decide (1 ≤ t.ns) && decide (t.ns ≤ 1073741824)) && (decide (1 ≤ t.ps.length) && decide (t.ps.length ≤ 16)) && ((pAt t 0).pid == 1) && (List.range t.ps.length).all (prB t)) := rfl
  generalize valB t = V at *
  rcases Nat.eq_zero_or_pos t.ps.length with hz | hp
  · have e1 : (t.ps.flatMap PsC).getD 0 .any = .any := by rw [List.getD_eq_getElem?_getD, List.getElem?_eq_none (by omega)]; rfl
    have d1 : decide ((t.ps.length : Int) < 1) = true := decide_eq_true (by omega)
    have d5 : decide (1 ≤ t.ps.length) = false := decide_eq_false (by omega)
    rw [d5] at hV
    simp only [Bool.and_false, Bool.false_and] at hV
    unfold c14 r14
    rw [TbL_eq]
    repeat' (first | (simp (disch := first | exact dd | fail) only [go_sem, e1, d1, bin_anyL, bin_anyR, pick_00a, pick_0a0]) | (refine allI (fun b => ?_)) | (refine allT (fun τ => ?_)) | (refine brP (fun h => ?_) (fun h => ?_) <;> (try simp only [zgx, zbx] at h)) | refine call_U (n1) ?_ | refine callG_U (fun _ => n1) ?_ | refine call_T (n1) ?_ | refine callG_T (fun _ => n1) ?_ | refine call_U (n2) ?_ | refine callG_U (fun _ => n2) ?_ | refine call_T (n2) ?_ | refine callG_T (fun _ => n2) ?_ | refine call_N (n1) ?_ | refine call_of (n1) ?_ | refine callG_of (fun _ => n1) ?_ | refine call_N (n2) ?_ | refine call_of (n2) ?_ | refine callG_of (fun _ => n2) ?_ | (refine gd ?_) | fail)
    all_goals first
      | exact hV.symm
      | trace_state
  · have e1 : (t.ps.flatMap PsC).getD 0 .any = .int .i64 (pAt t 0).pid := by
      rw [show 0 = 0 * 14 + 0 from rfl, getD_rows (f := PsC) (w := 14) (fun _ => rfl) (by omega) ps0 _ _ hp]; rfl
    have hv := fun i (hi : i < t.ps.length) => parentW t (pAt t i) ht.1
    have hi := fun i => idensW t (pAt t i)
    have hd := fun i (hi : i < t.ps.length) => descsW (pAt t i).op (by have := ht.2 _ (getD_memA ps0 hi); exact this)
    unfold c14 r14
    rw [TbL_eq] at *
    repeat' (first | (simp (disch := first | exact dd | fail) only [go_sem, e1]) | (refine allI (fun b => ?_)) | (refine allT (fun τ => ?_)) | (refine brP (fun h => ?_) (fun h => ?_) <;> (try simp only [zgx, zbx] at h)) | refine call_U (n1) ?_ | refine callG_U (fun _ => n1) ?_ | refine call_T (n1) ?_ | refine callG_T (fun _ => n1) ?_ | refine call_U (n2) ?_ | refine callG_U (fun _ => n2) ?_ | refine call_T (n2) ?_ | refine callG_T (fun _ => n2) ?_ | refine call_N (n1) ?_ | refine call_of (n1) ?_ | refine callG_of (fun _ => n1) ?_ | refine call_N (n2) ?_ | refine call_of (n2) ?_ | refine callG_of (fun _ => n2) ?_ | (refine gd ?_) | fail)
    · rw [hV]
      symm
      simp only [Bool.and_eq_false_iff, decide_eq_false_iff_not]
      omega
    · rw [hV]
      symm
      simp only [Bool.and_eq_false_iff, decide_eq_false_iff_not, beq_eq_false_iff_ne]
      omega
    · rename_i h9
      have hV' : V = (List.range t.ps.length).all (prB t) := by
        rw [hV]
        obtain ⟨⟨k1, k2⟩, k3⟩ := h
        simp only [bne_eq_false_iff_eq] at k3
        simp [k3]
        omega
      clear hV
      refine loopI (ι := Nat) (fun i => i ≤ t.ps.length ∧ ∀ j, j < i → prB t j = true) (fun i => (36, .int .i64 i) :: _) (fun _ => _) (fun i => t.ps.length - i) 0 ⟨by omega, fun j hj => absurd hj (by omega)⟩ Ents.same ?_
      rintro i ⟨hij, hall⟩
      simp (disch := first | exact dd | fail) only [go_sem]
      refine brP (fun hb => ?_) (fun hb => ?_)
      · have hlt : i < t.ps.length := by simpa using hb
        have e2 : ((t.ps.flatMap PsC).drop (i * 14)).take 14 = PsC (pAt t i) := take_rows (f := PsC) (fun _ => rfl) ps0 _ hlt
        have e3 : (t.ps.flatMap PsC).getD ((i - 1) * 14) .any = .int .i64 (pAt t (i - 1)).pid := by
          rw [← Nat.add_zero ((i - 1) * 14), getD_rows (f := PsC) (w := 14) (fun _ => rfl) (by omega) ps0 _ _ (by omega)]; rfl
        have hF : prB t i = (decide ((pAt t i).pid < t.nx) && (i == 0 || decide ((pAt t (i - 1)).pid < (pAt t i).pid)) && (paB t (pAt t i) && idsB t (pAt t i) && (decide ((pAt t i).op.length ≤ 8) && deB (pAt t i).op))) := rfl
        have hno : prB t i = false → V = false := fun h => by
          rw [hV', List.all_eq_false]
          exact ⟨i, List.mem_range.2 hlt, by simp [h]⟩
        have hv := hv i hlt
        have hi := hi i
        have hd := hd i hlt
        generalize hFi : prB t i = F at *
        generalize pAt t i = q at *
        generalize pAt t (i - 1) = q' at *
        generalize paB t q = x1 at *
        generalize idsB t q = x2 at *
        generalize (decide (q.op.length ≤ 8) && deB q.op) = x3 at *
        have d3 : ((i : Int) - 1).toNat = i - 1 := by omega
        rw [PsC_eq, DeS_eq] at *
        rcases Nat.eq_zero_or_pos i with h0 | h0
        · have d2 : decide (0 < (i : Int)) = false := by simp [h0]
          repeat' (first | (simp (disch := first | exact dd | fail) only [go_sem, e2, e3, d2, d3, zPs]) | (refine allI (fun b => ?_)) | (refine allT (fun τ => ?_)) | (refine brP (fun h => ?_) (fun h => ?_) <;> (try simp only [zgx, zbx] at h)) | refine call_U (hv) ?_ | refine callG_U (fun _ => hv) ?_ | refine call_T (hv) ?_ | refine callG_T (fun _ => hv) ?_ | refine call_U (hi) ?_ | refine callG_U (fun _ => hi) ?_ | refine call_T (hi) ?_ | refine callG_T (fun _ => hi) ?_ | refine call_U (hd) ?_ | refine callG_U (fun _ => hd) ?_ | refine call_T (hd) ?_ | refine callG_T (fun _ => hd) ?_ | refine call_N (hv) ?_ | refine call_of (hv) ?_ | refine callG_of (fun _ => hv) ?_ | refine call_N (hi) ?_ | refine call_of (hi) ?_ | refine callG_of (fun _ => hi) ?_ | refine call_N (hd) ?_ | refine call_of (hd) ?_ | refine callG_of (fun _ => hd) ?_ | (refine gd ?_) | fail)
          all_goals first
            | (refine (hno ?_).symm; rw [hF]; (simp; omega); done)
            | (refine (hno ?_).symm; rw [hF]; rcases h with (h | h) | h <;> simp [h]; done)
            | (refine ⟨⟨i + 1, by omega, fun j hj => (by omega : j < i ∨ j = i).elim (hall j) fun e => ?_⟩, by dsimp only; omega, Ents.sub (by simp [go_sem]) ⟨_, List.Sublist.cons _ (List.Sublist.refl _), List.Perm.refl _⟩⟩
               obtain ⟨⟨rfl, rfl⟩, rfl⟩ := h
               rw [e, hFi, hF]
               (simp; omega))
            | trace_state
        · have d2 : decide (0 < (i : Int)) = true := by simp [h0]
          repeat' (first | (simp (disch := first | exact dd | fail) only [go_sem, e2, e3, d2, d3, zPs]) | (refine allI (fun b => ?_)) | (refine allT (fun τ => ?_)) | (refine brP (fun h => ?_) (fun h => ?_) <;> (try simp only [zgx, zbx] at h)) | refine call_U (hv) ?_ | refine callG_U (fun _ => hv) ?_ | refine call_T (hv) ?_ | refine callG_T (fun _ => hv) ?_ | refine call_U (hi) ?_ | refine callG_U (fun _ => hi) ?_ | refine call_T (hi) ?_ | refine callG_T (fun _ => hi) ?_ | refine call_U (hd) ?_ | refine callG_U (fun _ => hd) ?_ | refine call_T (hd) ?_ | refine callG_T (fun _ => hd) ?_ | refine call_N (hv) ?_ | refine call_of (hv) ?_ | refine callG_of (fun _ => hv) ?_ | refine call_N (hi) ?_ | refine call_of (hi) ?_ | refine callG_of (fun _ => hi) ?_ | refine call_N (hd) ?_ | refine call_of (hd) ?_ | refine callG_of (fun _ => hd) ?_ | (refine gd ?_) | fail)
          all_goals first
            | (refine (hno ?_).symm; rw [hF]; (simp; omega); done)
            | (refine (hno ?_).symm; rw [hF]; rcases h with (h | h) | h <;> simp [h]; done)
            | (refine ⟨⟨i + 1, by omega, fun j hj => (by omega : j < i ∨ j = i).elim (hall j) fun e => ?_⟩, by dsimp only; omega, Ents.sub (by simp [go_sem]) ⟨_, List.Sublist.cons _ (List.Sublist.refl _), List.Perm.refl _⟩⟩
               obtain ⟨⟨rfl, rfl⟩, rfl⟩ := h
               rw [e, hFi, hF]
               (simp; omega))
            | trace_state
      · have : i = t.ps.length := by simp only [decide_eq_false_iff_not] at hb; omega
        repeat' (first | (simp (disch := first | exact dd | fail) only [go_sem]) | (refine allI (fun b => ?_)) | (refine allT (fun τ => ?_)) | (refine brP (fun h => ?_) (fun h => ?_) <;> (try simp only [zgx, zbx] at h)) | (refine gd ?_) | fail)
        rw [hV', List.all_eq_true]
        exact fun j hj => hall j (by have := List.mem_range.1 hj; omega)
end Go.Proofs.YtkdblnejpmbnfaaGreat
namespace Go.Proofs.YtkdblnejpmbnfaaGreat
open Go Go.Lx
set_option linter.unusedSimpArgs false
set_option linter.unusedVariables false
set_option maxRecDepth 100000
set_option maxHeartbeats 8000000
/-- a process of a table, as the reference checks it -/
def prR (t : Tb) (i : Nat) : Bool := (if i = 0 then (pAt t i).pid == 1 && (pAt t i).ppid == 0 else decide ((pAt t (i - 1)).pid < (pAt t i).pid) && (decide (0 ≤ findI t (pAt t i).ppid) && decide ((pAt t i).ppid < (pAt t i).pid))) && decide ((pAt t i).pid < t.nx) && idsB t (pAt t i) && deB (pAt t i).op
def valR (t : Tb) : Bool := (decide (1 ≤ t.nx) && decide (t.nx ≤ 1073741824)) && (decide (1 ≤ t.ns) && decide (t.ns ≤ 1073741824)) && (decide (1 ≤ t.ps.length) && decide (t.ps.length ≤ 16)) && (List.range t.ps.length).all (prR t)
theorem deB_len {l : List De} (h : deB l = true) : l.length ≤ 8 := by
  rw [deB, List.all_eq_true] at h
  have key : ∀ k, k < l.length → (k : Int) ≤ (l.getD k de0).fd ∧ (l.getD k de0).fd < 8 := by
    intro k
    induction k with
    | zero =>
      intro hk
      have := h 0 (List.mem_range.2 hk)
      simp [fdB] at this
      simp only [List.getD_eq_getElem?_getD] at this ⊢
      omega
    | succ k ih =>
      intro hk
      have h1 := ih (by omega)
      have := h (k + 1) (List.mem_range.2 hk)
      simp [fdB] at this
      simp only [List.getD_eq_getElem?_getD] at this h1 ⊢
      omega
  rcases Nat.eq_zero_or_pos l.length with h0 | h0
  · omega
  · have := key (l.length - 1) (by omega)
    omega
theorem val_eq (t : Tb) : valB t = valR t := by
  unfold valB valR
  generalize hA : ((decide (1 ≤ t.nx) && decide (t.nx ≤ 1073741824)) && (decide (1 ≤ t.ns) && decide (t.ns ≤ 1073741824))) = A
  rcases hL : (decide (1 ≤ t.ps.length) && decide (t.ps.length ≤ 16)) with _ | _
  · simp
  rw [Bool.and_eq_true] at hL
  have h1 := of_decide_eq_true hL.1
  rw [Bool.and_true, Bool.and_assoc]
  congr 1
  rw [Bool.eq_iff_iff, Bool.and_eq_true, List.all_eq_true, List.all_eq_true]
  constructor
  · rintro ⟨hf, h⟩
    have hf : (pAt t 0).pid = 1 := by simpa using hf
    have hB : ∀ i, i < t.ps.length → (pAt t i).pid < t.nx ∧ (i = 0 ∨ (pAt t (i - 1)).pid < (pAt t i).pid) ∧ paB t (pAt t i) = true ∧ idsB t (pAt t i) = true ∧ deB (pAt t i).op = true := fun i hi => by
      have := h i (List.mem_range.2 hi)
      simp [prB] at this
      exact ⟨this.1.1, this.1.2, this.2.1.1, this.2.1.2, this.2.2.2⟩
    have hge : ∀ i, i < t.ps.length → 1 ≤ (pAt t i).pid ∧ (0 < i → 1 < (pAt t i).pid) := by
      intro i
      induction i with
      | zero => intro _; omega
      | succ i ih =>
        intro hi
        have := (hB (i + 1) hi).2.1
        have := ih (by omega)
        simp only [Nat.add_sub_cancel] at *
        omega
    intro i hi
    have hi := List.mem_range.1 hi
    obtain ⟨b1, b2, b3, b4, b5⟩ := hB i hi
    have hg := hge i hi
    unfold prR
    rw [b4, b5, decide_eq_true b1]
    unfold paB at b3
    split
    · rename_i h0
      subst h0
      rw [if_pos hf] at b3
      simp only [hf, b3]
      rfl
    · rename_i h0
      rw [if_neg (by omega)] at b3
      simp only [Bool.and_eq_true, decide_eq_true_eq] at b3
      simp
      omega
  · intro h
    have hB : ∀ i, i < t.ps.length → (if i = 0 then (pAt t i).pid = 1 ∧ (pAt t i).ppid = 0 else (pAt t (i - 1)).pid < (pAt t i).pid ∧ (0 ≤ findI t (pAt t i).ppid) ∧ (pAt t i).ppid < (pAt t i).pid) ∧ (pAt t i).pid < t.nx ∧ idsB t (pAt t i) = true ∧ deB (pAt t i).op = true := fun i hi => by
      have := h i (List.mem_range.2 hi)
      unfold prR at this
      split at this <;> rename_i h0
      · rw [if_pos h0]
        simp at this
        exact ⟨this.1.1.1, this.1.1.2, this.1.2, this.2⟩
      · rw [if_neg h0]
        simp at this
        exact ⟨this.1.1.1, this.1.1.2, this.1.2, this.2⟩
    have h0 := (hB 0 (by omega)).1
    rw [if_pos rfl] at h0
    have hge : ∀ i, i < t.ps.length → 1 ≤ (pAt t i).pid ∧ (0 < i → 1 < (pAt t i).pid) := by
      intro i
      induction i with
      | zero => intro _; omega
      | succ i ih =>
        intro hi
        have := (hB (i + 1) hi).1
        rw [if_neg (by omega)] at this
        have := ih (by omega)
        simp only [Nat.add_sub_cancel] at *
        omega
    refine ⟨by simp [h0.1], fun i hi => ?_⟩
    have hi := List.mem_range.1 hi
    obtain ⟨b1, b2, b3, b4⟩ := hB i hi
    have hg := hge i hi
    unfold prB paB
    rw [b3, b4, decide_eq_true b2, decide_eq_true (deB_len b4)]
    rcases Nat.eq_zero_or_pos i with e | e
    · subst e
      rw [if_pos rfl] at b1
      rw [if_pos b1.1, b1.2]
      rfl
    · rw [if_neg (by omega)] at b1
      rw [if_neg (by omega), decide_eq_true b1.1, decide_eq_true b1.2.1, decide_eq_true b1.2.2]
      simp
theorem VW.val {t : Tb} (h : VW t) : valR t = true := by
  unfold valR
  have h1 := h.nx
  have h2 := h.ns
  have h3 := h.len
  rw [decide_eq_true h1.1, decide_eq_true h1.2, decide_eq_true h2.1, decide_eq_true h2.2, decide_eq_true h3.1, decide_eq_true h3.2]
  simp only [Bool.and_self, Bool.true_and, List.all_eq_true]
  intro i hi
  have hi := List.mem_range.1 hi
  obtain ⟨a1, a2, a3, a4, a5, a6, a7, a8⟩ := h.all i hi
  have hd : deB (pAt t i).op = true := by
    rw [deB, List.all_eq_true]
    intro k hk
    have hk := List.mem_range.1 hk
    have hm := a8.all _ (getD_memA de0 hk)
    have hs : 0 < k → ((pAt t i).op.getD (k - 1) de0).fd < ((pAt t i).op.getD k de0).fd := fun h0 => by
      have := List.pairwise_iff_getElem.1 a8.asc (k - 1) k (by omega) hk (by omega)
      simpa [List.getD_eq_getElem?_getD, List.getElem?_eq_getElem hk, List.getElem?_eq_getElem (show k - 1 < (pAt t i).op.length by omega)] using this
    unfold fdB
    rw [decide_eq_true hm.1, decide_eq_true hm.2]
    rcases Nat.eq_zero_or_pos k with e | e
    · simp [e]
    · rw [decide_eq_true (hs e)]; simp
  have hid : idsB t (pAt t i) = true := by
    unfold idsB
    rw [a2, a3, a4, a5, decide_eq_true a6.1, decide_eq_true a6.2]
    rcases a7 with e | e
    · simp [e]
    · rw [decide_eq_true e.1, decide_eq_true e.2]; simp
  unfold prR
  rw [hd, hid, decide_eq_true a1]
  rcases Nat.eq_zero_or_pos i with e | e
  · subst e
    rw [if_pos rfl, h.first.1, h.first.2]; rfl
  · obtain ⟨k, rfl⟩ : ∃ k, i = k + 1 := ⟨i - 1, by omega⟩
    have hp := h.par k hi
    rw [if_neg (by omega), Nat.add_sub_cancel, decide_eq_true (h.asc k hi), decide_eq_true hp.1, decide_eq_true hp.2]; rfl
end Go.Proofs.YtkdblnejpmbnfaaGreat
namespace Go.Proofs.YtkdblnejpmbnfaaGreat
open Go Go.Lx
set_option linter.unusedSimpArgs false
set_option linter.unusedVariables false
set_option maxRecDepth 100000
set_option maxHeartbeats 8000000
theorem rprocW (t : Tb) (i : Nat) (ht : okT t) (hi : i < t.ps.length) : Pure Tryz.prog gl 36 [TbL t, .int .i64 i] (.bool (prR t i)) := by
  refine fn_pureT Tryz.func36 t36 Tryz.ntmps36 (by simp) ?_
  have hle := len_ps t.ps
  have hl0 := ht.1
  have hop := ht.2 _ (getD_memA ps0 hi)
  have e2 : ((t.ps.flatMap PsC).drop (i * 14)).take 14 = PsC (pAt t i) := take_rows (f := PsC) (fun _ => rfl) ps0 _ hi
  have e3 : (t.ps.flatMap PsC).getD ((i - 1) * 14) .any = .int .i64 (pAt t (i - 1)).pid := by
    rw [← Nat.add_zero ((i - 1) * 14), getD_rows (f := PsC) (w := 14) (fun _ => rfl) (by omega) ps0 _ _ (by omega)]; rfl
  have hg := rget t (pAt t i).ppid ht
  have hg2 : (getR t (pAt t i).ppid).2 = decide (0 ≤ findI t (pAt t i).ppid) := by
    rw [getR]
    split
    · exact (decide_eq_false (by omega)).symm
    · exact (decide_eq_true (by omega)).symm
  have hP : prR t i = ((if i = 0 then (pAt t i).pid == 1 && (pAt t i).ppid == 0 else decide ((pAt t (i - 1)).pid < (pAt t i).pid) && (decide (0 ≤ findI t (pAt t i).ppid) && decide ((pAt t i).ppid < (pAt t i).pid))) && decide ((pAt t i).pid < t.nx) && idsB t (pAt t i) && deB (pAt t i).op) := rfl
  generalize prR t i = F at *
  have hop : (pAt t i).op.length ≤ 1000000 := hop
  generalize pAt t (i - 1) = p' at *
  generalize pAt t i = p at *
  generalize getR t p.ppid = R at *
  obtain ⟨r, rb⟩ := R
  dsimp only at hg hg2
  subst hg2
  have u1 := rid p.uid
  have u2 := rid p.euid
  have u3 := rid p.gid
  have u4 := rid p.egid
  have hI : idsB t p = (idB p.uid && idB p.euid && idB p.gid && idB p.egid && (decide (0 ≤ p.auid) && decide (p.auid ≤ 4294967295)) && (p.ses == 4294967295 || (decide (0 ≤ p.ses) && decide (p.ses < t.ns)))) := rfl
  have hpl := len_de p.op
  have hIf : ((((((idB p.uid = false ∨ idB p.euid = false) ∨ idB p.gid = false) ∨ idB p.egid = false) ∨ p.auid < 0) ∨ 4294967295 < p.auid) ∨ ¬p.ses = 4294967295 ∧ (p.ses < 0 ∨ t.ns ≤ p.ses)) → idsB t p = false := fun h => by
    rw [hI, ← Bool.not_eq_true]
    simp only [Bool.and_eq_true, Bool.or_eq_true, decide_eq_true_eq, beq_iff_eq]
    rintro ⟨⟨⟨⟨⟨a, b⟩, c⟩, d⟩, e, f⟩, g⟩
    simp only [a, b, c, d, Bool.true_eq_false, false_or] at h
    omega
  have hIt : ((((((idB p.uid = true ∧ idB p.euid = true) ∧ idB p.gid = true) ∧ idB p.egid = true) ∧ 0 ≤ p.auid) ∧ p.auid ≤ 4294967295) ∧ ((p.ses != 4294967295) = false ∨ 0 ≤ p.ses ∧ p.ses < t.ns)) → idsB t p = true := fun h => by
    obtain ⟨⟨⟨⟨⟨⟨a, b⟩, c⟩, d⟩, e⟩, f⟩, g⟩ := h
    rw [hI, a, b, c, d, decide_eq_true e, decide_eq_true f]
    simp only [bne_eq_false_iff_eq] at g
    simp
    omega
  have hD : ∀ k, k < p.op.length → (p.op.flatMap DeC).getD (k * 4) .any = .int .i64 (p.op.getD k de0).fd ∧ (p.op.flatMap DeC).getD ((k - 1) * 4) .any = .int .i64 (p.op.getD (k - 1) de0).fd := fun k hk => by
    refine ⟨?_, ?_⟩
    · rw [← Nat.add_zero (k * 4), getD_rows (f := DeC) (w := 4) (fun _ => rfl) (by omega) de0 _ _ hk]; rfl
    · rw [← Nat.add_zero ((k - 1) * 4), getD_rows (f := DeC) (w := 4) (fun _ => rfl) (by omega) de0 _ _ (by omega)]; rfl
  clear hI
  have d5 : ((i : Int) - 1).toNat = i - 1 := by omega
  unfold c36 r36
  rw [TbL_eq t] at *
  rw [PsC_eq] at hg
  rw [PsC_eq, DeS_eq] at e2
  generalize findI t p.ppid = fi at *
  rcases Nat.eq_zero_or_pos i with h0 | h0
  · have d1 : ((i : Int) == 0) = true := by simp [h0]
    have d2 : decide (0 < (i : Int)) = false := by simp [h0]
    rw [if_pos h0] at hP
    repeat' (first | (simp (disch := first | exact dd | fail) only [go_sem, e2, e3, zPs, d1, d2, d5]) | (refine allI (fun b => ?_)) | (refine allT (fun τ => ?_)) | (refine brP (fun h => ?_) (fun h => ?_) <;> (try simp only [zgx, zbx] at h)) | refine call_U (u1) ?_ | refine callG_U (fun _ => u1) ?_ | refine call_T (u1) ?_ | refine callG_T (fun _ => u1) ?_ | refine call_U (u2) ?_ | refine callG_U (fun _ => u2) ?_ | refine call_T (u2) ?_ | refine callG_T (fun _ => u2) ?_ | refine call_U (u3) ?_ | refine callG_U (fun _ => u3) ?_ | refine call_T (u3) ?_ | refine callG_T (fun _ => u3) ?_ | refine call_U (u4) ?_ | refine callG_U (fun _ => u4) ?_ | refine call_T (u4) ?_ | refine callG_T (fun _ => u4) ?_ | refine call_N (u1) ?_ | refine call_of (u1) ?_ | refine callG_of (fun _ => u1) ?_ | refine call_N (u2) ?_ | refine call_of (u2) ?_ | refine callG_of (fun _ => u2) ?_ | refine call_N (u3) ?_ | refine call_of (u3) ?_ | refine callG_of (fun _ => u3) ?_ | refine call_N (u4) ?_ | refine call_of (u4) ?_ | refine callG_of (fun _ => u4) ?_ | (refine gd ?_) | fail)
    · rw [hP]; symm; simp; omega
    · rw [hP, hIf h]; simp
    · have hX : F = deB p.op := by
        rw [hP, hIt h]
        simp only [Bool.and_true, bne_eq_false_iff_eq] at *
        simp
        omega
      clear hP hIf hIt
      refine loopI (ι := Nat) (fun k => k ≤ p.op.length ∧ ∀ j, j < k → fdB p.op j = true) (fun k => (8, .int .i64 k) :: _) (fun _ => _) (fun k => p.op.length - k) 0 ⟨by omega, fun j hj => absurd hj (by omega)⟩ Ents.same ?_
      rintro k ⟨hk, hall⟩
      simp (disch := first | exact dd | fail) only [go_sem]
      refine brP (fun hb => ?_) (fun hb => ?_)
      · have hlt : k < p.op.length := by simpa using hb
        obtain ⟨f1, f2⟩ := hD k hlt
        have hF : fdB p.op k = (decide (0 ≤ (p.op.getD k de0).fd) && decide ((p.op.getD k de0).fd < 8) && (k == 0 || decide ((p.op.getD (k - 1) de0).fd < (p.op.getD k de0).fd))) := rfl
        have hno : fdB p.op k = false → F = false := fun h => by
          rw [hX, deB, List.all_eq_false]
          exact ⟨k, List.mem_range.2 hlt, by simp [h]⟩
        generalize hFi : fdB p.op k = G at *
        generalize p.op.getD k de0 = x at *
        generalize p.op.getD (k - 1) de0 = x' at *
        have g3 : ((k : Int) - 1).toNat = k - 1 := by omega
        rcases Nat.eq_zero_or_pos k with g0 | g0
        · have g2 : decide (0 < (k : Int)) = false := by simp [g0]
          repeat' (first | (simp (disch := first | exact dd | fail) only [go_sem, f1, f2, g2, g3]) | (refine allI (fun b => ?_)) | (refine allT (fun τ => ?_)) | (refine brP (fun h => ?_) (fun h => ?_) <;> (try simp only [zgx, zbx] at h)) | (refine gd ?_) | fail)
          · exact (hno (by rw [hF]; simp; omega)).symm
          · refine ⟨⟨k + 1, by omega, fun j hj => (by omega : j < k ∨ j = k).elim (hall j) fun e => ?_⟩, by dsimp only; omega, Ents.envH (by simp [go_sem]) rfl⟩
            rw [e, hFi, hF]
            simp
            omega
        · have g2 : decide (0 < (k : Int)) = true := by simp [g0]
          repeat' (first | (simp (disch := first | exact dd | fail) only [go_sem, f1, f2, g2, g3]) | (refine allI (fun b => ?_)) | (refine allT (fun τ => ?_)) | (refine brP (fun h => ?_) (fun h => ?_) <;> (try simp only [zgx, zbx] at h)) | (refine gd ?_) | fail)
          · exact (hno (by rw [hF]; simp; omega)).symm
          · refine ⟨⟨k + 1, by omega, fun j hj => (by omega : j < k ∨ j = k).elim (hall j) fun e => ?_⟩, by dsimp only; omega, Ents.envH (by simp [go_sem]) rfl⟩
            rw [e, hFi, hF]
            simp
            omega
      · have : k = p.op.length := by simp only [decide_eq_false_iff_not] at hb; omega
        repeat' (first | (simp (disch := first | exact dd | fail) only [go_sem]) | (refine allI (fun b => ?_)) | (refine allT (fun τ => ?_)) | (refine brP (fun h => ?_) (fun h => ?_) <;> (try simp only [zgx, zbx] at h)) | (refine gd ?_) | fail)
        rw [hX, deB, List.all_eq_true]
        exact fun j hj => hall j (by have := List.mem_range.1 hj; omega)
  · have d1 : ((i : Int) == 0) = false := by simp; omega
    have d2 : decide (0 < (i : Int)) = true := by simp; omega
    rw [if_neg (by omega)] at hP
    repeat' (first | (simp (disch := first | exact dd | fail) only [go_sem, e2, e3, zPs, d1, d2, d5]) | (refine allI (fun b => ?_)) | (refine allT (fun τ => ?_)) | (refine brP (fun h => ?_) (fun h => ?_) <;> (try simp only [zgx, zbx] at h)) | refine call_U (hg) ?_ | refine callG_U (fun _ => hg) ?_ | refine call_T (hg) ?_ | refine callG_T (fun _ => hg) ?_ | refine call_U (u1) ?_ | refine callG_U (fun _ => u1) ?_ | refine call_T (u1) ?_ | refine callG_T (fun _ => u1) ?_ | refine call_U (u2) ?_ | refine callG_U (fun _ => u2) ?_ | refine call_T (u2) ?_ | refine callG_T (fun _ => u2) ?_ | refine call_U (u3) ?_ | refine callG_U (fun _ => u3) ?_ | refine call_T (u3) ?_ | refine callG_T (fun _ => u3) ?_ | refine call_U (u4) ?_ | refine callG_U (fun _ => u4) ?_ | refine call_T (u4) ?_ | refine callG_T (fun _ => u4) ?_ | refine call_N (hg) ?_ | refine call_of (hg) ?_ | refine callG_of (fun _ => hg) ?_ | refine call_N (u1) ?_ | refine call_of (u1) ?_ | refine callG_of (fun _ => u1) ?_ | refine call_N (u2) ?_ | refine call_of (u2) ?_ | refine callG_of (fun _ => u2) ?_ | refine call_N (u3) ?_ | refine call_of (u3) ?_ | refine callG_of (fun _ => u3) ?_ | refine call_N (u4) ?_ | refine call_of (u4) ?_ | refine callG_of (fun _ => u4) ?_ | (refine gd ?_) | fail)
    · rw [hP]; symm; simp; omega
    · rw [hP]; symm; simp; omega
    · rw [hP, hIf h]; simp
    · have hX : F = deB p.op := by
        rw [hP, hIt h]
        simp only [Bool.and_true, bne_eq_false_iff_eq] at *
        simp
        omega
      clear hP hIf hIt
      refine loopI (ι := Nat) (fun k => k ≤ p.op.length ∧ ∀ j, j < k → fdB p.op j = true) (fun k => (8, .int .i64 k) :: _) (fun _ => _) (fun k => p.op.length - k) 0 ⟨by omega, fun j hj => absurd hj (by omega)⟩ Ents.same ?_
      rintro k ⟨hk, hall⟩
      simp (disch := first | exact dd | fail) only [go_sem]
      refine brP (fun hb => ?_) (fun hb => ?_)
      · have hlt : k < p.op.length := by simpa using hb
        obtain ⟨f1, f2⟩ := hD k hlt
        have hF : fdB p.op k = (decide (0 ≤ (p.op.getD k de0).fd) && decide ((p.op.getD k de0).fd < 8) && (k == 0 || decide ((p.op.getD (k - 1) de0).fd < (p.op.getD k de0).fd))) := rfl
        have hno : fdB p.op k = false → F = false := fun h => by
          rw [hX, deB, List.all_eq_false]
          exact ⟨k, List.mem_range.2 hlt, by simp [h]⟩
        generalize hFi : fdB p.op k = G at *
        generalize p.op.getD k de0 = x at *
        generalize p.op.getD (k - 1) de0 = x' at *
        have g3 : ((k : Int) - 1).toNat = k - 1 := by omega
        rcases Nat.eq_zero_or_pos k with g0 | g0
        · have g2 : decide (0 < (k : Int)) = false := by simp [g0]
          repeat' (first | (simp (disch := first | exact dd | fail) only [go_sem, f1, f2, g2, g3]) | (refine allI (fun b => ?_)) | (refine allT (fun τ => ?_)) | (refine brP (fun h => ?_) (fun h => ?_) <;> (try simp only [zgx, zbx] at h)) | (refine gd ?_) | fail)
          · exact (hno (by rw [hF]; simp; omega)).symm
          · refine ⟨⟨k + 1, by omega, fun j hj => (by omega : j < k ∨ j = k).elim (hall j) fun e => ?_⟩, by dsimp only; omega, Ents.envH (by simp [go_sem]) rfl⟩
            rw [e, hFi, hF]
            simp
            omega
        · have g2 : decide (0 < (k : Int)) = true := by simp [g0]
          repeat' (first | (simp (disch := first | exact dd | fail) only [go_sem, f1, f2, g2, g3]) | (refine allI (fun b => ?_)) | (refine allT (fun τ => ?_)) | (refine brP (fun h => ?_) (fun h => ?_) <;> (try simp only [zgx, zbx] at h)) | (refine gd ?_) | fail)
          · exact (hno (by rw [hF]; simp; omega)).symm
          · refine ⟨⟨k + 1, by omega, fun j hj => (by omega : j < k ∨ j = k).elim (hall j) fun e => ?_⟩, by dsimp only; omega, Ents.envH (by simp [go_sem]) rfl⟩
            rw [e, hFi, hF]
            simp
            omega
      · have : k = p.op.length := by simp only [decide_eq_false_iff_not] at hb; omega
        repeat' (first | (simp (disch := first | exact dd | fail) only [go_sem]) | (refine allI (fun b => ?_)) | (refine allT (fun τ => ?_)) | (refine brP (fun h => ?_) (fun h => ?_) <;> (try simp only [zgx, zbx] at h)) | (refine gd ?_) | fail)
        rw [hX, deB, List.all_eq_true]
        exact fun j hj => hall j (by have := List.mem_range.1 hj; omega)
end Go.Proofs.YtkdblnejpmbnfaaGreat
namespace Go.Proofs.YtkdblnejpmbnfaaGreat
open Go Go.Lx
set_option linter.unusedSimpArgs false
set_option linter.unusedVariables false
set_option maxRecDepth 100000
set_option maxHeartbeats 8000000
theorem rvalidW (t : Tb) (ht : okT t) : Pure Tryz.prog gl 15 [TbL t] (.bool (valR t)) := by
  refine fn_pureT Tryz.func15 t15 Tryz.ntmps15 (by simp) ?_
  have hl0 := ht.1
  have hp := fun i hi => rprocW t i ht hi
  have hV : valR t = ((decide (1 ≤ t.nx) && decide (t.nx ≤ 1073741824)) && (decide (1 ≤ t.ns) && decide (t.ns ≤ 1073741824)) && (decide (1 ≤ t.ps.length) && decide (t.ps.length ≤ 16)) && (List.range t.ps.length).all (prR t)) := rfl
  generalize valR t = V at *
  unfold c15 r15
  rw [TbL_eq t] at *
  repeat' (first | (simp (disch := first | exact dd | fail) only [go_sem]) | (refine allI (fun b => ?_)) | (refine allT (fun τ => ?_)) | (refine brP (fun h => ?_) (fun h => ?_) <;> (try simp only [zgx, zbx] at h)) | (refine gd ?_) | fail)
  · rw [hV]
    symm
    simp only [Bool.and_eq_false_iff, decide_eq_false_iff_not]
    omega
  · have hX : V = (List.range t.ps.length).all (prR t) := by
      rw [hV, decide_eq_true (show 1 ≤ t.nx by omega), decide_eq_true (show t.nx ≤ 1073741824 by omega), decide_eq_true (show 1 ≤ t.ns by omega), decide_eq_true (show t.ns ≤ 1073741824 by omega), decide_eq_true (show 1 ≤ t.ps.length by omega), decide_eq_true (show t.ps.length ≤ 16 by omega)]
      simp
    clear hV
    refine loopI (ι := Nat) (fun i => i ≤ t.ps.length ∧ ∀ j, j < i → prR t j = true) (fun i => (3, .int .i64 i) :: _) (fun _ => _) (fun i => t.ps.length - i) 0 ⟨by omega, fun j hj => absurd hj (by omega)⟩ Ents.same ?_
    rintro i ⟨hi, hall⟩
    simp (disch := first | exact dd | fail) only [go_sem]
    refine brP (fun hb => ?_) (fun hb => ?_)
    · have hlt : i < t.ps.length := by simpa using hb
      have hp := hp i hlt
      have hno : prR t i = false → V = false := fun h => by
        rw [hX, List.all_eq_false]
        exact ⟨i, List.mem_range.2 hlt, by simp [h]⟩
      generalize hF : prR t i = F at *
      repeat' (first | (simp (disch := first | exact dd | fail) only [go_sem]) | (refine allI (fun b => ?_)) | (refine allT (fun τ => ?_)) | (refine brP (fun h => ?_) (fun h => ?_) <;> (try simp only [zgx, zbx] at h)) | refine call_U (hp) ?_ | refine callG_U (fun _ => hp) ?_ | refine call_T (hp) ?_ | refine callG_T (fun _ => hp) ?_ | refine call_N (hp) ?_ | refine call_of (hp) ?_ | refine callG_of (fun _ => hp) ?_ | (refine gd ?_) | fail)
      · exact (hno (by assumption)).symm
      · exact ⟨⟨i + 1, by omega, fun j hj => (by omega : j < i ∨ j = i).elim (hall j) fun e => by rw [e, hF]; assumption⟩, by dsimp only; omega, Ents.envH (by simp [go_sem]) rfl⟩
    · have : i = t.ps.length := by simp only [decide_eq_false_iff_not] at hb; omega
      repeat' (first | (simp (disch := first | exact dd | fail) only [go_sem]) | (refine allI (fun b => ?_)) | (refine allT (fun τ => ?_)) | (refine brP (fun h => ?_) (fun h => ?_) <;> (try simp only [zgx, zbx] at h)) | (refine gd ?_) | fail)
      rw [hX, List.all_eq_true]
      exact fun j hj => hall j (by have := List.mem_range.1 hj; omega)
/-- a process whose open files are seen in some way -/
def fR (x : Ps × LV) : List LV := PsO x.1 x.2
theorem fR_len (x : Ps × LV) : (fR x).length = 14 := rfl
def rowL (ps : List Ps) (n : Nat) (o : LV) : List (Ps × LV) := (ps.map fun p => (p, DeS p.op)).set n (ps.getD n ps0, o)
def opL1 (p : Ps) (τ : Tok) : LV := .osl 6001 τ 4 p.op.length (p.op.flatMap DeC)
theorem rcpO (p : Ps) (hp : p.op.length ≤ 1000000) : LCalls Tryz.prog gl 29 [.agg (PsC p)] [] fun r H => ∃ τ, r = .agg (PsO p (opL1 p τ)) ∧ H = [(6001, .tok τ)] := by
  refine fn_viewT Tryz.func29 t29 Tryz.ntmps29 (by simp) ?_
  unfold c29 r29
  rw [PsC_eq, DeS_eq]
  repeat' (first | (simp (disch := first | exact dd | fail) only [go_sem]) | (refine allI (fun b => ?_)) | (refine allT (fun τ => ?_)) | (refine brP (fun h => ?_) (fun h => ?_) <;> (try simp only [zgx, zbx] at h)) | (refine gd ?_) | fail)
  refine ⟨by simp only [roomy]; omega, fun τ => ?_⟩
  refine ⟨.agg (PsO p (opL1 p τ)), [(6001, .tok τ)], leVH.gen (H3 := [(5, .tok τ)]) (H4 := [(5, .tok τ)]) (leV.agg ⟨leV.refl _, leV.refl _, leV.refl _, leV.refl _, leV.refl _, leV.refl _, leV.refl _, leV.refl _, leV.refl _, leV.refl _, leV.refl _, leV.refl _, leV.osl_name _ _ _ _ _ _, leV.refl _, trivial⟩) (List.Sublist.cons_cons _ (List.nil_sublist _)) ⟨rfl, trivial⟩ (List.Perm.refl _) rfl, τ, rfl, rfl⟩
theorem rowL_len (ps : List Ps) (n : Nat) (o : LV) : (rowL ps n o).length = ps.length := by simp [rowL]
theorem rowL_ne {ps : List Ps} {n k : Nat} {o : LV} (h : k < ps.length) (hn : k ≠ n) : (rowL ps n o).getD k (ps0, .any) = (ps.getD k ps0, DeS (ps.getD k ps0).op) := by
  simp [rowL, List.getD_eq_getElem?_getD, List.getElem?_set_ne (Ne.symm hn), List.getElem?_eq_getElem h]
theorem rowL_at {ps : List Ps} {n : Nat} {o : LV} (h : n < ps.length) : (rowL ps n o).getD n (ps0, .any) = (ps.getD n ps0, o) := by
  simp [rowL, List.getD_eq_getElem?_getD, h]
theorem rowL_take (ps : List Ps) {n k : Nat} (o o' : LV) (h : k ≤ n) : (rowL ps n o).take k = (rowL ps n o').take k := by
  rw [rowL, rowL, List.take_set_of_le h, List.take_set_of_le h]
theorem len_fR (l : List (Ps × LV)) : (l.flatMap fR).length = l.length * 14 := length_rows (f := fR) (w := 14) fR_len l
/-- a copy whose process number n has owned open files -/
def CpO (t : Tb) (n : Nat) (r : LV) (H : Heap) : Prop := ∃ (b c : Nat) (τ : Tok), t.ps.length ≤ c ∧ r = .agg [.int .i64 t.nx, .int .i64 t.ns, .msl 6000 14 b 0 t.ps.length c] ∧ H = [(6000, .blk b (Sp ((rowL t.ps n (opL1 (t.ps.getD n ps0) τ)).flatMap fR) ((c - t.ps.length) * 14))), (6001, .tok τ)]
theorem rcopyO (t : Tb) (n : Nat) (hn : n < t.ps.length) (ht : okT t) : LCalls Tryz.prog gl 30 [TbL t] [] (CpO t n) := by
  refine fn_viewT Tryz.func30 t30 Tryz.ntmps30 (by simp) ?_
  have hle := len_ps t.ps
  have hm := ht.1
  have hL := fun o => rowL_len t.ps n o
  unfold c30 r30
  rw [TbL_eq]
  repeat' (first | (simp (disch := first | exact dd | fail) only [go_sem]) | (refine allI (fun b => ?_)) | (refine allT (fun τ => ?_)) | (refine brP (fun h => ?_) (fun h => ?_) <;> (try simp only [zgx, zbx] at h)) | (refine gd ?_) | fail)
  rename_i b1 b2
  refine loopI (ι := Nat × Nat × Nat × Tok) (fun y => y.1 ≤ t.ps.length ∧ y.1 ≤ y.2.2.1) (fun y => [(4, .int .i64 y.1), (3, .ptr 3 b 0), (2, .ptr 2 b2 0), (1, .ptr 1 b1 0), (0, .any)]) (fun y => [(3, .blk b [.int .i64 t.nx, .int .i64 t.ns, .msl 6000 14 y.2.1 0 y.1 y.2.2.1]), (6000, .blk y.2.1 (Sp (((rowL t.ps n (opL1 (t.ps.getD n ps0) y.2.2.2)).take y.1).flatMap fR) ((y.2.2.1 - y.1) * 14))), (6001, .tok y.2.2.2), (2, .blk b2 [.int .i64 0, .int .i64 0, .fsl 1 0 []]), (1, .blk b1 [.int .i64 t.nx, .int .i64 t.ns, .sl 14 t.ps.length (t.ps.flatMap PsC)])]) (fun y => t.ps.length - y.1) (0, 0, 0, ⟨0, 0, 0⟩) (by simp) ?_ ?_
  · refine Ents.dum 6001 (Ents.emp 6000 (Ents.heap ([(3, .blk b [.int .i64 t.nx, .int .i64 t.ns, .fsl 1 0 []]), (6000, .blk 0 []), (6001, .tok ⟨0, 0, 0⟩), (2, .blk b2 [.int .i64 0, .int .i64 0, .fsl 1 0 []]), (1, .blk b1 [.int .i64 t.nx, .int .i64 t.ns, .sl 14 t.ps.length (t.ps.flatMap PsC)])]) (by simp [go_sem]) ⟨_, List.Sublist.refl _, ?_⟩ ⟨⟨rfl, leV.refl _, leV.refl _, leV.nil_msl _ _ _, trivial⟩, ⟨rfl, by simp [Sp, leVs]⟩, rfl, ⟨rfl, leVs.refl _⟩, ⟨rfl, leVs.refl _⟩, trivial⟩))
    exact (List.perm_append_comm (l₁ := [(6000, Ent.blk 0 []), (6001, Ent.tok ⟨0, 0, 0⟩)]) (l₂ := [(3, _)])).append_right _
  · rintro ⟨i, b', c, τ⟩ ⟨h1, h2⟩
    dsimp only at h1 h2 ⊢
    have htl : (((rowL t.ps n (opL1 (t.ps.getD n ps0) τ)).take i).flatMap fR).length = i * 14 := by rw [len_fR, List.length_take, hL, Nat.min_eq_left h1]
    simp (disch := first | exact dd | fail) only [go_sem]
    refine brP (fun hb => ?_) (fun hb => ?_)
    · have hlt : i < t.ps.length := by simpa using hb
      have e2 : ((t.ps.flatMap PsC).drop (i * 14)).take 14 = PsC (t.ps.getD i ps0) := take_rows (f := PsC) (fun _ => rfl) ps0 _ hlt
      have hts := fun o => take_succ_getD (ps0, .any) (rowL t.ps n o) (i := i) (by rw [hL]; exact hlt)
      have hp := ht.2 _ (getD_memA ps0 hlt)
      by_cases hin : i = n
      · subst hin
        have hcp := rcpO (t.ps.getD i ps0) hp
        have hat := fun o => rowL_at (o := o) hlt
        have htk := fun o => rowL_take t.ps (k := i) o (opL1 (t.ps.getD i ps0) τ) (Nat.le_refl i)
        generalize t.ps.getD i ps0 = x at *
        rw [PsC_eq] at e2 hcp
        repeat' (first | (simp (disch := first | exact dd | fail) only [go_sem, e2, zPs]) | (refine allI (fun b => ?_)) | (refine allT (fun τ => ?_)) | (refine brP (fun h => ?_) (fun h => ?_) <;> (try simp only [zgx, zbx] at h)) | (refine gd ?_) | fail)
        refine actsQ_of (H0 := []) (H2 := _) hcp (List.Perm.refl _) ?_
        rintro _ _ ⟨τ', rfl, rfl⟩
        rw [PsO_eq]
        repeat' (first | (simp (disch := first | exact dd | fail) only [go_sem, zPs]) | (refine allI (fun b => ?_)) | (refine allT (fun τ => ?_)) | (refine brP (fun h => ?_) (fun h => ?_) <;> (try simp only [zgx, zbx] at h)) | (refine gd ?_) | fail)
        refine .inl ⟨by rw [length_Sp, htl]; omega, by rw [length_Sp, htl]; omega, by simp only [roomy]; omega, fun b2' c2 h3 => ?_⟩
        rw [take_Sp _ htl]
        refine ⟨⟨(i + 1, b2', c2, τ'), by dsimp only; omega⟩, by dsimp only; omega, Ents.sub (by simp [go_sem]) ⟨_, List.Sublist.cons_cons _ (List.Sublist.cons_cons _ (List.Sublist.cons_cons _ (List.Sublist.cons _ (List.Sublist.refl _)))), ((List.perm_append_comm (l₁ := [_, _]) (l₂ := [_])).append_right [_, _]).trans (List.Perm.of_eq ?_)⟩⟩
        dsimp only
        rw [hts, hat, htk (opL1 x τ'), List.flatMap_append, List.flatMap_singleton, fR, PsO_eq, Sp]
        rfl
      · have hcp := rcp (t.ps.getD i ps0) hp
        have hat := fun o => rowL_ne (o := o) hlt hin
        generalize t.ps.getD i ps0 = x at *
        rw [PsC_eq] at e2 hcp
        repeat' (first | (simp (disch := first | exact dd | fail) only [go_sem, e2, zPs]) | (refine allI (fun b => ?_)) | (refine allT (fun τ => ?_)) | (refine brP (fun h => ?_) (fun h => ?_) <;> (try simp only [zgx, zbx] at h)) | (refine gd ?_) | fail)
        first | refine call_U (hcp) ?_ | refine call_T (hcp) ?_ | refine call_N (hcp) ?_ | refine call_of (hcp) ?_
        repeat' (first | (simp (disch := first | exact dd | fail) only [go_sem, zPs]) | (refine allI (fun b => ?_)) | (refine allT (fun τ => ?_)) | (refine brP (fun h => ?_) (fun h => ?_) <;> (try simp only [zgx, zbx] at h)) | (refine gd ?_) | fail)
        refine .inl ⟨by rw [length_Sp, htl]; omega, by rw [length_Sp, htl]; omega, by simp only [roomy]; omega, fun b2 c2 h3 => ?_⟩
        rw [take_Sp _ htl]
        refine ⟨⟨(i + 1, b2, c2, τ), by dsimp only; omega⟩, by dsimp only; omega, Ents.sub (by simp [go_sem]) ⟨_, List.Sublist.refl _, ?_⟩⟩
        dsimp only
        rw [hts, hat, List.flatMap_append, List.flatMap_singleton, fR, PsO_eq, Sp]
        exact List.Perm.swap _ _ _
    · have hlen : i = t.ps.length := by simp only [decide_eq_false_iff_not] at hb; omega
      subst hlen
      repeat' (first | (simp (disch := first | exact dd | fail) only [go_sem]) | (refine allI (fun b => ?_)) | (refine allT (fun τ => ?_)) | (refine brP (fun h => ?_) (fun h => ?_) <;> (try simp only [zgx, zbx] at h)) | (refine gd ?_) | fail)
      rw [List.take_of_length_le (by rw [hL]; exact Nat.le_refl _)]
      exact ⟨_, _, leVH.of (leV.refl _) ⟨_, List.Sublist.cons _ (List.Sublist.cons_cons _ (List.Sublist.cons_cons _ (List.nil_sublist _))), List.Perm.refl _⟩, b', c, τ, h2, rfl, rfl⟩
end Go.Proofs.YtkdblnejpmbnfaaGreat
namespace Go.Proofs.YtkdblnejpmbnfaaGreat
open Go Go.Lx
set_option maxRecDepth 100000
def c13 : LCode :=
 sR [oB 3 1,
 oT 4 (.zero [zI, zI, .fsl 1 0 []])]
 (sR [oK 6 3 3,
 oC 7 30 [.u 6],
 oS 3 3 7]
 (sD [dF 0 [3] (oG 8 2 3),
 dT 1 [8] (oL 9 1 8),
 dF 2 [0] (oM 10 0),
 dF 3 [3] (oG 11 2 3),
 dT 4 [11] (oL 12 1 11),
 dF 5 [12] (oU 13 (.lenL (.u 12))),
 ⟨6, [10, 13], false, [1], oC 14 22 [.u 10, .u 13]⟩,
 dF 7 [9, 14] (oA 15 14 9 14),
 dF 8 [15] (oV 5 15)]
 (.seq (sR [oM 16 0,
 oT 17 (.call 22 [.u 16, xI 9])]
 (.block 0 (sR [oU 19 (.bin .eql (.t 17) (xI 0)),
 oV 18 19]
 (cT 18
 (.region [oM 20 0,
 oU 21 (.mkS 1 5 [zI] [(0, 1, xI 0), (1, 1, xI 1), (2, 1, xI 2), (3, 1, xI 1073741824), (4, 1, xI 1073741825)]),
 oC 22 31 [.u 20, .u 21],
 oG 23 0 3,
 oR 1 23 22])
 (sR [oU 25 (.bin .eql (.t 17) (xI 1)),
 oV 24 25]
 (cT 24
 (.region [oM 26 0,
 oU 27 (.mkS 1 4 [zI] [(0, 1, xI 0), (1, 1, xI 1), (2, 1, xI 1073741824), (3, 1, xI 1073741825)]),
 oC 28 31 [.u 26, .u 27],
 oG 29 1 3,
 oR 1 29 28])
 (sR [oU 31 (.bin .eql (.t 17) (xI 2)),
 oV 30 31]
 (cT 30
 (.regionD [dF 0 [5] (oM 32 5),
 dF 1 [32] (oZ 33 32),
 dF 2 [33] (oF 34 0 33),
 dT 3 [34] (oL 35 1 34),
 dF 4 [0] (oM 36 0),
 ⟨5, [36], false, [3], oC 37 19 [.u 36, xI (-1), xI 1]⟩,
 dF 6 [35, 37] (oU 38 (.bin .add (.u 35) (.u 37))),
 dF 7 [32] (oZ 39 32),
 dF 8 [39] (oF 40 0 39),
 dF 9 [40, 38] (oR 1 40 38)])
 (sR [oU 42 (.bin .eql (.t 17) (xI 3)),
 oV 41 42]
 (cT 41
 (.region [oM 43 5,
 oM 44 0,
 oC 45 19 [.u 44, xI (-1), xI 4],
 oZ 46 43,
 oF 47 1 46,
 oR 1 47 45])
 (sR [oU 49 (.bin .eql (.t 17) (xI 4)),
 oV 48 49]
 (cT 48
 (.region [oM 50 5,
 oM 51 5,
 oM 52 0,
 oU 53 (.mkS 1 3 [zI] [(0, 1, xI 0), (1, 1, xI 4294967295), (2, 1, xI 4294967294)]),
 oC 54 31 [.u 52, .u 53],
 oM 55 0,
 oU 56 (.mkS 1 2 [zI] [(0, 1, xI 0), (1, 1, xI (-1))]),
 oC 57 31 [.u 55, .u 56],
 oZ 58 50,
 oF 59 2 58,
 oR 1 59 54,
 oZ 60 51,
 oF 61 5 60,
 oR 1 61 57])
 (sR [oU 63 (.bin .eql (.t 17) (xI 5)),
 oV 62 63]
 (cT 62
 (.region [oM 64 5,
 oM 65 5,
 oM 66 0,
 oU 67 (.mkS 1 3 [zI] [(0, 1, xI 0), (1, 1, xI 4294967295), (2, 1, xI 4294967296)]),
 oC 68 31 [.u 66, .u 67],
 oM 69 0,
 oU 70 (.mkS 1 4 [zI] [(0, 1, xI 0), (1, 1, xI 1), (2, 1, xI 4294967295), (3, 1, xI 4294967296)]),
 oC 71 31 [.u 69, .u 70],
 oZ 72 64,
 oF 73 6 72,
 oR 1 73 68,
 oZ 74 65,
 oF 75 7 74,
 oR 1 75 71])
 (sR [oU 77 (.bin .eql (.t 17) (xI 6)),
 oV 76 77]
 (cT 76
 (.regionD [dF 0 [5] (oM 78 5),
 dF 1 [5] (oM 79 5),
 dF 2 [79] (oZ 80 79),
 dF 3 [80] (oF 81 12 80),
 dT 4 [81] (oL 82 1 81),
 dF 5 [0] (oM 83 0),
 ⟨6, [83], false, [4], oC 84 19 [.u 83, xI (-1), xI 8]⟩,
 dF 7 [84] (oU 85 (.build [zI, zI, zI, zI] [(0, 1, .u 84)])),
 dF 8 [85] (oU 86 (.mkS 4 1 [zI, zI, zI, zI] [(0, 4, .u 85)])),
 dF 9 [82, 86] (oU 87 (.app 4 32 (.u 82) (.u 86))),
 dF 10 [78] (oZ 88 78),
 dF 11 [88] (oF 89 12 88),
 dF 12 [89, 87] (oR 1 89 87)])
 (sR [oU 91 (.bin .eql (.t 17) (xI 7)),
 oV 90 91]
 (cT 90
 (.regionD [dF 0 [3] (oG 92 2 3),
 dT 1 [92] (oL 93 1 92),
 dF 2 [5] (oM 94 5),
 dF 3 [94] (oZ 95 94),
 dT 4 [95] (oJ 96 14 95),
 dF 5 [96] (oU 97 (.mkS 14 1 [zI, zI, zI, zI, zI, zI, zI, zI, zI, zI, .str [], .str [], .fsl 1 0 [], .bool false] [(0, 14, .u 96)])),
 dF 6 [93, 97] (oU 98 (.app 14 144 (.u 93) (.u 97))),
 dF 7 [3] (oG 99 2 3),
 dF 8 [99, 98] (oR 1 99 98)])
 (sR [oU 101 (.bin .eql (.t 17) (xI 8)),
 oV 100 101]
 (cT 100
 (.region [oG 102 2 3,
 oL 103 1 102,
 oU 104 (.slL 14 (.u 103) (some (xI 1)) none none),
 oG 105 2 3,
 oR 1 105 104])
 .skip))))))))))))))))))))
 (sR [oK 106 3 3,
 oS 3 4 106]
 .ret))))
def r13 : List LRes := [.cell true 3 4]
theorem t13 : trOk Tryz.prog Tryz.f13 (vL [0, 1, 3, 4, 5, 17, 18, 24, 30, 41, 48, 62, 76, 90, 100]) c13 r13 := ⟨by kernel_rfl, by kernel_rfl⟩
end Go.Proofs.YtkdblnejpmbnfaaGreat
namespace Go.Proofs.YtkdblnejpmbnfaaGreat
open Go Go.Lx
set_option linter.unusedSimpArgs false
set_option linter.unusedVariables false
set_option maxRecDepth 100000
set_option maxHeartbeats 8000000
/-- sizes of a table -/
def SzT (n m : Nat) (t : Tb) : Prop := t.ps.length ≤ n ∧ ∀ p ∈ t.ps, p.op.length ≤ m
theorem SzT.ok {n m : Nat} {t : Tb} (h : SzT n m t) (hn : n ≤ 1000) (hm : m ≤ 1000) : okT t := ⟨by have := h.1; omega, fun p hp => by have := h.2 p hp; omega⟩
theorem spEnd {sb b off nn c n m : Nat} {l : List Int} {a a' k : Int} {x y : Int} {cs : List LV} {H : Heap} (ps : List Ps) (hn : nn = ps.length) (hnc : nn ≤ c) (hs : ∃ H2 : Heap, H2.Sublist H ∧ H2.Perm [(6000, .blk b cs), (1000, SB sb l a')]) (ho : off + nn * 14 ≤ cs.length) (hc : leVs ((cs.drop off).take (nn * 14)) (ps.flatMap PsC)) (ha : a ≤ a' ∧ a' ≤ a + k) (hz : SzT n m ⟨x, y, ps⟩) :
    ∃ r' H', leVH gl (.agg [.int .i64 x, .int .i64 y, .msl 6000 14 b off nn c]) H r' H' ∧ ∃ e, H' = [(1000, e)] ∧ ∃ a'', (a ≤ a'' ∧ a'' ≤ a + k) ∧ (∃ u : Tb, SzT n m u ∧ r' = TbL u) ∧ e = SB sb l a'' := by
  subst hn
  refine ⟨TbL ⟨x, y, ps⟩, [(1000, SB sb l a')], leVH.trans (leVH.of (leV.refl _) hs) (leVH.pub (b := b) (cs := cs) 6000 (by simp [getH]) ?_ (leVH.of ?_ ⟨_, List.Sublist.refl _, List.Perm.refl _⟩)), _, rfl, a', ha, ⟨_, hz, rfl⟩, rfl⟩
  · simp [go_sem]
    omega
  · rw [TbL_eq]
    simp only [go_sem]
    exact leV.agg ⟨leV.refl _, leV.refl _, leV.sl hc, trivial⟩
theorem spE {sb b nn c n m k0 : Nat} {l : List Int} {a a' k : Int} {x y : Int} {H : Heap} (ps : List Ps) (hn : nn = ps.length) (hnc : nn ≤ c) (hs : [(6000, .blk b (Sp (ps.flatMap PsC) k0)), (1000, SB sb l a')].Sublist H) (ha : a ≤ a' ∧ a' ≤ a + k) (hz : SzT n m ⟨x, y, ps⟩) :
    ∃ r' H', leVH gl (.agg [.int .i64 x, .int .i64 y, .msl 6000 14 b 0 nn c]) H r' H' ∧ ∃ e, H' = [(1000, e)] ∧ ∃ a'', (a ≤ a'' ∧ a'' ≤ a + k) ∧ (∃ u : Tb, SzT n m u ∧ r' = TbL u) ∧ e = SB sb l a'' := by
  subst hn
  have hle := len_ps ps
  refine spEnd ps rfl hnc ⟨_, hs, List.Perm.refl _⟩ ?_ ?_ ha hz
  · rw [length_Sp, hle]; omega
  · rw [List.drop_zero, take_Sp _ hle]; exact leVs.refl _
theorem putQ {ps : List Ps} {i j k : Nat} {v : LV} (p' : Ps) (hi : i < ps.length) (hj : j < 14) (h : PsC p' = putC (PsC (ps.getD i ps0)) j v) : putC (Sp (ps.flatMap PsC) k) (i * 14 + j) v = Sp ((ps.set i p').flatMap PsC) k := by
  have hle := len_ps ps
  rw [putC_Sp v (by omega), putC_rows (f := PsC) (w := 14) (fun _ => rfl) ps0 p' ps v hi hj h]
theorem putQ2 {ps : List Ps} {i j1 j2 k : Nat} {v1 v2 : LV} (p' p'' : Ps) (hi : i < ps.length) (hj1 : j1 < 14) (hj2 : j2 < 14) (h1 : PsC p' = putC (PsC (ps.getD i ps0)) j1 v1) (h2 : PsC p'' = putC (PsC p') j2 v2) : putC (putC (Sp (ps.flatMap PsC) k) (i * 14 + j1) v1) (i * 14 + j2) v2 = Sp ((ps.set i p'').flatMap PsC) k := by
  rw [putQ p' hi hj1 h1, putQ p'' (by rw [List.length_set]; exact hi) hj2, List.set_set]
  rw [h2]
  congr 1
  simp [List.getD_eq_getElem?_getD, hi]
theorem SzT.set {n m i : Nat} {t : Tb} {x y : Int} {p' : Ps} (h : SzT n m t) (hp : p'.op.length ≤ m) : SzT (n + 1) (m + 1) ⟨x, y, t.ps.set i p'⟩ := by
  refine ⟨by have := h.1; simp only [List.length_set]; omega, fun p hm => ?_⟩
  rcases List.mem_or_eq_of_mem_set hm with hm | rfl
  · have := h.2 p hm; omega
  · omega
theorem SzT.up {n m : Nat} {t : Tb} {x y : Int} (h : SzT n m t) : SzT (n + 1) (m + 1) ⟨x, y, t.ps⟩ := ⟨by have := h.1; dsimp only; omega, fun p hm => by have := h.2 p hm; omega⟩
theorem mapDe_le : ∀ ps : List Ps, leVs ((ps.map fun p => (p, DeS p.op)).flatMap fR) (ps.flatMap PsC)
  | [] => trivial
  | q :: ps => by
    rw [List.map_cons, List.flatMap_cons, List.flatMap_cons]
    exact leVs.app (leVs.refl _) (mapDe_le ps)
theorem rowL_le : ∀ (ps : List Ps) (i : Nat) (o : LV) (p' : Ps), i < ps.length → leVs (PsO (ps.getD i ps0) o) (PsC p') → leVs ((rowL ps i o).flatMap fR) ((ps.set i p').flatMap PsC)
  | [], i, o, p', h, _ => by simp at h
  | q :: ps, 0, o, p', _, h => by
    simp only [rowL, List.map_cons, List.set_cons_zero, List.getD_cons_zero, List.flatMap_cons] at h ⊢
    exact leVs.app h (mapDe_le ps)
  | q :: ps, i + 1, o, p', hi, h => by
    have ih := rowL_le ps i o p' (by simpa using hi) (by simpa using h)
    simp only [rowL, List.map_cons, List.set_cons_succ, List.getD_cons_succ, List.flatMap_cons] at ih ⊢
    exact leVs.app (leVs.refl _) ih
theorem rowL_put {ps : List Ps} {i k : Nat} {o o' : LV} (hi : i < ps.length) : putC (Sp ((rowL ps i o).flatMap fR) k) (i * 14 + 12) o' = Sp ((rowL ps i o').flatMap fR) k := by
  have hl := len_fR (rowL ps i o)
  rw [rowL_len] at hl
  rw [putC_Sp _ (by omega), putC_rows (f := fR) (w := 14) fR_len (ps0, .any) (ps.getD i ps0, o') (rowL ps i o) o' (by rw [rowL_len]; exact hi) (by omega) (by rw [rowL_at hi]; rfl)]
  rw [rowL, rowL, List.set_set]
theorem spoil (t : Tb) (n m : Nat) (h0 : 1 ≤ t.ps.length) (hz : SzT n m t) (hn : n ≤ 1000) (hm : m ≤ 1000) : Gen 13 [TbL t] 10 fun r => ∃ u : Tb, SzT (n + 1) (m + 1) u ∧ r = TbL u := by
  refine Gen.mk fun sb l a hl ha => ?_
  refine fn_viewT Tryz.func13 t13 Tryz.ntmps13 (by simp) ?_
  have ht := hz.ok hn hm
  have hq := hl.2.2
  have hz1 := hz.1
  have hle := len_ps t.ps
  have hc := rcopy t ht
  have i0 := nV_range l a (n := t.ps.length) (by omega)
  have n1 := n_ 1000 sb l a t.ps.length hl (by omega)
  have n2 := n_ 1000 sb l (a + 1) 9 (hl.at (by omega) (by omega)) (by omega)
  have v0 := nV_range l (a + 1) (n := 9) (by omega)
  generalize nV l a t.ps.length = iv at *
  generalize nV l (a + 1) 9 = v at *
  obtain ⟨i, rfl⟩ : ∃ i : Nat, iv = i := ⟨iv.toNat, by omega⟩
  unfold c13 r13
  rw [TbL_eq] at *
  by_cases h6 : v = 6
  · have hlt : i < t.ps.length := by omega
    have hop := hz.2 _ (getD_memA ps0 hlt)
    have hR := rcopyO t i hlt ht
    rw [TbL_eq] at hR
    have hSl := fun k o => length_Sp ((rowL t.ps i o).flatMap fR) k
    have hl2 := fun o => len_fR (rowL t.ps i o)
    simp only [rowL_len] at hl2
    have hpt := fun k o o' => rowL_put (k := k) (o := o) (o' := o') hlt
    have hle2 := fun o p' => rowL_le t.ps i o p' hlt
    have e12 : ∀ k o, (Sp ((rowL t.ps i o).flatMap fR) k).getD (i * 14 + 12) .any = o := fun k o => by
      have := hl2 o
      rw [Sp, List.getD_eq_getElem?_getD, List.getElem?_append_left (by omega), ← List.getD_eq_getElem?_getD, getD_rows (f := fR) (w := 14) fR_len (by omega) (ps0, .any) _ _ (by rw [rowL_len]; exact hlt), rowL_at hlt]; rfl
    have hdl := len_de (t.ps.getD i ps0).op
    have hset : ∀ p' : Ps, p'.op.length ≤ m + 1 → SzT (n + 1) (m + 1) ⟨t.nx, t.ns, t.ps.set i p'⟩ := fun p' hp' => by
      refine ⟨by simp only [List.length_set]; omega, fun q hq => ?_⟩
      rcases List.mem_or_eq_of_mem_set hq with hq | rfl
      · have := hz.2 q hq; omega
      · exact hp'
    have z4 : zeros ([zI, zI, zI, zI] : List LV) 4 = [zI, zI, zI, zI] := Eq.trans rfl rfl
    repeat' (first | (simp (disch := first | exact dd | fail) only [go_sem]) | (refine allI (fun b => ?_)) | (refine allT (fun τ => ?_)) | (refine brP (fun h => ?_) (fun h => ?_) <;> (try simp only [zgx, zbx] at h)) | (refine gd ?_) | fail)
    refine actsQ_U (H0 := []) hR (List.Perm.refl _) ?_
    rintro _ _ ⟨b, c, τ, hbc, rfl, rfl⟩
    simp only [List.cons_append, List.nil_append]
    repeat' (first | (simp (disch := first | exact dd | fail) only [go_sem]) | (refine allI (fun b => ?_)) | (refine allT (fun τ => ?_)) | (refine brP (fun h => ?_) (fun h => ?_) <;> (try simp only [zgx, zbx] at h)) | (refine gd ?_) | fail)
    first | refine actsE_U (n1) (by first | rfl | simp only [getH, if_true]) ?_ | refine actsE_T (n1) (by first | rfl | simp only [getH, if_true]) ?_ | refine actsE_N (n1) (by first | rfl | simp only [getH, if_true]) ?_ | refine actsE_of (n1) (by first | rfl | simp only [getH, if_true]) ?_
    rintro _ _ ⟨rfl, rfl⟩
    repeat' (first | (simp (disch := first | exact dd | fail) only [go_sem]) | (refine allI (fun b => ?_)) | (refine allT (fun τ => ?_)) | (refine brP (fun h => ?_) (fun h => ?_) <;> (try simp only [zgx, zbx] at h)) | (refine gd ?_) | fail)
    first | refine actsE_U (n2) (by first | rfl | simp only [getH, if_true]) ?_ | refine actsE_T (n2) (by first | rfl | simp only [getH, if_true]) ?_ | refine actsE_N (n2) (by first | rfl | simp only [getH, if_true]) ?_ | refine actsE_of (n2) (by first | rfl | simp only [getH, if_true]) ?_
    rintro _ _ ⟨rfl, rfl⟩
    repeat' (first | (simp (disch := first | exact dd | fail) only [go_sem, putC_eq, e12, h6, z4]) | (refine allI (fun b => ?_)) | (refine allT (fun τ => ?_)) | (refine brP (fun h => ?_) (fun h => ?_) <;> (try simp only [zgx, zbx] at h)) | (refine actsE_U (gn _ (by omega) 1000 _ _ _ (hl.at (by omega) (by omega)) (by omega)) rfl ?_; rintro _ _ ⟨_, _, ⟨_, _, rfl⟩, rfl⟩) | (refine actsE_T (gn _ (by omega) 1000 _ _ _ (hl.at (by omega) (by omega)) (by omega)) rfl ?_; rintro _ _ ⟨_, _, ⟨_, _, rfl⟩, rfl⟩) | (refine actsE_of (gn _ (by omega) 1000 _ _ _ (hl.at (by omega) (by omega)) (by omega)) rfl ?_; rintro _ _ ⟨_, _, ⟨_, _, rfl⟩, rfl⟩) | (refine actsE_U (gr _ _ (by omega) 1000 _ _ _ (hl.at (by omega) (by omega)) (by omega)) rfl ?_; rintro _ _ ⟨_, _, ⟨_, _, rfl⟩, rfl⟩) | (refine actsE_T (gr _ _ (by omega) 1000 _ _ _ (hl.at (by omega) (by omega)) (by omega)) rfl ?_; rintro _ _ ⟨_, _, ⟨_, _, rfl⟩, rfl⟩) | (refine actsE_of (gr _ _ (by omega) 1000 _ _ _ (hl.at (by omega) (by omega)) (by omega)) rfl ?_; rintro _ _ ⟨_, _, ⟨_, _, rfl⟩, rfl⟩) | (refine actsE_U (gp _ _ (by decide) (by rfl) (by rfl) 1000 _ _ _ (hl.at (by omega) (by omega)) (by omega)) rfl ?_; rintro _ _ ⟨_, _, ⟨_, _, rfl⟩, rfl⟩) | (refine actsE_T (gp _ _ (by decide) (by rfl) (by rfl) 1000 _ _ _ (hl.at (by omega) (by omega)) (by omega)) rfl ?_; rintro _ _ ⟨_, _, ⟨_, _, rfl⟩, rfl⟩) | (refine actsE_of (gp _ _ (by decide) (by rfl) (by rfl) 1000 _ _ _ (hl.at (by omega) (by omega)) (by omega)) rfl ?_; rintro _ _ ⟨_, _, ⟨_, _, rfl⟩, rfl⟩) | (refine actsE_U (gw 40 _ _ (by decide) (by rfl) (by rfl) 1000 _ _ _ (hl.at (by omega) (by omega)) (by omega)) rfl ?_; rintro _ _ ⟨_, _, ⟨_, _, rfl⟩, rfl⟩) | (refine actsE_T (gw 40 _ _ (by decide) (by rfl) (by rfl) 1000 _ _ _ (hl.at (by omega) (by omega)) (by omega)) rfl ?_; rintro _ _ ⟨_, _, ⟨_, _, rfl⟩, rfl⟩) | (refine actsE_of (gw 40 _ _ (by decide) (by rfl) (by rfl) 1000 _ _ _ (hl.at (by omega) (by omega)) (by omega)) rfl ?_; rintro _ _ ⟨_, _, ⟨_, _, rfl⟩, rfl⟩) | (apply And.intro; focus omega) | (refine callG_LU (fun hg => ?_) (fun hg => ?_) <;> (try simp only [hg])))
    refine ⟨by rw [hSl, hl2]; omega, ?_⟩
    first | refine actsE_U (gr (-1) 8 (by omega) 1000 sb l (a + 1 + 1) (hl.at (by omega) (by omega)) (by omega)) (by first | rfl | simp only [getH, if_true]) ?_ | refine actsE_T (gr (-1) 8 (by omega) 1000 sb l (a + 1 + 1) (hl.at (by omega) (by omega)) (by omega)) (by first | rfl | simp only [getH, if_true]) ?_ | refine actsE_N (gr (-1) 8 (by omega) 1000 sb l (a + 1 + 1) (hl.at (by omega) (by omega)) (by omega)) (by first | rfl | simp only [getH, if_true]) ?_ | refine actsE_of (gr (-1) 8 (by omega) 1000 sb l (a + 1 + 1) (hl.at (by omega) (by omega)) (by omega)) (by first | rfl | simp only [getH, if_true]) ?_
    rintro _ _ ⟨a3, ha3, ⟨fd, hfd, rfl⟩, rfl⟩
    unfold opL1
    repeat' (first | (simp (disch := first | exact dd | fail) only [go_sem, putC_eq, e12, z4]) | (refine allI (fun b => ?_)) | (refine allT (fun τ => ?_)) | (refine brP (fun h => ?_) (fun h => ?_) <;> (try simp only [zgx, zbx] at h)) | (refine actsE_U (gn _ (by omega) 1000 _ _ _ (hl.at (by omega) (by omega)) (by omega)) rfl ?_; rintro _ _ ⟨_, _, ⟨_, _, rfl⟩, rfl⟩) | (refine actsE_T (gn _ (by omega) 1000 _ _ _ (hl.at (by omega) (by omega)) (by omega)) rfl ?_; rintro _ _ ⟨_, _, ⟨_, _, rfl⟩, rfl⟩) | (refine actsE_of (gn _ (by omega) 1000 _ _ _ (hl.at (by omega) (by omega)) (by omega)) rfl ?_; rintro _ _ ⟨_, _, ⟨_, _, rfl⟩, rfl⟩) | (refine actsE_U (gr _ _ (by omega) 1000 _ _ _ (hl.at (by omega) (by omega)) (by omega)) rfl ?_; rintro _ _ ⟨_, _, ⟨_, _, rfl⟩, rfl⟩) | (refine actsE_T (gr _ _ (by omega) 1000 _ _ _ (hl.at (by omega) (by omega)) (by omega)) rfl ?_; rintro _ _ ⟨_, _, ⟨_, _, rfl⟩, rfl⟩) | (refine actsE_of (gr _ _ (by omega) 1000 _ _ _ (hl.at (by omega) (by omega)) (by omega)) rfl ?_; rintro _ _ ⟨_, _, ⟨_, _, rfl⟩, rfl⟩) | (refine actsE_U (gp _ _ (by decide) (by rfl) (by rfl) 1000 _ _ _ (hl.at (by omega) (by omega)) (by omega)) rfl ?_; rintro _ _ ⟨_, _, ⟨_, _, rfl⟩, rfl⟩) | (refine actsE_T (gp _ _ (by decide) (by rfl) (by rfl) 1000 _ _ _ (hl.at (by omega) (by omega)) (by omega)) rfl ?_; rintro _ _ ⟨_, _, ⟨_, _, rfl⟩, rfl⟩) | (refine actsE_of (gp _ _ (by decide) (by rfl) (by rfl) 1000 _ _ _ (hl.at (by omega) (by omega)) (by omega)) rfl ?_; rintro _ _ ⟨_, _, ⟨_, _, rfl⟩, rfl⟩) | (refine actsE_U (gw 40 _ _ (by decide) (by rfl) (by rfl) 1000 _ _ _ (hl.at (by omega) (by omega)) (by omega)) rfl ?_; rintro _ _ ⟨_, _, ⟨_, _, rfl⟩, rfl⟩) | (refine actsE_T (gw 40 _ _ (by decide) (by rfl) (by rfl) 1000 _ _ _ (hl.at (by omega) (by omega)) (by omega)) rfl ?_; rintro _ _ ⟨_, _, ⟨_, _, rfl⟩, rfl⟩) | (refine actsE_of (gw 40 _ _ (by decide) (by rfl) (by rfl) 1000 _ _ _ (hl.at (by omega) (by omega)) (by omega)) rfl ?_; rintro _ _ ⟨_, _, ⟨_, _, rfl⟩, rfl⟩) | (apply And.intro; focus omega) | (refine callG_LU (fun hg => ?_) (fun hg => ?_) <;> (try simp only [hg])))
    refine ⟨by rw [hSl, hl2]; omega, by simp only [roomy]; omega, fun τ2 => ⟨by rw [hSl, hl2]; omega, ?_⟩⟩
    rw [hpt]
    refine spEnd (a' := a3) (cs := Sp ((rowL t.ps i (.osl 6001 τ2 4 ((t.ps.getD i ps0).op.length + 1) ((t.ps.getD i ps0).op.flatMap DeC ++ [.int .i64 fd, zI, zI, zI]))).flatMap fR) ((c - t.ps.length) * 14)) (t.ps.set i { t.ps.getD i ps0 with op := (t.ps.getD i ps0).op ++ [⟨fd, 0, 0, 0⟩] }) (by rw [List.length_set]) hbc ⟨[(6000, .blk b _), (1000, SB sb l a3)], ?_, List.Perm.refl _⟩ ?_ ?_ (by omega) (hset _ (by simp only [List.length_append, List.length_singleton]; omega))
    · (repeat (first | exact List.nil_sublist _ | apply List.Sublist.cons_cons | apply List.Sublist.cons))
    · rw [hSl, hl2]; omega
    · rw [List.drop_zero, take_Sp _ (hl2 _)]
      refine hle2 _ _ ?_
      rw [PsC_eq, DeS_eq, PsO_eq]
      exact ⟨leV.refl _, leV.refl _, leV.refl _, leV.refl _, leV.refl _, leV.refl _, leV.refl _, leV.refl _, leV.refl _, leV.refl _, leV.refl _, leV.refl _, (leV.osl_sl _ _ _ _ _).trans (leV.of_eq (by simp [List.flatMap_append, DeC_eq])), leV.refl _, trivial⟩
  · repeat' (first | (simp (disch := first | exact dd | fail) only [go_sem]) | (refine allI (fun b => ?_)) | (refine allT (fun τ => ?_)) | (refine brP (fun h => ?_) (fun h => ?_) <;> (try simp only [zgx, zbx] at h)) | (refine gd ?_) | fail)
    first | refine newsE_U (hc) ?_ | refine newsE_T (hc) ?_ | refine newsE_of (hc) ?_
    rintro _ _ ⟨b, c, hbc, rfl, rfl⟩
    repeat' (first | (simp (disch := first | exact dd | fail) only [go_sem]) | (refine allI (fun b => ?_)) | (refine allT (fun τ => ?_)) | (refine brP (fun h => ?_) (fun h => ?_) <;> (try simp only [zgx, zbx] at h)) | (refine gd ?_) | fail)
    first | refine actsE_U (n1) (by first | rfl | simp only [getH, if_true]) ?_ | refine actsE_T (n1) (by first | rfl | simp only [getH, if_true]) ?_ | refine actsE_N (n1) (by first | rfl | simp only [getH, if_true]) ?_ | refine actsE_of (n1) (by first | rfl | simp only [getH, if_true]) ?_
    rintro _ _ ⟨rfl, rfl⟩
    repeat' (first | (simp (disch := first | exact dd | fail) only [go_sem]) | (refine allI (fun b => ?_)) | (refine allT (fun τ => ?_)) | (refine brP (fun h => ?_) (fun h => ?_) <;> (try simp only [zgx, zbx] at h)) | (refine gd ?_) | fail)
    first | refine actsE_U (n2) (by first | rfl | simp only [getH, if_true]) ?_ | refine actsE_T (n2) (by first | rfl | simp only [getH, if_true]) ?_ | refine actsE_N (n2) (by first | rfl | simp only [getH, if_true]) ?_ | refine actsE_of (n2) (by first | rfl | simp only [getH, if_true]) ?_
    rintro _ _ ⟨rfl, rfl⟩
    have hlt : i < t.ps.length := by omega
    have hop := hz.2 _ (getD_memA ps0 hlt)
    have hSl := fun k => length_Sp (t.ps.flatMap PsC) k
    have e0 : ∀ k, (Sp (t.ps.flatMap PsC) k).getD (i * 14) .any = .int .i64 (t.ps.getD i ps0).pid := fun k => by
      rw [Sp, List.getD_eq_getElem?_getD, List.getElem?_append_left (by omega), ← List.getD_eq_getElem?_getD, ← Nat.add_zero (i * 14), getD_rows (f := PsC) (w := 14) (fun _ => rfl) (by omega) ps0 _ _ hlt]; rfl
    have e2 := fun k => takeSp (k := k) hlt
    have hP := fun k j v p' (hj : j < 14) h => putQ (ps := t.ps) (i := i) (j := j) (k := k) (v := v) p' hlt hj h
    generalize hpi : t.ps.getD i ps0 = p at *
    have hup := hz.up (x := t.nx) (y := t.ns)
    have hP2 := fun k j1 j2 v1 v2 p' p'' (hj1 : j1 < 14) (hj2 : j2 < 14) h1 h2 => putQ2 (ps := t.ps) (i := i) (j1 := j1) (j2 := j2) (k := k) (v1 := v1) (v2 := v2) p' p'' hlt hj1 hj2 (hpi ▸ h1) h2
    repeat' (first | (simp (disch := first | exact dd | fail) only [go_sem, putC_eq]) | (refine allI (fun b => ?_)) | (refine allT (fun τ => ?_)) | (refine brP (fun h => ?_) (fun h => ?_) <;> (try simp only [zgx, zbx] at h)) | (refine actsE_U (gn _ (by omega) 1000 _ _ _ (hl.at (by omega) (by omega)) (by omega)) rfl ?_; rintro _ _ ⟨_, _, ⟨_, _, rfl⟩, rfl⟩) | (refine actsE_T (gn _ (by omega) 1000 _ _ _ (hl.at (by omega) (by omega)) (by omega)) rfl ?_; rintro _ _ ⟨_, _, ⟨_, _, rfl⟩, rfl⟩) | (refine actsE_of (gn _ (by omega) 1000 _ _ _ (hl.at (by omega) (by omega)) (by omega)) rfl ?_; rintro _ _ ⟨_, _, ⟨_, _, rfl⟩, rfl⟩) | (refine actsE_U (gr _ _ (by omega) 1000 _ _ _ (hl.at (by omega) (by omega)) (by omega)) rfl ?_; rintro _ _ ⟨_, _, ⟨_, _, rfl⟩, rfl⟩) | (refine actsE_T (gr _ _ (by omega) 1000 _ _ _ (hl.at (by omega) (by omega)) (by omega)) rfl ?_; rintro _ _ ⟨_, _, ⟨_, _, rfl⟩, rfl⟩) | (refine actsE_of (gr _ _ (by omega) 1000 _ _ _ (hl.at (by omega) (by omega)) (by omega)) rfl ?_; rintro _ _ ⟨_, _, ⟨_, _, rfl⟩, rfl⟩) | (refine actsE_U (gp _ _ (by decide) (by rfl) (by rfl) 1000 _ _ _ (hl.at (by omega) (by omega)) (by omega)) rfl ?_; rintro _ _ ⟨_, _, ⟨_, _, rfl⟩, rfl⟩) | (refine actsE_T (gp _ _ (by decide) (by rfl) (by rfl) 1000 _ _ _ (hl.at (by omega) (by omega)) (by omega)) rfl ?_; rintro _ _ ⟨_, _, ⟨_, _, rfl⟩, rfl⟩) | (refine actsE_of (gp _ _ (by decide) (by rfl) (by rfl) 1000 _ _ _ (hl.at (by omega) (by omega)) (by omega)) rfl ?_; rintro _ _ ⟨_, _, ⟨_, _, rfl⟩, rfl⟩) | (refine actsE_U (gw 40 _ _ (by decide) (by rfl) (by rfl) 1000 _ _ _ (hl.at (by omega) (by omega)) (by omega)) rfl ?_; rintro _ _ ⟨_, _, ⟨_, _, rfl⟩, rfl⟩) | (refine actsE_T (gw 40 _ _ (by decide) (by rfl) (by rfl) 1000 _ _ _ (hl.at (by omega) (by omega)) (by omega)) rfl ?_; rintro _ _ ⟨_, _, ⟨_, _, rfl⟩, rfl⟩) | (refine actsE_of (gw 40 _ _ (by decide) (by rfl) (by rfl) 1000 _ _ _ (hl.at (by omega) (by omega)) (by omega)) rfl ?_; rintro _ _ ⟨_, _, ⟨_, _, rfl⟩, rfl⟩) | (apply And.intro; focus omega) | (refine callG_LU (fun hg => ?_) (fun hg => ?_) <;> (try simp only [hg])))
    · rename_i a3 ha3 w hw
      refine spE (a' := a3) (k0 := (c - t.ps.length) * 14) t.ps rfl hbc ?_ (by omega) hz.up
      (repeat (first | exact List.nil_sublist _ | apply List.Sublist.cons_cons | apply List.Sublist.cons))
    · rename_i a3 ha3 w hw
      refine spE (a' := a3) (k0 := (c - t.ps.length) * 14) t.ps rfl hbc ?_ (by omega) hz.up
      (repeat (first | exact List.nil_sublist _ | apply List.Sublist.cons_cons | apply List.Sublist.cons))
    · refine ⟨by rw [hSl]; omega, ?_⟩
      first | refine actsE_U (gr (-1) 1 (by omega) 1000 sb l (a + 1 + 1) (hl.at (by omega) (by omega)) (by omega)) (by first | rfl | simp only [getH, if_true]) ?_ | refine actsE_T (gr (-1) 1 (by omega) 1000 sb l (a + 1 + 1) (hl.at (by omega) (by omega)) (by omega)) (by first | rfl | simp only [getH, if_true]) ?_ | refine actsE_N (gr (-1) 1 (by omega) 1000 sb l (a + 1 + 1) (hl.at (by omega) (by omega)) (by omega)) (by first | rfl | simp only [getH, if_true]) ?_ | refine actsE_of (gr (-1) 1 (by omega) 1000 sb l (a + 1 + 1) (hl.at (by omega) (by omega)) (by omega)) (by first | rfl | simp only [getH, if_true]) ?_
      rintro _ _ ⟨a3, ha3, ⟨w, hw, rfl⟩, rfl⟩
      rw [e0]
      repeat' (first | (simp (disch := first | exact dd | fail) only [go_sem, putC_eq]) | (refine allI (fun b => ?_)) | (refine allT (fun τ => ?_)) | (refine brP (fun h => ?_) (fun h => ?_) <;> (try simp only [zgx, zbx] at h)) | (refine actsE_U (gn _ (by omega) 1000 _ _ _ (hl.at (by omega) (by omega)) (by omega)) rfl ?_; rintro _ _ ⟨_, _, ⟨_, _, rfl⟩, rfl⟩) | (refine actsE_T (gn _ (by omega) 1000 _ _ _ (hl.at (by omega) (by omega)) (by omega)) rfl ?_; rintro _ _ ⟨_, _, ⟨_, _, rfl⟩, rfl⟩) | (refine actsE_of (gn _ (by omega) 1000 _ _ _ (hl.at (by omega) (by omega)) (by omega)) rfl ?_; rintro _ _ ⟨_, _, ⟨_, _, rfl⟩, rfl⟩) | (refine actsE_U (gr _ _ (by omega) 1000 _ _ _ (hl.at (by omega) (by omega)) (by omega)) rfl ?_; rintro _ _ ⟨_, _, ⟨_, _, rfl⟩, rfl⟩) | (refine actsE_T (gr _ _ (by omega) 1000 _ _ _ (hl.at (by omega) (by omega)) (by omega)) rfl ?_; rintro _ _ ⟨_, _, ⟨_, _, rfl⟩, rfl⟩) | (refine actsE_of (gr _ _ (by omega) 1000 _ _ _ (hl.at (by omega) (by omega)) (by omega)) rfl ?_; rintro _ _ ⟨_, _, ⟨_, _, rfl⟩, rfl⟩) | (refine actsE_U (gp _ _ (by decide) (by rfl) (by rfl) 1000 _ _ _ (hl.at (by omega) (by omega)) (by omega)) rfl ?_; rintro _ _ ⟨_, _, ⟨_, _, rfl⟩, rfl⟩) | (refine actsE_T (gp _ _ (by decide) (by rfl) (by rfl) 1000 _ _ _ (hl.at (by omega) (by omega)) (by omega)) rfl ?_; rintro _ _ ⟨_, _, ⟨_, _, rfl⟩, rfl⟩) | (refine actsE_of (gp _ _ (by decide) (by rfl) (by rfl) 1000 _ _ _ (hl.at (by omega) (by omega)) (by omega)) rfl ?_; rintro _ _ ⟨_, _, ⟨_, _, rfl⟩, rfl⟩) | (refine actsE_U (gw 40 _ _ (by decide) (by rfl) (by rfl) 1000 _ _ _ (hl.at (by omega) (by omega)) (by omega)) rfl ?_; rintro _ _ ⟨_, _, ⟨_, _, rfl⟩, rfl⟩) | (refine actsE_T (gw 40 _ _ (by decide) (by rfl) (by rfl) 1000 _ _ _ (hl.at (by omega) (by omega)) (by omega)) rfl ?_; rintro _ _ ⟨_, _, ⟨_, _, rfl⟩, rfl⟩) | (refine actsE_of (gw 40 _ _ (by decide) (by rfl) (by rfl) 1000 _ _ _ (hl.at (by omega) (by omega)) (by omega)) rfl ?_; rintro _ _ ⟨_, _, ⟨_, _, rfl⟩, rfl⟩) | (apply And.intro; focus omega) | (refine callG_LU (fun hg => ?_) (fun hg => ?_) <;> (try simp only [hg])))
      refine ⟨⟨by rw [hSl]; omega, e0 _⟩, by rw [hSl]; omega, ?_⟩
      rw [← Nat.add_zero (i * 14), hP _ 0 (.int .i64 (IntKind.i64.wrap (p.pid + w))) { p with pid := IntKind.i64.wrap (p.pid + w) } (by omega) rfl]
      refine spE (a' := a3) (k0 := (c - t.ps.length) * 14) (t.ps.set i { p with pid := IntKind.i64.wrap (p.pid + w) }) (by rw [List.length_set]) hbc ?_ (by omega) (hz.set hop)
      (repeat (first | exact List.nil_sublist _ | apply List.Sublist.cons_cons | apply List.Sublist.cons))
    · rename_i a3 ha3 w hw
      refine ⟨by rw [hSl]; omega, ?_⟩
      rw [hP _ 1 (.int .i64 w) { p with ppid := w } (by omega) rfl]
      refine spE (a' := a3) (k0 := (c - t.ps.length) * 14) (t.ps.set i { p with ppid := w }) (by rw [List.length_set]) hbc ?_ (by omega) (hz.set hop)
      (repeat (first | exact List.nil_sublist _ | apply List.Sublist.cons_cons | apply List.Sublist.cons))
    · rename_i a3 ha3 w hw a4 ha4 w2 hw2
      refine ⟨by rw [hSl]; omega, by rw [putC_len _ (by rw [hSl]; omega), hSl]; omega, ?_⟩
      rw [hP2 _ 2 5 (.int .i64 w) (.int .i64 w2) { p with uid := w } { p with uid := w, egid := w2 } (by omega) (by omega) rfl rfl]
      refine spE (a' := a4) (k0 := (c - t.ps.length) * 14) (t.ps.set i { p with uid := w, egid := w2 }) (by rw [List.length_set]) hbc ?_ (by omega) (hz.set hop)
      (repeat (first | exact List.nil_sublist _ | apply List.Sublist.cons_cons | apply List.Sublist.cons))
    · rename_i a3 ha3 w hw a4 ha4 w2 hw2
      refine ⟨by rw [hSl]; omega, by rw [putC_len _ (by rw [hSl]; omega), hSl]; omega, ?_⟩
      rw [hP2 _ 6 7 (.int .i64 w) (.int .i64 w2) { p with auid := w } { p with auid := w, ses := w2 } (by omega) (by omega) rfl rfl]
      refine spE (a' := a4) (k0 := (c - t.ps.length) * 14) (t.ps.set i { p with auid := w, ses := w2 }) (by rw [List.length_set]) hbc ?_ (by omega) (hz.set hop)
      (repeat (first | exact List.nil_sublist _ | apply List.Sublist.cons_cons | apply List.Sublist.cons))
    · exact absurd h h6
    · refine ⟨by rw [hSl]; omega, ?_⟩
      rw [e2, PsC_eq]
      repeat' (first | (simp (disch := first | exact dd | fail) only [go_sem, zPs]) | (refine allI (fun b => ?_)) | (refine allT (fun τ => ?_)) | (refine brP (fun h => ?_) (fun h => ?_) <;> (try simp only [zgx, zbx] at h)) | (refine gd ?_) | fail)
      refine .inl ⟨by rw [hSl]; omega, by rw [hSl]; omega, by simp only [roomy]; omega, fun b2 c2 h3 => ?_⟩
      rw [take_Sp _ hle, ← PsC_eq, show t.ps.flatMap PsC ++ PsC p ++ List.replicate ((c2 - (t.ps.length + 1)) * 14) LV.any = Sp ((t.ps ++ [p]).flatMap PsC) ((c2 - (t.ps.length + 1)) * 14) by rw [List.flatMap_append, List.flatMap_singleton, Sp]]
      refine spE (a' := a + 1 + 1) (k0 := (c2 - (t.ps.length + 1)) * 14) (t.ps ++ [p]) (by simp) h3 ?_ (by omega) ⟨by simp; omega, fun q hq => ?_⟩
      · (repeat (first | exact List.nil_sublist _ | apply List.Sublist.cons_cons | apply List.Sublist.cons))
      · rcases List.mem_append.1 hq with hq | hq
        · have := hz.2 q hq; omega
        · simp only [List.mem_singleton] at hq; subst hq; omega
    · refine spEnd (a' := a + 1 + 1) (cs := Sp (t.ps.flatMap PsC) ((c - t.ps.length) * 14)) (t.ps.drop 1) (by simp) (by omega) ⟨[(6000, .blk b (Sp (t.ps.flatMap PsC) ((c - t.ps.length) * 14))), (1000, SB sb l (a + 1 + 1))], ?_, List.Perm.refl _⟩ ?_ ?_ (by omega) ⟨by simp; omega, fun q hq => by have := hz.2 q (List.mem_of_mem_drop hq); omega⟩
      · (repeat (first | exact List.nil_sublist _ | apply List.Sublist.cons_cons | apply List.Sublist.cons))
      · rw [hSl]
        split <;> omega
      · split
        · have h1 : t.ps.length = 1 := by omega
          have h2 : t.ps.drop 1 = [] := List.drop_eq_nil_of_le (by omega)
          rw [h1, h2]
          exact trivial
        · have hd := Go.Lx.drop_rows (f := PsC) (w := 14) (fun _ => rfl) t.ps 1
          rw [Nat.one_mul] at hd
          rw [Sp, List.drop_append_of_le_length (by omega), hd, List.take_left' (by rw [len_ps]; simp)]
          exact leVs.refl _
    · exfalso
      omega
end Go.Proofs.YtkdblnejpmbnfaaGreat
