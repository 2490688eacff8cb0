/- Layer 11: before the lookups; the lookups. -/
import Derived.Test.YtkdblnejpmbnfaaGreatV16
namespace Go.Proofs.YtkdblnejpmbnfaaGreat.F
open Go Go.Lx
set_option linter.unusedSimpArgs false
set_option linter.unusedVariables false
set_option maxRecDepth 100000
set_option maxHeartbeats 16000000
theorem rowN_c {n : Int} (h : n = 9 ∨ n = 19) : (rowN n).c = 1 := by
  rcases h with rfl | rfl <;> decide
theorem rowN_b {n : Int} (h : n = 1 ∨ n = 6 ∨ (8 ≤ n ∧ n ≤ 17) ∨ n = 21) : 1 ≤ (rowN n).b := by
  have key : ∀ k : Fin 22, (k.val = 1 ∨ k.val = 6 ∨ (8 ≤ k.val ∧ k.val ≤ 17) ∨ k.val = 21) → 1 ≤ (rws.getD k.val rw0).b := by decide +kernel
  rw [rowN, if_pos (by omega)]
  exact key ⟨n.toNat, by omega⟩ (by simp only; omega)
theorem rowN_b2 {n : Int} (h : n = 8 ∨ n = 13) : (rowN n).b = 2 := by
  rcases h with rfl | rfl <;> decide
theorem before (w : Wk) (o i : LV) (b : Nat) (hck : CkOk w.c) (hca : CaOk w.c) : LCalls Tryz.prog gl 65 [.ptr 36 b 0] [(36, .blk b (WkO w o i))] fun r H => (∃ e : Int, r = .int .i64 e) ∧ H = [(36, .blk b (WkO w o i))] := by
  refine fn_viewT Tryz.func65 t65 Tryz.ntmps65 (by simp) ?_
  have c1 := mode
  have hx : w.c.n = 9 → 1 ≤ w.c.xs.length := fun h => by
    have h1 := hck.xs
    rw [rowN_c (.inl h)] at h1
    omega
  have hx1 : w.c.n = 9 → (w.c.xs.map LV.str).getD 0 .any = .str (w.c.xs.getD 0 []) := fun h => gStr (by have := hx h; omega)
  have hx2 : (w.c.xs.getD 0 []).length ≤ 1000 := by
    rcases h : w.c.xs with _ | ⟨s, l⟩
    · simp
    · simp only [List.getD_cons_zero]
      exact hca.2.2 s (by rw [h]; simp)
  generalize w.c.xs.getD 0 [] = s at *
  unfold c65 r65
  rw [WkO_eq]
  by_cases h9 : w.c.n = 9
  · have hx := hx h9
    have hx1 := hx1 h9
    repeat' (first | (simp (disch := first | exact dd | fail) only [go_sem, hx1, h9, List.length_map, DeS_eq, pick_a0, pick_0a0, pick_00a, pick_0a]) | (refine allI (fun b => ?_)) | (refine allT (fun τ => ?_)) | (refine brP (fun h => ?_) (fun h => ?_) <;> (try simp only [zgx, zbx] at h)) | refine call_U (c1 _) ?_ | refine callG_U (fun _ => c1 _) ?_ | refine call_T (c1 _) ?_ | refine callG_T (fun _ => c1 _) ?_ | refine call_N (c1 _) ?_ | refine call_of (c1 _) ?_ | refine callG_of (fun _ => c1 _) ?_ | (refine gd ?_) | fail)
    all_goals first
      | (exfalso; omega)
      | exact wEnd (leV.refl _) (by repeat (first | exact List.Sublist.refl _ | apply List.Sublist.cons)) ⟨_, rfl⟩
      | skip
    refine loopI (ι := Nat) (fun j => j ≤ s.length) (fun j => (4, .int .i64 j) :: _) (fun _ => _) (fun j => s.length - j) 0 (by omega) Ents.same ?_
    intro j hj
    repeat' (first | (simp (disch := first | exact dd | fail) only [go_sem, hx1, h9, List.length_map]) | (refine allI (fun b => ?_)) | (refine allT (fun τ => ?_)) | (refine brP (fun h => ?_) (fun h => ?_) <;> (try simp only [zgx, zbx] at h)) | (refine gd ?_) | fail)
    all_goals first
      | (exfalso; omega)
      | exact wEnd (leV.refl _) (by repeat (first | exact List.Sublist.refl _ | apply List.Sublist.cons)) ⟨_, rfl⟩
      | exact ⟨⟨j + 1, by omega⟩, by dsimp only; omega, Ents.envH (by simp [go_sem]) rfl⟩
      | trace_state
  · repeat' (first | (simp (disch := first | exact dd | fail) only [go_sem, List.length_map, DeS_eq, pick_a0, pick_0a0, pick_00a, pick_0a]) | (refine allI (fun b => ?_)) | (refine allT (fun τ => ?_)) | (refine brP (fun h => ?_) (fun h => ?_) <;> (try simp only [zgx, zbx] at h)) | refine call_U (c1 _) ?_ | refine callG_U (fun _ => c1 _) ?_ | refine call_T (c1 _) ?_ | refine callG_T (fun _ => c1 _) ?_ | refine call_N (c1 _) ?_ | refine call_of (c1 _) ?_ | refine callG_of (fun _ => c1 _) ?_ | (refine gd ?_) | fail)
    all_goals first
      | (exfalso; omega)
      | exact wEnd (leV.refl _) (by repeat (first | exact List.Sublist.refl _ | apply List.Sublist.cons)) ⟨_, rfl⟩
      | trace_state
theorem rowAllI {l : List It} {i k : Nat} (p : It) (h : i < l.length) : (Sp (l.flatMap ItC) k).take (i * 13) ++ ItC p ++ (Sp (l.flatMap ItC) k).drop (i * 13 + 13) = Sp ((l.set i p).flatMap ItC) k := by
  have hle := len_it l
  have h2 : (i + 1) * 13 ≤ l.length * 13 := Nat.mul_le_mul_right 13 h
  have h3 : (l.take i).flatMap ItC = (l.flatMap ItC).take (i * 13) := by
    have := len_it (l.take i)
    rw [List.length_take, Nat.min_eq_left (by omega)] at this
    conv => rhs; rw [← List.take_append_drop i l, List.flatMap_append, List.take_left' this]
  have h4 : (l.drop (i + 1)).flatMap ItC = (l.flatMap ItC).drop (i * 13 + 13) := by
    have := len_it (l.take (i + 1))
    rw [List.length_take, Nat.min_eq_left (by omega)] at this
    conv => rhs; rw [← List.take_append_drop (i + 1) l, List.flatMap_append, List.drop_left' (by omega)]
  rw [Sp, Sp, List.take_append_of_le_length (by omega), List.drop_append_of_le_length (by omega), List.set_eq_take_append_cons_drop, if_pos h, List.flatMap_append, List.flatMap_cons, h3, h4]
  simp only [List.append_assoc]
theorem WkO_nil (w : Wk) (τ : Tok) : leVs (WkO w (.fsl 1 0 []) (.fsl 1 0 [])) (WkO w (FoS τ []) (ItM 0 0 [])) := by
  rw [WkO_eq, WkO_eq]
  exact ⟨leV.refl _, leV.refl _, leV.refl _, leV.refl _, leV.refl _, leV.refl _, leV.refl _, leV.refl _, leV.refl _, leV.refl _, leV.refl _, leV.refl _, leV.refl _, leV.refl _, leV.refl _, leV.refl _, leV.refl _, leV.refl _, leV.refl _, leV.refl _, leV.refl _, leV.refl _, leV.refl _, leV.refl _, leV.refl _, leV.refl _, leV.nil_osl _ _ _ _, leV.refl _, leV.refl _, leV.refl _, leV.nil_msl _ _ _, leV.refl _, trivial⟩
theorem nm_snoc {l : List Fnd} {f : Fnd} (h : ∀ f ∈ l, f.nm.length ≤ 12) (hf : f.nm.length ≤ 12) : ∀ g ∈ l ++ [f], g.nm.length ≤ 12 := fun g hg => by
  rcases List.mem_append.1 hg with hg | hg
  · exact h g hg
  · simp only [List.mem_singleton] at hg
    subst hg
    exact hf
/-- what is known after the lookups -/
structure LkOk (w : Wk) (fo : List Fnd) (it : List It) (ci : Nat) : Prop where
  lf : fo.length = w.c.ps.length
  li : it.length = w.c.ps.length
  lc : it.length ≤ ci
  ln : ∀ f ∈ fo, f.nm.length ≤ 12
theorem looks (w : Wk) (b q : Nat) (e : Int) (hs : SI q w.s) (hq : q ≤ 900) (hck : CkOk w.c) (hca : CaOk w.c) : LCalls Tryz.prog gl 64 [.ptr 36 b 0, .int .i64 e] [(36, .blk b (WkO w (.fsl 1 0 []) (.fsl 1 0 [])))] fun r H => ∃ (e' : Int) (fo : List Fnd) (it : List It) (τ : Tok) (bi ci : Nat), LkOk w fo it ci ∧ r = .int .i64 e' ∧ H = [(36, .blk b (WkO w (FoS τ fo) (ItM bi ci it))), (43, ItB bi ci it), (111, .tok τ)] := by
  refine fn_viewT Tryz.func64 t64 Tryz.ntmps64 (by simp) ?_
  have c1 := perms w.c
  have c2 := follows w.c
  have c3 := fun p fo hp => find7 w.s ⟨w.p.cd, w.p.ci⟩ p fo q hs hq hp
  have c4 := fun gv pe f => item w.s gv pe f q hs hq
  have hps := hck.ps
  have hpl := hck.pl
  unfold c64 r64
  rw [CaC_eq] at c1 c2
  rw [SpL_eq] at *
  simp only [AtL_eq] at c3
  rw [WkO_eq]
  repeat' (first | (simp (disch := first | exact dd | fail) only [go_sem]) | (refine allI (fun b => ?_)) | (refine allT (fun τ => ?_)) | (refine brP (fun h => ?_) (fun h => ?_) <;> (try simp only [zgx, zbx] at h)) | (refine pureE_U c1 ?_; rintro _ ⟨pl, ⟨hpl1, hpl2⟩, rfl⟩) | (refine gd ?_) | fail)
  refine loopI (ι := Nat × List Fnd × List It × Tok × Nat × Nat × Int) (fun y => y.1 ≤ w.c.ps.length ∧ y.2.1.length = y.1 ∧ y.2.2.1.length = y.1 ∧ y.1 ≤ y.2.2.2.2.2.1 ∧ ∀ f ∈ y.2.1, f.nm.length ≤ 12) (fun y => [(6, .int .i64 y.1), (5, .sl 1 pl.length (pl.map (LV.int .i64))), (0, .ptr 36 b 0), (1, .int .i64 y.2.2.2.2.2.2)]) (fun y => [(36, .blk b (WkO w (FoS y.2.2.2.1 y.2.1) (ItM y.2.2.2.2.1 y.2.2.2.2.2.1 y.2.2.1))), (43, ItB y.2.2.2.2.1 y.2.2.2.2.2.1 y.2.2.1), (111, .tok y.2.2.2.1)]) (fun y => w.c.ps.length - y.1) (0, [], [], ⟨0, 0, 0⟩, 0, 0, e) (by simp) ?_ ?_
  · refine Ents.dum 111 (Ents.emp 43 (Ents.heap [(36, .blk b (WkO w (.fsl 1 0 []) (.fsl 1 0 []))), (43, .blk 0 []), (111, .tok ⟨0, 0, 0⟩)] (by simp [go_sem]) ⟨_, List.Sublist.refl _, List.perm_append_comm (l₁ := [(43, _), (111, _)]) (l₂ := [(36, _)])⟩ ⟨⟨rfl, WkO_nil w _⟩, ⟨rfl, ?_⟩, rfl, trivial⟩))
    simp [Sp, leVs]
  · rintro ⟨i, fo, it, τ, bi, ci, e⟩ ⟨h1, h2, h3, h4, h5⟩
    dsimp only at h1 h2 h3 h4 h5 ⊢
    have hB := (rowN_ok w.c.n).2.1
    have hitl := len_it it
    have hfol := len_fn fo
    have hS := length_Sp (it.flatMap ItC) ((ci - it.length) * 13)
    rw [WkO_eq, FoS_eq, ItM_eq, ItB]
    simp (disch := first | exact dd | fail) only [go_sem]
    refine brP (fun hb => ?_) (fun hb => ?_)
    · have hlt : i < w.c.ps.length := by simpa using hb
      have e1 : (w.c.ps.map LV.str).getD (i * 1) .any = .str (w.c.ps.getD i []) := by rw [Nat.mul_one]; exact gStr hlt
      have e2 : (pl.map (LV.int .i64)).getD (i * 1) .any = .int .i64 (pl.getD i 0) := by
        rw [Nat.mul_one]
        have : i < pl.length := by omega
        simp [List.getD, this]
      have hwl := hpl _ (getD_memA ([] : List UInt8) hlt)
      generalize w.c.ps.getD i [] = s at *
      generalize pl.getD i 0 = pe at *
      repeat' (first | (simp (disch := first | exact dd | fail) only [go_sem, e1, e2, zIt, zFo, List.length_map]) | (refine allI (fun b => ?_)) | (refine allT (fun τ => ?_)) | (refine brP (fun h => ?_) (fun h => ?_) <;> (try simp only [zgx, zbx] at h)) | (refine gd ?_) | fail)
      refine .inl ⟨by omega, by omega, by simp only [roomy]; omega, fun b2 k2 h6 => ?_⟩
      rw [take_Sp _ hitl]
      have hX : it.flatMap ItC ++ [.str s, .str [], .int .i64 0, .int .i64 0, .str [], .int .i64 0, .int .i64 0, .int .i64 1, .int .i64 0, .int .i64 0, .int .i64 0, .int .i64 0, .int .i64 pe] ++ List.replicate ((k2 - (it.length + 1)) * 13) .any = Sp ((it ++ [(⟨s, [], ⟨0, 0⟩, [], ⟨0, 0⟩, 1, 0, 0, 0, 0, pe⟩ : It)]).flatMap ItC) ((k2 - (it.length + 1)) * 13) := by
        simp [Sp, List.flatMap_append, ItC_eq]
      rw [hX]
      have hS2 := length_Sp ((it ++ [(⟨s, [], ⟨0, 0⟩, [], ⟨0, 0⟩, 1, 0, 0, 0, 0, pe⟩ : It)]).flatMap ItC) ((k2 - (it.length + 1)) * 13)
      have hL2 := len_it (it ++ [(⟨s, [], ⟨0, 0⟩, [], ⟨0, 0⟩, 1, 0, 0, 0, 0, pe⟩ : It)])
      rw [List.length_append, List.length_singleton] at hL2
      have hA := fun p => rowAllI (l := it ++ [(⟨s, [], ⟨0, 0⟩, [], ⟨0, 0⟩, 1, 0, 0, 0, 0, pe⟩ : It)]) (i := i) (k := (k2 - (it.length + 1)) * 13) p (by simp; omega)
      have hset : ∀ p, (it ++ [(⟨s, [], ⟨0, 0⟩, [], ⟨0, 0⟩, 1, 0, 0, 0, 0, pe⟩ : It)]).set i p = it ++ [p] := fun p => by
        rw [List.set_append_right _ _ (by omega), show i - it.length = 0 by omega]; rfl
      simp only [hset] at hA
      have c3 := fun fo => c3 s fo (by omega)
      have c4 := fun f => c4 s pe f
      repeat' (first | (simp (disch := first | exact dd | fail) only [go_sem, e1, e2, zIt, zFo, List.length_map]) | (refine allI (fun b => ?_)) | (refine allT (fun τ => ?_)) | (refine brP (fun h => ?_) (fun h => ?_) <;> (try simp only [zgx, zbx] at h)) | (refine pureE_of c2 ?_; rintro _ ⟨fb, rfl⟩) | (refine pureE_of (c3 _) ?_; rintro _ ⟨r, hr, rfl⟩; simp only [FnC_eq] at c4 ⊢) | (refine pureE_of (c4 _) ?_; rintro _ ⟨x, rfl⟩; simp only [ItC_eq] at hA ⊢) | (refine gd ?_) | fail)
      · refine ⟨by simp only [roomy]; omega, fun τ2 => ⟨⟨(i + 1, fo ++ [r.1], it ++ [x], τ2, b2, k2, r.2), by dsimp only; omega, by simp; omega, by simp; omega, by dsimp only; omega, nm_snoc h5 (by first | exact hr | simp [fn0])⟩, by dsimp only; omega, Ents.sub (by simp [go_sem]) ⟨_, List.Sublist.cons_cons _ (List.Sublist.cons _ (List.Sublist.refl _)), (List.reverse_perm _).symm.trans (List.Perm.of_eq ?_)⟩⟩⟩
        dsimp only
        rw [hA x]
        rw [WkO_eq, FoS_eq, ItM_eq, ItB, List.length_append, List.length_append, List.length_singleton, List.length_singleton, List.flatMap_append (xs := fo), List.flatMap_singleton, FnC_eq]
        rfl
      · refine ⟨by simp only [roomy]; omega, fun τ2 => ⟨⟨(i + 1, fo ++ [r.1], it ++ [⟨s, [], ⟨0, 0⟩, [], ⟨0, 0⟩, 1, 0, 0, 0, 0, pe⟩], τ2, b2, k2, r.2), by dsimp only; omega, by simp; omega, by simp; omega, by dsimp only; omega, nm_snoc h5 (by first | exact hr | simp [fn0])⟩, by dsimp only; omega, Ents.sub (by simp [go_sem]) ⟨_, List.Sublist.cons_cons _ (List.Sublist.cons _ (List.Sublist.refl _)), (List.reverse_perm _).symm.trans (List.Perm.of_eq ?_)⟩⟩⟩
        dsimp only
        rw [WkO_eq, FoS_eq, ItM_eq, ItB, List.length_append, List.length_append, List.length_singleton, List.length_singleton, List.flatMap_append (xs := fo), List.flatMap_singleton, FnC_eq]
        rfl
      · refine ⟨by simp only [roomy]; omega, fun τ2 => ⟨⟨(i + 1, fo ++ [fn0], it ++ [⟨s, [], ⟨0, 0⟩, [], ⟨0, 0⟩, 1, 0, 0, 0, 0, pe⟩], τ2, b2, k2, e), by dsimp only; omega, by simp; omega, by simp; omega, by dsimp only; omega, nm_snoc h5 (by first | exact hr | simp [fn0])⟩, by dsimp only; omega, Ents.sub (by simp [go_sem]) ⟨_, List.Sublist.cons_cons _ (List.Sublist.cons _ (List.Sublist.refl _)), (List.reverse_perm _).symm.trans (List.Perm.of_eq ?_)⟩⟩⟩
        dsimp only
        rw [WkO_eq, FoS_eq, ItM_eq, ItB, List.length_append, List.length_append, List.length_singleton, List.length_singleton, List.flatMap_append (xs := fo), List.flatMap_singleton, FnC_eq]
        rfl
    · have hie : i = w.c.ps.length := by simp only [decide_eq_false_iff_not] at hb; omega
      repeat' (first | (simp (disch := first | exact dd | fail) only [go_sem]) | (refine allI (fun b => ?_)) | (refine allT (fun τ => ?_)) | (refine brP (fun h => ?_) (fun h => ?_) <;> (try simp only [zgx, zbx] at h)) | (refine gd ?_) | fail)
      exact ⟨_, _, leVH.of (leV.refl _) ⟨_, List.Sublist.refl _, List.Perm.refl _⟩, e, fo, it, τ, bi, ci, ⟨by omega, by omega, by omega, h5⟩, rfl, rfl⟩
end Go.Proofs.YtkdblnejpmbnfaaGreat.F
namespace Go.Proofs.YtkdblnejpmbnfaaGreat.F
open Go Go.Lx
set_option linter.unusedSimpArgs false
set_option linter.unusedVariables false
set_option maxRecDepth 100000
set_option maxHeartbeats 16000000
theorem SI.fil {q : Nat} {s : Spc} (hs : SI q s) {fs : List Dv} (h : FI 16 (q + 2) fs) : SI (q + 2) ⟨fs, s.ms⟩ := by
  obtain ⟨ρ, r1, r2⟩ := hs.mi
  exact ⟨h, by have := hs.ml; dsimp only; omega, ρ, fun d => by have := r1 d; omega, r2⟩
theorem SI.up {q p : Nat} {s : Spc} (hs : SI q s) (h : q ≤ p) : SI p s := by
  obtain ⟨ρ, r1, r2⟩ := hs.mi
  exact ⟨hs.fi.mono (by omega) h, by have := hs.ml; omega, ρ, fun d => by have := r1 d; omega, r2⟩
/-- what is owned while a call is carried out -/
def WH (b bi ci : Nat) (τ : Tok) (w : Wk) (fo : List Fnd) (it : List It) : Heap := [(36, .blk b (WkO w (FoS τ fo) (ItM bi ci it))), (43, ItB bi ci it)]
theorem WH_eq (b bi ci : Nat) (τ : Tok) (w : Wk) (fo : List Fnd) (it : List It) : WH b bi ci τ w fo it = [(36, .blk b [.sl 2 w.s.fs.length (w.s.fs.flatMap DvC), .sl 3 w.s.ms.length (w.s.ms.flatMap MoC), .int .i64 w.t.nx, .int .i64 w.t.ns, .sl 14 w.t.ps.length (w.t.ps.flatMap PsC),
  .int .i64 w.p.pid, .int .i64 w.p.ppid, .int .i64 w.p.uid, .int .i64 w.p.euid, .int .i64 w.p.gid, .int .i64 w.p.egid, .int .i64 w.p.auid, .int .i64 w.p.ses, .int .i64 w.p.cd, .int .i64 w.p.ci, .str w.p.comm, .str w.p.exe, DeS w.p.op, .bool w.p.au,
  .int .i64 w.c.n, .int .i64 w.c.a0, .int .i64 w.c.a1, .int .i64 w.c.a2, .int .i64 w.c.a3, .sl 1 w.c.ps.length (w.c.ps.map LV.str), .sl 1 w.c.xs.length (w.c.xs.map LV.str), .osl 111 τ 8 fo.length (fo.flatMap FnC), .int .i64 w.ex, .int .i64 w.ch, .int .i64 w.go, .msl 43 13 bi 0 it.length ci, .sl 7 w.cg.length (w.cg.flatMap ChC)]), (43, ItB bi ci it)] := Eq.trans rfl rfl
theorem create (w : Wk) (τ : Tok) (fo : List Fnd) (wb q bi ci j : Nat) (it : List It) (n : No) (hj : j < fo.length) (hji : j < it.length) (hl : fo.length ≤ 2 ∧ it.length ≤ 2) (hc : it.length ≤ ci) (hs : SI q w.s) (hq : q ≤ 890) (hnm : (fo.getD j fn0).nm.length ≤ 12) (ht : n.tg.length ≤ 1000) :
    LCalls Tryz.prog gl 128 [.ptr 36 wb 0, .int .i64 j, .agg (NoO n (.fsl 1 0 []))] (WH wb bi ci τ w fo it) fun r H => ∃ (e : Int) (fs : List Dv) (cg : List Ch) (it' : List It), (e = 0 → SI (q + 2) ⟨fs, w.s.ms⟩ ∧ cg.length = 1) ∧ it'.length = it.length ∧ r = .int .i64 e ∧ H = WH wb bi ci τ (filW e fs cg w) fo it' := by
  refine fn_viewT Tryz.func128 t128 Tryz.ntmps128 (by simp) ?_
  have hF := hs.fi
  have e1 := tFnD hj
  have e2 : (fo.flatMap FnC).getD (j * 8 + 2) .any = .str (fo.getD j fn0).nm := by rw [gFn hj (by omega)]; rfl
  have hlf := len_fn fo
  have c1 := make w.s.fs (fo.getD j fn0).dir (fo.getD j fn0).nm { n with uid := w.p.euid, gid := w.p.egid } q hF (by omega) (by omega) ht
  generalize fo.getD j fn0 = f at *
  unfold c128 r128
  rw [FiL_eq, AtL_eq] at c1
  unfold NoO at *
  rw [WH_eq]
  repeat' (first | (simp (disch := first | exact dd | fail) only [go_sem, e1, e2]) | (refine allI (fun b => ?_)) | (refine allT (fun τ => ?_)) | (refine brP (fun h => ?_) (fun h => ?_) <;> (try simp only [zgx, zbx] at h)) | (refine gd ?_) | fail)
  refine pureE_of c1 ?_
  rintro _ ⟨r, hr, rfl⟩
  rw [FRL_eq, FiL_eq, ChS]
  repeat' (first | (simp (disch := first | exact dd | fail) only [go_sem]) | (refine allI (fun b => ?_)) | (refine allT (fun τ => ?_)) | (refine brP (fun h => ?_) (fun h => ?_) <;> (try simp only [zgx, zbx] at h)) | (refine gd ?_) | fail)
  refine actsQ_of (files w (FoS τ fo) (ItM bi ci it) wb r.fs r.ch r.e) (pick_perm rfl (List.Perm.refl _)) ?_
  rintro _ _ ⟨rfl, rfl⟩
  by_cases he : r.e = 0
  · obtain ⟨h1, h2, h3⟩ := hr he
    obtain ⟨cc, hcc⟩ : ∃ cc, r.ch = [cc] := by
      rcases hx : r.ch with _ | ⟨cc, _ | ⟨c2, l⟩⟩
      · rw [hx] at h3; simp at h3
      · exact ⟨cc, rfl⟩
      · rw [hx] at h3; simp at h3
    have hS := hs.fil h1
    have hw : filW r.e r.fs r.ch w = { w with s := ⟨r.fs, w.s.ms⟩, cg := r.ch } := by rw [filW, if_pos he]
    rw [hw]
    rw [WkO_eq]
    have hm := fun x => made { w with s := ⟨r.fs, w.s.ms⟩, cg := r.ch } (FoS τ fo) wb (q + 2) bi ci it j x hji hl.2 hc hS (by omega)
    simp only [hcc, AtL_eq, List.flatMap_cons, List.flatMap_nil, List.append_nil, ChC_eq, List.length_cons, List.length_nil, List.cons_append, List.nil_append] at hm ⊢
    repeat' (first | (simp (disch := first | exact dd | fail) only [go_sem, he, FoS_eq, ItM_eq]) | (refine allI (fun b => ?_)) | (refine allT (fun τ => ?_)) | (refine brP (fun h => ?_) (fun h => ?_) <;> (try simp only [zgx, zbx] at h)) | (refine gd ?_) | fail)
    refine actsQ_U (hm cc.nw) (pick_perm rfl (pick_perm rfl (List.Perm.refl _))) ?_
    rintro _ _ ⟨it', hit, rfl⟩
    simp only [List.cons_append, List.nil_append]
    repeat' (first | (simp (disch := first | exact dd | fail) only [go_sem]) | (refine allI (fun b => ?_)) | (refine allT (fun τ => ?_)) | (refine brP (fun h => ?_) (fun h => ?_) <;> (try simp only [zgx, zbx] at h)) | (refine gd ?_) | fail)
    refine ⟨_, _, leVH.of (leV.refl _) ⟨_, List.Sublist.cons_cons _ (List.Sublist.cons_cons _ (List.nil_sublist _)), List.Perm.refl _⟩, 0, r.fs, [cc], it', fun _ => ⟨hS, rfl⟩, hit, rfl, ?_⟩
    rw [filW, if_pos rfl]
    rfl
  · have hw : filW r.e r.fs r.ch w = w := by rw [filW, if_neg he]
    have hz : (r.e == 0) = false := by simpa using he
    rw [hw]
    repeat' (first | (simp (disch := first | exact dd | fail) only [go_sem, hz]) | (refine allI (fun b => ?_)) | (refine allT (fun τ => ?_)) | (refine brP (fun h => ?_) (fun h => ?_) <;> (try simp only [zgx, zbx] at h)) | (refine gd ?_) | fail)
    refine ⟨_, _, leVH.of (leV.refl _) ⟨_, List.Sublist.cons_cons _ (List.Sublist.cons _ (List.Sublist.cons_cons _ (List.nil_sublist _))), List.Perm.refl _⟩, r.e, r.fs, r.ch, it, fun h => absurd h he, rfl, rfl, ?_⟩
    rw [filW, if_neg he]
    rfl
end Go.Proofs.YtkdblnejpmbnfaaGreat.F
namespace Go.Proofs.YtkdblnejpmbnfaaGreat.F
open Go Go.Lx
set_option linter.unusedSimpArgs false
set_option linter.unusedVariables false
set_option maxRecDepth 100000
set_option maxHeartbeats 16000000
/-- what carrying out leaves -/
def OpR (wb bi ci : Nat) (τ : Tok) (fo : List Fnd) (it : List It) (q : Nat) (r : LV) (H : Heap) : Prop := ∃ (e : Int) (w' : Wk) (it' : List It), (e = 0 → SI (q + 2) w'.s ∧ VW w'.t) ∧ it'.length = it.length ∧ r = .int .i64 e ∧ H = WH wb bi ci τ w' fo it'
theorem opE {wb bi ci q : Nat} {τ : Tok} {fo : List Fnd} {it : List It} {H : Heap} {e : Int} (w' : Wk) (it' : List It) (hs : (WH wb bi ci τ w' fo it').Sublist H) (h : e = 0 → SI (q + 2) w'.s ∧ VW w'.t) (hl : it'.length = it.length) : ∃ r' H', leVH gl (.int .i64 e) H r' H' ∧ OpR wb bi ci τ fo it q r' H' :=
  ⟨_, _, leVH.of (leV.refl _) ⟨_, hs, List.Perm.refl _⟩, e, w', it', h, hl, rfl, rfl⟩
/-- what is known while a call is carried out -/
structure WOk (q : Nat) (w : Wk) (fo : List Fnd) (it : List It) (ci : Nat) : Prop where
  s : SI q w.s
  t : VW w.t
  k : CkOk w.c
  a : CaOk w.c
  l : LkOk w fo it ci
theorem tFn0 {fo : List Fnd} (h : 0 < fo.length) : (fo.flatMap FnC).take 8 = FnC (fo.getD 0 fn0) := by
  have := tFn h
  simpa using this
theorem tFn1 {fo : List Fnd} (h : 1 < fo.length) : ((fo.flatMap FnC).drop 8).take 8 = FnC (fo.getD 1 fn0) := by
  have := tFn h
  simpa using this
theorem getD_fo {l : List Fnd} {j : Nat} (h : ∀ f ∈ l, f.nm.length ≤ 12) : (l.getD j fn0).nm.length ≤ 12 := by
  by_cases hj : j < l.length
  · exact h _ (getD_memA fn0 hj)
  · rw [List.getD_eq_getElem?_getD, List.getElem?_eq_none (by omega)]
    simp [fn0]
theorem fil_cases (e : Int) (fs : List Dv) (cg : List Ch) (w : Wk) : (e = 0 ∧ filW e fs cg w = { w with s := ⟨fs, w.s.ms⟩, cg := cg }) ∨ (e ≠ 0 ∧ filW e fs cg w = w) := by
  unfold filW
  split
  · exact .inl ⟨by assumption, rfl⟩
  · exact .inr ⟨by assumption, rfl⟩
theorem it1 {l : List It} (h : l.length = 1) : ∃ y, l = [y] := by
  rcases l with _ | ⟨y, _ | ⟨z, l⟩⟩
  · simp at h
  · exact ⟨y, rfl⟩
  · simp at h
theorem it2 {l : List It} (h : l.length = 2) : ∃ y z, l = [y, z] := by
  rcases l with _ | ⟨y, _ | ⟨z, _ | ⟨x, l⟩⟩⟩
  · simp at h
  · simp at h
  · exact ⟨y, z, rfl⟩
  · simp at h
theorem pick_ca (c a : Bool) : pickQ (.bool c) (.bool a) .any = (c = true, .bool a) := by simp [pickQ, LV.v, LV.g]
theorem pick_ac (c b : Bool) : pickQ (.bool c) .any (.bool b) = (c = false, .bool b) := by simp [pickQ, LV.v, LV.g]
theorem callG_L {P : Program} {gl : Glob} {g : Bool} {f : Nat} {args : List LV} {H : Heap} {K : LV → Heap → Prop} (h1 : g = true → LCalls P gl f args H K) (h2 : g = false → K .any H) : callG P gl g f args H K := .inr ⟨h1, h2⟩
theorem link_ (w : Wk) (τ : Tok) (fo : List Fnd) (wb q bi ci : Nat) (it : List It) (h1 : fo.length = 2) (ho : WOk q w fo it ci) (hq : q ≤ 880) : LCalls Tryz.prog gl 103 [.ptr 36 wb 0] (WH wb bi ci τ w fo it) (OpR wb bi ci τ fo it q) := by
  refine fn_viewT Tryz.func103 t103 Tryz.ntmps103 (by simp) ?_
  obtain ⟨hs, hv, hk, ha, hl⟩ := ho
  have l1 := hl.lf
  have l2 := hl.li
  have l3 := hl.lc
  have hlf := len_fn fo
  have e1 := tFn0 (fo := fo) (by omega)
  have e2 := tFn1 (fo := fo) (by omega)
  have cd := wdir w τ fo (ItM bi ci it) wb q 0 (by omega) (by omega) hs (by omega)
  have cm := fun d i n => may w (FoS τ fo) (ItM bi ci it) wb q ⟨d, i⟩ n hs (by omega)
  have hnm := getD_fo (j := 1) hl.ln
  have hm := fun (W : Wk) x hS => made W (FoS τ fo) wb (q + 2) bi ci it 1 x (by omega) (by omega) (by omega) hS (by omega)
  generalize fo.getD 0 fn0 = f at *
  generalize fo.getD 1 fn0 = g at *
  have cl := link w.s.fs g.dir g.nm f.file q hs.fi (by omega) (by omega)
  rw [FnC_eq] at e1 e2
  unfold c103 r103
  rw [FiL_eq, AtL_eq, AtL_eq] at cl
  rw [WH_eq]
  repeat' (first | (simp (disch := first | exact dd | fail) only [go_sem, e1, e2]) | (refine allI (fun b => ?_)) | (refine allT (fun τ => ?_)) | (refine brP (fun h => ?_) (fun h => ?_) <;> (try simp only [zgx, zbx] at h)) | (refine actsQ_U cd (pick_perm rfl (List.Perm.refl _)) ?_; rintro _ _ ⟨rfl, rfl⟩; simp only [WkO_eq, FoS_eq, ItM_eq, List.cons_append, List.nil_append]) | (refine actsQ_T cd (pick_perm rfl (List.Perm.refl _)) ?_; rintro _ _ ⟨rfl, rfl⟩; simp only [WkO_eq, FoS_eq, ItM_eq, List.cons_append, List.nil_append]) | (refine actsQ_of cd (pick_perm rfl (List.Perm.refl _)) ?_; rintro _ _ ⟨rfl, rfl⟩; simp only [WkO_eq, FoS_eq, ItM_eq, List.cons_append, List.nil_append]) | (refine actsQ_U (cm _ _ _) (pick_perm rfl (List.Perm.refl _)) ?_; rintro _ _ ⟨⟨v, rfl⟩, rfl⟩; simp only [WkO_eq, FoS_eq, ItM_eq, List.cons_append, List.nil_append]) | (refine actsQ_T (cm _ _ _) (pick_perm rfl (List.Perm.refl _)) ?_; rintro _ _ ⟨⟨v, rfl⟩, rfl⟩; simp only [WkO_eq, FoS_eq, ItM_eq, List.cons_append, List.nil_append]) | (refine actsQ_of (cm _ _ _) (pick_perm rfl (List.Perm.refl _)) ?_; rintro _ _ ⟨⟨v, rfl⟩, rfl⟩; simp only [WkO_eq, FoS_eq, ItM_eq, List.cons_append, List.nil_append]) | (refine pureE_of cl ?_; rintro _ ⟨r, hr, rfl⟩; rw [FRL_eq, FiL_eq, ChS]) | (refine actsQ_U (files w (FoS τ fo) (ItM bi ci it) wb r.fs r.ch r.e) (pick_perm rfl (List.Perm.refl _)) ?_; rintro _ _ ⟨rfl, rfl⟩; rcases fil_cases r.e r.fs r.ch w with ⟨he, hw⟩ | ⟨he, hw⟩ <;> rw [hw] <;> simp only [WkO_eq, FoS_eq, ItM_eq, List.cons_append, List.nil_append]) | (refine actsQ_T (files w (FoS τ fo) (ItM bi ci it) wb r.fs r.ch r.e) (pick_perm rfl (List.Perm.refl _)) ?_; rintro _ _ ⟨rfl, rfl⟩; rcases fil_cases r.e r.fs r.ch w with ⟨he, hw⟩ | ⟨he, hw⟩ <;> rw [hw] <;> simp only [WkO_eq, FoS_eq, ItM_eq, List.cons_append, List.nil_append]) | (refine actsQ_of (files w (FoS τ fo) (ItM bi ci it) wb r.fs r.ch r.e) (pick_perm rfl (List.Perm.refl _)) ?_; rintro _ _ ⟨rfl, rfl⟩; rcases fil_cases r.e r.fs r.ch w with ⟨he, hw⟩ | ⟨he, hw⟩ <;> rw [hw] <;> simp only [WkO_eq, FoS_eq, ItM_eq, List.cons_append, List.nil_append]) | (refine gd ?_) | fail)
  all_goals first
    | (refine opE w it ?_ (fun h => absurd h (by decide)) rfl; rw [WH]; (repeat (first | exact List.nil_sublist _ | apply List.Sublist.cons_cons | apply List.Sublist.cons)); done)
    | (refine opE w it ?_ (fun h => absurd h he) rfl; rw [WH]; (repeat (first | exact List.nil_sublist _ | apply List.Sublist.cons_cons | apply List.Sublist.cons)); done)
    | (exfalso; omega)
    | skip
  have hS := hs.fil (hr he).1
  refine actsQ_U (hm { w with s := ⟨r.fs, w.s.ms⟩, cg := r.ch } f.file hS) (pick_perm rfl (pick_perm rfl (List.Perm.refl _))) ?_
  rintro _ _ ⟨it', hit, rfl⟩
  simp only [List.cons_append, List.nil_append]
  repeat' (first | (simp (disch := first | exact dd | fail) only [go_sem]) | (refine allI (fun b => ?_)) | (refine allT (fun τ => ?_)) | (refine brP (fun h => ?_) (fun h => ?_) <;> (try simp only [zgx, zbx] at h)) | (refine gd ?_) | fail)
  (refine opE { w with s := ⟨r.fs, w.s.ms⟩, cg := r.ch } it' ?_ (fun _ => ⟨hS, hv⟩) hit; rw [WH]; (repeat (first | exact List.nil_sublist _ | apply List.Sublist.cons_cons | apply List.Sublist.cons)); done)
theorem rem_ (w : Wk) (τ : Tok) (fo : List Fnd) (wb q bi ci : Nat) (it : List It) (h1 : fo.length = 1) (ho : WOk q w fo it ci) (hq : q ≤ 880) : LCalls Tryz.prog gl 104 [.ptr 36 wb 0] (WH wb bi ci τ w fo it) (OpR wb bi ci τ fo it q) := by
  refine fn_viewT Tryz.func104 t104 Tryz.ntmps104 (by simp) ?_
  obtain ⟨hs, hv, hk, ha, hl⟩ := ho
  have l1 := hl.lf
  have l2 := hl.li
  have l3 := hl.lc
  obtain ⟨y, rfl⟩ := it1 (l := it) (by omega)
  have hF := hs.fi.ok (by omega) (by omega)
  have hlf := len_fn fo
  have e1 := tFn0 (fo := fo) (by omega)
  have cd := wdir w τ fo (ItM bi ci [y]) wb q 0 (by omega) (by omega) hs (by omega)
  have cm := fun d i n => may w (FoS τ fo) (ItM bi ci [y]) wb q ⟨d, i⟩ n hs (by omega)
  have cu := fun d i => used w (FoS τ fo) (ItM bi ci [y]) wb q ⟨d, i⟩ hs (by omega) hv
  have hnm := getD_fo (j := 0) hl.ln
  generalize fo.getD 0 fn0 = f at *
  have c1 := look w.s.fs f.dir f.nm hF
  have c2 := unlink w.s.fs f.dir f.nm q hs.fi (by omega) (by omega)
  have c3 := rmdir w.s.fs f.dir f.nm q hs.fi (by omega) (by omega)
  rw [FnC_eq] at e1
  unfold c104 r104
  rw [FiL_eq, AtL_eq] at c1 c2 c3
  rw [WH_eq]
  simp only [List.length_cons, List.length_nil] at *
  simp only [ItB, List.flatMap_cons, List.flatMap_nil, List.append_nil, ItC_eq, Sp, List.cons_append, List.nil_append, List.length_cons, List.length_nil]
  repeat' (first | (simp (disch := first | exact dd | fail) only [go_sem, e1, pick_ca, pick_ac, pick_000]) | (refine allI (fun b => ?_)) | (refine allT (fun τ => ?_)) | (refine brP (fun h => ?_) (fun h => ?_) <;> (try simp only [zgx, zbx] at h)) | (refine callG_LU (fun hg => ?_) (fun hg => ?_) <;> (try simp only [hg])) | (refine callG_L (fun hg => ?_) (fun hg => ?_) <;> (try simp only [hg])) | (refine actsQ_U cd (pick_perm rfl (List.Perm.refl _)) ?_; rintro _ _ ⟨rfl, rfl⟩; simp only [WkO_eq, FoS_eq, ItM_eq, List.cons_append, List.nil_append]) | (refine actsQ_T cd (pick_perm rfl (List.Perm.refl _)) ?_; rintro _ _ ⟨rfl, rfl⟩; simp only [WkO_eq, FoS_eq, ItM_eq, List.cons_append, List.nil_append]) | (refine actsQ_of cd (pick_perm rfl (List.Perm.refl _)) ?_; rintro _ _ ⟨rfl, rfl⟩; simp only [WkO_eq, FoS_eq, ItM_eq, List.cons_append, List.nil_append]) | (refine actsQ_U (cm _ _ _) (pick_perm rfl (List.Perm.refl _)) ?_; rintro _ _ ⟨⟨v, rfl⟩, rfl⟩; simp only [WkO_eq, FoS_eq, ItM_eq, List.cons_append, List.nil_append]) | (refine actsQ_T (cm _ _ _) (pick_perm rfl (List.Perm.refl _)) ?_; rintro _ _ ⟨⟨v, rfl⟩, rfl⟩; simp only [WkO_eq, FoS_eq, ItM_eq, List.cons_append, List.nil_append]) | (refine actsQ_of (cm _ _ _) (pick_perm rfl (List.Perm.refl _)) ?_; rintro _ _ ⟨⟨v, rfl⟩, rfl⟩; simp only [WkO_eq, FoS_eq, ItM_eq, List.cons_append, List.nil_append]) | (refine actsQ_U (cu _ _) (pick_perm rfl (List.Perm.refl _)) ?_; rintro _ _ ⟨⟨v, rfl⟩, rfl⟩; simp only [WkO_eq, FoS_eq, ItM_eq, List.cons_append, List.nil_append]) | (refine actsQ_T (cu _ _) (pick_perm rfl (List.Perm.refl _)) ?_; rintro _ _ ⟨⟨v, rfl⟩, rfl⟩; simp only [WkO_eq, FoS_eq, ItM_eq, List.cons_append, List.nil_append]) | (refine actsQ_of (cu _ _) (pick_perm rfl (List.Perm.refl _)) ?_; rintro _ _ ⟨⟨v, rfl⟩, rfl⟩; simp only [WkO_eq, FoS_eq, ItM_eq, List.cons_append, List.nil_append]) | (refine pureE_of c1 ?_; rintro _ ⟨o, ho, rfl⟩; rw [AtL_eq]) | (refine pureE_of c2 ?_; rintro _ ⟨r, hr, rfl⟩; rw [FRL_eq, FiL_eq, ChS]) | (refine pureE_of c3 ?_; rintro _ ⟨r, hr, rfl⟩; rw [FRL_eq, FiL_eq, ChS]) | (refine actsQ_U (files w (FoS τ fo) (ItM bi ci [y]) wb r.fs r.ch r.e) (pick_perm rfl (List.Perm.refl _)) ?_; rintro _ _ ⟨rfl, rfl⟩; rcases fil_cases r.e r.fs r.ch w with ⟨he, hw⟩ | ⟨he, hw⟩ <;> rw [hw] <;> simp only [WkO_eq, FoS_eq, ItM_eq, List.cons_append, List.nil_append]) | (refine actsQ_T (files w (FoS τ fo) (ItM bi ci [y]) wb r.fs r.ch r.e) (pick_perm rfl (List.Perm.refl _)) ?_; rintro _ _ ⟨rfl, rfl⟩; rcases fil_cases r.e r.fs r.ch w with ⟨he, hw⟩ | ⟨he, hw⟩ <;> rw [hw] <;> simp only [WkO_eq, FoS_eq, ItM_eq, List.cons_append, List.nil_append]) | (refine actsQ_of (files w (FoS τ fo) (ItM bi ci [y]) wb r.fs r.ch r.e) (pick_perm rfl (List.Perm.refl _)) ?_; rintro _ _ ⟨rfl, rfl⟩; rcases fil_cases r.e r.fs r.ch w with ⟨he, hw⟩ | ⟨he, hw⟩ <;> rw [hw] <;> simp only [WkO_eq, FoS_eq, ItM_eq, List.cons_append, List.nil_append]) | (refine gd ?_) | fail)
  all_goals first
    | (exfalso; omega)
    | (refine opE w [y] ?_ (fun h => absurd h (by decide)) rfl; rw [WH]; (repeat (first | exact List.nil_sublist _ | apply List.Sublist.cons_cons | apply List.Sublist.cons)); done)
    | (refine opE w [y] ?_ (fun h => absurd h he) rfl; rw [WH]; (repeat (first | exact List.nil_sublist _ | apply List.Sublist.cons_cons | apply List.Sublist.cons)); done)
    | (refine opE { w with s := ⟨r.fs, w.s.ms⟩, cg := r.ch } [{ y with ro := 3 }] ?_ (fun _ => ⟨hs.fil (hr he).1, hv⟩) rfl; rw [WH]; (repeat (first | exact List.nil_sublist _ | apply List.Sublist.cons_cons | apply List.Sublist.cons)); done)
    | (exfalso; omega)
    | trace_state
end Go.Proofs.YtkdblnejpmbnfaaGreat.F
namespace Go.Proofs.YtkdblnejpmbnfaaGreat.F
open Go Go.Lx
set_option linter.unusedSimpArgs false
set_option linter.unusedVariables false
set_option maxRecDepth 100000
set_option maxHeartbeats 16000000
theorem tab_cases (e : Int) (t : Tb) (w : Wk) : (e = 0 ∧ tabW e t w = { w with t := t }) ∨ (e ≠ 0 ∧ tabW e t w = w) := by
  unfold tabW
  split
  · exact .inl ⟨by assumption, rfl⟩
  · exact .inr ⟨by assumption, rfl⟩
theorem open_ (w : Wk) (τ : Tok) (fo : List Fnd) (wb q bi ci : Nat) (it : List It) (hn : w.c.n = 6) (ho : WOk q w fo it ci) (hq : q ≤ 880) : LCalls Tryz.prog gl 102 [.ptr 36 wb 0] (WH wb bi ci τ w fo it) (OpR wb bi ci τ fo it q) := by
  refine fn_viewT Tryz.func102 t102 Tryz.ntmps102 (by simp) ?_
  obtain ⟨hs, hv, hk, ha, hl⟩ := ho
  have hb := rowN_b (n := w.c.n) (by omega)
  have hb2 := (rowN_ok w.c.n).2.1
  have hps := hk.ps
  have l1 := hl.lf
  have l2 := hl.li
  have hlf := len_fn fo
  have hF := hs.fi.ok (by omega) (by omega)
  have e1 := tFn0 (fo := fo) (by omega)
  have hnm := getD_fo (j := 0) hl.ln
  have c1 := fun d i => node w.s.fs ⟨d, i⟩ hF
  have cm := fun d i n => may w (FoS τ fo) (ItM bi ci it) wb q ⟨d, i⟩ n hs (by omega)
  have cc := fun n ht => create w τ fo wb q bi ci 0 it n (by omega) (by omega) (by omega) hl.lc hs (by omega) hnm ht
  have co : ∀ pid d i fl, PureE Tryz.prog gl 45 [TbL w.t, .int .i64 pid, .agg [.int .i64 d, .int .i64 i], .int .i64 fl] fun v => ∃ (T : Tb) (n e : Int), (e = 0 → VW T) ∧ v = .tup [TbL T, .int .i64 n, .int .i64 e] := fun pid d i fl => (rof w.t pid d i fl hv).mono fun _ _ h => ⟨h.2, _, _, _, fun h0 => hv.of h0, h.1⟩
  generalize fo.getD 0 fn0 = f at *
  rw [FnC_eq] at e1
  unfold c102 r102
  simp only [FiL_eq, AtL_eq, NoC_eq] at c1 cm
  rw [TbL_eq w.t] at co
  rw [WH_eq]
  repeat' (first | (simp (disch := first | exact dd | fail) only [go_sem, e1]) | (refine allI (fun b => ?_)) | (refine allT (fun τ => ?_)) | (refine brP (fun h => ?_) (fun h => ?_) <;> (try simp only [zgx, zbx] at h)) | refine call_U (c1 _ _) ?_ | refine callG_U (fun _ => c1 _ _) ?_ | refine call_T (c1 _ _) ?_ | refine callG_T (fun _ => c1 _ _) ?_ | refine call_N (c1 _ _) ?_ | refine call_of (c1 _ _) ?_ | refine callG_of (fun _ => c1 _ _) ?_ | (refine actsQ_U (cm _ _ _) (pick_perm rfl (List.Perm.refl _)) ?_; rintro _ _ ⟨⟨v, rfl⟩, rfl⟩; simp only [WkO_eq, FoS_eq, ItM_eq, List.cons_append, List.nil_append]) | (refine actsQ_T (cm _ _ _) (pick_perm rfl (List.Perm.refl _)) ?_; rintro _ _ ⟨⟨v, rfl⟩, rfl⟩; simp only [WkO_eq, FoS_eq, ItM_eq, List.cons_append, List.nil_append]) | (refine actsQ_of (cm _ _ _) (pick_perm rfl (List.Perm.refl _)) ?_; rintro _ _ ⟨⟨v, rfl⟩, rfl⟩; simp only [WkO_eq, FoS_eq, ItM_eq, List.cons_append, List.nil_append]) | (refine gd ?_) | fail)
  all_goals first
    | (refine opE w it ?_ (fun h => absurd h (by decide)) rfl; rw [WH]; (repeat (first | exact List.nil_sublist _ | apply List.Sublist.cons_cons | apply List.Sublist.cons)); done)
    | ((refine pureE_of (co _ _ _ _) ?_; rintro _ ⟨T, n, e, hT, rfl⟩; rw [TbL_eq]); (repeat' (first | (simp (disch := first | exact dd | fail) only [go_sem]) | (refine allI (fun b => ?_)) | (refine allT (fun τ => ?_)) | (refine brP (fun h => ?_) (fun h => ?_) <;> (try simp only [zgx, zbx] at h)) | (refine actsQ_U (table { w with ex := n } (FoS τ fo) (ItM bi ci it) wb T e) (pick_perm rfl (List.Perm.refl _)) ?_; rintro _ _ ⟨rfl, rfl⟩; rcases tab_cases e T { w with ex := n } with ⟨he, hw⟩ | ⟨he, hw⟩ <;> rw [hw] <;> simp only [WkO_eq, FoS_eq, ItM_eq, List.cons_append, List.nil_append]) | (refine actsQ_T (table { w with ex := n } (FoS τ fo) (ItM bi ci it) wb T e) (pick_perm rfl (List.Perm.refl _)) ?_; rintro _ _ ⟨rfl, rfl⟩; rcases tab_cases e T { w with ex := n } with ⟨he, hw⟩ | ⟨he, hw⟩ <;> rw [hw] <;> simp only [WkO_eq, FoS_eq, ItM_eq, List.cons_append, List.nil_append]) | (refine actsQ_of (table { w with ex := n } (FoS τ fo) (ItM bi ci it) wb T e) (pick_perm rfl (List.Perm.refl _)) ?_; rintro _ _ ⟨rfl, rfl⟩; rcases tab_cases e T { w with ex := n } with ⟨he, hw⟩ | ⟨he, hw⟩ <;> rw [hw] <;> simp only [WkO_eq, FoS_eq, ItM_eq, List.cons_append, List.nil_append]) | (refine gd ?_) | fail)); all_goals first | (refine opE { w with ex := n, t := T } it ?_ (fun _ => ⟨hs.up (by omega), hT he⟩) rfl; rw [WH]; (repeat (first | exact List.nil_sublist _ | apply List.Sublist.cons_cons | apply List.Sublist.cons)); done) | (refine opE { w with ex := n } it ?_ (fun h => absurd h he) rfl; rw [WH]; (repeat (first | exact List.nil_sublist _ | apply List.Sublist.cons_cons | apply List.Sublist.cons)); done))
    | skip
  refine actsQ_U (cc ⟨0, 1, w.c.a1, 0, 0, 0, [], []⟩ (by simp)) (pick_perm rfl (pick_perm rfl (List.Perm.refl _))) ?_
  rintro _ _ ⟨e', fs', cg', it', hcr, hit, rfl, rfl⟩
  by_cases he : e' = 0
  · obtain ⟨hS, hcg⟩ := hcr he
    obtain ⟨ch, rfl⟩ : ∃ ch, cg' = [ch] := by
      rcases cg' with _ | ⟨ch, _ | ⟨c2, l⟩⟩
      · simp at hcg
      · exact ⟨ch, rfl⟩
      · simp at hcg
    rw [filW, if_pos he, WH_eq]
    simp only [List.flatMap_cons, List.flatMap_nil, List.append_nil, ChC_eq, List.length_cons, List.length_nil, List.cons_append, List.nil_append]
    repeat' (first | (simp (disch := first | exact dd | fail) only [go_sem, he]) | (refine allI (fun b => ?_)) | (refine allT (fun τ => ?_)) | (refine brP (fun h => ?_) (fun h => ?_) <;> (try simp only [zgx, zbx] at h)) | (refine pureE_of (co _ _ _ _) ?_; rintro _ ⟨T, n, e, hT, rfl⟩; rw [TbL_eq]) | (refine actsQ_U (table { w with s := ⟨fs', w.s.ms⟩, cg := [ch], ex := n } (FoS τ fo) (ItM bi ci it') wb T e) (pick_perm rfl (List.Perm.refl _)) ?_; rintro _ _ ⟨rfl, rfl⟩; rcases tab_cases e T { w with s := ⟨fs', w.s.ms⟩, cg := [ch], ex := n } with ⟨he, hw⟩ | ⟨he, hw⟩ <;> rw [hw] <;> simp only [WkO_eq, FoS_eq, ItM_eq, List.cons_append, List.nil_append]) | (refine actsQ_T (table { w with s := ⟨fs', w.s.ms⟩, cg := [ch], ex := n } (FoS τ fo) (ItM bi ci it') wb T e) (pick_perm rfl (List.Perm.refl _)) ?_; rintro _ _ ⟨rfl, rfl⟩; rcases tab_cases e T { w with s := ⟨fs', w.s.ms⟩, cg := [ch], ex := n } with ⟨he, hw⟩ | ⟨he, hw⟩ <;> rw [hw] <;> simp only [WkO_eq, FoS_eq, ItM_eq, List.cons_append, List.nil_append]) | (refine actsQ_of (table { w with s := ⟨fs', w.s.ms⟩, cg := [ch], ex := n } (FoS τ fo) (ItM bi ci it') wb T e) (pick_perm rfl (List.Perm.refl _)) ?_; rintro _ _ ⟨rfl, rfl⟩; rcases tab_cases e T { w with s := ⟨fs', w.s.ms⟩, cg := [ch], ex := n } with ⟨he, hw⟩ | ⟨he, hw⟩ <;> rw [hw] <;> simp only [WkO_eq, FoS_eq, ItM_eq, List.cons_append, List.nil_append]) | (refine gd ?_) | fail)
    all_goals first
      | (refine opE { w with s := ⟨fs', w.s.ms⟩, cg := [ch], ex := n, t := T } it' ?_ (fun _ => ⟨hS, hT he⟩) hit; rw [WH]; (repeat (first | exact List.nil_sublist _ | apply List.Sublist.cons_cons | apply List.Sublist.cons)); done)
      | (refine opE { w with s := ⟨fs', w.s.ms⟩, cg := [ch], ex := n } it' ?_ (fun h => absurd h he) hit; rw [WH]; (repeat (first | exact List.nil_sublist _ | apply List.Sublist.cons_cons | apply List.Sublist.cons)); done)
      | trace_state
  · have hz : (e' != 0) = true := by simpa using he
    rw [filW, if_neg he, WH_eq]
    simp only [List.cons_append, List.nil_append]
    repeat' (first | (simp (disch := first | exact dd | fail) only [go_sem, hz]) | (refine allI (fun b => ?_)) | (refine allT (fun τ => ?_)) | (refine brP (fun h => ?_) (fun h => ?_) <;> (try simp only [zgx, zbx] at h)) | (refine gd ?_) | fail)
    (refine opE w it' ?_ (fun h => absurd h he) hit; rw [WH]; (repeat (first | exact List.nil_sublist _ | apply List.Sublist.cons_cons | apply List.Sublist.cons)); done)
end Go.Proofs.YtkdblnejpmbnfaaGreat.F
namespace Go.Proofs.YtkdblnejpmbnfaaGreat.F
open Go Go.Lx
set_option linter.unusedSimpArgs false
set_option linter.unusedVariables false
set_option maxRecDepth 100000
set_option maxHeartbeats 16000000
theorem tOp {f : FuncId} {args : List LV} {R : Int × Tb} (h : Pure Tryz.prog gl f args (.tup [TbL R.2, .int .i64 R.1])) (hv : R.1 = 0 → VW R.2) : PureE Tryz.prog gl f args fun v => ∃ (T : Tb) (e : Int), (e = 0 → VW T) ∧ v = .tup [TbL T, .int .i64 e] :=
  h.mono fun _ _ h => ⟨h.2, _, _, hv, h.1⟩
theorem VW.fkN {t : Tb} (h : VW t) {pid : Int} (h0 : (fkR t pid).1 = 0) : VW (fkR t pid).2 := by
  refine (h.fk ?_ h0).1
  obtain ⟨h1, h2, h3⟩ := chR_ok h0
  rw [fkG] at h2
  split at h2
  · simp at h2
  · omega
theorem ren_ (w : Wk) (τ : Tok) (fo : List Fnd) (wb q bi ci : Nat) (it : List It) (h1 : fo.length = 2) (ho : WOk q w fo it ci) (hq : q ≤ 880) : LCalls Tryz.prog gl 105 [.ptr 36 wb 0] (WH wb bi ci τ w fo it) (OpR wb bi ci τ fo it q) := by
  refine fn_viewT Tryz.func105 t105 Tryz.ntmps105 (by simp) ?_
  obtain ⟨hs, hv, hk, ha, hl⟩ := ho
  have l1 := hl.lf
  have l2 := hl.li
  have l3 := hl.lc
  obtain ⟨y, z, rfl⟩ := it2 (l := it) (by omega)
  have hF := hs.fi.ok (by omega) (by omega)
  have hlf := len_fn fo
  have e1 := tFn0 (fo := fo) (by omega)
  have e2 := tFn1 (fo := fo) (by omega)
  have cd := wdir w τ fo (ItM bi ci [y, z]) wb q 0 (by omega) (by omega) hs (by omega)
  have cm := fun d i n => may w (FoS τ fo) (ItM bi ci [y, z]) wb q ⟨d, i⟩ n hs (by omega)
  have cu := fun d i => used w (FoS τ fo) (ItM bi ci [y, z]) wb q ⟨d, i⟩ hs (by omega) hv
  have hm := fun (W : Wk) x hS => made W (FoS τ fo) wb (q + 2) bi ci [{ y with ro := 3 }, z] 1 x (by simp) (by simp) l3 hS (by omega)
  have hn0 := getD_fo (j := 0) hl.ln
  have hn1 := getD_fo (j := 1) hl.ln
  generalize fo.getD 0 fn0 = f at *
  generalize fo.getD 1 fn0 = g at *
  have c1 := look w.s.fs f.dir f.nm hF
  have c2 := look w.s.fs g.dir g.nm hF
  have c3 := fun d i => dir w.s.fs ⟨d, i⟩ hF
  have c4 := rename w.s.fs f.dir f.nm g.dir g.nm q hs.fi (by omega) (by omega) (by omega)
  rw [FnC_eq] at e1 e2
  unfold c105 r105
  simp only [FiL_eq, AtL_eq] at c1 c2 c3 c4
  rw [WH_eq]
  simp only [List.length_cons, List.length_nil] at *
  simp only [ItB, List.flatMap_cons, List.flatMap_nil, List.append_nil, ItC_eq, Sp, List.cons_append, List.nil_append, List.length_cons, List.length_nil]
  repeat' (first | (simp (disch := first | exact dd | fail) only [go_sem, e1, e2, un_any, pick_00a, pick_0a0, pick_ca, pick_ac]) | (refine allI (fun b => ?_)) | (refine allT (fun τ => ?_)) | (refine brP (fun h => ?_) (fun h => ?_) <;> (try simp only [zgx, zbx] at h)) | refine call_U (c3 _ _) ?_ | refine callG_U (fun _ => c3 _ _) ?_ | refine call_T (c3 _ _) ?_ | refine callG_T (fun _ => c3 _ _) ?_ | refine call_N (c3 _ _) ?_ | refine call_of (c3 _ _) ?_ | refine callG_of (fun _ => c3 _ _) ?_ | (refine callG_LU (fun hg => ?_) (fun hg => ?_) <;> (try simp only [hg])) | (refine callG_L (fun hg => ?_) (fun hg => ?_) <;> (try simp only [hg])) | (refine actsQ_U cd (pick_perm rfl (List.Perm.refl _)) ?_; rintro _ _ ⟨rfl, rfl⟩; simp only [WkO_eq, FoS_eq, ItM_eq, List.cons_append, List.nil_append]) | (refine actsQ_T cd (pick_perm rfl (List.Perm.refl _)) ?_; rintro _ _ ⟨rfl, rfl⟩; simp only [WkO_eq, FoS_eq, ItM_eq, List.cons_append, List.nil_append]) | (refine actsQ_of cd (pick_perm rfl (List.Perm.refl _)) ?_; rintro _ _ ⟨rfl, rfl⟩; simp only [WkO_eq, FoS_eq, ItM_eq, List.cons_append, List.nil_append]) | (refine actsQ_U (cm _ _ _) (pick_perm rfl (List.Perm.refl _)) ?_; rintro _ _ ⟨⟨v, rfl⟩, rfl⟩; simp only [WkO_eq, FoS_eq, ItM_eq, List.cons_append, List.nil_append]) | (refine actsQ_T (cm _ _ _) (pick_perm rfl (List.Perm.refl _)) ?_; rintro _ _ ⟨⟨v, rfl⟩, rfl⟩; simp only [WkO_eq, FoS_eq, ItM_eq, List.cons_append, List.nil_append]) | (refine actsQ_of (cm _ _ _) (pick_perm rfl (List.Perm.refl _)) ?_; rintro _ _ ⟨⟨v, rfl⟩, rfl⟩; simp only [WkO_eq, FoS_eq, ItM_eq, List.cons_append, List.nil_append]) | (refine actsQ_U (cu _ _) (pick_perm rfl (List.Perm.refl _)) ?_; rintro _ _ ⟨⟨v, rfl⟩, rfl⟩; simp only [WkO_eq, FoS_eq, ItM_eq, List.cons_append, List.nil_append]) | (refine actsQ_T (cu _ _) (pick_perm rfl (List.Perm.refl _)) ?_; rintro _ _ ⟨⟨v, rfl⟩, rfl⟩; simp only [WkO_eq, FoS_eq, ItM_eq, List.cons_append, List.nil_append]) | (refine actsQ_of (cu _ _) (pick_perm rfl (List.Perm.refl _)) ?_; rintro _ _ ⟨⟨v, rfl⟩, rfl⟩; simp only [WkO_eq, FoS_eq, ItM_eq, List.cons_append, List.nil_append]) | (refine pureE_of c1 ?_; rintro _ ⟨x, hx, rfl⟩) | (refine pureE_of c2 ?_; rintro _ ⟨o, ho, rfl⟩) | (refine pureE_of c4 ?_; rintro _ ⟨r, hr, rfl⟩; rw [FRL_eq, FiL_eq, ChS]) | (refine actsQ_U (files w (FoS τ fo) (ItM bi ci [y, z]) wb r.fs r.ch r.e) (pick_perm rfl (List.Perm.refl _)) ?_; rintro _ _ ⟨rfl, rfl⟩; rcases fil_cases r.e r.fs r.ch w with ⟨he, hw⟩ | ⟨he, hw⟩ <;> rw [hw] <;> simp only [WkO_eq, FoS_eq, ItM_eq, List.cons_append, List.nil_append]) | (refine actsQ_T (files w (FoS τ fo) (ItM bi ci [y, z]) wb r.fs r.ch r.e) (pick_perm rfl (List.Perm.refl _)) ?_; rintro _ _ ⟨rfl, rfl⟩; rcases fil_cases r.e r.fs r.ch w with ⟨he, hw⟩ | ⟨he, hw⟩ <;> rw [hw] <;> simp only [WkO_eq, FoS_eq, ItM_eq, List.cons_append, List.nil_append]) | (refine actsQ_of (files w (FoS τ fo) (ItM bi ci [y, z]) wb r.fs r.ch r.e) (pick_perm rfl (List.Perm.refl _)) ?_; rintro _ _ ⟨rfl, rfl⟩; rcases fil_cases r.e r.fs r.ch w with ⟨he, hw⟩ | ⟨he, hw⟩ <;> rw [hw] <;> simp only [WkO_eq, FoS_eq, ItM_eq, List.cons_append, List.nil_append]) | (refine actsQ_U (hm { w with s := ⟨r.fs, w.s.ms⟩, cg := r.ch } x.1 (hs.fil (hr he).1)) (pick_perm rfl (pick_perm rfl (List.Perm.refl _))) ?_; rintro _ _ ⟨it', hit, rfl⟩; simp only [List.cons_append, List.nil_append]) | (refine gd ?_) | fail)
  all_goals first
    | (refine opE w [y, z] ?_ (fun h => absurd h (by decide)) rfl; rw [WH]; (repeat (first | exact List.nil_sublist _ | apply List.Sublist.cons_cons | apply List.Sublist.cons)); done)
    | (refine opE w [y, z] ?_ (fun h => absurd h he) rfl; rw [WH]; (repeat (first | exact List.nil_sublist _ | apply List.Sublist.cons_cons | apply List.Sublist.cons)); done)
    | (refine opE { w with s := ⟨r.fs, w.s.ms⟩, cg := r.ch } [y, z] ?_ (fun _ => ⟨hs.fil (hr he).1, hv⟩) rfl; rw [WH]; (repeat (first | exact List.nil_sublist _ | apply List.Sublist.cons_cons | apply List.Sublist.cons)); done)
    | (refine opE { w with s := ⟨r.fs, w.s.ms⟩, cg := r.ch } it' ?_ (fun _ => ⟨hs.fil (hr he).1, hv⟩) hit; rw [WH]; (repeat (first | exact List.nil_sublist _ | apply List.Sublist.cons_cons | apply List.Sublist.cons)); done)
    | (exfalso; omega)
    | trace_state
theorem att_ (w : Wk) (τ : Tok) (fo : List Fnd) (wb q bi ci : Nat) (it : List It) (h1 : fo.length = 1) (ho : WOk q w fo it ci) (hq : q ≤ 880) : LCalls Tryz.prog gl 106 [.ptr 36 wb 0] (WH wb bi ci τ w fo it) (OpR wb bi ci τ fo it q) := by
  refine fn_viewT Tryz.func106 t106 Tryz.ntmps106 (by simp) ?_
  obtain ⟨hs, hv, hk, ha, hl⟩ := ho
  have l1 := hl.lf
  have hF := hs.fi.ok (by omega) (by omega)
  have hlf := len_fn fo
  have e1 := tFn0 (fo := fo) (by omega)
  generalize fo.getD 0 fn0 = f at *
  have c1 := node w.s.fs f.file hF
  have c2 := fun m u g => set w.s.fs f.file m u g q hs.fi (by omega)
  have c3 := fun fs e => files w (FoS τ fo) (ItM bi ci it) wb fs [] e
  generalize nodeR w.s.fs f.file = R at *
  obtain ⟨nd, nb⟩ := R
  dsimp only at c1
  rw [FnC_eq] at e1
  unfold c106 r106
  simp only [FiL_eq, AtL_eq, NoC_eq] at c1 c2
  rw [WH_eq]
  repeat' (first | (simp (disch := first | exact dd | fail) only [go_sem, e1]) | (refine allI (fun b => ?_)) | (refine allT (fun τ => ?_)) | (refine brP (fun h => ?_) (fun h => ?_) <;> (try simp only [zgx, zbx] at h)) | refine call_U (c1) ?_ | refine callG_U (fun _ => c1) ?_ | refine call_T (c1) ?_ | refine callG_T (fun _ => c1) ?_ | refine call_N (c1) ?_ | refine call_of (c1) ?_ | refine callG_of (fun _ => c1) ?_ | (refine pureE_of (c2 _ _ _) ?_; rintro _ ⟨⟨fs, e⟩, hr, rfl⟩; rw [F2L, FiL_eq]) | (refine actsQ_U (LCalls.args (c3 fs e) ⟨leV.refl _, leV.refl _, leV.nil_sl _ _, leV.refl _, trivial⟩) (pick_perm rfl (List.Perm.refl _)) ?_; rintro _ _ ⟨rfl, rfl⟩; rcases fil_cases e fs [] w with ⟨he, hw⟩ | ⟨he, hw⟩ <;> rw [hw] <;> simp only [WkO_eq, FoS_eq, ItM_eq, List.cons_append, List.nil_append]) | (refine gd ?_) | fail)
  all_goals first
    | (refine opE w it ?_ (fun h => absurd h (by decide)) rfl; rw [WH]; (repeat (first | exact List.nil_sublist _ | apply List.Sublist.cons_cons | apply List.Sublist.cons)); done)
    | (refine opE { w with s := ⟨fs, w.s.ms⟩, cg := [] } it ?_ (fun _ => ⟨⟨(hr he).1.mono (by omega) (by omega), by have := hs.ml; dsimp only; omega, by obtain ⟨ρ, r1, r2⟩ := hs.mi; exact ⟨ρ, fun d => by have := r1 d; omega, r2⟩⟩, hv⟩) rfl; rw [WH]; (repeat (first | exact List.nil_sublist _ | apply List.Sublist.cons_cons | apply List.Sublist.cons)); done)
    | (refine opE w it ?_ (fun h => absurd h he) rfl; rw [WH]; (repeat (first | exact List.nil_sublist _ | apply List.Sublist.cons_cons | apply List.Sublist.cons)); done)
    | trace_state
end Go.Proofs.YtkdblnejpmbnfaaGreat.F
namespace Go.Proofs.YtkdblnejpmbnfaaGreat.F
open Go Go.Lx
set_option linter.unusedSimpArgs false
set_option linter.unusedVariables false
set_option maxRecDepth 100000
set_option maxHeartbeats 16000000
theorem rea_ (w : Wk) (τ : Tok) (fo : List Fnd) (wb q bi ci : Nat) (it : List It) (h1 : fo.length = 1) (ho : WOk q w fo it ci) (hq : q ≤ 880) : LCalls Tryz.prog gl 107 [.ptr 36 wb 0] (WH wb bi ci τ w fo it) (OpR wb bi ci τ fo it q) := by
  refine fn_viewT Tryz.func107 t107 Tryz.ntmps107 (by simp) ?_
  obtain ⟨hs, hv, hk, ha, hl⟩ := ho
  have l1 := hl.lf
  have hlf := len_fn fo
  have e1 := tFn0 (fo := fo) (by omega)
  have cd := wdir w τ fo (ItM bi ci it) wb q 0 (by omega) (by omega) hs (by omega)
  have cm := fun d i n => may w (FoS τ fo) (ItM bi ci it) wb q ⟨d, i⟩ n hs (by omega)
  generalize fo.getD 0 fn0 = f at *
  have c1 := tOp (rex w.t w.p.pid f.path f.nm hv) hv.ex
  have c2 := tOp (rcd w.t w.p.pid f.file.d f.file.i hv) hv.cd
  have c3 := add w.s w.c.a0 f.file q hs (by omega)
  rw [FnC_eq] at e1
  unfold c107 r107
  rw [TbL_eq w.t] at c1 c2
  rw [SpL_eq, AtL_eq] at c3
  rw [WH_eq]
  repeat' (first | (simp (disch := first | exact dd | fail) only [go_sem, e1, pick_ca, pick_ac, un_any, pick_00a, pick_0a0]) | (refine allI (fun b => ?_)) | (refine allT (fun τ => ?_)) | (refine brP (fun h => ?_) (fun h => ?_) <;> (try simp only [zgx, zbx] at h)) | (refine callG_LU (fun hg => ?_) (fun hg => ?_) <;> (try simp only [hg])) | (refine callG_L (fun hg => ?_) (fun hg => ?_) <;> (try simp only [hg])) | (refine actsQ_U cd (pick_perm rfl (List.Perm.refl _)) ?_; rintro _ _ ⟨rfl, rfl⟩; simp only [WkO_eq, FoS_eq, ItM_eq, List.cons_append, List.nil_append]) | (refine actsQ_T cd (pick_perm rfl (List.Perm.refl _)) ?_; rintro _ _ ⟨rfl, rfl⟩; simp only [WkO_eq, FoS_eq, ItM_eq, List.cons_append, List.nil_append]) | (refine actsQ_of cd (pick_perm rfl (List.Perm.refl _)) ?_; rintro _ _ ⟨rfl, rfl⟩; simp only [WkO_eq, FoS_eq, ItM_eq, List.cons_append, List.nil_append]) | (refine actsQ_U (cm _ _ _) (pick_perm rfl (List.Perm.refl _)) ?_; rintro _ _ ⟨⟨v, rfl⟩, rfl⟩; simp only [WkO_eq, FoS_eq, ItM_eq, List.cons_append, List.nil_append]) | (refine actsQ_T (cm _ _ _) (pick_perm rfl (List.Perm.refl _)) ?_; rintro _ _ ⟨⟨v, rfl⟩, rfl⟩; simp only [WkO_eq, FoS_eq, ItM_eq, List.cons_append, List.nil_append]) | (refine actsQ_of (cm _ _ _) (pick_perm rfl (List.Perm.refl _)) ?_; rintro _ _ ⟨⟨v, rfl⟩, rfl⟩; simp only [WkO_eq, FoS_eq, ItM_eq, List.cons_append, List.nil_append]) | (refine pureE_of c1 ?_; rintro _ ⟨T, e, hT, rfl⟩; rw [TbL_eq]) | (refine pureE_of c2 ?_; rintro _ ⟨T, e, hT, rfl⟩; rw [TbL_eq]) | (refine pureE_of c3 ?_; rintro _ ⟨⟨x, e⟩, hx, rfl⟩; rw [S2L, SpL_eq]) | (refine actsQ_U (table w (FoS τ fo) (ItM bi ci it) wb T e) (pick_perm rfl (List.Perm.refl _)) ?_; rintro _ _ ⟨rfl, rfl⟩; rcases tab_cases e T w with ⟨he, hw⟩ | ⟨he, hw⟩ <;> rw [hw] <;> simp only [WkO_eq, FoS_eq, ItM_eq, List.cons_append, List.nil_append]) | (refine actsQ_T (table w (FoS τ fo) (ItM bi ci it) wb T e) (pick_perm rfl (List.Perm.refl _)) ?_; rintro _ _ ⟨rfl, rfl⟩; rcases tab_cases e T w with ⟨he, hw⟩ | ⟨he, hw⟩ <;> rw [hw] <;> simp only [WkO_eq, FoS_eq, ItM_eq, List.cons_append, List.nil_append]) | (refine actsQ_of (table w (FoS τ fo) (ItM bi ci it) wb T e) (pick_perm rfl (List.Perm.refl _)) ?_; rintro _ _ ⟨rfl, rfl⟩; rcases tab_cases e T w with ⟨he, hw⟩ | ⟨he, hw⟩ <;> rw [hw] <;> simp only [WkO_eq, FoS_eq, ItM_eq, List.cons_append, List.nil_append]) | (refine gd ?_) | fail)
  all_goals first
    | (exfalso; omega)
    | (refine opE w it ?_ (fun h => absurd h (by decide)) rfl; rw [WH]; (repeat (first | exact List.nil_sublist _ | apply List.Sublist.cons_cons | apply List.Sublist.cons)); done)
    | (refine opE { w with t := T } it ?_ (fun _ => ⟨hs.up (by omega), hT he⟩) rfl; rw [WH]; (repeat (first | exact List.nil_sublist _ | apply List.Sublist.cons_cons | apply List.Sublist.cons)); done)
    | (refine opE w it ?_ (fun h => absurd h he) rfl; rw [WH]; (repeat (first | exact List.nil_sublist _ | apply List.Sublist.cons_cons | apply List.Sublist.cons)); done)
    | (refine opE w it ?_ (fun h => absurd h (by assumption)) rfl; rw [WH]; (repeat (first | exact List.nil_sublist _ | apply List.Sublist.cons_cons | apply List.Sublist.cons)); done)
    | (refine opE w it ?_ (fun _ => ⟨hs.up (by omega), hv⟩) rfl; rw [WH]; (repeat (first | exact List.nil_sublist _ | apply List.Sublist.cons_cons | apply List.Sublist.cons)); done)
    | (refine opE { w with s := x } it ?_ (fun h => ⟨(hx h).up (by omega), hv⟩) rfl; rw [WH]; (repeat (first | exact List.nil_sublist _ | apply List.Sublist.cons_cons | apply List.Sublist.cons)); done)
    | trace_state
theorem pla_ (w : Wk) (τ : Tok) (fo : List Fnd) (wb q bi ci : Nat) (it : List It) (h1 : fo.length = 1) (hx : w.c.n = 9 → 1 ≤ w.c.xs.length) (ho : WOk q w fo it ci) (hq : q ≤ 880) : LCalls Tryz.prog gl 108 [.ptr 36 wb 0] (WH wb bi ci τ w fo it) (OpR wb bi ci τ fo it q) := by
  refine fn_viewT Tryz.func108 t108 Tryz.ntmps108 (by simp) ?_
  obtain ⟨hs, hv, hk, ha, hl⟩ := ho
  have l1 := hl.lf
  have l2 := hl.li
  have hlf := len_fn fo
  have e1 := tFn0 (fo := fo) (by omega)
  have cm := fun d i n => may w (FoS τ fo) (ItM bi ci it) wb q ⟨d, i⟩ n hs (by omega)
  have cc := fun n ht => create w τ fo wb q bi ci 0 it n (by omega) (by omega) (by omega) hl.lc hs (by omega) (getD_fo hl.ln) ht
  have ex : w.c.n = 9 → (w.c.xs.map LV.str).getD 0 .any = .str (w.c.xs.getD 0 []) := fun h => gStr (by have := hx h; omega)
  have hx2 : (w.c.xs.getD 0 []).length ≤ 1000 := by
    rcases h : w.c.xs with _ | ⟨s, l⟩
    · simp
    · simp only [List.getD_cons_zero]
      exact ha.2.2 s (by rw [h]; simp)
  generalize fo.getD 0 fn0 = f at *
  generalize w.c.xs.getD 0 [] = s at *
  have cs := cc ⟨0, 3, 511, 0, 0, 0, s, []⟩ (by dsimp only; omega)
  have cn := cc ⟨0, 2, w.c.a0, 0, 0, 0, [], []⟩ (by simp)
  rw [FnC_eq] at e1
  unfold c108 r108
  rw [WH_eq]
  by_cases h9 : w.c.n = 9
  · have hx := hx h9
    have ex := ex h9
    repeat' (first | (simp (disch := first | exact dd | fail) only [go_sem, e1, ex, List.length_map, pick_ca, pick_ac, un_any, pick_00a, pick_0a0]) | (refine allI (fun b => ?_)) | (refine allT (fun τ => ?_)) | (refine brP (fun h => ?_) (fun h => ?_) <;> (try simp only [zgx, zbx] at h)) | (refine actsQ_U (cm _ _ _) (pick_perm rfl (List.Perm.refl _)) ?_; rintro _ _ ⟨⟨v, rfl⟩, rfl⟩; simp only [WkO_eq, FoS_eq, ItM_eq, List.cons_append, List.nil_append]) | (refine actsQ_T (cm _ _ _) (pick_perm rfl (List.Perm.refl _)) ?_; rintro _ _ ⟨⟨v, rfl⟩, rfl⟩; simp only [WkO_eq, FoS_eq, ItM_eq, List.cons_append, List.nil_append]) | (refine actsQ_of (cm _ _ _) (pick_perm rfl (List.Perm.refl _)) ?_; rintro _ _ ⟨⟨v, rfl⟩, rfl⟩; simp only [WkO_eq, FoS_eq, ItM_eq, List.cons_append, List.nil_append]) | (refine actsQ_U cs (pick_perm rfl (pick_perm rfl (List.Perm.refl _))) ?_; rintro _ _ ⟨e', fs', cg', it', hcr, hit, rfl, rfl⟩) | (refine gd ?_) | fail)
    all_goals first
      | (exfalso; omega)
      | (refine opE w it ?_ (fun h => absurd h (by decide)) rfl; rw [WH]; (repeat (first | exact List.nil_sublist _ | apply List.Sublist.cons_cons | apply List.Sublist.cons)); done)
      | (refine opE (filW e' fs' cg' w) it' ?_ (fun h => ?_) hit; (repeat (first | exact List.Sublist.refl _ | exact List.sublist_append_left _ _ | apply List.Sublist.cons)); rw [filW, if_pos h]; exact ⟨(hcr h).1, hv⟩)
      | trace_state
  · repeat' (first | (simp (disch := first | exact dd | fail) only [go_sem, e1, List.length_map, pick_ca, pick_ac, un_any, pick_00a, pick_0a0]) | (refine allI (fun b => ?_)) | (refine allT (fun τ => ?_)) | (refine brP (fun h => ?_) (fun h => ?_) <;> (try simp only [zgx, zbx] at h)) | (refine actsQ_U (cm _ _ _) (pick_perm rfl (List.Perm.refl _)) ?_; rintro _ _ ⟨⟨v, rfl⟩, rfl⟩; simp only [WkO_eq, FoS_eq, ItM_eq, List.cons_append, List.nil_append]) | (refine actsQ_T (cm _ _ _) (pick_perm rfl (List.Perm.refl _)) ?_; rintro _ _ ⟨⟨v, rfl⟩, rfl⟩; simp only [WkO_eq, FoS_eq, ItM_eq, List.cons_append, List.nil_append]) | (refine actsQ_of (cm _ _ _) (pick_perm rfl (List.Perm.refl _)) ?_; rintro _ _ ⟨⟨v, rfl⟩, rfl⟩; simp only [WkO_eq, FoS_eq, ItM_eq, List.cons_append, List.nil_append]) | (refine actsQ_U cn (pick_perm rfl (pick_perm rfl (List.Perm.refl _))) ?_; rintro _ _ ⟨e', fs', cg', it', hcr, hit, rfl, rfl⟩) | (refine gd ?_) | fail)
    all_goals first
      | (exfalso; omega)
      | (refine opE w it ?_ (fun h => absurd h (by decide)) rfl; rw [WH]; (repeat (first | exact List.nil_sublist _ | apply List.Sublist.cons_cons | apply List.Sublist.cons)); done)
      | (refine opE (filW e' fs' cg' w) it' ?_ (fun h => ?_) hit; (repeat (first | exact List.Sublist.refl _ | exact List.sublist_append_left _ _ | apply List.Sublist.cons)); rw [filW, if_pos h]; exact ⟨(hcr h).1, hv⟩)
      | trace_state
theorem umo_ (w : Wk) (τ : Tok) (fo : List Fnd) (wb q bi ci : Nat) (it : List It) (ho : WOk q w fo it ci) (hq : q ≤ 880) : LCalls Tryz.prog gl 140 [.ptr 36 wb 0] (WH wb bi ci τ w fo it) (OpR wb bi ci τ fo it q) := by
  refine fn_viewT Tryz.func140 t140 Tryz.ntmps140 (by simp) ?_
  obtain ⟨hs, hv, hk, ha, hl⟩ := ho
  have hml := hs.ml
  have c1 := mtd w.s w.c.a0 (by omega)
  have c2 := rem6 w.s w.c.a0 q hs (by omega)
  have hle := len_ps w.t.ps
  have hlen := hv.len
  have hop : ∀ j, j < w.t.ps.length → (w.t.ps.getD j ps0).op.length ≤ 8 := fun j hj => (hv.all j hj).op.len
  unfold c140 r140
  rw [SpL_eq] at c1 c2
  rw [WH_eq]
  repeat' (first | (simp (disch := first | exact dd | fail) only [go_sem, pick_ca, pick_ac, un_any, pick_00a, pick_0a0]) | (refine allI (fun b => ?_)) | (refine allT (fun τ => ?_)) | (refine brP (fun h => ?_) (fun h => ?_) <;> (try simp only [zgx, zbx] at h)) | (refine callG_LU (fun hg => ?_) (fun hg => ?_) <;> (try simp only [hg])) | (refine callG_L (fun hg => ?_) (fun hg => ?_) <;> (try simp only [hg])) | (refine pureE_U c1 ?_; rintro _ ⟨mb, hmb, rfl⟩) | (refine gd ?_) | fail)
  all_goals first
    | (exfalso; omega)
    | (refine opE w it ?_ (fun h => absurd h (by decide)) rfl; rw [WH]; (repeat (first | exact List.nil_sublist _ | apply List.Sublist.cons_cons | apply List.Sublist.cons)); done)
    | skip
  refine loopI (ι := Nat) (fun j => j ≤ w.t.ps.length) (fun j => (4, .int .i64 j) :: _) (fun _ => _) (fun j => w.t.ps.length - j) 0 (by omega) Ents.same ?_
  intro j hj
  simp (disch := first | exact dd | fail) only [go_sem]
  refine brP (fun hb => ?_) (fun hb => ?_)
  · have hlt : j < w.t.ps.length := by simpa using hb
    have e2 := take_rows (f := PsC) (w := 14) (fun _ => rfl) ps0 w.t.ps hlt
    have hop := hop j hlt
    generalize w.t.ps.getD j ps0 = p at *
    have hpl := len_de p.op
    rw [PsC_eq, DeS_eq] at e2
    repeat' (first | (simp (disch := first | exact dd | fail) only [go_sem, e2]) | (refine allI (fun b => ?_)) | (refine allT (fun τ => ?_)) | (refine brP (fun h => ?_) (fun h => ?_) <;> (try simp only [zgx, zbx] at h)) | (refine gd ?_) | fail)
    · (refine opE w it ?_ (fun h => absurd h (by decide)) rfl; rw [WH]; (repeat (first | exact List.nil_sublist _ | apply List.Sublist.cons_cons | apply List.Sublist.cons)); done)
    · refine loopI (ι := Nat) (fun k => k ≤ p.op.length) (fun k => (6, .int .i64 k) :: _) (fun _ => _) (fun k => p.op.length - k) 0 (by omega) Ents.same ?_
      intro k hk
      simp (disch := first | exact dd | fail) only [go_sem]
      refine brP (fun hb2 => ?_) (fun hb2 => ?_)
      · have hlt2 : k < p.op.length := by simpa using hb2
        have e3 : (p.op.flatMap DeC).getD (k * 4 + 1) .any = .int .i64 (p.op.getD k de0).d := by
          rw [getD_rows (f := DeC) (w := 4) (fun _ => rfl) (by omega) de0 _ _ hlt2]; rfl
        generalize p.op.getD k de0 = d at *
        repeat' (first | (simp (disch := first | exact dd | fail) only [go_sem, e3]) | (refine allI (fun b => ?_)) | (refine allT (fun τ => ?_)) | (refine brP (fun h => ?_) (fun h => ?_) <;> (try simp only [zgx, zbx] at h)) | (refine gd ?_) | fail)
        · (refine opE w it ?_ (fun h => absurd h (by decide)) rfl; rw [WH]; (repeat (first | exact List.nil_sublist _ | apply List.Sublist.cons_cons | apply List.Sublist.cons)); done)
        · exact ⟨⟨k + 1, by omega⟩, by dsimp only; omega, Ents.envH (by simp [go_sem]) rfl⟩
      · repeat' (first | (simp (disch := first | exact dd | fail) only [go_sem]) | (refine allI (fun b => ?_)) | (refine allT (fun τ => ?_)) | (refine brP (fun h => ?_) (fun h => ?_) <;> (try simp only [zgx, zbx] at h)) | (refine gd ?_) | fail)
        exact ⟨⟨j + 1, by omega⟩, by dsimp only; omega, Ents.sub (by simp [go_sem]) ⟨_, List.Sublist.cons _ (List.Sublist.refl _), List.Perm.refl _⟩⟩
  · repeat' (first | (simp (disch := first | exact dd | fail) only [go_sem]) | (refine allI (fun b => ?_)) | (refine allT (fun τ => ?_)) | (refine brP (fun h => ?_) (fun h => ?_) <;> (try simp only [zgx, zbx] at h)) | (refine pureE_U c2 ?_; rintro _ ⟨⟨x, e⟩, hx, rfl⟩; rw [S2L, SpL_eq]) | (refine gd ?_) | fail)
    all_goals first
      | (exfalso; omega)
      | (refine opE { w with s := x, go := w.c.a0 } it ?_ (fun h => ⟨(hx h).up (by omega), hv⟩) rfl; rw [WH]; (repeat (first | exact List.nil_sublist _ | apply List.Sublist.cons_cons | apply List.Sublist.cons)); done)
      | (refine opE w it ?_ (fun h => absurd h (by assumption)) rfl; rw [WH]; (repeat (first | exact List.nil_sublist _ | apply List.Sublist.cons_cons | apply List.Sublist.cons)); done)
      | trace_state
theorem oth_ (w : Wk) (τ : Tok) (fo : List Fnd) (wb q bi ci : Nat) (it : List It) (hx : w.c.n = 19 → 1 ≤ w.c.xs.length) (ho : WOk q w fo it ci) (hq : q ≤ 880) : LCalls Tryz.prog gl 109 [.ptr 36 wb 0] (WH wb bi ci τ w fo it) (OpR wb bi ci τ fo it q) := by
  refine fn_viewT Tryz.func109 t109 Tryz.ntmps109 (by simp) ?_
  have cu := umo_ w τ fo wb q bi ci it ho hq
  obtain ⟨hs, hv, hk, ha, hl⟩ := ho
  have ex : w.c.n = 19 → (w.c.xs.map LV.str).getD 0 .any = .str (w.c.xs.getD 0 []) := fun h => gStr (by have := hx h; omega)
  have c1 : PureE Tryz.prog gl 37 [TbL w.t, .int .i64 w.p.pid] fun v => ∃ (T : Tb) (n e : Int), (e = 0 → VW T) ∧ v = .tup [TbL T, .int .i64 n, .int .i64 e] := (rfk w.t w.p.pid hv).mono fun _ _ h => ⟨h.2, _, _, _, VW.fkN hv, h.1⟩
  have c2 := tOp (rxt w.t w.p.pid hv) fun h => (hv.xt h).1
  have c3 := fun u => tOp (rsu w.t w.p.pid u hv) hv.su
  have c4 := fun u => tOp (rsg w.t w.p.pid u hv) hv.sg
  have c5 := fun u => tOp (rlo w.t w.p.pid u hv) hv.lo
  have c6 := fun u => tOp (rcf w.t w.p.pid u hv) hv.cf
  have c7 := fun g b => tOp (rki w.t w.p.pid g b hv) hv.ki
  unfold c109 r109
  rw [TbL_eq w.t] at c1 c2
  simp only [TbL_eq w.t] at c3 c4 c5 c6 c7
  rw [WH_eq] at cu ⊢
  generalize w.c.xs.getD 0 [] = s at *
  by_cases h9 : w.c.n = 19
  · have hx := hx h9
    have ex := ex h9
    repeat' (first | (simp (disch := first | exact dd | fail) only [go_sem, ex, List.length_map, pick_ca, pick_ac, un_any, pick_00a, pick_0a0]) | (refine allI (fun b => ?_)) | (refine allT (fun τ => ?_)) | (refine brP (fun h => ?_) (fun h => ?_) <;> (try simp only [zgx, zbx] at h)) | (refine gd ?_) | fail)
    all_goals first
      | (exfalso; omega)
      | (refine opE w it ?_ (fun h => absurd h (by decide)) rfl; rw [WH]; (repeat (first | exact List.nil_sublist _ | apply List.Sublist.cons_cons | apply List.Sublist.cons)); done)
      | (refine opE w it ?_ (fun _ => ⟨hs.up (by omega), hv⟩) rfl; rw [WH]; (repeat (first | exact List.nil_sublist _ | apply List.Sublist.cons_cons | apply List.Sublist.cons)); done)
      | trace_state
  · repeat' (first | (simp (disch := first | exact dd | fail) only [go_sem, List.length_map, pick_ca, pick_ac, un_any, pick_00a, pick_0a0]) | (refine allI (fun b => ?_)) | (refine allT (fun τ => ?_)) | (refine brP (fun h => ?_) (fun h => ?_) <;> (try simp only [zgx, zbx] at h)) | (refine pureE_U c1 ?_; rintro _ ⟨T, n, e, hT, rfl⟩; rw [TbL_eq]) | (refine pureE_T c1 ?_; rintro _ ⟨T, n, e, hT, rfl⟩; rw [TbL_eq]) | (refine pureE_of c1 ?_; rintro _ ⟨T, n, e, hT, rfl⟩; rw [TbL_eq]) | (refine pureE_U c2 ?_; rintro _ ⟨T, e, hT, rfl⟩; rw [TbL_eq]) | (refine pureE_T c2 ?_; rintro _ ⟨T, e, hT, rfl⟩; rw [TbL_eq]) | (refine pureE_of c2 ?_; rintro _ ⟨T, e, hT, rfl⟩; rw [TbL_eq]) | (refine pureE_U (c3 _) ?_; rintro _ ⟨T, e, hT, rfl⟩; rw [TbL_eq]) | (refine pureE_T (c3 _) ?_; rintro _ ⟨T, e, hT, rfl⟩; rw [TbL_eq]) | (refine pureE_of (c3 _) ?_; rintro _ ⟨T, e, hT, rfl⟩; rw [TbL_eq]) | (refine pureE_U (c4 _) ?_; rintro _ ⟨T, e, hT, rfl⟩; rw [TbL_eq]) | (refine pureE_T (c4 _) ?_; rintro _ ⟨T, e, hT, rfl⟩; rw [TbL_eq]) | (refine pureE_of (c4 _) ?_; rintro _ ⟨T, e, hT, rfl⟩; rw [TbL_eq]) | (refine pureE_U (c5 _) ?_; rintro _ ⟨T, e, hT, rfl⟩; rw [TbL_eq]) | (refine pureE_T (c5 _) ?_; rintro _ ⟨T, e, hT, rfl⟩; rw [TbL_eq]) | (refine pureE_of (c5 _) ?_; rintro _ ⟨T, e, hT, rfl⟩; rw [TbL_eq]) | (refine pureE_U (c6 _) ?_; rintro _ ⟨T, e, hT, rfl⟩; rw [TbL_eq]) | (refine pureE_T (c6 _) ?_; rintro _ ⟨T, e, hT, rfl⟩; rw [TbL_eq]) | (refine pureE_of (c6 _) ?_; rintro _ ⟨T, e, hT, rfl⟩; rw [TbL_eq]) | (refine pureE_U (c7 _ _) ?_; rintro _ ⟨T, e, hT, rfl⟩; rw [TbL_eq]) | (refine pureE_T (c7 _ _) ?_; rintro _ ⟨T, e, hT, rfl⟩; rw [TbL_eq]) | (refine pureE_of (c7 _ _) ?_; rintro _ ⟨T, e, hT, rfl⟩; rw [TbL_eq]) | (refine actsQ_U (table w (FoS τ fo) (ItM bi ci it) wb T e) (pick_perm rfl (List.Perm.refl _)) ?_; rintro _ _ ⟨rfl, rfl⟩; rcases tab_cases e T w with ⟨he, hw⟩ | ⟨he, hw⟩ <;> rw [hw] <;> simp only [WkO_eq, FoS_eq, ItM_eq, List.cons_append, List.nil_append]) | (refine actsQ_T (table w (FoS τ fo) (ItM bi ci it) wb T e) (pick_perm rfl (List.Perm.refl _)) ?_; rintro _ _ ⟨rfl, rfl⟩; rcases tab_cases e T w with ⟨he, hw⟩ | ⟨he, hw⟩ <;> rw [hw] <;> simp only [WkO_eq, FoS_eq, ItM_eq, List.cons_append, List.nil_append]) | (refine actsQ_of (table w (FoS τ fo) (ItM bi ci it) wb T e) (pick_perm rfl (List.Perm.refl _)) ?_; rintro _ _ ⟨rfl, rfl⟩; rcases tab_cases e T w with ⟨he, hw⟩ | ⟨he, hw⟩ <;> rw [hw] <;> simp only [WkO_eq, FoS_eq, ItM_eq, List.cons_append, List.nil_append]) | (refine actsQ_U (table { w with ex := n, ch := n } (FoS τ fo) (ItM bi ci it) wb T e) (pick_perm rfl (List.Perm.refl _)) ?_; rintro _ _ ⟨rfl, rfl⟩; rcases tab_cases e T { w with ex := n, ch := n } with ⟨he, hw⟩ | ⟨he, hw⟩ <;> rw [hw] <;> simp only [WkO_eq, FoS_eq, ItM_eq, List.cons_append, List.nil_append]) | (refine actsQ_T (table { w with ex := n, ch := n } (FoS τ fo) (ItM bi ci it) wb T e) (pick_perm rfl (List.Perm.refl _)) ?_; rintro _ _ ⟨rfl, rfl⟩; rcases tab_cases e T { w with ex := n, ch := n } with ⟨he, hw⟩ | ⟨he, hw⟩ <;> rw [hw] <;> simp only [WkO_eq, FoS_eq, ItM_eq, List.cons_append, List.nil_append]) | (refine actsQ_of (table { w with ex := n, ch := n } (FoS τ fo) (ItM bi ci it) wb T e) (pick_perm rfl (List.Perm.refl _)) ?_; rintro _ _ ⟨rfl, rfl⟩; rcases tab_cases e T { w with ex := n, ch := n } with ⟨he, hw⟩ | ⟨he, hw⟩ <;> rw [hw] <;> simp only [WkO_eq, FoS_eq, ItM_eq, List.cons_append, List.nil_append]) | (refine actsQ_U cu (pick_perm rfl (pick_perm rfl (List.Perm.refl _))) ?_; rintro _ _ ⟨e, w', it', hT, hit, rfl, rfl⟩) | (refine gd ?_) | fail)
    all_goals first
      | (exfalso; omega)
      | (refine opE w it ?_ (fun h => absurd h (by decide)) rfl; rw [WH]; (repeat (first | exact List.nil_sublist _ | apply List.Sublist.cons_cons | apply List.Sublist.cons)); done)
      | (refine opE { w with t := T } it ?_ (fun _ => ⟨hs.up (by omega), hT he⟩) rfl; rw [WH]; (repeat (first | exact List.nil_sublist _ | apply List.Sublist.cons_cons | apply List.Sublist.cons)); done)
      | (refine opE { w with ex := n, ch := n, t := T } it ?_ (fun _ => ⟨hs.up (by omega), hT he⟩) rfl; rw [WH]; (repeat (first | exact List.nil_sublist _ | apply List.Sublist.cons_cons | apply List.Sublist.cons)); done)
      | (refine opE w it ?_ (fun h => absurd h he) rfl; rw [WH]; (repeat (first | exact List.nil_sublist _ | apply List.Sublist.cons_cons | apply List.Sublist.cons)); done)
      | (refine opE { w with ex := n, ch := n } it ?_ (fun h => absurd h he) rfl; rw [WH]; (repeat (first | exact List.nil_sublist _ | apply List.Sublist.cons_cons | apply List.Sublist.cons)); done)
      | (refine opE w it ?_ (fun _ => ⟨hs.up (by omega), hv⟩) rfl; rw [WH]; (repeat (first | exact List.nil_sublist _ | apply List.Sublist.cons_cons | apply List.Sublist.cons)); done)
      | (refine opE w' it' ?_ hT hit; (repeat (first | exact List.Sublist.refl _ | exact List.sublist_append_left _ _ | apply List.Sublist.cons)); done)
      | trace_state
end Go.Proofs.YtkdblnejpmbnfaaGreat.F
namespace Go.Proofs.YtkdblnejpmbnfaaGreat.F
open Go Go.Lx
set_option linter.unusedSimpArgs false
set_option linter.unusedVariables false
set_option maxRecDepth 100000
set_option maxHeartbeats 16000000
theorem LCalls.le {P : Program} {gl : Glob} {f : FuncId} {args : List LV} {H H' : Heap} {K : LV → Heap → Prop} (hl : heapLe H H') (h : LCalls P gl f args H' K) : LCalls P gl f args H K := fun w0 M HF w vs hI hv => h w0 M HF w vs (hl.inv hI) hv
theorem act_ (w : Wk) (τ : Tok) (fo : List Fnd) (wb q bi ci : Nat) (it : List It) (ho : WOk q w fo it ci) (hq : q ≤ 880) : LCalls Tryz.prog gl 66 [.ptr 36 wb 0] (WH wb bi ci τ w fo it) (OpR wb bi ci τ fo it q) := by
  refine fn_viewT Tryz.func66 t66 Tryz.ntmps66 (by simp) ?_
  have hps := ho.k.ps
  have l1 := ho.l.lf
  have b1 := rowN_b (n := w.c.n)
  have b2 := rowN_b1 (n := w.c.n)
  have b3 := rowN_b2 (n := w.c.n)
  have x1 := rowN_c (n := w.c.n)
  have hxs := ho.k.xs
  have f1 : (w.c.n = 1 ∨ w.c.n = 6 ∨ (9 ≤ w.c.n ∧ w.c.n ≤ 12) ∨ (14 ≤ w.c.n ∧ w.c.n ≤ 17) ∨ w.c.n = 21) → fo.length = 1 := fun h => by
    have := b1 (by omega)
    have := b2 (by omega) (by omega)
    omega
  have f2 : (w.c.n = 8 ∨ w.c.n = 13) → fo.length = 2 := fun h => by
    have := b3 h
    omega
  have f3 : (w.c.n = 9 ∨ w.c.n = 19) → 1 ≤ w.c.xs.length := fun h => by
    have := x1 h
    omega
  clear b1 b2 b3 x1
  unfold c66 r66
  rw [WH, WkO_eq]
  repeat' (first | (simp (disch := first | exact dd | fail) only [go_sem]) | (refine allI (fun b => ?_)) | (refine allT (fun τ => ?_)) | (refine brP (fun h => ?_) (fun h => ?_) <;> (try simp only [zgx, zbx] at h)) | (refine actsQ_U (open_ w τ fo wb q bi ci it (by omega) ho hq) (pick_perm rfl (pick_perm rfl (List.Perm.refl _))) ?_; rintro _ _ ⟨e, w', it', hT, hit, rfl, rfl⟩) | (refine actsQ_U (link_ w τ fo wb q bi ci it (f2 (by omega)) ho hq) (pick_perm rfl (pick_perm rfl (List.Perm.refl _))) ?_; rintro _ _ ⟨e, w', it', hT, hit, rfl, rfl⟩) | (refine actsQ_U (rem_ w τ fo wb q bi ci it (f1 (by omega)) ho hq) (pick_perm rfl (pick_perm rfl (List.Perm.refl _))) ?_; rintro _ _ ⟨e, w', it', hT, hit, rfl, rfl⟩) | (refine actsQ_U (ren_ w τ fo wb q bi ci it (f2 (by omega)) ho hq) (pick_perm rfl (pick_perm rfl (List.Perm.refl _))) ?_; rintro _ _ ⟨e, w', it', hT, hit, rfl, rfl⟩) | (refine actsQ_U (att_ w τ fo wb q bi ci it (f1 (by omega)) ho hq) (pick_perm rfl (pick_perm rfl (List.Perm.refl _))) ?_; rintro _ _ ⟨e, w', it', hT, hit, rfl, rfl⟩) | (refine actsQ_U (rea_ w τ fo wb q bi ci it (f1 (by omega)) ho hq) (pick_perm rfl (pick_perm rfl (List.Perm.refl _))) ?_; rintro _ _ ⟨e, w', it', hT, hit, rfl, rfl⟩) | (refine actsQ_U (pla_ w τ fo wb q bi ci it (f1 (by omega)) (fun h => f3 (.inl h)) ho hq) (pick_perm rfl (pick_perm rfl (List.Perm.refl _))) ?_; rintro _ _ ⟨e, w', it', hT, hit, rfl, rfl⟩) | (refine actsQ_U (oth_ w τ fo wb q bi ci it (fun h => f3 (.inr h)) ho hq) (pick_perm rfl (pick_perm rfl (List.Perm.refl _))) ?_; rintro _ _ ⟨e, w', it', hT, hit, rfl, rfl⟩) | (refine gd ?_) | fail)
  all_goals first
    | (exfalso; omega)
    | (refine opE w' it' ?_ hT hit; (repeat (first | exact List.Sublist.refl _ | exact List.sublist_append_left _ _ | apply List.Sublist.cons)); done)
    | trace_state
end Go.Proofs.YtkdblnejpmbnfaaGreat.F
namespace Go.Proofs.YtkdblnejpmbnfaaGreat.F
open Go Go.Lx
set_option linter.unusedSimpArgs false
set_option linter.unusedVariables false
set_option maxRecDepth 100000
set_option maxHeartbeats 16000000
/-- a system -/
def SyC (s : Spc) (t : Tb) : List LV := [.sl 2 s.fs.length (s.fs.flatMap DvC), .sl 3 s.ms.length (s.ms.flatMap MoC), .int .i64 t.nx, .int .i64 t.ns, .sl 14 t.ps.length (t.ps.flatMap PsC)]
theorem SyC_eq (s : Spc) (t : Tb) : SyC s t = [.sl 2 s.fs.length (s.fs.flatMap DvC), .sl 3 s.ms.length (s.ms.flatMap MoC), .int .i64 t.nx, .int .i64 t.ns, .sl 14 t.ps.length (t.ps.flatMap PsC)] := Eq.trans rfl rfl
theorem copyY (s : Spc) (t : Tb) (q : Nat) (hs : SI q s) (hv : VW t) (hq : q ≤ 900) : Pure Tryz.prog gl 62 [.agg (SyC s t)] (.agg (SyC s t)) := by
  refine fn_pureT Tryz.func62 t62 Tryz.ntmps62 (by simp) ?_
  have c1 := copyS s q hs hq
  have c2 := rcopyS t hv.ok
  unfold c62 r62
  rw [SpL_eq] at c1
  rw [TbL_eq] at c2
  rw [SyC_eq]
  repeat' (first | (simp (disch := first | exact dd | fail) only [go_sem]) | (refine allI (fun b => ?_)) | (refine allT (fun τ => ?_)) | (refine brP (fun h => ?_) (fun h => ?_) <;> (try simp only [zgx, zbx] at h)) | refine call_U (c1) ?_ | refine callG_U (fun _ => c1) ?_ | refine call_T (c1) ?_ | refine callG_T (fun _ => c1) ?_ | refine call_U (c2) ?_ | refine callG_U (fun _ => c2) ?_ | refine call_T (c2) ?_ | refine callG_T (fun _ => c2) ?_ | refine call_N (c1) ?_ | refine call_of (c1) ?_ | refine callG_of (fun _ => c1) ?_ | refine call_N (c2) ?_ | refine call_of (c2) ?_ | refine callG_of (fun _ => c2) ?_ | (refine gd ?_) | fail)
theorem run (s : Spc) (t : Tb) (pid : Int) (c : Ca) (q : Nat) (hs : SI q s) (hv : VW t) (hc : CaOk c) (hq : q ≤ 880) : PureE Tryz.prog gl 20 [.agg (SyC s t), .int .i64 pid, .agg (CaC c)] fun v => ∃ (s' : Spc) (t' : Tb), (SI (q + 2) s' ∧ VW t') ∧ v = .tup [.agg (SyC s' t'), .any] := by
  refine fn_viewT Tryz.func20 t20 Tryz.ntmps20 (by simp) ?_
  have c1 := rget t pid hv.ok
  have c2 := copyY s t q hs hv (by omega)
  have c3 := check c hc
  unfold c20 r20
  rw [SyC_eq] at c2 ⊢
  rw [CaC_eq] at c3 ⊢
  rw [TbL_eq] at c1
  generalize getR t pid = R at *
  obtain ⟨p, pb⟩ := R
  dsimp only at c1
  rw [PsC_eq] at c1
  repeat' (first | (simp (disch := first | exact dd | fail) only [go_sem]) | (refine allI (fun b => ?_)) | (refine allT (fun τ => ?_)) | (refine brP (fun h => ?_) (fun h => ?_) <;> (try simp only [zgx, zbx] at h)) | refine call_U (c1) ?_ | refine callG_U (fun _ => c1) ?_ | refine call_T (c1) ?_ | refine callG_T (fun _ => c1) ?_ | refine call_U (c2) ?_ | refine callG_U (fun _ => c2) ?_ | refine call_T (c2) ?_ | refine callG_T (fun _ => c2) ?_ | refine call_N (c1) ?_ | refine call_of (c1) ?_ | refine callG_of (fun _ => c1) ?_ | refine call_N (c2) ?_ | refine call_of (c2) ?_ | refine callG_of (fun _ => c2) ?_ | (refine pureE_U c3 ?_; rintro _ ⟨e, he, rfl⟩) | (refine pureE_T c3 ?_; rintro _ ⟨e, he, rfl⟩) | (refine pureE_of c3 ?_; rintro _ ⟨e, he, rfl⟩) | (refine gd ?_) | fail)
  all_goals first
    | (refine ⟨.tup [.agg (SyC s t), .any], [], leVH.of (leV.tup ⟨leV.refl _, leV.any _, trivial⟩) ⟨[], List.nil_sublist _, List.Perm.refl _⟩, rfl, s, t, ⟨hs.up (by omega), hv⟩, rfl⟩; done)
    | skip
  simp only [bne_eq_false_iff_eq] at h
  have hk := he h
  have c4 := before ⟨s, t, p, c, 0, 0, 0, []⟩ (.fsl 1 0 []) (.fsl 1 0 []) b hk hc
  refine actsQ_U (H0 := [(36, .blk b _)]) (LCalls.le ?_ c4) (pick_perm rfl (List.Perm.refl _)) ?_
  · exact ⟨⟨rfl, leV.refl _, leV.refl _, leV.refl _, leV.refl _, leV.refl _, leV.refl _, leV.refl _, leV.refl _, leV.refl _, leV.refl _, leV.refl _, leV.refl _, leV.refl _, leV.refl _, leV.refl _, leV.refl _, leV.refl _, leV.refl _, leV.refl _, leV.refl _, leV.refl _, leV.refl _, leV.refl _, leV.refl _, leV.refl _, leV.refl _, leV.refl _, leV.refl _, leV.refl _, leV.refl _, leV.refl _, leV.nil_sl _ _, trivial⟩, trivial⟩
  rintro _ _ ⟨⟨e1, rfl⟩, rfl⟩
  simp only [List.cons_append, List.nil_append]
  repeat' (first | (simp (disch := first | exact dd | fail) only [go_sem]) | (refine allI (fun b => ?_)) | (refine allT (fun τ => ?_)) | (refine brP (fun h => ?_) (fun h => ?_) <;> (try simp only [zgx, zbx] at h)) | (refine gd ?_) | fail)
  refine actsQ_U (looks ⟨s, t, p, c, 0, 0, 0, []⟩ b q e1 hs (by omega) hk hc) (pick_perm rfl (List.Perm.refl _)) ?_
  rintro _ _ ⟨e2, fo, it, τ, bi, ci, hlk, rfl, rfl⟩
  have hit := len_it it
  have hci := hlk.lc
  have hSp := length_Sp (it.flatMap ItC) ((ci - it.length) * 13)
  have hB := (rowN_ok c.n).2.1
  have hBp := hk.ps
  have hBi := hlk.li
  dsimp only at hBi
  simp only [List.cons_append, List.nil_append, WkO_eq, FoS_eq, ItM_eq, ItB]
  repeat' (first | (simp (disch := first | exact dd | fail) only [go_sem]) | (refine allI (fun b => ?_)) | (refine allT (fun τ => ?_)) | (refine brP (fun h => ?_) (fun h => ?_) <;> (try simp only [zgx, zbx] at h)) | (refine gd ?_) | fail)
  refine ⟨by simp only [roomy]; omega, fun τ2 => ?_⟩
  refine brP (fun h2 => ?_) (fun h2 => ?_)
  · simp (disch := first | exact dd | fail) only [go_sem]
    refine actsQ_U (act_ ⟨s, t, p, c, 0, 0, 0, []⟩ τ fo b q bi ci it ⟨hs, hv, hk, hc, hlk⟩ hq) (pick_perm rfl (pick_perm rfl (List.Perm.refl _))) ?_
    rintro _ _ ⟨e3, w', it', hT, hit', rfl, rfl⟩
    rw [WH_eq]
    simp only [List.cons_append, List.nil_append]
    simp (disch := first | exact dd | fail) only [go_sem]
    refine brP (fun h3 => ?_) (fun h3 => ?_)
    · simp (disch := first | exact dd | fail) only [go_sem]
      first | refine call_U (c2) ?_ | refine call_T (c2) ?_ | refine call_N (c2) ?_ | refine call_of (c2) ?_
      simp (disch := first | exact dd | fail) only [go_sem]
      exact ⟨.tup [.agg (SyC s t), .any], [], leVH.of (leV.tup ⟨leV.refl _, leV.any _, trivial⟩) ⟨[], List.nil_sublist _, List.Perm.refl _⟩, rfl, s, t, ⟨hs.up (by omega), hv⟩, rfl⟩
    · simp (disch := first | exact dd | fail) only [go_sem]
      exact ⟨.tup [.agg (SyC w'.s w'.t), .any], [], leVH.of (leV.tup ⟨leV.refl _, leV.any _, trivial⟩) ⟨[], List.nil_sublist _, List.Perm.refl _⟩, rfl, w'.s, w'.t, hT (by simpa using h3), rfl⟩
  · have h3 : (e2 != 0) = true := by simp only [bne, h2, Bool.not_false]
    simp (disch := first | exact dd | fail) only [go_sem, h3]
    first | refine call_U (c2) ?_ | refine call_T (c2) ?_ | refine call_N (c2) ?_ | refine call_of (c2) ?_
    simp (disch := first | exact dd | fail) only [go_sem]
    exact ⟨.tup [.agg (SyC s t), .any], [], leVH.of (leV.tup ⟨leV.refl _, leV.any _, trivial⟩) ⟨[], List.nil_sublist _, List.Perm.refl _⟩, rfl, s, t, ⟨hs.up (by omega), hv⟩, rfl⟩
end Go.Proofs.YtkdblnejpmbnfaaGreat.F
namespace Go.Proofs.YtkdblnejpmbnfaaGreat.F
open Go Go.Lx
set_option linter.unusedSimpArgs false
set_option linter.unusedVariables false
set_option maxRecDepth 100000
set_option maxHeartbeats 16000000
/-- the first device -/
def dv1 : Dv := ⟨2, [⟨1, 2, 493, 0, 0, 1, [], []⟩]⟩
theorem DI1 : DI 16 0 dv1 := by
  have hg : ∀ x n, fnd dv1.ns x = some n → x = 1 := fun x n h => by
    simp only [fnd, dv1, List.find?_cons, List.find?_nil] at h
    split at h
    · rename_i h2
      have := of_decide_eq_true h2
      simpa using this.symm
    · simp at h
  refine ⟨⟨by decide, by decide⟩, by decide, fun n hn => ?_, fun x => ⟨0, .top x ?_⟩, fun n hn => ?_⟩
  · simp only [dv1, List.mem_singleton] at hn
    subst hn
    exact ⟨by simp, by decide, by decide, by simp⟩
  · by_cases h : x = 1
    · exact .inl h
    · exact .inr fun n hn => absurd (hg x n hn) h
  · simp only [dv1, List.mem_singleton] at hn
    subst hn
    simp
theorem newf (k : Nat) (hk : 1 ≤ k ∧ k ≤ 3) : PureE Tryz.prog gl 60 [.int .i64 k] fun v => ∃ fs : List Dv, FI 16 0 fs ∧ v = .tup [FiL fs, .int .i64 0] := by
  refine fn_viewT Tryz.func60 t60 Tryz.ntmps60 (by simp) ?_
  unfold c60 r60
  repeat' (first | (simp (disch := first | exact dd | fail) only [go_sem]) | (refine allI (fun b => ?_)) | (refine allT (fun τ => ?_)) | (refine brP (fun h => ?_) (fun h => ?_) <;> (try simp only [zgx, zbx] at h)) | (refine gd ?_) | fail)
  all_goals first
    | (exfalso; omega)
    | skip
  rename_i b2
  refine loopI (ι := Nat × Tok) (fun y => y.1 ≤ k) (fun y => [(5, .int .i64 y.1), (4, .ptr 4 b 0), (3, .int .i64 0), (2, .ptr 2 b2 0), (0, .int .i64 k)]) (fun y => [(24, .tok y.2), (4, .blk b [.osl 24 y.2 2 y.1 ((List.replicate y.1 dv1).flatMap DvC)]), (2, .blk b2 [.fsl 1 0 []])]) (fun y => k - y.1) (0, ⟨0, 0, 0⟩) (by simp) ?_ ?_
  · exact Ents.dum 24 (Ents.heap [(24, .tok ⟨0, 0, 0⟩), (4, .blk b [.fsl 1 0 []]), (2, .blk b2 [.fsl 1 0 []])] (by simp [go_sem]) ⟨_, List.Sublist.refl _, List.Perm.refl _⟩ ⟨rfl, ⟨rfl, leV.nil_osl _ _ _ _, trivial⟩, ⟨rfl, leV.refl _, trivial⟩, trivial⟩)
  · rintro ⟨i, τ⟩ hi
    dsimp only at hi ⊢
    have hle := len_dv (List.replicate i dv1)
    rw [List.length_replicate] at hle
    repeat' (first | (simp (disch := first | exact dd | fail) only [go_sem, zNo, zDv]) | (refine allI (fun b => ?_)) | (refine allT (fun τ => ?_)) | (refine brP (fun h => ?_) (fun h => ?_) <;> (try simp only [zgx, zbx] at h)) | (refine gd ?_) | fail)
    · refine ⟨by simp only [roomy]; omega, fun τ2 => ⟨⟨(i + 1, τ2), by dsimp only; omega⟩, by dsimp only; omega, Ents.heap _ (by simp [go_sem]) ⟨_, List.Sublist.refl _, List.Perm.refl _⟩ ⟨rfl, ⟨rfl, ?_, trivial⟩, ⟨rfl, leV.refl _, trivial⟩, trivial⟩⟩⟩
      dsimp only
      rw [List.replicate_succ', List.flatMap_append]
      refine leV.osl (leVs.app (leVs.refl _) ?_)
      rw [List.flatMap_cons, List.flatMap_nil, List.append_nil, DvC_eq]
      exact ⟨leV.refl _, (leV.fsl_sl _ _ _).trans (leV.sl ⟨leV.refl _, leV.refl _, leV.refl _, leV.refl _, leV.refl _, leV.refl _, leV.refl _, leV.nil_sl _ _, trivial⟩), trivial⟩
    · have : i = k := by omega
      subst this
      refine pureE_end (r := .tup [FiL (List.replicate i dv1), .int .i64 0]) ?_ ⟨List.replicate i dv1, ⟨by rw [List.length_replicate]; exact hk, fun d hd => ?_⟩, rfl⟩
      · rw [FiL_eq, List.length_replicate]
        exact leV.tup ⟨leV.agg ⟨leV.osl_sl _ _ _ _ _, trivial⟩, leV.refl _, trivial⟩
      · rw [(List.mem_replicate.1 hd).2]
        exact DI1
theorem newy (k : Nat) (hk : 1 ≤ k ∧ k ≤ 3) : PureE Tryz.prog gl 18 [.int .i64 k] fun v => ∃ (s : Spc) (t : Tb), (SI 0 s ∧ VW t) ∧ v = .tup [.agg (SyC s t), .int .i64 0] := by
  refine fn_viewT Tryz.func18 t18 Tryz.ntmps18 (by simp) ?_
  have c1 := newf k hk
  have c2 := rnew 0 1
  unfold c18 r18
  rw [TbL_eq] at c2
  repeat' (first | (simp (disch := first | exact dd | fail) only [go_sem]) | (refine allI (fun b => ?_)) | (refine allT (fun τ => ?_)) | (refine brP (fun h => ?_) (fun h => ?_) <;> (try simp only [zgx, zbx] at h)) | refine call_U (c2) ?_ | refine callG_U (fun _ => c2) ?_ | refine call_T (c2) ?_ | refine callG_T (fun _ => c2) ?_ | refine call_N (c2) ?_ | refine call_of (c2) ?_ | refine callG_of (fun _ => c2) ?_ | (refine pureE_U c1 ?_; rintro _ ⟨fs, hf, rfl⟩; rw [FiL_eq]) | (refine pureE_T c1 ?_; rintro _ ⟨fs, hf, rfl⟩; rw [FiL_eq]) | (refine pureE_of c1 ?_; rintro _ ⟨fs, hf, rfl⟩; rw [FiL_eq]) | (refine gd ?_) | fail)
  all_goals first
    | (exfalso; omega)
    | (refine pureE_end (r := .tup [.agg (SyC ⟨fs, []⟩ (tnew 0 1)), .int .i64 0]) (leV.tup ⟨leV.agg ⟨leV.refl _, leV.nil_sl _ _, leV.refl _, leV.refl _, leV.refl _, trivial⟩, leV.refl _, trivial⟩) ⟨⟨fs, []⟩, tnew 0 1, ⟨⟨hf, by simp, fun _ => 0, fun _ => Nat.le_refl _, by simp⟩, VW_new 0 1⟩, rfl⟩; done)
    | trace_state
end Go.Proofs.YtkdblnejpmbnfaaGreat.F
