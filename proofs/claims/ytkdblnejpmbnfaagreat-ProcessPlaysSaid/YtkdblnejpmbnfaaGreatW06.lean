/- Code and functions: from the logical wp to the model's calls. -/
import Derived.Test.YtkdblnejpmbnfaaGreatW05
namespace Go.Lx
set_option linter.unusedSimpArgs false
set_option linter.unusedVariables false
open RowKit
section
variable {vv : Nat → Bool} {P : Program} {gl : Glob} {n : Nat}
theorem wp_loop_idx {c : Code} {Q : Exit → Act → World → Prop} {a : Act} {w : World} {ι : Type} (G : ι → Act → World → Prop) (μ : ι → Nat) (i0 : ι) (h₀ : G i0 a w)
    (round : ∀ i a w, G i a w → c.wp P (Exit.then (fun a' w' => ∃ i', G i' a' w' ∧ μ i' < μ i) Q) a w) : (Code.loop c).wp P Q a w := by
  intro b k cs
  have key : ∀ m i a w, μ i = m → G i a w →
      ∃ e a' w', Q e a' w' ∧ Arrives P (lone (b.at a (.code c :: .inLoop c :: k)) cs w) b k cs e a' w' := by
    intro m
    induction m using Nat.strongRecOn with
    | _ m ih =>
      intro i a w hn hI
      obtain ⟨e, a₁, w₁, hq, harr⟩ := round i a w hI b (.inLoop c :: k) cs
      cases e with
      | normal =>
        obtain ⟨i', hI₁, hlt⟩ := hq
        obtain ⟨e₂, a₂, w₂, hq₂, harr₂⟩ := ih (μ i') (hn ▸ hlt) i' a₁ w₁ rfl hI₁
        exact ⟨e₂, a₂, w₂, hq₂, .of_steps (Steps.trans harr (.one step_inLoop)) harr₂⟩
      | exit id => exact ⟨_, a₁, w₁, hq, .pass (x := .inLoop c) rfl (fun _ _ => .inl (by simp)) harr⟩
      | goto l => exact ⟨_, a₁, w₁, hq, .pass (x := .inLoop c) rfl (fun _ _ => .inl (by simp)) harr⟩
      | ret => exact ⟨_, a₁, w₁, hq, .pass (x := .inLoop c) rfl (fun _ _ => .inl (by simp)) harr⟩
      | panic ch => exact ⟨_, a₁, w₁, hq, .pass (x := .inLoop c) rfl (fun _ _ => .inl (by simp)) harr⟩
      | outgrown => exact ⟨_, a₁, w₁, hq, .pass (x := .inLoop c) rfl (fun _ _ => .inl (by simp)) harr⟩
  obtain ⟨e, a', w', hq, harr⟩ := key _ i0 a w rfl h₀
  exact ⟨e, a', w', hq, .of_steps (.one step_loop) harr⟩
theorem wpL_sound : ∀ (c : Code) (lc : LCode), trCode vv P n c = some lc → ∀ (Q : Ex → Env → Heap → Prop) (env : Env) (H : Heap), wpL P gl lc Q env H → WP vv P gl n c Q env H
  | .skip, lc, ht, Q, env, H, ho => by
    simp only [trCode, Option.some.injEq] at ht; subst ht
    exact fun w0 M HF w a hI hF => wp_skip ⟨.normal, M, env, H, rfl, MLe.refl M, hF, hI, ho⟩
  | .label l, lc, ht, Q, env, H, ho => by
    simp only [trCode, Option.some.injEq] at ht; subst ht
    exact fun w0 M HF w a hI hF => wp_label ⟨.normal, M, env, H, rfl, MLe.refl M, hF, hI, ho⟩
  | .exit id, lc, ht, Q, env, H, ho => by
    simp only [trCode, Option.some.injEq] at ht; subst ht
    exact fun w0 M HF w a hI hF => wp_exit ⟨.exit id, M, env, H, rfl, MLe.refl M, hF, hI, ho⟩
  | .ret, lc, ht, Q, env, H, ho => by
    simp only [trCode, Option.some.injEq] at ht; subst ht
    exact fun w0 M HF w a hI hF => wp_ret ⟨.ret, M, env, H, rfl, MLe.refl M, hF, hI, ho⟩
  | .region id ops false, lc, ht, Q, env, H, ho => by
    simp only [trCode, Option.map_eq_some_iff] at ht
    obtain ⟨ll, h1, rfl⟩ := ht
    exact fun w0 M HF w a hI hF => wp_region_list (execL_sound _ ll M env [] H a w h1 hI hF ho)
  | .region id ops true, lc, ht, Q, env, H, ho => by
    simp only [trCode] at ht
    split at ht
    · rename_i hc
      split at ht
      · rename_i ll h1
        split at ht
        · rename_i its h2
          split at ht
          · rename_i h3
            simp only [Bool.and_eq_true] at h3
            cases ht
            exact fun w0 M HF w a hI hF => execE_sound hc h1 h2 h3.1 h3.2 hI hF ho
          · cases ht
        · cases ht
      · cases ht
    · cases ht
  | .seq x y, lc, ht, Q, env, H, ho => by
    simp only [trCode] at ht
    split at ht
    · rename_i lx ly h1 h2
      cases ht
      intro w0 M HF w a hI hF
      refine wp_seq (wp_mono (wpL_sound x lx h1 _ env H ho w0 M HF w a hI hF) ?_)
      rintro e a' w' ⟨ex, M', env', H', he, hM, hF', hI', hq⟩
      cases e <;> simp only [toEx, Option.some.injEq, reduceCtorEq] at he <;> subst he
      · exact wp_mono (wpL_sound y ly h2 _ env' H' hq w0 M' HF w' a' hI' hF') fun e a w h => RQ.mono hM h
      · exact ⟨_, M', env', H', rfl, hM, hF', hI', hq⟩
      · exact ⟨_, M', env', H', rfl, hM, hF', hI', hq⟩
    · cases ht
  | .cond c x y, lc, ht, Q, env, H, ho => by
    simp only [trCode] at ht
    split at ht
    · rename_i c' lx ly h0 h1 h2
      cases ht
      intro w0 M HF w a hI hF
      obtain ⟨hb, hy, hn⟩ := ho
      have hv0 := ev_sound hF hI.glob h0
      unfold condQ at hb hy hn
      split at hb
      · rename_i b hbx
        have hv := strip hv0 hb
        rw [hbx] at hv hy hn
        simp only [RV] at hv
        exact wp_cond_split hv (fun hb => wpL_sound x lx h1 Q env H (hy hb) w0 M HF w a hI hF) (fun hb => wpL_sound y ly h2 Q env H (hn hb) w0 M HF w a hI hF)
      · exact hb.elim
    · cases ht
  | .block id c, lc, ht, Q, env, H, ho => by
    simp only [trCode, Option.map_eq_some_iff] at ht
    obtain ⟨lc', h1, rfl⟩ := ht
    intro w0 M HF w a hI hF
    refine wp_block (wp_mono (wpL_sound c lc' h1 _ env H ho w0 M HF w a hI hF) ?_)
    rintro e a' w' ⟨ex, M', env', H', he, hM, hF', hI', hq⟩
    cases e <;> simp only [toEx, Option.some.injEq, reduceCtorEq] at he <;> subst he
    · exact ⟨_, M', env', H', rfl, hM, hF', hI', hq⟩
    · rename_i id'
      simp only [Exit.inBlock, blockQ] at hq ⊢
      split
      · rename_i e; rw [if_pos e] at hq; exact ⟨_, M', env', H', rfl, hM, hF', hI', hq⟩
      · rename_i e; rw [if_neg e] at hq; exact ⟨_, M', env', H', rfl, hM, hF', hI', hq⟩
    · exact ⟨_, M', env', H', rfl, hM, hF', hI', hq⟩
  | .loop c, lc, ht, Q, env, H, ho => by
    simp only [trCode, Option.map_eq_some_iff] at ht
    obtain ⟨lc', h1, rfl⟩ := ht
    intro w0 M HF w a hI hF
    obtain ⟨ι, I, J, μ, i0, hst, hround⟩ := ho
    refine wp_loop_idx (fun i a w => ∃ M', MLe M M' ∧ Fr vv n (I i) [] M' a ∧ Inv gl w0 M' (J i ++ HF) w) μ i0 (hst vv n w0 M HF w a hI hF) ?_
    rintro i a w ⟨M1, hM1, hF1, hI1⟩
    refine wp_mono (wpL_sound c lc' h1 _ (I i) (J i) (hround i) w0 M1 HF w a hI1 hF1) ?_
    rintro e a' w' ⟨ex, M', env', H', he, hM, hF', hI', hq⟩
    cases e <;> simp only [toEx, Option.some.injEq, reduceCtorEq] at he <;> subst he
    · obtain ⟨i', hlt, hent⟩ := hq
      obtain ⟨M2, hM2, hF2, hI2⟩ := hent vv n w0 M' HF w' a' hI' hF'
      exact ⟨i', ⟨M2, (hM1.trans hM).trans hM2, hF2, hI2⟩, hlt⟩
    · exact ⟨_, M', env', H', rfl, hM1.trans hM, hF', hI', hq⟩
    · exact ⟨_, M', env', H', rfl, hM1.trans hM, hF', hI', hq⟩
  | .rangeFunc .., lc, ht, Q, env, H, ho => by simp [trCode] at ht
  | .scope _, lc, ht, Q, env, H, ho => by simp [trCode] at ht
  | .goto _, lc, ht, Q, env, H, ho => by simp [trCode] at ht
  | .refuse _, lc, ht, Q, env, H, ho => by simp [trCode] at ht
inductive LRes where
  | slot (t : Nat)
  | cell (agg : Bool) (sz : Nat) (t : Nat)
def trRes (vv : Nat → Bool) (P : Program) : List ResultVar → Option (List LRes)
  | [] => some []
  | .tmp t :: r => if vv t then (trRes vv P r).map (.slot t :: ·) else none
  | .cell a t :: r => match aggOf P t, sizeAt P t, trRes vv P r with
    | some g, some s, some r => if vv a && (g || s == 1) then some (.cell g s a :: r) else none
    | _, _, _ => none
def resQ (env : Env) (H : Heap) : List LRes → Prop × List LV
  | [] => (True, [])
  | .slot t :: r => ((get env t).g ∧ (resQ env H r).1, (get env t).v :: (resQ env H r).2)
  | .cell g s t :: r => ((get env t).g ∧ (loadQ g s (get env t).v H).1 ∧ (resQ env H r).1, (loadQ g s (get env t).v H).2 :: (resQ env H r).2)
def oneOr (l : List LV) : LV :=
  match l with
  | [x] => x
  | l => .tup l
def fnQ (rs : List LRes) (K : LV → Heap → Prop) : Ex → Env → Heap → Prop
  | .exit _, _, _ => False
  | _, env, H => (resQ env H rs).1 ∧ ∃ H', H'.Sublist H ∧ K (oneOr (resQ env H rs).2) H'
theorem resQ_sound {w0 : World} {M : Imm} {HF H : Heap} {env : Env} {a : Act} {w : World} (hI : Inv gl w0 M (H ++ HF) w) (hF : Fr vv n env [] M a) : ∀ (l : List ResultVar) (rs : List LRes), trRes vv P l = some rs → (resQ env H rs).1 →
    ∃ vs : List Value, (l.mapM (fun r => match r with | .tmp t => pure (a.tmps.getD t undef) | .cell x t => do loadVar t (← asAddr (a.tmps.getD x undef)) : ResultVar → Sem Value)).run P w = .ok vs w ∧ RVs M (resQ env H rs).2 vs
  | [], rs, ht, ho => by
    simp only [trRes, Option.some.injEq] at ht; subst ht
    exact ⟨[], by simp, by simp [resQ, RVs]⟩
  | .tmp t :: l, rs, ht, ho => by
    simp only [trRes] at ht
    split at ht
    · rename_i hv
      simp only [Option.map_eq_some_iff] at ht
      obtain ⟨rs', h1, rfl⟩ := ht
      simp only [resQ] at ho ⊢
      obtain ⟨vs, h2, h3⟩ := resQ_sound hI hF l rs' h1 ho.2
      refine ⟨a.tmps.getD t undef :: vs, ?_, ?_⟩
      · simp only [List.mapM_cons, Sem.run_bind, Sem.run_pure, Result.andThen_ok, h2]
      · simp only [RVs]
        exact ⟨_, _, rfl, strip (hF.vars t hv) ho.1, h3⟩
    · cases ht
  | .cell x t :: l, rs, ht, ho => by
    simp only [trRes] at ht
    split at ht
    · rename_i g s rs' hg hs h1
      split at ht
      · rename_i hc
        simp only [Bool.and_eq_true] at hc
        cases ht
        simp only [resQ] at ho ⊢
        obtain ⟨vs, h2, h3⟩ := resQ_sound hI hF l rs' h1 ho.2.2
        have hx := strip (hF.vars x hc.1) ho.1
        obtain ⟨u, r1, r2⟩ := load_sound (P := P) hI hg hs hc.2 hx ho.2.1
        refine ⟨u :: vs, ?_, ?_⟩
        · have hp : ∃ ad, a.tmps.getD x undef = .pointer (some ad) := by
            have h4 := ho.2.1
            unfold loadQ at h4
            split at h4
            · rename_i heq; rw [heq] at hx; simp only [RV] at hx; obtain ⟨b, o, h5, _⟩ := hx; exact ⟨_, h5⟩
            · rename_i heq; rw [heq] at hx; simp only [RV] at hx; exact ⟨_, hx⟩
            · exact h4.elim
          obtain ⟨ad, had⟩ := hp
          rw [had] at r1
          have r1' : (loadVar t ad).run P w = .ok u w := by simpa [Instr.loadAt, Instr.sureAddr] using r1
          have ha : (asAddr (a.tmps.getD x undef)).run P w = .ok ad w := by rw [had]; rfl
          simp only [List.mapM_cons, Sem.run_bind, ha, Sem.run_pure, Result.andThen_ok, r1', h2]
        · simp only [RVs]
          exact ⟨_, _, rfl, r2, h3⟩
      · cases ht
    · cases ht
theorem results_sound {fn : Func} {w0 : World} {M : Imm} {HF H : Heap} {env : Env} {a : Act} {w : World} (hI : Inv gl w0 M (H ++ HF) w) (hF : Fr vv n env [] M a) {rs : List LRes} (ht : trRes vv P fn.results.toList = some rs) (ho : (resQ env H rs).1) :
    ∃ v, (results fn a.tmps).run P w = .ok v w ∧ RV M (oneOr (resQ env H rs).2) v := by
  obtain ⟨vs, h1, h2⟩ := resQ_sound (P := P) hI hF _ _ ht ho
  have hl := RVs_length h2
  have hm : (fn.results.mapM (fun r => match r with | .tmp t => pure (a.tmps.getD t undef) | .cell x t => do loadVar t (← asAddr (a.tmps.getD x undef)) : ResultVar → Sem Value)).run P w = .ok vs.toArray w := by
    rw [Array.mapM_eq_mapM_toList]
    simp only [Sem.run_map, h1, Result.andThen_ok]
  refine ⟨if h : vs.toArray.size = 1 then vs.toArray[0] else .tuple vs.toArray, ?_, ?_⟩
  · unfold results
    simp only [Sem.run_bind]
    erw [hm]
    simp only [Result.andThen_ok, Sem.run_pure]
  · generalize (resQ env H rs).2 = ls at *
    unfold oneOr
    split
    · simp only [RVs] at h2
      obtain ⟨u, us, rfl, hu, rfl⟩ := h2
      simpa using hu
    · rename_i hne
      have : ¬ vs.toArray.size = 1 := by
        simp only [List.size_toArray]
        intro h
        rw [hl] at h
        obtain ⟨x, hx⟩ := List.length_eq_one_iff.1 h
        exact hne x hx
      rw [dif_neg this]
      simp only [RV]
      exact ⟨vs, rfl, h2⟩
def argEnv : Nat → List LV → Env
  | _, [] => []
  | k, x :: r => (k, x) :: argEnv (k + 1) r
theorem get_argEnv : ∀ (args : List LV) (k t : Nat), get (argEnv k args) t = if k ≤ t then (args[t - k]?).getD .any else .any
  | [], k, t => by simp [argEnv, get]
  | x :: r, k, t => by
    simp only [argEnv, get, get_argEnv r (k + 1) t]
    by_cases h1 : k = t
    · subst h1; simp
    · rw [if_neg h1]
      by_cases h2 : k ≤ t
      · rw [if_pos (by omega), if_pos h2, show t - k = (t - (k + 1)) + 1 by omega]; simp
      · rw [if_neg (by omega), if_neg h2]
theorem fn_sound {f : FuncId} {fn : Func} {c : Code} {lc : LCode} {rs : List LRes} {args : List LV} {H : Heap} {K : LV → Heap → Prop} (hf : P.funcs[f]? = some fn) (hb : fn.body = some c) (hc : trCode vv P fn.ntmps c = some lc) (hr : trRes vv P fn.results.toList = some rs) (hn : args.length ≤ fn.ntmps)
    (ho : wpL P gl lc (fnQ rs K) (argEnv 0 args) H) : LCalls P gl f args H K := by
  intro w0 M HF w vs hI hv
  have hl := RVs_length hv
  refine CallsX.of hf hb (calls_of_wp hf hb ?_)
  have hF : Fr vv fn.ntmps (argEnv 0 args) [] M { tmps := vs.toArray ++ Array.replicate (fn.ntmps - vs.toArray.size) undef, defers := [] } := by
    refine ⟨by simp; omega, rfl, fun t _ => ?_, fun _ _ => by simp [get, RV]⟩
    rw [get_argEnv, if_pos (Nat.zero_le _), Nat.sub_zero]
    by_cases h : t < args.length
    · obtain ⟨v, h1, h2⟩ := RVs_get hv t args[t] (by simp [h])
      have h3 : t < vs.length := by omega
      have hg : (vs.toArray ++ Array.replicate (fn.ntmps - vs.toArray.size) undef).getD t undef = v := by
        rw [Array.getD_eq_getD_getElem?, Array.getElem?_append_left (by simpa using h3)]
        simp [h1]
      rw [hg]
      simpa [h] using h2
    · rw [List.getElem?_eq_none (by omega)]
      simp [RV]
  refine wp_mono (wpL_sound c lc hc _ _ H ho w0 M HF w _ hI hF) ?_
  rintro e a' w' ⟨ex, M', env', H', he, hM, hF', hI', hq⟩
  have fin : (resQ env' H' rs).1 ∧ (∃ H'', H''.Sublist H' ∧ K (oneOr (resQ env' H' rs).2) H'') → a'.defers = [] ∧ ∃ v, (results fn a'.tmps).run P w' = .ok v w' ∧ ∃ M' v' r H', MLe M M' ∧ Ending.returned v = .returned v' ∧ RV M' r v' ∧ Inv gl w0 M' (H' ++ HF) w' ∧ K r H' := by
    rintro ⟨h1, H2, h2, h3⟩
    obtain ⟨v, r1, r2⟩ := results_sound (P := P) (fn := fn) hI' hF' hr h1
    exact ⟨hF'.defers, v, r1, M', v, _, H2, hM, rfl, r2, hI'.sub (h2.append_right HF), h3⟩
  cases e <;> simp only [toEx, Option.some.injEq, reduceCtorEq] at he <;> subst he
  · exact fin hq
  · exact hq.elim
  · exact fin hq
def leV (x y : LV) : Prop := ∀ M v, RV M x v → RV M y v
theorem leV.refl (x : LV) : leV x x := fun _ _ h => h
theorem leV.of_eq {x y : LV} (h : x = y) : leV x y := h ▸ leV.refl x
theorem leV.trans {x y z : LV} (h : leV x y) (h' : leV y z) : leV x z := fun M v hv => h' M v (h M v hv)
theorem leV.any (x : LV) : leV x .any := fun _ _ _ => by simp [RV]
theorem leV.osl_sl (i : Nat) (t : Tok) (s m : Nat) (cs : List LV) : leV (.osl i t s m cs) (.sl s m cs) := fun M v h => by
  simp only [RV] at h ⊢
  refine ⟨h.1, h.2.imp ?_ ?_⟩
  · rintro ⟨b, o, cap, h1, h2, h3, _⟩
    exact ⟨b, o, cap, h1, h2, h3⟩
  · rintro ⟨a, h⟩; exact ⟨a, 0, h⟩
theorem leV.fsl_sl (s m : Nat) (cs : List LV) : leV (.fsl s m cs) (.sl s m cs) := fun M v h => by
  simp only [RV] at h ⊢
  refine ⟨h.1, h.2.imp ?_ ?_⟩
  · rintro ⟨b, o, h1, h2⟩
    exact ⟨b, o, m, h1, Nat.le_refl _, h2⟩
  · rintro ⟨a, h⟩; exact ⟨a, 0, h⟩
theorem leV.fsl_osl (i : Nat) (t : Tok) (s m : Nat) (cs : List LV) : leV (.fsl s m cs) (.osl i t s m cs) := fun M v h => by
  simp only [RV] at h ⊢
  refine ⟨h.1, h.2.imp ?_ id⟩
  rintro ⟨b, o, h1, h2⟩
  exact ⟨b, o, m, h1, Nat.le_refl _, h2, .inl rfl⟩
theorem leV.osl_name (i j : Nat) (t : Tok) (s m : Nat) (cs : List LV) : leV (.osl i t s m cs) (.osl j t s m cs) := fun M v h => by
  simpa only [RV] using h
theorem leV.ptr_name (i j b o : Nat) : leV (.ptr i b o) (.ptr j b o) := fun M v h => by
  simpa only [RV] using h
theorem leV.msl_name (i j s b o n c : Nat) : leV (.msl i s b o n c) (.msl j s b o n c) := fun M v h => by
  simpa only [RV] using h
theorem leV.nil_sz (s s' : Nat) : leV (.fsl s 0 []) (.fsl s' 0 []) := fun M v h => by
  simp only [RV] at h ⊢
  exact ⟨by simp, h.2⟩
theorem leV.nil_sl (s s' : Nat) : leV (.fsl s 0 []) (.sl s' 0 []) := (leV.nil_sz s s').trans (leV.fsl_sl s' 0 [])
def leVs : List LV → List LV → Prop
  | [], [] => True
  | x :: xs, y :: ys => leV x y ∧ leVs xs ys
  | _, _ => False
theorem leVs.refl : ∀ l, leVs l l
  | [] => trivial
  | x :: l => ⟨leV.refl x, leVs.refl l⟩
theorem leVs.rvs {M : Imm} : ∀ {xs ys : List LV} {vs : List Value}, leVs xs ys → RVs M xs vs → RVs M ys vs
  | [], [], vs, _, h => h
  | x :: xs, y :: ys, vs, hl, h => by
    simp only [RVs] at h ⊢
    obtain ⟨u, us, e, h1, h2⟩ := h
    exact ⟨u, us, e, hl.1 M u h1, leVs.rvs hl.2 h2⟩
  | [], _ :: _, _, hl, _ => hl.elim
  | _ :: _, [], _, hl, _ => hl.elim
theorem leVs.rcs {M : Imm} : ∀ {xs ys : List LV} {b o : Nat}, leVs xs ys → RCs M b o xs → RCs M b o ys
  | [], [], _, _, _, h => h
  | x :: xs, y :: ys, b, o, hl, h => by
    simp only [RCs] at h ⊢
    obtain ⟨⟨u, h1, h2⟩, h3⟩ := h
    exact ⟨⟨u, h1, hl.1 M u h2⟩, leVs.rcs hl.2 h3⟩
  | [], _ :: _, _, _, hl, _ => hl.elim
  | _ :: _, [], _, _, hl, _ => hl.elim
theorem leV.agg {xs ys : List LV} (h : leVs xs ys) : leV (.agg xs) (.agg ys) := fun M v hv => by
  simp only [RV] at hv ⊢
  obtain ⟨vs, h1, h2, h3⟩ := hv
  exact ⟨vs, h1, h.rvs h2, h3⟩
theorem leV.tup {xs ys : List LV} (h : leVs xs ys) : leV (.tup xs) (.tup ys) := fun M v hv => by
  simp only [RV] at hv ⊢
  obtain ⟨vs, h1, h2⟩ := hv
  exact ⟨vs, h1, h.rvs h2⟩
theorem leVs.length : ∀ {xs ys : List LV}, leVs xs ys → xs.length = ys.length
  | [], [], _ => rfl
  | _ :: xs, _ :: ys, h => by simp [leVs.length h.2]
  | [], _ :: _, h => h.elim
  | _ :: _, [], h => h.elim
theorem leV.sl {s m : Nat} {xs ys : List LV} (h : leVs xs ys) : leV (.sl s m xs) (.sl s m ys) := fun M v hv => by
  simp only [RV] at hv ⊢
  refine ⟨by rw [← h.length]; exact hv.1, hv.2.imp ?_ id⟩
  rintro ⟨b, o, cap, h1, h2, h3⟩
  exact ⟨b, o, cap, h1, h2, h.rcs h3⟩
def pureQ (rs : List LRes) (r : LV) : Ex → Env → Heap → Prop
  | .exit _, _, _ => False
  | _, env, H => (resQ env H rs).1 ∧ leV (oneOr (resQ env H rs).2) r
theorem fn_pure {f : FuncId} {fn : Func} {c : Code} {lc : LCode} {rs : List LRes} {args : List LV} {r : LV} (hf : P.funcs[f]? = some fn) (hb : fn.body = some c) (hc : trCode vv P fn.ntmps c = some lc) (hr : trRes vv P fn.results.toList = some rs) (hn : args.length ≤ fn.ntmps)
    (ho : wpL P gl lc (pureQ rs r) (argEnv 0 args) []) : Pure P gl f args r := by
  intro w0 M HF w vs hI hv
  have hl := RVs_length hv
  refine CallsX.of hf hb (calls_of_wp hf hb ?_)
  have hF : Fr vv fn.ntmps (argEnv 0 args) [] M { tmps := vs.toArray ++ Array.replicate (fn.ntmps - vs.toArray.size) undef, defers := [] } := by
    refine ⟨by simp; omega, rfl, fun t _ => ?_, fun _ _ => by simp [get, RV]⟩
    rw [get_argEnv, if_pos (Nat.zero_le _), Nat.sub_zero]
    by_cases h : t < args.length
    · obtain ⟨v, h1, h2⟩ := RVs_get hv t args[t] (by simp [h])
      have h3 : t < vs.length := by omega
      have hg : (vs.toArray ++ Array.replicate (fn.ntmps - vs.toArray.size) undef).getD t undef = v := by
        rw [Array.getD_eq_getD_getElem?, Array.getElem?_append_left (by simpa using h3)]
        simp [h1]
      rw [hg]
      simpa [h] using h2
    · rw [List.getElem?_eq_none (by omega)]
      simp [RV]
  refine wp_mono (wpL_sound c lc hc _ _ [] ho w0 M HF w _ hI hF) ?_
  rintro e a' w' ⟨ex, M', env', H', he, hM, hF', hI', hq⟩
  have fin : (resQ env' H' rs).1 ∧ leV (oneOr (resQ env' H' rs).2) r → a'.defers = [] ∧ ∃ v, (results fn a'.tmps).run P w' = .ok v w' ∧ ∃ M' v' r' H', MLe M M' ∧ Ending.returned v = .returned v' ∧ RV M' r' v' ∧ Inv gl w0 M' (H' ++ HF) w' ∧ (r' = r ∧ H' = []) := by
    rintro ⟨h1, h2⟩
    obtain ⟨v, r1, r2⟩ := results_sound (P := P) (fn := fn) hI' hF' hr h1
    exact ⟨hF'.defers, v, r1, M', v, r, [], hM, rfl, h2 M' v r2, hI'.sub (by simp), rfl, rfl⟩
  cases e <;> simp only [toEx, Option.some.injEq, reduceCtorEq] at he <;> subst he
  · exact fin hq
  · exact hq.elim
  · exact fin hq
theorem Ents.mk {env env' : Env} {H H' : Heap} (h1 : ∀ t, leV (get env t) (get env' t)) (h2 : ∀ w0 M HF w, Inv gl w0 M (H ++ HF) w → Inv gl w0 M (H' ++ HF) w) : Ents gl env H env' H' :=
  fun _ _ w0 M HF w _ hI hF => ⟨M, MLe.refl M, ⟨hF.size, hF.defers, fun t ht => h1 t M _ (hF.vars t ht), hF.tmps⟩, h2 w0 M HF w hI⟩
def envLe (env : Env) : Env → Prop
  | [] => True
  | (t, v) :: r => leV (get env t) v ∧ envLe env r
theorem envLe.get {env : Env} : ∀ {env' : Env}, envLe env env' → ∀ t, leV (get env t) (get env' t)
  | [], _, t => leV.any _
  | (s, v) :: r, h, t => by
    simp only [Lx.get]
    split
    · rename_i e; subst e; exact h.1
    · exact envLe.get h.2 t
theorem Ents.env {env env' : Env} {H : Heap} (h : envLe env env') : Ents gl env H env' H := Ents.mk h.get fun _ _ _ _ h => h
theorem fn_pureT {f : FuncId} {fn : Func} {lc : LCode} {rs : List LRes} {args : List LV} {r : LV} (hf : P.funcs[f]? = some fn) (ht : fn.body.bind (trCode vv P fn.ntmps) = some lc ∧ trRes vv P fn.results.toList = some rs) {m : Nat} (hm : fn.ntmps = m) (hn : args.length ≤ m)
    (ho : wpL P gl lc (pureQ rs r) (argEnv 0 args) []) : Pure P gl f args r := by
  obtain ⟨h1, h2⟩ := ht
  cases hb : fn.body with
  | none => rw [hb] at h1; cases h1
  | some c => rw [hb] at h1; exact fn_pure hf hb h1 h2 (by rw [hm]; exact hn) ho
def leVH (gl : Glob) (x : LV) (H : Heap) (y : LV) (H' : Heap) : Prop :=
  ∀ (w0 : World) (M : Imm) (HF : Heap) (w : World) (v : Value), Inv gl w0 M (H ++ HF) w → RV M x v → ∃ M', MLe M M' ∧ RV M' y v ∧ Inv gl w0 M' (H' ++ HF) w
theorem leVH.of {x y : LV} {H H' : Heap} (h : leV x y) (hH : ∃ H2 : Heap, H2.Sublist H ∧ H2.Perm H') : leVH gl x H y H' := fun _ M HF _ v hI hv => by
  obtain ⟨H2, h1, h2⟩ := hH
  exact ⟨M, MLe.refl M, h M v hv, (hI.sub (h1.append_right HF)).perm (h2.append_right HF)⟩
theorem leVH.self (x : LV) (H : Heap) : leVH gl x H x H := fun _ M _ _ _ hI hv => ⟨M, MLe.refl M, hv, hI⟩
theorem leVH.trans {x y z : LV} {H H' H'' : Heap} (h : leVH gl x H y H') (h' : leVH gl y H' z H'') : leVH gl x H z H'' := fun w0 M HF w v hI hv => by
  obtain ⟨M1, a1, a2, a3⟩ := h w0 M HF w v hI hv
  obtain ⟨M2, b1, b2, b3⟩ := h' w0 M1 HF w v a3 a2
  exact ⟨M2, a1.trans b1, b2, b3⟩
def pubC (id b : Nat) (cs : List LV) : LV → Prop × LV
  | .msl i s b' o n c => if i = id then (b' = b ∧ o + n * s ≤ cs.length ∧ n ≤ c, .sl s n ((cs.drop o).take (n * s))) else (True, .msl i s b' o n c)
  | x => (True, x)
def pubCs (id b : Nat) (cs : List LV) : List LV → Prop × List LV
  | [] => (True, [])
  | x :: r => ((pubC id b cs x).1 ∧ (pubCs id b cs r).1, (pubC id b cs x).2 :: (pubCs id b cs r).2)
def pubA (id b : Nat) (cs : List LV) : LV → Prop × LV
  | .agg xs => ((pubCs id b cs xs).1, .agg (pubCs id b cs xs).2)
  | x => pubC id b cs x
def pubAs (id b : Nat) (cs : List LV) : List LV → Prop × List LV
  | [] => (True, [])
  | x :: r => ((pubA id b cs x).1 ∧ (pubAs id b cs r).1, (pubA id b cs x).2 :: (pubAs id b cs r).2)
def pubV (id b : Nat) (cs : List LV) : LV → Prop × LV
  | .tup xs => ((pubAs id b cs xs).1, .tup (pubAs id b cs xs).2)
  | x => pubA id b cs x
section
variable {id b : Nat} {cs : List LV} {M M' : Imm}
theorem pubC_sound (hM : MLe M M') (hc : RCs M' b 0 cs) {x : LV} {v : Value} (h : RV M x v) (ho : (pubC id b cs x).1) : RV M' (pubC id b cs x).2 v := by
  cases x with
  | msl i s b' o n c =>
    simp only [pubC] at ho ⊢
    split at ho
    · rename_i hi
      rw [if_pos hi]
      obtain ⟨rfl, h1, h2⟩ := ho
      simp only [RV] at h ⊢
      rcases h with h | ⟨rfl, rfl, ad, h⟩
      rotate_left
      · exact ⟨by simp, .inr ⟨ad, 0, h, rfl⟩⟩
      refine ⟨take_drop_length h1, .inl ⟨b', o, c, h, h2, RCs_take _ ?_⟩⟩
      have := RCs_drop o hc
      rwa [Nat.zero_add] at this
    · rename_i hi
      rw [if_neg hi]
      exact RV.mono hM _ _ h
  | _ => exact RV.mono hM _ _ h
theorem pubCs_sound (hM : MLe M M') (hc : RCs M' b 0 cs) : ∀ {xs : List LV} {vs : List Value}, RVs M xs vs → (pubCs id b cs xs).1 → RVs M' (pubCs id b cs xs).2 vs
  | [], vs, h, _ => by simpa [RVs, pubCs] using h
  | x :: r, vs, h, ho => by
    simp only [RVs, pubCs] at h ho ⊢
    obtain ⟨u, us, e, h1, h2⟩ := h
    exact ⟨u, us, e, pubC_sound hM hc h1 ho.1, pubCs_sound hM hc h2 ho.2⟩
theorem pubA_sound (hM : MLe M M') (hc : RCs M' b 0 cs) {x : LV} {v : Value} (h : RV M x v) (ho : (pubA id b cs x).1) : RV M' (pubA id b cs x).2 v := by
  cases x with
  | agg xs =>
    simp only [pubA, RV] at h ho ⊢
    obtain ⟨vs, e, h1, h2⟩ := h
    exact ⟨vs, e, pubCs_sound hM hc h1 ho, h2⟩
  | _ => exact pubC_sound hM hc h ho
theorem pubAs_sound (hM : MLe M M') (hc : RCs M' b 0 cs) : ∀ {xs : List LV} {vs : List Value}, RVs M xs vs → (pubAs id b cs xs).1 → RVs M' (pubAs id b cs xs).2 vs
  | [], vs, h, _ => by simpa [RVs, pubAs] using h
  | x :: r, vs, h, ho => by
    simp only [RVs, pubAs] at h ho ⊢
    obtain ⟨u, us, e, h1, h2⟩ := h
    exact ⟨u, us, e, pubA_sound hM hc h1 ho.1, pubAs_sound hM hc h2 ho.2⟩
theorem pubV_sound (hM : MLe M M') (hc : RCs M' b 0 cs) {x : LV} {v : Value} (h : RV M x v) (ho : (pubV id b cs x).1) : RV M' (pubV id b cs x).2 v := by
  cases x with
  | tup xs =>
    simp only [pubV, RV] at h ho ⊢
    obtain ⟨vs, e, h1⟩ := h
    exact ⟨vs, e, pubAs_sound hM hc h1 ho⟩
  | _ => exact pubA_sound hM hc h ho
end
theorem leVH.pub {x y : LV} {H H' : Heap} (id : Nat) {b : Nat} {cs : List LV} (hH : getH H id = some (.blk b cs)) (ho : (pubV id b cs x).1) (h : leVH gl (pubV id b cs x).2 (delH H id) y H') : leVH gl x H y H' := fun w0 M HF w v hI hv => by
  obtain ⟨p1, _⟩ := getH_perm hH
  obtain ⟨M', hM, hI', hc⟩ := (hI.perm (p1.append_right HF)).publish
  obtain ⟨M2, hM2, h2, hI2⟩ := h w0 M' HF w v hI' (pubV_sound hM hc hv ho)
  exact ⟨M2, hM.trans hM2, h2, hI2⟩
def viewQ (gl : Glob) (rs : List LRes) (K : LV → Heap → Prop) : Ex → Env → Heap → Prop
  | .exit _, _, _ => False
  | _, env, H => (resQ env H rs).1 ∧ ∃ r' H', leVH gl (oneOr (resQ env H rs).2) H r' H' ∧ K r' H'
theorem fn_view {f : FuncId} {fn : Func} {c : Code} {lc : LCode} {rs : List LRes} {args : List LV} {H : Heap} {K : LV → Heap → Prop} (hf : P.funcs[f]? = some fn) (hb : fn.body = some c) (hc : trCode vv P fn.ntmps c = some lc) (hr : trRes vv P fn.results.toList = some rs) (hn : args.length ≤ fn.ntmps)
    (ho : wpL P gl lc (viewQ gl rs K) (argEnv 0 args) H) : LCalls P gl f args H K := by
  intro w0 M HF w vs hI hv
  have hl := RVs_length hv
  refine CallsX.of hf hb (calls_of_wp hf hb ?_)
  have hF : Fr vv fn.ntmps (argEnv 0 args) [] M { tmps := vs.toArray ++ Array.replicate (fn.ntmps - vs.toArray.size) undef, defers := [] } := by
    refine ⟨by simp; omega, rfl, fun t _ => ?_, fun _ _ => by simp [get, RV]⟩
    rw [get_argEnv, if_pos (Nat.zero_le _), Nat.sub_zero]
    by_cases h : t < args.length
    · obtain ⟨v, h1, h2⟩ := RVs_get hv t args[t] (by simp [h])
      have h3 : t < vs.length := by omega
      have hg : (vs.toArray ++ Array.replicate (fn.ntmps - vs.toArray.size) undef).getD t undef = v := by
        rw [Array.getD_eq_getD_getElem?, Array.getElem?_append_left (by simpa using h3)]
        simp [h1]
      rw [hg]
      simpa [h] using h2
    · rw [List.getElem?_eq_none (by omega)]
      simp [RV]
  refine wp_mono (wpL_sound c lc hc _ _ H ho w0 M HF w _ hI hF) ?_
  rintro e a' w' ⟨ex, M', env', H', he, hM, hF', hI', hq⟩
  have fin : (resQ env' H' rs).1 ∧ (∃ r' H'', leVH gl (oneOr (resQ env' H' rs).2) H' r' H'' ∧ K r' H'') → a'.defers = [] ∧ ∃ v, (results fn a'.tmps).run P w' = .ok v w' ∧ ∃ M' v' r H', MLe M M' ∧ Ending.returned v = .returned v' ∧ RV M' r v' ∧ Inv gl w0 M' (H' ++ HF) w' ∧ K r H' := by
    rintro ⟨h1, r', H2, h2, h3⟩
    obtain ⟨v, r1, r2⟩ := results_sound (P := P) (fn := fn) hI' hF' hr h1
    obtain ⟨M2, hM2, hv2, hI2⟩ := h2 w0 M' HF w' v hI' r2
    exact ⟨hF'.defers, v, r1, M2, v, r', H2, hM.trans hM2, rfl, hv2, hI2, h3⟩
  cases e <;> simp only [toEx, Option.some.injEq, reduceCtorEq] at he <;> subst he
  · exact fin hq
  · exact hq.elim
  · exact fin hq
theorem fn_viewT {f : FuncId} {fn : Func} {lc : LCode} {rs : List LRes} {args : List LV} {H : Heap} {K : LV → Heap → Prop} (hf : P.funcs[f]? = some fn) (ht : fn.body.bind (trCode vv P fn.ntmps) = some lc ∧ trRes vv P fn.results.toList = some rs) {m : Nat} (hm : fn.ntmps = m) (hn : args.length ≤ m)
    (ho : wpL P gl lc (viewQ gl rs K) (argEnv 0 args) H) : LCalls P gl f args H K := by
  obtain ⟨h1, h2⟩ := ht
  cases hb : fn.body with
  | none => rw [hb] at h1; cases h1
  | some c => rw [hb] at h1; exact fn_view hf hb h1 h2 (by rw [hm]; exact hn) ho
def pubEnt (id b : Nat) (cs : List LV) : Heap → Prop × Heap
  | [] => (True, [])
  | (i, .blk b' ds) :: r => ((pubCs id b cs ds).1 ∧ (pubEnt id b cs r).1, (i, .blk b' (pubCs id b cs ds).2) :: (pubEnt id b cs r).2)
  | e :: r => ((pubEnt id b cs r).1, e :: (pubEnt id b cs r).2)
theorem pubCs_get {id b : Nat} {cs : List LV} : ∀ (ds : List LV) (i : Nat) (c' : LV), (pubCs id b cs ds).1 → (pubCs id b cs ds).2[i]? = some c' → ∃ c, ds[i]? = some c ∧ (pubC id b cs c).1 ∧ (pubC id b cs c).2 = c'
  | [], i, c', _, h => by simp [pubCs] at h
  | d :: r, i, c', ho, h => by
    simp only [pubCs] at h ho
    cases i with
    | zero => simp at h; exact ⟨d, rfl, ho.1, h⟩
    | succ i => simpa using pubCs_get r i c' ho.2 (by simpa using h)
theorem pubEnt_inv {id b : Nat} {cs : List LV} {w0 w : World} {M : Imm} (hc : RCs M b 0 cs) : ∀ {H HF : Heap}, Inv gl w0 M (H ++ HF) w → (pubEnt id b cs H).1 → Inv gl w0 M ((pubEnt id b cs H).2 ++ HF) w
  | [], HF, hI, _ => hI
  | (i, .blk b' ds) :: r, HF, hI, ho => by
    simp only [pubEnt] at ho ⊢
    have h1 : Inv gl w0 M ((i, .blk b' (pubCs id b cs ds).2) :: (r ++ HF)) w := hI.weaken fun k c' hk => by
      obtain ⟨c, h1, h2, h3⟩ := pubCs_get ds k c' ho.1 hk
      exact ⟨c, h1, fun v hv => by rw [← h3]; exact pubC_sound (MLe.refl M) hc hv h2⟩
    have h2 : Inv gl w0 M (r ++ ((i, .blk b' (pubCs id b cs ds).2) :: HF)) w := h1.perm List.perm_middle.symm
    exact (pubEnt_inv hc h2 ho.2).perm List.perm_middle
  | (i, .tok t) :: r, HF, hI, ho => by
    simp only [pubEnt] at ho ⊢
    have h2 : Inv gl w0 M (r ++ ((i, .tok t) :: HF)) w := hI.perm List.perm_middle.symm
    exact (pubEnt_inv hc h2 ho).perm List.perm_middle
  | (i, .map b2 es) :: r, HF, hI, ho => by
    simp only [pubEnt] at ho ⊢
    have h2 : Inv gl w0 M (r ++ ((i, .map b2 es) :: HF)) w := hI.perm List.perm_middle.symm
    exact (pubEnt_inv hc h2 ho).perm List.perm_middle
end
abbrev oU (d : Nat) (o : LOp) : LOper := ⟨some d, false, none, o⟩
abbrev oT (d : Nat) (o : LOp) : LOper := ⟨some d, true, none, o⟩
abbrev oN (o : LOp) : LOper := ⟨none, true, none, o⟩
abbrev oM (d s : Nat) : LOper := ⟨some d, false, none, .mov (.t s)⟩
abbrev zI : LV := .int .i64 0
abbrev xI (n : Int) : X := .c (.int .i64 n)
abbrev oL (n s m : Nat) : LOper := oU n (.load false s (.u m))
abbrev oJ (n s m : Nat) : LOper := oU n (.load true s (.u m))
abbrev oK (n s m : Nat) : LOper := oU n (.load true s (.t m))
abbrev oF (n k m : Nat) : LOper := oU n (.faddr k (.u m))
abbrev oG (n k m : Nat) : LOper := oU n (.faddr k (.t m))
abbrev oI (n : Nat) (k : Int) : LOper := oT n (.mov (xI k))
abbrev oP (n : Nat) (b : Bool) : LOper := oT n (.mov (.c (.bool b)))
abbrev oV (n m : Nat) : LOper := oT n (.mov (.u m))
abbrev oW (n m : Nat) : LOper := oU n (.mov (.u m))
abbrev oB (n m : Nat) : LOper := oT n (.box (.t m))
abbrev oS (s m k : Nat) : LOper := oN (.store s (.t m) (.u k))
abbrev oR (s m k : Nat) : LOper := oN (.store s (.u m) (.u k))
abbrev oX (n m k : Nat) : LOper := oU n (.ext (.u m) k)
abbrev oZ (n m : Nat) : LOper := oU n (.nilc (.u m))
abbrev oA (n s a b : Nat) : LOper := oU n (.iaS s (.u a) (.u b))
abbrev oC (n f : Nat) (l : List X) : LOper := oU n (.call f l)
abbrev oH (n a b : Nat) : LOper := oU n (.pick (.u a) (.c (.bool true)) (.u b))
abbrev oQ (n a b : Nat) : LOper := oT n (.pick (.u a) (.c (.bool true)) (.u b))
abbrev oO (d g : Nat) (o : LOp) : LOper := ⟨some d, false, some (.u g, false), o⟩
abbrev oY (d g : Nat) (o : LOp) : LOper := ⟨some d, false, some (.u g, true), o⟩
abbrev sR (l : List LOper) (c : LCode) : LCode := .seq (.region l) c
abbrev sD (l : List DIt) (c : LCode) : LCode := .seq (.regionD l) c
abbrev dF (i : Nat) (l : List Nat) (o : LOper) : DIt := ⟨i, l, false, [], o⟩
abbrev dT (i : Nat) (l : List Nat) (o : LOper) : DIt := ⟨i, l, true, [], o⟩
abbrev cT (n : Nat) (a b : LCode) : LCode := .cond (.t n) a b
abbrev vL (l : List Nat) (t : Nat) : Bool := l.contains t
abbrev trOk (P : Program) (f : Func) (v : Nat → Bool) (c : LCode) (r : List LRes) : Prop := f.body.bind (trCode v P f.ntmps) = some c ∧ trRes v P f.results.toList = some r
end Go.Lx
