/- Layer 11: weak contracts of what changes a table; rename; chmod and chown. -/
import Derived.Test.YtkdblnejpmbnfaaGreatW18
import Derived.Test.YtkdblnejpmbnfaaGreatW11
import Derived.Test.YtkdblnejpmbnfaaGreatW10
import Derived.Test.YtkdblnejpmbnfaaGreatW13
namespace Go.Proofs.YtkdblnejpmbnfaaGreat.F
open Go Go.Lx
set_option linter.unusedSimpArgs false
set_option linter.unusedVariables false
set_option maxRecDepth 100000
set_option maxHeartbeats 16000000
theorem tOp {f : FuncId} {args : List LV} {R : Int × Tb} (h : Pure Tryz.prog gl f args (.tup [TbL R.2, .int .i64 R.1])) (hv : R.1 = 0 → VW R.2) : PureE Tryz.prog gl f args fun v => ∃ (T : Tb) (e : Int), (e = 0 → VW T) ∧ v = .tup [TbL T, .int .i64 e] :=
  h.mono fun _ _ h => ⟨h.2, _, _, hv, h.1⟩
theorem VW.fkN {t : Tb} (h : VW t) {pid : Int} (h0 : (fkR t pid).1 = 0) : VW (fkR t pid).2 := by
  refine (h.fk ?_ h0).1
  obtain ⟨h1, h2, h3⟩ := chR_ok h0
  rw [fkG] at h2
  split at h2
  · simp at h2
  · omega
theorem ren_ (w : Wk) (τ : Tok) (fo : List Fnd) (wb q bi ci : Nat) (it : List It) (h1 : fo.length = 2) (ho : WOk q w fo it ci) (hq : q ≤ 880) : LCalls Tryz.prog gl 105 [.ptr 36 wb 0] (WH wb bi ci τ w fo it) (OpR wb bi ci τ fo it q) := by
  refine fn_viewT Tryz.func105 t105 Tryz.ntmps105 (by simp) ?_
  obtain ⟨hs, hv, hk, ha, hl⟩ := ho
  have l1 := hl.lf
  have l2 := hl.li
  have l3 := hl.lc
  obtain ⟨y, z, rfl⟩ := it2 (l := it) (by omega)
  have hF := hs.fi.ok (by omega) (by omega)
  have hlf := len_fn fo
  have e1 := tFn0 (fo := fo) (by omega)
  have e2 := tFn1 (fo := fo) (by omega)
  have cd := wdir w τ fo (ItM bi ci [y, z]) wb q 0 (by omega) (by omega) hs (by omega)
  have cm := fun d i n => may w (FoS τ fo) (ItM bi ci [y, z]) wb q ⟨d, i⟩ n hs (by omega)
  have cu := fun d i => used w (FoS τ fo) (ItM bi ci [y, z]) wb q ⟨d, i⟩ hs (by omega) hv
  have hm := fun (W : Wk) x hS => made W (FoS τ fo) wb (q + 2) bi ci [{ y with ro := 3 }, z] 1 x (by simp) (by simp) l3 hS (by omega)
  have hn0 := getD_fo (j := 0) hl.ln
  have hn1 := getD_fo (j := 1) hl.ln
  generalize fo.getD 0 fn0 = f at *
  generalize fo.getD 1 fn0 = g at *
  have c1 := look w.s.fs f.dir f.nm hF
  have c2 := look w.s.fs g.dir g.nm hF
  have c3 := fun d i => dir w.s.fs ⟨d, i⟩ hF
  have c4 := rename w.s.fs f.dir f.nm g.dir g.nm q hs.fi (by omega) (by omega) (by omega)
  rw [FnC_eq] at e1 e2
  unfold c105 r105
  simp only [FiL_eq, AtL_eq] at c1 c2 c3 c4
  rw [WH_eq]
  simp only [List.length_cons, List.length_nil] at *
  simp only [ItB, List.flatMap_cons, List.flatMap_nil, List.append_nil, ItC_eq, Sp, List.cons_append, List.nil_append, List.length_cons, List.length_nil]
  repeat' (first | (simp (disch := first | exact dd | fail) only [go_sem, e1, e2, un_any, pick_00a, pick_0a0, pick_ca, pick_ac]) | (refine allI (fun b => ?_)) | (refine allT (fun τ => ?_)) | (refine brP (fun h => ?_) (fun h => ?_) <;> (try simp only [zgx, zbx] at h)) | refine call_U (c3 _ _) ?_ | refine callG_U (fun _ => c3 _ _) ?_ | refine call_T (c3 _ _) ?_ | refine callG_T (fun _ => c3 _ _) ?_ | refine call_N (c3 _ _) ?_ | refine call_of (c3 _ _) ?_ | refine callG_of (fun _ => c3 _ _) ?_ | (refine callG_LU (fun hg => ?_) (fun hg => ?_) <;> (try simp only [hg])) | (refine callG_L (fun hg => ?_) (fun hg => ?_) <;> (try simp only [hg])) | (refine actsQ_U cd (pick_perm rfl (List.Perm.refl _)) ?_; rintro _ _ ⟨rfl, rfl⟩; simp only [WkO_eq, FoS_eq, ItM_eq, List.cons_append, List.nil_append]) | (refine actsQ_T cd (pick_perm rfl (List.Perm.refl _)) ?_; rintro _ _ ⟨rfl, rfl⟩; simp only [WkO_eq, FoS_eq, ItM_eq, List.cons_append, List.nil_append]) | (refine actsQ_of cd (pick_perm rfl (List.Perm.refl _)) ?_; rintro _ _ ⟨rfl, rfl⟩; simp only [WkO_eq, FoS_eq, ItM_eq, List.cons_append, List.nil_append]) | (refine actsQ_U (cm _ _ _) (pick_perm rfl (List.Perm.refl _)) ?_; rintro _ _ ⟨⟨v, rfl⟩, rfl⟩; simp only [WkO_eq, FoS_eq, ItM_eq, List.cons_append, List.nil_append]) | (refine actsQ_T (cm _ _ _) (pick_perm rfl (List.Perm.refl _)) ?_; rintro _ _ ⟨⟨v, rfl⟩, rfl⟩; simp only [WkO_eq, FoS_eq, ItM_eq, List.cons_append, List.nil_append]) | (refine actsQ_of (cm _ _ _) (pick_perm rfl (List.Perm.refl _)) ?_; rintro _ _ ⟨⟨v, rfl⟩, rfl⟩; simp only [WkO_eq, FoS_eq, ItM_eq, List.cons_append, List.nil_append]) | (refine actsQ_U (cu _ _) (pick_perm rfl (List.Perm.refl _)) ?_; rintro _ _ ⟨⟨v, rfl⟩, rfl⟩; simp only [WkO_eq, FoS_eq, ItM_eq, List.cons_append, List.nil_append]) | (refine actsQ_T (cu _ _) (pick_perm rfl (List.Perm.refl _)) ?_; rintro _ _ ⟨⟨v, rfl⟩, rfl⟩; simp only [WkO_eq, FoS_eq, ItM_eq, List.cons_append, List.nil_append]) | (refine actsQ_of (cu _ _) (pick_perm rfl (List.Perm.refl _)) ?_; rintro _ _ ⟨⟨v, rfl⟩, rfl⟩; simp only [WkO_eq, FoS_eq, ItM_eq, List.cons_append, List.nil_append]) | (refine pureE_of c1 ?_; rintro _ ⟨x, hx, rfl⟩) | (refine pureE_of c2 ?_; rintro _ ⟨o, ho, rfl⟩) | (refine pureE_of c4 ?_; rintro _ ⟨r, hr, rfl⟩; rw [FRL_eq, FiL_eq, ChS]) | (refine actsQ_U (files w (FoS τ fo) (ItM bi ci [y, z]) wb r.fs r.ch r.e) (pick_perm rfl (List.Perm.refl _)) ?_; rintro _ _ ⟨rfl, rfl⟩; rcases fil_cases r.e r.fs r.ch w with ⟨he, hw⟩ | ⟨he, hw⟩ <;> rw [hw] <;> simp only [WkO_eq, FoS_eq, ItM_eq, List.cons_append, List.nil_append]) | (refine actsQ_T (files w (FoS τ fo) (ItM bi ci [y, z]) wb r.fs r.ch r.e) (pick_perm rfl (List.Perm.refl _)) ?_; rintro _ _ ⟨rfl, rfl⟩; rcases fil_cases r.e r.fs r.ch w with ⟨he, hw⟩ | ⟨he, hw⟩ <;> rw [hw] <;> simp only [WkO_eq, FoS_eq, ItM_eq, List.cons_append, List.nil_append]) | (refine actsQ_of (files w (FoS τ fo) (ItM bi ci [y, z]) wb r.fs r.ch r.e) (pick_perm rfl (List.Perm.refl _)) ?_; rintro _ _ ⟨rfl, rfl⟩; rcases fil_cases r.e r.fs r.ch w with ⟨he, hw⟩ | ⟨he, hw⟩ <;> rw [hw] <;> simp only [WkO_eq, FoS_eq, ItM_eq, List.cons_append, List.nil_append]) | (refine actsQ_U (hm { w with s := ⟨r.fs, w.s.ms⟩, cg := r.ch } x.1 (hs.fil (hr he).1)) (pick_perm rfl (pick_perm rfl (List.Perm.refl _))) ?_; rintro _ _ ⟨it', hit, rfl⟩; simp only [List.cons_append, List.nil_append]) | (refine gd ?_) | fail)
  all_goals first
    | (refine opE w [y, z] ?_ (fun h => absurd h (by decide)) rfl; rw [WH]; (repeat (first | exact List.nil_sublist _ | apply List.Sublist.cons_cons | apply List.Sublist.cons)); done)
    | (refine opE w [y, z] ?_ (fun h => absurd h he) rfl; rw [WH]; (repeat (first | exact List.nil_sublist _ | apply List.Sublist.cons_cons | apply List.Sublist.cons)); done)
    | (refine opE { w with s := ⟨r.fs, w.s.ms⟩, cg := r.ch } [y, z] ?_ (fun _ => ⟨hs.fil (hr he).1, hv⟩) rfl; rw [WH]; (repeat (first | exact List.nil_sublist _ | apply List.Sublist.cons_cons | apply List.Sublist.cons)); done)
    | (refine opE { w with s := ⟨r.fs, w.s.ms⟩, cg := r.ch } it' ?_ (fun _ => ⟨hs.fil (hr he).1, hv⟩) hit; rw [WH]; (repeat (first | exact List.nil_sublist _ | apply List.Sublist.cons_cons | apply List.Sublist.cons)); done)
    | (exfalso; omega)
    | trace_state
theorem att_ (w : Wk) (τ : Tok) (fo : List Fnd) (wb q bi ci : Nat) (it : List It) (h1 : fo.length = 1) (ho : WOk q w fo it ci) (hq : q ≤ 880) : LCalls Tryz.prog gl 106 [.ptr 36 wb 0] (WH wb bi ci τ w fo it) (OpR wb bi ci τ fo it q) := by
  refine fn_viewT Tryz.func106 t106 Tryz.ntmps106 (by simp) ?_
  obtain ⟨hs, hv, hk, ha, hl⟩ := ho
  have l1 := hl.lf
  have hF := hs.fi.ok (by omega) (by omega)
  have hlf := len_fn fo
  have e1 := tFn0 (fo := fo) (by omega)
  generalize fo.getD 0 fn0 = f at *
  have c1 := node w.s.fs f.file hF
  have c2 := fun m u g => set w.s.fs f.file m u g q hs.fi (by omega)
  have c3 := fun fs e => files w (FoS τ fo) (ItM bi ci it) wb fs [] e
  generalize nodeR w.s.fs f.file = R at *
  obtain ⟨nd, nb⟩ := R
  dsimp only at c1
  rw [FnC_eq] at e1
  unfold c106 r106
  simp only [FiL_eq, AtL_eq, NoC_eq] at c1 c2
  rw [WH_eq]
  repeat' (first | (simp (disch := first | exact dd | fail) only [go_sem, e1]) | (refine allI (fun b => ?_)) | (refine allT (fun τ => ?_)) | (refine brP (fun h => ?_) (fun h => ?_) <;> (try simp only [zgx, zbx] at h)) | refine call_U (c1) ?_ | refine callG_U (fun _ => c1) ?_ | refine call_T (c1) ?_ | refine callG_T (fun _ => c1) ?_ | refine call_N (c1) ?_ | refine call_of (c1) ?_ | refine callG_of (fun _ => c1) ?_ | (refine pureE_of (c2 _ _ _) ?_; rintro _ ⟨⟨fs, e⟩, hr, rfl⟩; rw [F2L, FiL_eq]) | (refine actsQ_U (LCalls.args (c3 fs e) ⟨leV.refl _, leV.refl _, leV.nil_sl _ _, leV.refl _, trivial⟩) (pick_perm rfl (List.Perm.refl _)) ?_; rintro _ _ ⟨rfl, rfl⟩; rcases fil_cases e fs [] w with ⟨he, hw⟩ | ⟨he, hw⟩ <;> rw [hw] <;> simp only [WkO_eq, FoS_eq, ItM_eq, List.cons_append, List.nil_append]) | (refine gd ?_) | fail)
  all_goals first
    | (refine opE w it ?_ (fun h => absurd h (by decide)) rfl; rw [WH]; (repeat (first | exact List.nil_sublist _ | apply List.Sublist.cons_cons | apply List.Sublist.cons)); done)
    | (refine opE { w with s := ⟨fs, w.s.ms⟩, cg := [] } it ?_ (fun _ => ⟨⟨(hr he).1.mono (by omega) (by omega), by have := hs.ml; dsimp only; omega, by obtain ⟨ρ, r1, r2⟩ := hs.mi; exact ⟨ρ, fun d => by have := r1 d; omega, r2⟩⟩, hv⟩) rfl; rw [WH]; (repeat (first | exact List.nil_sublist _ | apply List.Sublist.cons_cons | apply List.Sublist.cons)); done)
    | (refine opE w it ?_ (fun h => absurd h he) rfl; rw [WH]; (repeat (first | exact List.nil_sublist _ | apply List.Sublist.cons_cons | apply List.Sublist.cons)); done)
    | trace_state
end Go.Proofs.YtkdblnejpmbnfaaGreat.F
namespace Go.Proofs.YtkdblnejpmbnfaaGreat.F
open Go Go.Lx
set_option linter.unusedSimpArgs false
set_option linter.unusedVariables false
set_option maxRecDepth 100000
set_option maxHeartbeats 16000000
theorem rea_ (w : Wk) (τ : Tok) (fo : List Fnd) (wb q bi ci : Nat) (it : List It) (h1 : fo.length = 1) (ho : WOk q w fo it ci) (hq : q ≤ 880) : LCalls Tryz.prog gl 107 [.ptr 36 wb 0] (WH wb bi ci τ w fo it) (OpR wb bi ci τ fo it q) := by
  refine fn_viewT Tryz.func107 t107 Tryz.ntmps107 (by simp) ?_
  obtain ⟨hs, hv, hk, ha, hl⟩ := ho
  have l1 := hl.lf
  have hlf := len_fn fo
  have e1 := tFn0 (fo := fo) (by omega)
  have cd := wdir w τ fo (ItM bi ci it) wb q 0 (by omega) (by omega) hs (by omega)
  have cm := fun d i n => may w (FoS τ fo) (ItM bi ci it) wb q ⟨d, i⟩ n hs (by omega)
  generalize fo.getD 0 fn0 = f at *
  have c1 := tOp (rex w.t w.p.pid f.path f.nm hv) hv.ex
  have c2 := tOp (rcd w.t w.p.pid f.file.d f.file.i hv) hv.cd
  have c3 := add w.s w.c.a0 f.file q hs (by omega)
  rw [FnC_eq] at e1
  unfold c107 r107
  rw [TbL_eq w.t] at c1 c2
  rw [SpL_eq, AtL_eq] at c3
  rw [WH_eq]
  repeat' (first | (simp (disch := first | exact dd | fail) only [go_sem, e1, pick_ca, pick_ac, un_any, pick_00a, pick_0a0]) | (refine allI (fun b => ?_)) | (refine allT (fun τ => ?_)) | (refine brP (fun h => ?_) (fun h => ?_) <;> (try simp only [zgx, zbx] at h)) | (refine callG_LU (fun hg => ?_) (fun hg => ?_) <;> (try simp only [hg])) | (refine callG_L (fun hg => ?_) (fun hg => ?_) <;> (try simp only [hg])) | (refine actsQ_U cd (pick_perm rfl (List.Perm.refl _)) ?_; rintro _ _ ⟨rfl, rfl⟩; simp only [WkO_eq, FoS_eq, ItM_eq, List.cons_append, List.nil_append]) | (refine actsQ_T cd (pick_perm rfl (List.Perm.refl _)) ?_; rintro _ _ ⟨rfl, rfl⟩; simp only [WkO_eq, FoS_eq, ItM_eq, List.cons_append, List.nil_append]) | (refine actsQ_of cd (pick_perm rfl (List.Perm.refl _)) ?_; rintro _ _ ⟨rfl, rfl⟩; simp only [WkO_eq, FoS_eq, ItM_eq, List.cons_append, List.nil_append]) | (refine actsQ_U (cm _ _ _) (pick_perm rfl (List.Perm.refl _)) ?_; rintro _ _ ⟨⟨v, rfl⟩, rfl⟩; simp only [WkO_eq, FoS_eq, ItM_eq, List.cons_append, List.nil_append]) | (refine actsQ_T (cm _ _ _) (pick_perm rfl (List.Perm.refl _)) ?_; rintro _ _ ⟨⟨v, rfl⟩, rfl⟩; simp only [WkO_eq, FoS_eq, ItM_eq, List.cons_append, List.nil_append]) | (refine actsQ_of (cm _ _ _) (pick_perm rfl (List.Perm.refl _)) ?_; rintro _ _ ⟨⟨v, rfl⟩, rfl⟩; simp only [WkO_eq, FoS_eq, ItM_eq, List.cons_append, List.nil_append]) | (refine pureE_of c1 ?_; rintro _ ⟨T, e, hT, rfl⟩; rw [TbL_eq]) | (refine pureE_of c2 ?_; rintro _ ⟨T, e, hT, rfl⟩; rw [TbL_eq]) | (refine pureE_of c3 ?_; rintro _ ⟨⟨x, e⟩, hx, rfl⟩; rw [S2L, SpL_eq]) | (refine actsQ_U (table w (FoS τ fo) (ItM bi ci it) wb T e) (pick_perm rfl (List.Perm.refl _)) ?_; rintro _ _ ⟨rfl, rfl⟩; rcases tab_cases e T w with ⟨he, hw⟩ | ⟨he, hw⟩ <;> rw [hw] <;> simp only [WkO_eq, FoS_eq, ItM_eq, List.cons_append, List.nil_append]) | (refine actsQ_T (table w (FoS τ fo) (ItM bi ci it) wb T e) (pick_perm rfl (List.Perm.refl _)) ?_; rintro _ _ ⟨rfl, rfl⟩; rcases tab_cases e T w with ⟨he, hw⟩ | ⟨he, hw⟩ <;> rw [hw] <;> simp only [WkO_eq, FoS_eq, ItM_eq, List.cons_append, List.nil_append]) | (refine actsQ_of (table w (FoS τ fo) (ItM bi ci it) wb T e) (pick_perm rfl (List.Perm.refl _)) ?_; rintro _ _ ⟨rfl, rfl⟩; rcases tab_cases e T w with ⟨he, hw⟩ | ⟨he, hw⟩ <;> rw [hw] <;> simp only [WkO_eq, FoS_eq, ItM_eq, List.cons_append, List.nil_append]) | (refine gd ?_) | fail)
  all_goals first
    | (exfalso; omega)
    | (refine opE w it ?_ (fun h => absurd h (by decide)) rfl; rw [WH]; (repeat (first | exact List.nil_sublist _ | apply List.Sublist.cons_cons | apply List.Sublist.cons)); done)
    | (refine opE { w with t := T } it ?_ (fun _ => ⟨hs.up (by omega), hT he⟩) rfl; rw [WH]; (repeat (first | exact List.nil_sublist _ | apply List.Sublist.cons_cons | apply List.Sublist.cons)); done)
    | (refine opE w it ?_ (fun h => absurd h he) rfl; rw [WH]; (repeat (first | exact List.nil_sublist _ | apply List.Sublist.cons_cons | apply List.Sublist.cons)); done)
    | (refine opE w it ?_ (fun h => absurd h (by assumption)) rfl; rw [WH]; (repeat (first | exact List.nil_sublist _ | apply List.Sublist.cons_cons | apply List.Sublist.cons)); done)
    | (refine opE w it ?_ (fun _ => ⟨hs.up (by omega), hv⟩) rfl; rw [WH]; (repeat (first | exact List.nil_sublist _ | apply List.Sublist.cons_cons | apply List.Sublist.cons)); done)
    | (refine opE { w with s := x } it ?_ (fun h => ⟨(hx h).up (by omega), hv⟩) rfl; rw [WH]; (repeat (first | exact List.nil_sublist _ | apply List.Sublist.cons_cons | apply List.Sublist.cons)); done)
    | trace_state
theorem pla_ (w : Wk) (τ : Tok) (fo : List Fnd) (wb q bi ci : Nat) (it : List It) (h1 : fo.length = 1) (hx : w.c.n = 9 → 1 ≤ w.c.xs.length) (ho : WOk q w fo it ci) (hq : q ≤ 880) : LCalls Tryz.prog gl 108 [.ptr 36 wb 0] (WH wb bi ci τ w fo it) (OpR wb bi ci τ fo it q) := by
  refine fn_viewT Tryz.func108 t108 Tryz.ntmps108 (by simp) ?_
  obtain ⟨hs, hv, hk, ha, hl⟩ := ho
  have l1 := hl.lf
  have l2 := hl.li
  have hlf := len_fn fo
  have e1 := tFn0 (fo := fo) (by omega)
  have cm := fun d i n => may w (FoS τ fo) (ItM bi ci it) wb q ⟨d, i⟩ n hs (by omega)
  have cc := fun n ht => create w τ fo wb q bi ci 0 it n (by omega) (by omega) (by omega) hl.lc hs (by omega) (getD_fo hl.ln) ht
  have ex : w.c.n = 9 → (w.c.xs.map LV.str).getD 0 .any = .str (w.c.xs.getD 0 []) := fun h => gStr (by have := hx h; omega)
  have hx2 : (w.c.xs.getD 0 []).length ≤ 1000 := by
    rcases h : w.c.xs with _ | ⟨s, l⟩
    · simp
    · simp only [List.getD_cons_zero]
      exact ha.2.2 s (by rw [h]; simp)
  generalize fo.getD 0 fn0 = f at *
  generalize w.c.xs.getD 0 [] = s at *
  have cs := cc ⟨0, 3, 511, 0, 0, 0, s, []⟩ (by dsimp only; omega)
  have cn := cc ⟨0, 2, w.c.a0, 0, 0, 0, [], []⟩ (by simp)
  rw [FnC_eq] at e1
  unfold c108 r108
  rw [WH_eq]
  by_cases h9 : w.c.n = 9
  · have hx := hx h9
    have ex := ex h9
    repeat' (first | (simp (disch := first | exact dd | fail) only [go_sem, e1, ex, List.length_map, pick_ca, pick_ac, un_any, pick_00a, pick_0a0]) | (refine allI (fun b => ?_)) | (refine allT (fun τ => ?_)) | (refine brP (fun h => ?_) (fun h => ?_) <;> (try simp only [zgx, zbx] at h)) | (refine actsQ_U (cm _ _ _) (pick_perm rfl (List.Perm.refl _)) ?_; rintro _ _ ⟨⟨v, rfl⟩, rfl⟩; simp only [WkO_eq, FoS_eq, ItM_eq, List.cons_append, List.nil_append]) | (refine actsQ_T (cm _ _ _) (pick_perm rfl (List.Perm.refl _)) ?_; rintro _ _ ⟨⟨v, rfl⟩, rfl⟩; simp only [WkO_eq, FoS_eq, ItM_eq, List.cons_append, List.nil_append]) | (refine actsQ_of (cm _ _ _) (pick_perm rfl (List.Perm.refl _)) ?_; rintro _ _ ⟨⟨v, rfl⟩, rfl⟩; simp only [WkO_eq, FoS_eq, ItM_eq, List.cons_append, List.nil_append]) | (refine actsQ_U cs (pick_perm rfl (pick_perm rfl (List.Perm.refl _))) ?_; rintro _ _ ⟨e', fs', cg', it', hcr, hit, rfl, rfl⟩) | (refine gd ?_) | fail)
    all_goals first
      | (exfalso; omega)
      | (refine opE w it ?_ (fun h => absurd h (by decide)) rfl; rw [WH]; (repeat (first | exact List.nil_sublist _ | apply List.Sublist.cons_cons | apply List.Sublist.cons)); done)
      | (refine opE (filW e' fs' cg' w) it' ?_ (fun h => ?_) hit; (repeat (first | exact List.Sublist.refl _ | exact List.sublist_append_left _ _ | apply List.Sublist.cons)); rw [filW, if_pos h]; exact ⟨(hcr h).1, hv⟩)
      | trace_state
  · repeat' (first | (simp (disch := first | exact dd | fail) only [go_sem, e1, List.length_map, pick_ca, pick_ac, un_any, pick_00a, pick_0a0]) | (refine allI (fun b => ?_)) | (refine allT (fun τ => ?_)) | (refine brP (fun h => ?_) (fun h => ?_) <;> (try simp only [zgx, zbx] at h)) | (refine actsQ_U (cm _ _ _) (pick_perm rfl (List.Perm.refl _)) ?_; rintro _ _ ⟨⟨v, rfl⟩, rfl⟩; simp only [WkO_eq, FoS_eq, ItM_eq, List.cons_append, List.nil_append]) | (refine actsQ_T (cm _ _ _) (pick_perm rfl (List.Perm.refl _)) ?_; rintro _ _ ⟨⟨v, rfl⟩, rfl⟩; simp only [WkO_eq, FoS_eq, ItM_eq, List.cons_append, List.nil_append]) | (refine actsQ_of (cm _ _ _) (pick_perm rfl (List.Perm.refl _)) ?_; rintro _ _ ⟨⟨v, rfl⟩, rfl⟩; simp only [WkO_eq, FoS_eq, ItM_eq, List.cons_append, List.nil_append]) | (refine actsQ_U cn (pick_perm rfl (pick_perm rfl (List.Perm.refl _))) ?_; rintro _ _ ⟨e', fs', cg', it', hcr, hit, rfl, rfl⟩) | (refine gd ?_) | fail)
    all_goals first
      | (exfalso; omega)
      | (refine opE w it ?_ (fun h => absurd h (by decide)) rfl; rw [WH]; (repeat (first | exact List.nil_sublist _ | apply List.Sublist.cons_cons | apply List.Sublist.cons)); done)
      | (refine opE (filW e' fs' cg' w) it' ?_ (fun h => ?_) hit; (repeat (first | exact List.Sublist.refl _ | exact List.sublist_append_left _ _ | apply List.Sublist.cons)); rw [filW, if_pos h]; exact ⟨(hcr h).1, hv⟩)
      | trace_state
theorem umo_ (w : Wk) (τ : Tok) (fo : List Fnd) (wb q bi ci : Nat) (it : List It) (ho : WOk q w fo it ci) (hq : q ≤ 880) : LCalls Tryz.prog gl 140 [.ptr 36 wb 0] (WH wb bi ci τ w fo it) (OpR wb bi ci τ fo it q) := by
  refine fn_viewT Tryz.func140 t140 Tryz.ntmps140 (by simp) ?_
  obtain ⟨hs, hv, hk, ha, hl⟩ := ho
  have hml := hs.ml
  have c1 := mtd w.s w.c.a0 (by omega)
  have c2 := rem6 w.s w.c.a0 q hs (by omega)
  have hle := len_ps w.t.ps
  have hlen := hv.len
  have hop : ∀ j, j < w.t.ps.length → (w.t.ps.getD j ps0).op.length ≤ 8 := fun j hj => (hv.all j hj).op.len
  unfold c140 r140
  rw [SpL_eq] at c1 c2
  rw [WH_eq]
  repeat' (first | (simp (disch := first | exact dd | fail) only [go_sem, pick_ca, pick_ac, un_any, pick_00a, pick_0a0]) | (refine allI (fun b => ?_)) | (refine allT (fun τ => ?_)) | (refine brP (fun h => ?_) (fun h => ?_) <;> (try simp only [zgx, zbx] at h)) | (refine callG_LU (fun hg => ?_) (fun hg => ?_) <;> (try simp only [hg])) | (refine callG_L (fun hg => ?_) (fun hg => ?_) <;> (try simp only [hg])) | (refine pureE_U c1 ?_; rintro _ ⟨mb, hmb, rfl⟩) | (refine gd ?_) | fail)
  all_goals first
    | (exfalso; omega)
    | (refine opE w it ?_ (fun h => absurd h (by decide)) rfl; rw [WH]; (repeat (first | exact List.nil_sublist _ | apply List.Sublist.cons_cons | apply List.Sublist.cons)); done)
    | skip
  refine loopI (ι := Nat) (fun j => j ≤ w.t.ps.length) (fun j => (4, .int .i64 j) :: _) (fun _ => _) (fun j => w.t.ps.length - j) 0 (by omega) Ents.same ?_
  intro j hj
  simp (disch := first | exact dd | fail) only [go_sem]
  refine brP (fun hb => ?_) (fun hb => ?_)
  · have hlt : j < w.t.ps.length := by simpa using hb
    have e2 := take_rows (f := PsC) (w := 14) (fun _ => rfl) ps0 w.t.ps hlt
    have hop := hop j hlt
    generalize w.t.ps.getD j ps0 = p at *
    have hpl := len_de p.op
    rw [PsC_eq, DeS_eq] at e2
    repeat' (first | (simp (disch := first | exact dd | fail) only [go_sem, e2]) | (refine allI (fun b => ?_)) | (refine allT (fun τ => ?_)) | (refine brP (fun h => ?_) (fun h => ?_) <;> (try simp only [zgx, zbx] at h)) | (refine gd ?_) | fail)
    · (refine opE w it ?_ (fun h => absurd h (by decide)) rfl; rw [WH]; (repeat (first | exact List.nil_sublist _ | apply List.Sublist.cons_cons | apply List.Sublist.cons)); done)
    · refine loopI (ι := Nat) (fun k => k ≤ p.op.length) (fun k => (6, .int .i64 k) :: _) (fun _ => _) (fun k => p.op.length - k) 0 (by omega) Ents.same ?_
      intro k hk
      simp (disch := first | exact dd | fail) only [go_sem]
      refine brP (fun hb2 => ?_) (fun hb2 => ?_)
      · have hlt2 : k < p.op.length := by simpa using hb2
        have e3 : (p.op.flatMap DeC).getD (k * 4 + 1) .any = .int .i64 (p.op.getD k de0).d := by
          rw [getD_rows (f := DeC) (w := 4) (fun _ => rfl) (by omega) de0 _ _ hlt2]; rfl
        generalize p.op.getD k de0 = d at *
        repeat' (first | (simp (disch := first | exact dd | fail) only [go_sem, e3]) | (refine allI (fun b => ?_)) | (refine allT (fun τ => ?_)) | (refine brP (fun h => ?_) (fun h => ?_) <;> (try simp only [zgx, zbx] at h)) | (refine gd ?_) | fail)
        · (refine opE w it ?_ (fun h => absurd h (by decide)) rfl; rw [WH]; (repeat (first | exact List.nil_sublist _ | apply List.Sublist.cons_cons | apply List.Sublist.cons)); done)
        · exact ⟨⟨k + 1, by omega⟩, by dsimp only; omega, Ents.envH (by simp [go_sem]) rfl⟩
      · repeat' (first | (simp (disch := first | exact dd | fail) only [go_sem]) | (refine allI (fun b => ?_)) | (refine allT (fun τ => ?_)) | (refine brP (fun h => ?_) (fun h => ?_) <;> (try simp only [zgx, zbx] at h)) | (refine gd ?_) | fail)
        exact ⟨⟨j + 1, by omega⟩, by dsimp only; omega, Ents.sub (by simp [go_sem]) ⟨_, List.Sublist.cons _ (List.Sublist.refl _), List.Perm.refl _⟩⟩
  · repeat' (first | (simp (disch := first | exact dd | fail) only [go_sem]) | (refine allI (fun b => ?_)) | (refine allT (fun τ => ?_)) | (refine brP (fun h => ?_) (fun h => ?_) <;> (try simp only [zgx, zbx] at h)) | (refine pureE_U c2 ?_; rintro _ ⟨⟨x, e⟩, hx, rfl⟩; rw [S2L, SpL_eq]) | (refine gd ?_) | fail)
    all_goals first
      | (exfalso; omega)
      | (refine opE { w with s := x, go := w.c.a0 } it ?_ (fun h => ⟨(hx h).up (by omega), hv⟩) rfl; rw [WH]; (repeat (first | exact List.nil_sublist _ | apply List.Sublist.cons_cons | apply List.Sublist.cons)); done)
      | (refine opE w it ?_ (fun h => absurd h (by assumption)) rfl; rw [WH]; (repeat (first | exact List.nil_sublist _ | apply List.Sublist.cons_cons | apply List.Sublist.cons)); done)
      | trace_state
theorem oth_ (w : Wk) (τ : Tok) (fo : List Fnd) (wb q bi ci : Nat) (it : List It) (hx : w.c.n = 19 → 1 ≤ w.c.xs.length) (ho : WOk q w fo it ci) (hq : q ≤ 880) : LCalls Tryz.prog gl 109 [.ptr 36 wb 0] (WH wb bi ci τ w fo it) (OpR wb bi ci τ fo it q) := by
  refine fn_viewT Tryz.func109 t109 Tryz.ntmps109 (by simp) ?_
  have cu := umo_ w τ fo wb q bi ci it ho hq
  obtain ⟨hs, hv, hk, ha, hl⟩ := ho
  have ex : w.c.n = 19 → (w.c.xs.map LV.str).getD 0 .any = .str (w.c.xs.getD 0 []) := fun h => gStr (by have := hx h; omega)
  have c1 : PureE Tryz.prog gl 37 [TbL w.t, .int .i64 w.p.pid] fun v => ∃ (T : Tb) (n e : Int), (e = 0 → VW T) ∧ v = .tup [TbL T, .int .i64 n, .int .i64 e] := (rfk w.t w.p.pid hv).mono fun _ _ h => ⟨h.2, _, _, _, VW.fkN hv, h.1⟩
  have c2 := tOp (rxt w.t w.p.pid hv) fun h => (hv.xt h).1
  have c3 := fun u => tOp (rsu w.t w.p.pid u hv) hv.su
  have c4 := fun u => tOp (rsg w.t w.p.pid u hv) hv.sg
  have c5 := fun u => tOp (rlo w.t w.p.pid u hv) hv.lo
  have c6 := fun u => tOp (rcf w.t w.p.pid u hv) hv.cf
  have c7 := fun g b => tOp (rki w.t w.p.pid g b hv) hv.ki
  unfold c109 r109
  rw [TbL_eq w.t] at c1 c2
  simp only [TbL_eq w.t] at c3 c4 c5 c6 c7
  rw [WH_eq] at cu ⊢
  generalize w.c.xs.getD 0 [] = s at *
  by_cases h9 : w.c.n = 19
  · have hx := hx h9
    have ex := ex h9
    repeat' (first | (simp (disch := first | exact dd | fail) only [go_sem, ex, List.length_map, pick_ca, pick_ac, un_any, pick_00a, pick_0a0]) | (refine allI (fun b => ?_)) | (refine allT (fun τ => ?_)) | (refine brP (fun h => ?_) (fun h => ?_) <;> (try simp only [zgx, zbx] at h)) | (refine gd ?_) | fail)
    all_goals first
      | (exfalso; omega)
      | (refine opE w it ?_ (fun h => absurd h (by decide)) rfl; rw [WH]; (repeat (first | exact List.nil_sublist _ | apply List.Sublist.cons_cons | apply List.Sublist.cons)); done)
      | (refine opE w it ?_ (fun _ => ⟨hs.up (by omega), hv⟩) rfl; rw [WH]; (repeat (first | exact List.nil_sublist _ | apply List.Sublist.cons_cons | apply List.Sublist.cons)); done)
      | trace_state
  · repeat' (first | (simp (disch := first | exact dd | fail) only [go_sem, List.length_map, pick_ca, pick_ac, un_any, pick_00a, pick_0a0]) | (refine allI (fun b => ?_)) | (refine allT (fun τ => ?_)) | (refine brP (fun h => ?_) (fun h => ?_) <;> (try simp only [zgx, zbx] at h)) | (refine pureE_U c1 ?_; rintro _ ⟨T, n, e, hT, rfl⟩; rw [TbL_eq]) | (refine pureE_T c1 ?_; rintro _ ⟨T, n, e, hT, rfl⟩; rw [TbL_eq]) | (refine pureE_of c1 ?_; rintro _ ⟨T, n, e, hT, rfl⟩; rw [TbL_eq]) | (refine pureE_U c2 ?_; rintro _ ⟨T, e, hT, rfl⟩; rw [TbL_eq]) | (refine pureE_T c2 ?_; rintro _ ⟨T, e, hT, rfl⟩; rw [TbL_eq]) | (refine pureE_of c2 ?_; rintro _ ⟨T, e, hT, rfl⟩; rw [TbL_eq]) | (refine pureE_U (c3 _) ?_; rintro _ ⟨T, e, hT, rfl⟩; rw [TbL_eq]) | (refine pureE_T (c3 _) ?_; rintro _ ⟨T, e, hT, rfl⟩; rw [TbL_eq]) | (refine pureE_of (c3 _) ?_; rintro _ ⟨T, e, hT, rfl⟩; rw [TbL_eq]) | (refine pureE_U (c4 _) ?_; rintro _ ⟨T, e, hT, rfl⟩; rw [TbL_eq]) | (refine pureE_T (c4 _) ?_; rintro _ ⟨T, e, hT, rfl⟩; rw [TbL_eq]) | (refine pureE_of (c4 _) ?_; rintro _ ⟨T, e, hT, rfl⟩; rw [TbL_eq]) | (refine pureE_U (c5 _) ?_; rintro _ ⟨T, e, hT, rfl⟩; rw [TbL_eq]) | (refine pureE_T (c5 _) ?_; rintro _ ⟨T, e, hT, rfl⟩; rw [TbL_eq]) | (refine pureE_of (c5 _) ?_; rintro _ ⟨T, e, hT, rfl⟩; rw [TbL_eq]) | (refine pureE_U (c6 _) ?_; rintro _ ⟨T, e, hT, rfl⟩; rw [TbL_eq]) | (refine pureE_T (c6 _) ?_; rintro _ ⟨T, e, hT, rfl⟩; rw [TbL_eq]) | (refine pureE_of (c6 _) ?_; rintro _ ⟨T, e, hT, rfl⟩; rw [TbL_eq]) | (refine pureE_U (c7 _ _) ?_; rintro _ ⟨T, e, hT, rfl⟩; rw [TbL_eq]) | (refine pureE_T (c7 _ _) ?_; rintro _ ⟨T, e, hT, rfl⟩; rw [TbL_eq]) | (refine pureE_of (c7 _ _) ?_; rintro _ ⟨T, e, hT, rfl⟩; rw [TbL_eq]) | (refine actsQ_U (table w (FoS τ fo) (ItM bi ci it) wb T e) (pick_perm rfl (List.Perm.refl _)) ?_; rintro _ _ ⟨rfl, rfl⟩; rcases tab_cases e T w with ⟨he, hw⟩ | ⟨he, hw⟩ <;> rw [hw] <;> simp only [WkO_eq, FoS_eq, ItM_eq, List.cons_append, List.nil_append]) | (refine actsQ_T (table w (FoS τ fo) (ItM bi ci it) wb T e) (pick_perm rfl (List.Perm.refl _)) ?_; rintro _ _ ⟨rfl, rfl⟩; rcases tab_cases e T w with ⟨he, hw⟩ | ⟨he, hw⟩ <;> rw [hw] <;> simp only [WkO_eq, FoS_eq, ItM_eq, List.cons_append, List.nil_append]) | (refine actsQ_of (table w (FoS τ fo) (ItM bi ci it) wb T e) (pick_perm rfl (List.Perm.refl _)) ?_; rintro _ _ ⟨rfl, rfl⟩; rcases tab_cases e T w with ⟨he, hw⟩ | ⟨he, hw⟩ <;> rw [hw] <;> simp only [WkO_eq, FoS_eq, ItM_eq, List.cons_append, List.nil_append]) | (refine actsQ_U (table { w with ex := n, ch := n } (FoS τ fo) (ItM bi ci it) wb T e) (pick_perm rfl (List.Perm.refl _)) ?_; rintro _ _ ⟨rfl, rfl⟩; rcases tab_cases e T { w with ex := n, ch := n } with ⟨he, hw⟩ | ⟨he, hw⟩ <;> rw [hw] <;> simp only [WkO_eq, FoS_eq, ItM_eq, List.cons_append, List.nil_append]) | (refine actsQ_T (table { w with ex := n, ch := n } (FoS τ fo) (ItM bi ci it) wb T e) (pick_perm rfl (List.Perm.refl _)) ?_; rintro _ _ ⟨rfl, rfl⟩; rcases tab_cases e T { w with ex := n, ch := n } with ⟨he, hw⟩ | ⟨he, hw⟩ <;> rw [hw] <;> simp only [WkO_eq, FoS_eq, ItM_eq, List.cons_append, List.nil_append]) | (refine actsQ_of (table { w with ex := n, ch := n } (FoS τ fo) (ItM bi ci it) wb T e) (pick_perm rfl (List.Perm.refl _)) ?_; rintro _ _ ⟨rfl, rfl⟩; rcases tab_cases e T { w with ex := n, ch := n } with ⟨he, hw⟩ | ⟨he, hw⟩ <;> rw [hw] <;> simp only [WkO_eq, FoS_eq, ItM_eq, List.cons_append, List.nil_append]) | (refine actsQ_U cu (pick_perm rfl (pick_perm rfl (List.Perm.refl _))) ?_; rintro _ _ ⟨e, w', it', hT, hit, rfl, rfl⟩) | (refine gd ?_) | fail)
    all_goals first
      | (exfalso; omega)
      | (refine opE w it ?_ (fun h => absurd h (by decide)) rfl; rw [WH]; (repeat (first | exact List.nil_sublist _ | apply List.Sublist.cons_cons | apply List.Sublist.cons)); done)
      | (refine opE { w with t := T } it ?_ (fun _ => ⟨hs.up (by omega), hT he⟩) rfl; rw [WH]; (repeat (first | exact List.nil_sublist _ | apply List.Sublist.cons_cons | apply List.Sublist.cons)); done)
      | (refine opE { w with ex := n, ch := n, t := T } it ?_ (fun _ => ⟨hs.up (by omega), hT he⟩) rfl; rw [WH]; (repeat (first | exact List.nil_sublist _ | apply List.Sublist.cons_cons | apply List.Sublist.cons)); done)
      | (refine opE w it ?_ (fun h => absurd h he) rfl; rw [WH]; (repeat (first | exact List.nil_sublist _ | apply List.Sublist.cons_cons | apply List.Sublist.cons)); done)
      | (refine opE { w with ex := n, ch := n } it ?_ (fun h => absurd h he) rfl; rw [WH]; (repeat (first | exact List.nil_sublist _ | apply List.Sublist.cons_cons | apply List.Sublist.cons)); done)
      | (refine opE w it ?_ (fun _ => ⟨hs.up (by omega), hv⟩) rfl; rw [WH]; (repeat (first | exact List.nil_sublist _ | apply List.Sublist.cons_cons | apply List.Sublist.cons)); done)
      | (refine opE w' it' ?_ hT hit; (repeat (first | exact List.Sublist.refl _ | exact List.sublist_append_left _ _ | apply List.Sublist.cons)); done)
      | trace_state
end Go.Proofs.YtkdblnejpmbnfaaGreat.F
namespace Go.Proofs.YtkdblnejpmbnfaaGreat.F
open Go Go.Lx
set_option linter.unusedSimpArgs false
set_option linter.unusedVariables false
set_option maxRecDepth 100000
set_option maxHeartbeats 16000000
theorem LCalls.le {P : Program} {gl : Glob} {f : FuncId} {args : List LV} {H H' : Heap} {K : LV → Heap → Prop} (hl : heapLe H H') (h : LCalls P gl f args H' K) : LCalls P gl f args H K := fun w0 M HF w vs hI hv => h w0 M HF w vs (hl.inv hI) hv
theorem act_ (w : Wk) (τ : Tok) (fo : List Fnd) (wb q bi ci : Nat) (it : List It) (ho : WOk q w fo it ci) (hq : q ≤ 880) : LCalls Tryz.prog gl 66 [.ptr 36 wb 0] (WH wb bi ci τ w fo it) (OpR wb bi ci τ fo it q) := by
  refine fn_viewT Tryz.func66 t66 Tryz.ntmps66 (by simp) ?_
  have hps := ho.k.ps
  have l1 := ho.l.lf
  have b1 := rowN_b (n := w.c.n)
  have b2 := rowN_b1 (n := w.c.n)
  have b3 := rowN_b2 (n := w.c.n)
  have x1 := rowN_c (n := w.c.n)
  have hxs := ho.k.xs
  have f1 : (w.c.n = 1 ∨ w.c.n = 6 ∨ (9 ≤ w.c.n ∧ w.c.n ≤ 12) ∨ (14 ≤ w.c.n ∧ w.c.n ≤ 17) ∨ w.c.n = 21) → fo.length = 1 := fun h => by
    have := b1 (by omega)
    have := b2 (by omega) (by omega)
    omega
  have f2 : (w.c.n = 8 ∨ w.c.n = 13) → fo.length = 2 := fun h => by
    have := b3 h
    omega
  have f3 : (w.c.n = 9 ∨ w.c.n = 19) → 1 ≤ w.c.xs.length := fun h => by
    have := x1 h
    omega
  clear b1 b2 b3 x1
  unfold c66 r66
  rw [WH, WkO_eq]
  repeat' (first | (simp (disch := first | exact dd | fail) only [go_sem]) | (refine allI (fun b => ?_)) | (refine allT (fun τ => ?_)) | (refine brP (fun h => ?_) (fun h => ?_) <;> (try simp only [zgx, zbx] at h)) | (refine actsQ_U (open_ w τ fo wb q bi ci it (by omega) ho hq) (pick_perm rfl (pick_perm rfl (List.Perm.refl _))) ?_; rintro _ _ ⟨e, w', it', hT, hit, rfl, rfl⟩) | (refine actsQ_U (link_ w τ fo wb q bi ci it (f2 (by omega)) ho hq) (pick_perm rfl (pick_perm rfl (List.Perm.refl _))) ?_; rintro _ _ ⟨e, w', it', hT, hit, rfl, rfl⟩) | (refine actsQ_U (rem_ w τ fo wb q bi ci it (f1 (by omega)) ho hq) (pick_perm rfl (pick_perm rfl (List.Perm.refl _))) ?_; rintro _ _ ⟨e, w', it', hT, hit, rfl, rfl⟩) | (refine actsQ_U (ren_ w τ fo wb q bi ci it (f2 (by omega)) ho hq) (pick_perm rfl (pick_perm rfl (List.Perm.refl _))) ?_; rintro _ _ ⟨e, w', it', hT, hit, rfl, rfl⟩) | (refine actsQ_U (att_ w τ fo wb q bi ci it (f1 (by omega)) ho hq) (pick_perm rfl (pick_perm rfl (List.Perm.refl _))) ?_; rintro _ _ ⟨e, w', it', hT, hit, rfl, rfl⟩) | (refine actsQ_U (rea_ w τ fo wb q bi ci it (f1 (by omega)) ho hq) (pick_perm rfl (pick_perm rfl (List.Perm.refl _))) ?_; rintro _ _ ⟨e, w', it', hT, hit, rfl, rfl⟩) | (refine actsQ_U (pla_ w τ fo wb q bi ci it (f1 (by omega)) (fun h => f3 (.inl h)) ho hq) (pick_perm rfl (pick_perm rfl (List.Perm.refl _))) ?_; rintro _ _ ⟨e, w', it', hT, hit, rfl, rfl⟩) | (refine actsQ_U (oth_ w τ fo wb q bi ci it (fun h => f3 (.inr h)) ho hq) (pick_perm rfl (pick_perm rfl (List.Perm.refl _))) ?_; rintro _ _ ⟨e, w', it', hT, hit, rfl, rfl⟩) | (refine gd ?_) | fail)
  all_goals first
    | (exfalso; omega)
    | (refine opE w' it' ?_ hT hit; (repeat (first | exact List.Sublist.refl _ | exact List.sublist_append_left _ _ | apply List.Sublist.cons)); done)
    | trace_state
end Go.Proofs.YtkdblnejpmbnfaaGreat.F
namespace Go.Proofs.YtkdblnejpmbnfaaGreat.F
open Go Go.Lx
set_option linter.unusedSimpArgs false
set_option linter.unusedVariables false
set_option maxRecDepth 100000
set_option maxHeartbeats 16000000
def SyC (s : Spc) (t : Tb) : List LV := [.sl 2 s.fs.length (s.fs.flatMap DvC), .sl 3 s.ms.length (s.ms.flatMap MoC), .int .i64 t.nx, .int .i64 t.ns, .sl 14 t.ps.length (t.ps.flatMap PsC)]
theorem SyC_eq (s : Spc) (t : Tb) : SyC s t = [.sl 2 s.fs.length (s.fs.flatMap DvC), .sl 3 s.ms.length (s.ms.flatMap MoC), .int .i64 t.nx, .int .i64 t.ns, .sl 14 t.ps.length (t.ps.flatMap PsC)] := Eq.trans rfl rfl
theorem copyY (s : Spc) (t : Tb) (q : Nat) (hs : SI q s) (hv : VW t) (hq : q ≤ 900) : Pure Tryz.prog gl 62 [.agg (SyC s t)] (.agg (SyC s t)) := by
  refine fn_pureT Tryz.func62 t62 Tryz.ntmps62 (by simp) ?_
  have c1 := copyS s q hs hq
  have c2 := rcopyS t hv.ok
  unfold c62 r62
  rw [SpL_eq] at c1
  rw [TbL_eq] at c2
  rw [SyC_eq]
  repeat' (first | (simp (disch := first | exact dd | fail) only [go_sem]) | (refine allI (fun b => ?_)) | (refine allT (fun τ => ?_)) | (refine brP (fun h => ?_) (fun h => ?_) <;> (try simp only [zgx, zbx] at h)) | refine call_U (c1) ?_ | refine callG_U (fun _ => c1) ?_ | refine call_T (c1) ?_ | refine callG_T (fun _ => c1) ?_ | refine call_U (c2) ?_ | refine callG_U (fun _ => c2) ?_ | refine call_T (c2) ?_ | refine callG_T (fun _ => c2) ?_ | refine call_N (c1) ?_ | refine call_of (c1) ?_ | refine callG_of (fun _ => c1) ?_ | refine call_N (c2) ?_ | refine call_of (c2) ?_ | refine callG_of (fun _ => c2) ?_ | (refine gd ?_) | fail)
theorem run (s : Spc) (t : Tb) (pid : Int) (c : Ca) (q : Nat) (hs : SI q s) (hv : VW t) (hc : CaOk c) (hq : q ≤ 880) : PureE Tryz.prog gl 20 [.agg (SyC s t), .int .i64 pid, .agg (CaC c)] fun v => ∃ (s' : Spc) (t' : Tb), (SI (q + 2) s' ∧ VW t') ∧ v = .tup [.agg (SyC s' t'), .any] := by
  refine fn_viewT Tryz.func20 t20 Tryz.ntmps20 (by simp) ?_
  have c1 := rget t pid hv.ok
  have c2 := copyY s t q hs hv (by omega)
  have c3 := check c hc
  unfold c20 r20
  rw [SyC_eq] at c2 ⊢
  rw [CaC_eq] at c3 ⊢
  rw [TbL_eq] at c1
  generalize getR t pid = R at *
  obtain ⟨p, pb⟩ := R
  dsimp only at c1
  rw [PsC_eq] at c1
  repeat' (first | (simp (disch := first | exact dd | fail) only [go_sem]) | (refine allI (fun b => ?_)) | (refine allT (fun τ => ?_)) | (refine brP (fun h => ?_) (fun h => ?_) <;> (try simp only [zgx, zbx] at h)) | refine call_U (c1) ?_ | refine callG_U (fun _ => c1) ?_ | refine call_T (c1) ?_ | refine callG_T (fun _ => c1) ?_ | refine call_U (c2) ?_ | refine callG_U (fun _ => c2) ?_ | refine call_T (c2) ?_ | refine callG_T (fun _ => c2) ?_ | refine call_N (c1) ?_ | refine call_of (c1) ?_ | refine callG_of (fun _ => c1) ?_ | refine call_N (c2) ?_ | refine call_of (c2) ?_ | refine callG_of (fun _ => c2) ?_ | (refine pureE_U c3 ?_; rintro _ ⟨e, he, rfl⟩) | (refine pureE_T c3 ?_; rintro _ ⟨e, he, rfl⟩) | (refine pureE_of c3 ?_; rintro _ ⟨e, he, rfl⟩) | (refine gd ?_) | fail)
  all_goals first
    | (refine ⟨.tup [.agg (SyC s t), .any], [], leVH.of (leV.tup ⟨leV.refl _, leV.any _, trivial⟩) ⟨[], List.nil_sublist _, List.Perm.refl _⟩, rfl, s, t, ⟨hs.up (by omega), hv⟩, rfl⟩; done)
    | skip
  simp only [bne_eq_false_iff_eq] at h
  have hk := he h
  have c4 := before ⟨s, t, p, c, 0, 0, 0, []⟩ (.fsl 1 0 []) (.fsl 1 0 []) b hk hc
  refine actsQ_U (H0 := [(36, .blk b _)]) (LCalls.le ?_ c4) (pick_perm rfl (List.Perm.refl _)) ?_
  · exact ⟨⟨rfl, leV.refl _, leV.refl _, leV.refl _, leV.refl _, leV.refl _, leV.refl _, leV.refl _, leV.refl _, leV.refl _, leV.refl _, leV.refl _, leV.refl _, leV.refl _, leV.refl _, leV.refl _, leV.refl _, leV.refl _, leV.refl _, leV.refl _, leV.refl _, leV.refl _, leV.refl _, leV.refl _, leV.refl _, leV.refl _, leV.refl _, leV.refl _, leV.refl _, leV.refl _, leV.refl _, leV.refl _, leV.nil_sl _ _, trivial⟩, trivial⟩
  rintro _ _ ⟨⟨e1, rfl⟩, rfl⟩
  simp only [List.cons_append, List.nil_append]
  repeat' (first | (simp (disch := first | exact dd | fail) only [go_sem]) | (refine allI (fun b => ?_)) | (refine allT (fun τ => ?_)) | (refine brP (fun h => ?_) (fun h => ?_) <;> (try simp only [zgx, zbx] at h)) | (refine gd ?_) | fail)
  refine actsQ_U (looks ⟨s, t, p, c, 0, 0, 0, []⟩ b q e1 hs (by omega) hk hc) (pick_perm rfl (List.Perm.refl _)) ?_
  rintro _ _ ⟨e2, fo, it, τ, bi, ci, hlk, rfl, rfl⟩
  have hit := len_it it
  have hci := hlk.lc
  have hSp := length_Sp (it.flatMap ItC) ((ci - it.length) * 13)
  have hB := (rowN_ok c.n).2.1
  have hBp := hk.ps
  have hBi := hlk.li
  dsimp only at hBi
  simp only [List.cons_append, List.nil_append, WkO_eq, FoS_eq, ItM_eq, ItB]
  repeat' (first | (simp (disch := first | exact dd | fail) only [go_sem]) | (refine allI (fun b => ?_)) | (refine allT (fun τ => ?_)) | (refine brP (fun h => ?_) (fun h => ?_) <;> (try simp only [zgx, zbx] at h)) | (refine gd ?_) | fail)
  refine ⟨by simp only [roomy]; omega, fun τ2 => ?_⟩
  refine brP (fun h2 => ?_) (fun h2 => ?_)
  · simp (disch := first | exact dd | fail) only [go_sem]
    refine actsQ_U (act_ ⟨s, t, p, c, 0, 0, 0, []⟩ τ fo b q bi ci it ⟨hs, hv, hk, hc, hlk⟩ hq) (pick_perm rfl (pick_perm rfl (List.Perm.refl _))) ?_
    rintro _ _ ⟨e3, w', it', hT, hit', rfl, rfl⟩
    rw [WH_eq]
    simp only [List.cons_append, List.nil_append]
    simp (disch := first | exact dd | fail) only [go_sem]
    refine brP (fun h3 => ?_) (fun h3 => ?_)
    · simp (disch := first | exact dd | fail) only [go_sem]
      first | refine call_U (c2) ?_ | refine call_T (c2) ?_ | refine call_N (c2) ?_ | refine call_of (c2) ?_
      simp (disch := first | exact dd | fail) only [go_sem]
      exact ⟨.tup [.agg (SyC s t), .any], [], leVH.of (leV.tup ⟨leV.refl _, leV.any _, trivial⟩) ⟨[], List.nil_sublist _, List.Perm.refl _⟩, rfl, s, t, ⟨hs.up (by omega), hv⟩, rfl⟩
    · simp (disch := first | exact dd | fail) only [go_sem]
      exact ⟨.tup [.agg (SyC w'.s w'.t), .any], [], leVH.of (leV.tup ⟨leV.refl _, leV.any _, trivial⟩) ⟨[], List.nil_sublist _, List.Perm.refl _⟩, rfl, w'.s, w'.t, hT (by simpa using h3), rfl⟩
  · have h3 : (e2 != 0) = true := by simp only [bne, h2, Bool.not_false]
    simp (disch := first | exact dd | fail) only [go_sem, h3]
    first | refine call_U (c2) ?_ | refine call_T (c2) ?_ | refine call_N (c2) ?_ | refine call_of (c2) ?_
    simp (disch := first | exact dd | fail) only [go_sem]
    exact ⟨.tup [.agg (SyC s t), .any], [], leVH.of (leV.tup ⟨leV.refl _, leV.any _, trivial⟩) ⟨[], List.nil_sublist _, List.Perm.refl _⟩, rfl, s, t, ⟨hs.up (by omega), hv⟩, rfl⟩
end Go.Proofs.YtkdblnejpmbnfaaGreat.F
namespace Go.Proofs.YtkdblnejpmbnfaaGreat.F
open Go Go.Lx
set_option linter.unusedSimpArgs false
set_option linter.unusedVariables false
set_option maxRecDepth 100000
set_option maxHeartbeats 16000000
def dv1 : Dv := ⟨2, [⟨1, 2, 493, 0, 0, 1, [], []⟩]⟩
theorem DI1 : DI 16 0 dv1 := by
  have hg : ∀ x n, fnd dv1.ns x = some n → x = 1 := fun x n h => by
    simp only [fnd, dv1, List.find?_cons, List.find?_nil] at h
    split at h
    · rename_i h2
      have := of_decide_eq_true h2
      simpa using this.symm
    · simp at h
  refine ⟨⟨by decide, by decide⟩, by decide, fun n hn => ?_, fun x => ⟨0, .top x ?_⟩, fun n hn => ?_⟩
  · simp only [dv1, List.mem_singleton] at hn
    subst hn
    exact ⟨by simp, by decide, by decide, by simp⟩
  · by_cases h : x = 1
    · exact .inl h
    · exact .inr fun n hn => absurd (hg x n hn) h
  · simp only [dv1, List.mem_singleton] at hn
    subst hn
    simp
theorem newf (k : Nat) (hk : 1 ≤ k ∧ k ≤ 3) : PureE Tryz.prog gl 60 [.int .i64 k] fun v => ∃ fs : List Dv, FI 16 0 fs ∧ v = .tup [FiL fs, .int .i64 0] := by
  refine fn_viewT Tryz.func60 t60 Tryz.ntmps60 (by simp) ?_
  unfold c60 r60
  repeat' (first | (simp (disch := first | exact dd | fail) only [go_sem]) | (refine allI (fun b => ?_)) | (refine allT (fun τ => ?_)) | (refine brP (fun h => ?_) (fun h => ?_) <;> (try simp only [zgx, zbx] at h)) | (refine gd ?_) | fail)
  all_goals first
    | (exfalso; omega)
    | skip
  rename_i b2
  refine loopI (ι := Nat × Tok) (fun y => y.1 ≤ k) (fun y => [(5, .int .i64 y.1), (4, .ptr 4 b 0), (3, .int .i64 0), (2, .ptr 2 b2 0), (0, .int .i64 k)]) (fun y => [(24, .tok y.2), (4, .blk b [.osl 24 y.2 2 y.1 ((List.replicate y.1 dv1).flatMap DvC)]), (2, .blk b2 [.fsl 1 0 []])]) (fun y => k - y.1) (0, ⟨0, 0, 0⟩) (by simp) ?_ ?_
  · exact Ents.dum 24 (Ents.heap [(24, .tok ⟨0, 0, 0⟩), (4, .blk b [.fsl 1 0 []]), (2, .blk b2 [.fsl 1 0 []])] (by simp [go_sem]) ⟨_, List.Sublist.refl _, List.Perm.refl _⟩ ⟨rfl, ⟨rfl, leV.nil_osl _ _ _ _, trivial⟩, ⟨rfl, leV.refl _, trivial⟩, trivial⟩)
  · rintro ⟨i, τ⟩ hi
    dsimp only at hi ⊢
    have hle := len_dv (List.replicate i dv1)
    rw [List.length_replicate] at hle
    repeat' (first | (simp (disch := first | exact dd | fail) only [go_sem, zNo, zDv]) | (refine allI (fun b => ?_)) | (refine allT (fun τ => ?_)) | (refine brP (fun h => ?_) (fun h => ?_) <;> (try simp only [zgx, zbx] at h)) | (refine gd ?_) | fail)
    · refine ⟨by simp only [roomy]; omega, fun τ2 => ⟨⟨(i + 1, τ2), by dsimp only; omega⟩, by dsimp only; omega, Ents.heap _ (by simp [go_sem]) ⟨_, List.Sublist.refl _, List.Perm.refl _⟩ ⟨rfl, ⟨rfl, ?_, trivial⟩, ⟨rfl, leV.refl _, trivial⟩, trivial⟩⟩⟩
      dsimp only
      rw [List.replicate_succ', List.flatMap_append]
      refine leV.osl (leVs.app (leVs.refl _) ?_)
      rw [List.flatMap_cons, List.flatMap_nil, List.append_nil, DvC_eq]
      exact ⟨leV.refl _, (leV.fsl_sl _ _ _).trans (leV.sl ⟨leV.refl _, leV.refl _, leV.refl _, leV.refl _, leV.refl _, leV.refl _, leV.refl _, leV.nil_sl _ _, trivial⟩), trivial⟩
    · have : i = k := by omega
      subst this
      refine pureE_end (r := .tup [FiL (List.replicate i dv1), .int .i64 0]) ?_ ⟨List.replicate i dv1, ⟨by rw [List.length_replicate]; exact hk, fun d hd => ?_⟩, rfl⟩
      · rw [FiL_eq, List.length_replicate]
        exact leV.tup ⟨leV.agg ⟨leV.osl_sl _ _ _ _ _, trivial⟩, leV.refl _, trivial⟩
      · rw [(List.mem_replicate.1 hd).2]
        exact DI1
theorem newy (k : Nat) (hk : 1 ≤ k ∧ k ≤ 3) : PureE Tryz.prog gl 18 [.int .i64 k] fun v => ∃ (s : Spc) (t : Tb), (SI 0 s ∧ VW t) ∧ v = .tup [.agg (SyC s t), .int .i64 0] := by
  refine fn_viewT Tryz.func18 t18 Tryz.ntmps18 (by simp) ?_
  have c1 := newf k hk
  have c2 := rnew 0 1
  unfold c18 r18
  rw [TbL_eq] at c2
  repeat' (first | (simp (disch := first | exact dd | fail) only [go_sem]) | (refine allI (fun b => ?_)) | (refine allT (fun τ => ?_)) | (refine brP (fun h => ?_) (fun h => ?_) <;> (try simp only [zgx, zbx] at h)) | refine call_U (c2) ?_ | refine callG_U (fun _ => c2) ?_ | refine call_T (c2) ?_ | refine callG_T (fun _ => c2) ?_ | refine call_N (c2) ?_ | refine call_of (c2) ?_ | refine callG_of (fun _ => c2) ?_ | (refine pureE_U c1 ?_; rintro _ ⟨fs, hf, rfl⟩; rw [FiL_eq]) | (refine pureE_T c1 ?_; rintro _ ⟨fs, hf, rfl⟩; rw [FiL_eq]) | (refine pureE_of c1 ?_; rintro _ ⟨fs, hf, rfl⟩; rw [FiL_eq]) | (refine gd ?_) | fail)
  all_goals first
    | (exfalso; omega)
    | (refine pureE_end (r := .tup [.agg (SyC ⟨fs, []⟩ (tnew 0 1)), .int .i64 0]) (leV.tup ⟨leV.agg ⟨leV.refl _, leV.nil_sl _ _, leV.refl _, leV.refl _, leV.refl _, trivial⟩, leV.refl _, trivial⟩) ⟨⟨fs, []⟩, tnew 0 1, ⟨⟨hf, by simp, fun _ => 0, fun _ => Nat.le_refl _, by simp⟩, VW_new 0 1⟩, rfl⟩; done)
    | trace_state
end Go.Proofs.YtkdblnejpmbnfaaGreat.F
namespace Go.Proofs.YtkdblnejpmbnfaaGreat.F
open Go Go.Lx
set_option linter.unusedSimpArgs false
set_option linter.unusedVariables false
set_option maxRecDepth 100000
set_option maxHeartbeats 16000000
theorem system : Gen 7 [] 8000 fun r => ∃ (s : Spc) (t : Tb), (SI 40 s ∧ VW t) ∧ r = .agg (SyC s t) := by
  refine Gen.mk fun sb l a hl ha => ?_
  refine fn_viewT Tryz.func7 t7 Tryz.ntmps7 (by simp) ?_
  have hq := hl.2.2
  unfold c7 r7
  repeat' (first | (simp (disch := first | exact dd | fail) only [go_sem]) | (refine allI (fun b => ?_)) | (refine allT (fun τ => ?_)) | (refine brP (fun h => ?_) (fun h => ?_) <;> (try simp only [zgx, zbx] at h)) | (refine actsE_U (gn _ (by omega) 1000 _ _ _ (hl.at (by omega) (by omega)) (by omega)) rfl ?_; rintro _ _ ⟨_, _, ⟨_, _, rfl⟩, rfl⟩) | (refine actsE_T (gn _ (by omega) 1000 _ _ _ (hl.at (by omega) (by omega)) (by omega)) rfl ?_; rintro _ _ ⟨_, _, ⟨_, _, rfl⟩, rfl⟩) | (refine actsE_of (gn _ (by omega) 1000 _ _ _ (hl.at (by omega) (by omega)) (by omega)) rfl ?_; rintro _ _ ⟨_, _, ⟨_, _, rfl⟩, rfl⟩) | (refine actsE_U (gr _ _ (by omega) 1000 _ _ _ (hl.at (by omega) (by omega)) (by omega)) rfl ?_; rintro _ _ ⟨_, _, ⟨_, _, rfl⟩, rfl⟩) | (refine actsE_T (gr _ _ (by omega) 1000 _ _ _ (hl.at (by omega) (by omega)) (by omega)) rfl ?_; rintro _ _ ⟨_, _, ⟨_, _, rfl⟩, rfl⟩) | (refine actsE_of (gr _ _ (by omega) 1000 _ _ _ (hl.at (by omega) (by omega)) (by omega)) rfl ?_; rintro _ _ ⟨_, _, ⟨_, _, rfl⟩, rfl⟩) | (refine actsE_U (gp _ _ (by decide) (by rfl) (by rfl) 1000 _ _ _ (hl.at (by omega) (by omega)) (by omega)) rfl ?_; rintro _ _ ⟨_, _, ⟨_, _, rfl⟩, rfl⟩) | (refine actsE_T (gp _ _ (by decide) (by rfl) (by rfl) 1000 _ _ _ (hl.at (by omega) (by omega)) (by omega)) rfl ?_; rintro _ _ ⟨_, _, ⟨_, _, rfl⟩, rfl⟩) | (refine actsE_of (gp _ _ (by decide) (by rfl) (by rfl) 1000 _ _ _ (hl.at (by omega) (by omega)) (by omega)) rfl ?_; rintro _ _ ⟨_, _, ⟨_, _, rfl⟩, rfl⟩) | (refine actsE_U (gw 40 _ _ (by decide) (by rfl) (by rfl) 1000 _ _ _ (hl.at (by omega) (by omega)) (by omega)) rfl ?_; rintro _ _ ⟨_, _, ⟨_, _, rfl⟩, rfl⟩) | (refine actsE_T (gw 40 _ _ (by decide) (by rfl) (by rfl) 1000 _ _ _ (hl.at (by omega) (by omega)) (by omega)) rfl ?_; rintro _ _ ⟨_, _, ⟨_, _, rfl⟩, rfl⟩) | (refine actsE_of (gw 40 _ _ (by decide) (by rfl) (by rfl) 1000 _ _ _ (hl.at (by omega) (by omega)) (by omega)) rfl ?_; rintro _ _ ⟨_, _, ⟨_, _, rfl⟩, rfl⟩) | (apply And.intro; focus omega) | (refine callG_LU (fun hg => ?_) (fun hg => ?_) <;> (try simp only [hg])))
  rename_i a1 ha1 v hv
  obtain ⟨k, rfl⟩ : ∃ k : Nat, v = k := ⟨v.toNat, by omega⟩
  refine pureE_U (newy k (by omega)) ?_
  rintro _ ⟨s0, t0, ⟨hs0, hv0⟩, rfl⟩
  rw [SyC_eq]
  repeat' (first | (simp (disch := first | exact dd | fail) only [go_sem]) | (refine allI (fun b => ?_)) | (refine allT (fun τ => ?_)) | (refine brP (fun h => ?_) (fun h => ?_) <;> (try simp only [zgx, zbx] at h)) | (refine actsE_U (gn _ (by omega) 1000 _ _ _ (hl.at (by omega) (by omega)) (by omega)) rfl ?_; rintro _ _ ⟨_, _, ⟨_, _, rfl⟩, rfl⟩) | (refine actsE_T (gn _ (by omega) 1000 _ _ _ (hl.at (by omega) (by omega)) (by omega)) rfl ?_; rintro _ _ ⟨_, _, ⟨_, _, rfl⟩, rfl⟩) | (refine actsE_of (gn _ (by omega) 1000 _ _ _ (hl.at (by omega) (by omega)) (by omega)) rfl ?_; rintro _ _ ⟨_, _, ⟨_, _, rfl⟩, rfl⟩) | (refine actsE_U (gr _ _ (by omega) 1000 _ _ _ (hl.at (by omega) (by omega)) (by omega)) rfl ?_; rintro _ _ ⟨_, _, ⟨_, _, rfl⟩, rfl⟩) | (refine actsE_T (gr _ _ (by omega) 1000 _ _ _ (hl.at (by omega) (by omega)) (by omega)) rfl ?_; rintro _ _ ⟨_, _, ⟨_, _, rfl⟩, rfl⟩) | (refine actsE_of (gr _ _ (by omega) 1000 _ _ _ (hl.at (by omega) (by omega)) (by omega)) rfl ?_; rintro _ _ ⟨_, _, ⟨_, _, rfl⟩, rfl⟩) | (refine actsE_U (gp _ _ (by decide) (by rfl) (by rfl) 1000 _ _ _ (hl.at (by omega) (by omega)) (by omega)) rfl ?_; rintro _ _ ⟨_, _, ⟨_, _, rfl⟩, rfl⟩) | (refine actsE_T (gp _ _ (by decide) (by rfl) (by rfl) 1000 _ _ _ (hl.at (by omega) (by omega)) (by omega)) rfl ?_; rintro _ _ ⟨_, _, ⟨_, _, rfl⟩, rfl⟩) | (refine actsE_of (gp _ _ (by decide) (by rfl) (by rfl) 1000 _ _ _ (hl.at (by omega) (by omega)) (by omega)) rfl ?_; rintro _ _ ⟨_, _, ⟨_, _, rfl⟩, rfl⟩) | (refine actsE_U (gw 40 _ _ (by decide) (by rfl) (by rfl) 1000 _ _ _ (hl.at (by omega) (by omega)) (by omega)) rfl ?_; rintro _ _ ⟨_, _, ⟨_, _, rfl⟩, rfl⟩) | (refine actsE_T (gw 40 _ _ (by decide) (by rfl) (by rfl) 1000 _ _ _ (hl.at (by omega) (by omega)) (by omega)) rfl ?_; rintro _ _ ⟨_, _, ⟨_, _, rfl⟩, rfl⟩) | (refine actsE_of (gw 40 _ _ (by decide) (by rfl) (by rfl) 1000 _ _ _ (hl.at (by omega) (by omega)) (by omega)) rfl ?_; rintro _ _ ⟨_, _, ⟨_, _, rfl⟩, rfl⟩) | (apply And.intro; focus omega) | (refine callG_LU (fun hg => ?_) (fun hg => ?_) <;> (try simp only [hg])))
  rename_i a2 ha2 n hn
  refine loopI (ι := Int × Int × Spc × Tb) (fun y => (0 ≤ y.1 ∧ y.1 ≤ n) ∧ (a2 ≤ y.2.1 ∧ y.2.1 ≤ a2 + 510 * (n - y.1)) ∧ SI (2 * (n - y.1)).toNat y.2.2.1 ∧ VW y.2.2.2) (fun y => [(5, .int .i64 y.1), (3, .ptr 3 _ 0), (2, .ptr 2 _ 0), (0, .ptr 1000 sb 0)]) (fun y => [(3, .blk _ (SyC y.2.2.1 y.2.2.2)), (2, .blk _ [.fsl 1 0 [], .fsl 1 0 [], .int .i64 0, .int .i64 0, .fsl 1 0 []]), (1000, SB sb l y.2.1)]) (fun y => y.1.toNat) (n, a2, s0, t0) ⟨by dsimp only; omega, by dsimp only; omega, hs0.up (by omega), hv0⟩ Ents.same ?_
  rintro ⟨i, a3, s, t⟩ ⟨h1, h2, h3, h4⟩
  dsimp only at h1 h2 h3 h4 ⊢
  have cp := gpid t (by have := h4.len; omega) h4.len.1
  have cr := fun pid c hc => run s t pid c _ h3 h4 hc (by omega)
  rw [TbL_eq t] at cp
  rw [SyC_eq] at cr ⊢
  repeat' (first | (simp (disch := first | exact dd | fail) only [go_sem]) | (refine allI (fun b => ?_)) | (refine allT (fun τ => ?_)) | (refine brP (fun h => ?_) (fun h => ?_) <;> (try simp only [zgx, zbx] at h)) | (refine actsE_U (gn _ (by omega) 1000 _ _ _ (hl.at (by omega) (by omega)) (by omega)) rfl ?_; rintro _ _ ⟨_, _, ⟨_, _, rfl⟩, rfl⟩) | (refine actsE_T (gn _ (by omega) 1000 _ _ _ (hl.at (by omega) (by omega)) (by omega)) rfl ?_; rintro _ _ ⟨_, _, ⟨_, _, rfl⟩, rfl⟩) | (refine actsE_of (gn _ (by omega) 1000 _ _ _ (hl.at (by omega) (by omega)) (by omega)) rfl ?_; rintro _ _ ⟨_, _, ⟨_, _, rfl⟩, rfl⟩) | (refine actsE_U (gr _ _ (by omega) 1000 _ _ _ (hl.at (by omega) (by omega)) (by omega)) rfl ?_; rintro _ _ ⟨_, _, ⟨_, _, rfl⟩, rfl⟩) | (refine actsE_T (gr _ _ (by omega) 1000 _ _ _ (hl.at (by omega) (by omega)) (by omega)) rfl ?_; rintro _ _ ⟨_, _, ⟨_, _, rfl⟩, rfl⟩) | (refine actsE_of (gr _ _ (by omega) 1000 _ _ _ (hl.at (by omega) (by omega)) (by omega)) rfl ?_; rintro _ _ ⟨_, _, ⟨_, _, rfl⟩, rfl⟩) | (refine actsE_U (gp _ _ (by decide) (by rfl) (by rfl) 1000 _ _ _ (hl.at (by omega) (by omega)) (by omega)) rfl ?_; rintro _ _ ⟨_, _, ⟨_, _, rfl⟩, rfl⟩) | (refine actsE_T (gp _ _ (by decide) (by rfl) (by rfl) 1000 _ _ _ (hl.at (by omega) (by omega)) (by omega)) rfl ?_; rintro _ _ ⟨_, _, ⟨_, _, rfl⟩, rfl⟩) | (refine actsE_of (gp _ _ (by decide) (by rfl) (by rfl) 1000 _ _ _ (hl.at (by omega) (by omega)) (by omega)) rfl ?_; rintro _ _ ⟨_, _, ⟨_, _, rfl⟩, rfl⟩) | (refine actsE_U (gw 40 _ _ (by decide) (by rfl) (by rfl) 1000 _ _ _ (hl.at (by omega) (by omega)) (by omega)) rfl ?_; rintro _ _ ⟨_, _, ⟨_, _, rfl⟩, rfl⟩) | (refine actsE_T (gw 40 _ _ (by decide) (by rfl) (by rfl) 1000 _ _ _ (hl.at (by omega) (by omega)) (by omega)) rfl ?_; rintro _ _ ⟨_, _, ⟨_, _, rfl⟩, rfl⟩) | (refine actsE_of (gw 40 _ _ (by decide) (by rfl) (by rfl) 1000 _ _ _ (hl.at (by omega) (by omega)) (by omega)) rfl ?_; rintro _ _ ⟨_, _, ⟨_, _, rfl⟩, rfl⟩) | (refine actsE_U (cp 1000 _ _ _ (hl.at (by omega) (by omega)) (by omega)) rfl ?_; rintro _ _ ⟨_, _, ⟨_, _, rfl⟩, rfl⟩) | (refine actsE_T (cp 1000 _ _ _ (hl.at (by omega) (by omega)) (by omega)) rfl ?_; rintro _ _ ⟨_, _, ⟨_, _, rfl⟩, rfl⟩) | (refine actsE_of (cp 1000 _ _ _ (hl.at (by omega) (by omega)) (by omega)) rfl ?_; rintro _ _ ⟨_, _, ⟨_, _, rfl⟩, rfl⟩) | (refine actsE_U (call 1000 _ _ _ (hl.at (by omega) (by omega)) (by omega)) rfl ?_; rintro _ _ ⟨_, _, ⟨_, _, rfl⟩, rfl⟩) | (refine actsE_T (call 1000 _ _ _ (hl.at (by omega) (by omega)) (by omega)) rfl ?_; rintro _ _ ⟨_, _, ⟨_, _, rfl⟩, rfl⟩) | (refine actsE_of (call 1000 _ _ _ (hl.at (by omega) (by omega)) (by omega)) rfl ?_; rintro _ _ ⟨_, _, ⟨_, _, rfl⟩, rfl⟩) | (apply And.intro; focus omega) | (refine callG_LU (fun hg => ?_) (fun hg => ?_) <;> (try simp only [hg])))
  · rename_i a5 ha5 c5 hc5
    refine pureE_of (cr _ c5 hc5) ?_
    rintro _ ⟨s', t', ⟨hs', hv'⟩, rfl⟩
    rw [SyC_eq]
    repeat' (first | (simp (disch := first | exact dd | fail) only [go_sem]) | (refine allI (fun b => ?_)) | (refine allT (fun τ => ?_)) | (refine brP (fun h => ?_) (fun h => ?_) <;> (try simp only [zgx, zbx] at h)) | (refine actsE_U (gn _ (by omega) 1000 _ _ _ (hl.at (by omega) (by omega)) (by omega)) rfl ?_; rintro _ _ ⟨_, _, ⟨_, _, rfl⟩, rfl⟩) | (refine actsE_T (gn _ (by omega) 1000 _ _ _ (hl.at (by omega) (by omega)) (by omega)) rfl ?_; rintro _ _ ⟨_, _, ⟨_, _, rfl⟩, rfl⟩) | (refine actsE_of (gn _ (by omega) 1000 _ _ _ (hl.at (by omega) (by omega)) (by omega)) rfl ?_; rintro _ _ ⟨_, _, ⟨_, _, rfl⟩, rfl⟩) | (refine actsE_U (gr _ _ (by omega) 1000 _ _ _ (hl.at (by omega) (by omega)) (by omega)) rfl ?_; rintro _ _ ⟨_, _, ⟨_, _, rfl⟩, rfl⟩) | (refine actsE_T (gr _ _ (by omega) 1000 _ _ _ (hl.at (by omega) (by omega)) (by omega)) rfl ?_; rintro _ _ ⟨_, _, ⟨_, _, rfl⟩, rfl⟩) | (refine actsE_of (gr _ _ (by omega) 1000 _ _ _ (hl.at (by omega) (by omega)) (by omega)) rfl ?_; rintro _ _ ⟨_, _, ⟨_, _, rfl⟩, rfl⟩) | (refine actsE_U (gp _ _ (by decide) (by rfl) (by rfl) 1000 _ _ _ (hl.at (by omega) (by omega)) (by omega)) rfl ?_; rintro _ _ ⟨_, _, ⟨_, _, rfl⟩, rfl⟩) | (refine actsE_T (gp _ _ (by decide) (by rfl) (by rfl) 1000 _ _ _ (hl.at (by omega) (by omega)) (by omega)) rfl ?_; rintro _ _ ⟨_, _, ⟨_, _, rfl⟩, rfl⟩) | (refine actsE_of (gp _ _ (by decide) (by rfl) (by rfl) 1000 _ _ _ (hl.at (by omega) (by omega)) (by omega)) rfl ?_; rintro _ _ ⟨_, _, ⟨_, _, rfl⟩, rfl⟩) | (refine actsE_U (gw 40 _ _ (by decide) (by rfl) (by rfl) 1000 _ _ _ (hl.at (by omega) (by omega)) (by omega)) rfl ?_; rintro _ _ ⟨_, _, ⟨_, _, rfl⟩, rfl⟩) | (refine actsE_T (gw 40 _ _ (by decide) (by rfl) (by rfl) 1000 _ _ _ (hl.at (by omega) (by omega)) (by omega)) rfl ?_; rintro _ _ ⟨_, _, ⟨_, _, rfl⟩, rfl⟩) | (refine actsE_of (gw 40 _ _ (by decide) (by rfl) (by rfl) 1000 _ _ _ (hl.at (by omega) (by omega)) (by omega)) rfl ?_; rintro _ _ ⟨_, _, ⟨_, _, rfl⟩, rfl⟩) | (apply And.intro; focus omega) | (refine callG_LU (fun hg => ?_) (fun hg => ?_) <;> (try simp only [hg])))
    exact ⟨⟨(i - 1, a5, s', t'), by dsimp only; omega, by dsimp only; omega, hs'.up (by omega), hv'⟩, by dsimp only; omega, Ents.envH (by simp [go_sem]) rfl⟩
  · (apply gend (leV.refl _); (focus (repeat (first | exact List.Sublist.refl _ | apply List.Sublist.cons))); (focus omega); exact ⟨s, t, ⟨h3.up (by omega), h4⟩, rfl⟩)
end Go.Proofs.YtkdblnejpmbnfaaGreat.F
namespace Go.Proofs.YtkdblnejpmbnfaaGreat
open Go Go.Lx
set_option linter.unusedSimpArgs false
set_option linter.unusedVariables false
set_option maxRecDepth 100000
set_option maxHeartbeats 4000000
def ta : Tb := tnew 0 1
def tb : Tb := (fkR ta 1).2
def tc : Tb := (suR tb 2 5).2
theorem fk_ta : fkR ta 1 = (0, tb) := by rfl
theorem su_tb : suR tb 2 5 = (0, tc) := by rfl
theorem su_tc : suR tc 2 0 = (1, tb0) := by rfl
theorem get_tc : (getR tc 2).2 = true ∧ (getR tc 2).1.uid = 5 ∧ (getR tc 2).1.ppid = 1 := by refine ⟨rfl, rfl, rfl⟩
theorem ok_ta : okT ta := by
  refine ⟨by decide, fun p hp => ?_⟩
  simp only [ta, tnew, List.mem_singleton] at hp
  subst hp
  simp [p1]
theorem ok_tb : okT tb := by
  refine ⟨by decide, fun p hp => ?_⟩
  have : tb.ps = [p1 0 1, { p1 0 1 with pid := 2, ppid := 1 }] := rfl
  rw [this] at hp
  simp only [List.mem_cons, List.not_mem_nil, or_false] at hp
  rcases hp with rfl | rfl <;> simp [p1]
theorem ok_tc : okT tc := by
  refine ⟨by decide, fun p hp => ?_⟩
  have : tc.ps = [p1 0 1, { p1 0 1 with pid := 2, ppid := 1, uid := 5, euid := 5 }] := rfl
  rw [this] at hp
  simp only [List.mem_cons, List.not_mem_nil, or_false] at hp
  rcases hp with rfl | rfl <;> simp [p1]
theorem awake : Pure Tryz.prog gl 10 [] (.bool true) := by
  refine fn_pureT Tryz.func10 t10 Tryz.ntmps10 (by simp) ?_
  have h1 : Pure Tryz.prog gl 26 [.agg [.int .i64 0, .int .i64 1]] (TbL ta) := new9 0 1
  have h2 := fk ta 1 ok_ta (by decide)
  have h3 := su tb 2 5 ok_tb
  have h4 := su tc 2 0 ok_tc
  have h5 := get_ tc 2 ok_tc
  have n1 : ta.nx = 2 := rfl
  rw [fk_ta, n1] at h2
  rw [su_tb] at h3
  rw [su_tc] at h4
  obtain ⟨g1, g2, g3⟩ := get_tc
  rw [g1, PsC_eq, g2, g3] at h5
  simp only [if_true] at h2
  rw [TbL_eq, TbL_eq] at h2 h3
  rw [TbL_eq] at h1 h5
  rw [TbL_eq, TbL_eq] at h4
  generalize (getR tc 2).1 = q at *
  unfold c10 r10
  repeat' (first | (simp (disch := first | exact dd | fail) only [go_sem]) | (refine allI (fun b => ?_)) | (refine allT (fun τ => ?_)) | (refine brP (fun h => ?_) (fun h => ?_) <;> (try simp only [zgx, zbx] at h)) | refine call_U (h1) ?_ | refine callG_U (fun _ => h1) ?_ | refine call_T (h1) ?_ | refine callG_T (fun _ => h1) ?_ | refine call_U (h2) ?_ | refine callG_U (fun _ => h2) ?_ | refine call_T (h2) ?_ | refine callG_T (fun _ => h2) ?_ | refine call_U (h3) ?_ | refine callG_U (fun _ => h3) ?_ | refine call_T (h3) ?_ | refine callG_T (fun _ => h3) ?_ | refine call_U (h4) ?_ | refine callG_U (fun _ => h4) ?_ | refine call_T (h4) ?_ | refine callG_T (fun _ => h4) ?_ | refine call_U (h5) ?_ | refine callG_U (fun _ => h5) ?_ | refine call_T (h5) ?_ | refine callG_T (fun _ => h5) ?_ | refine call_N (h1) ?_ | refine call_of (h1) ?_ | refine callG_of (fun _ => h1) ?_ | refine call_N (h2) ?_ | refine call_of (h2) ?_ | refine callG_of (fun _ => h2) ?_ | refine call_N (h3) ?_ | refine call_of (h3) ?_ | refine callG_of (fun _ => h3) ?_ | refine call_N (h4) ?_ | refine call_of (h4) ?_ | refine callG_of (fun _ => h4) ?_ | refine call_N (h5) ?_ | refine call_of (h5) ?_ | refine callG_of (fun _ => h5) ?_ | (refine gd ?_) | fail)
end Go.Proofs.YtkdblnejpmbnfaaGreat
namespace Go.Proofs.YtkdblnejpmbnfaaGreat
open Go Go.Lx
set_option linter.unusedSimpArgs false
set_option linter.unusedVariables false
set_option maxRecDepth 100000
set_option maxHeartbeats 8000000
theorem VW.sz {t : Tb} (h : VW t) : SzT 16 8 t := ⟨h.len.2, fun p hp => by obtain ⟨j, hj, rfl⟩ := mem_pAt hp; exact (h.all j hj).op.len⟩
end Go.Proofs.YtkdblnejpmbnfaaGreat
