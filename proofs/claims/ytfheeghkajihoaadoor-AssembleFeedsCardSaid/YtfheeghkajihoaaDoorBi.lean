/- Layer 22: the copy of an assembler (the program). -/
import Derived.Test.YtfheeghkajihoaaDoorBh
namespace Go.Proofs.YtfheeghkajihoaaDoor
open Go Go.Lx
set_option linter.unusedSimpArgs false
set_option linter.unusedVariables false
set_option maxRecDepth 100000
set_option maxHeartbeats 4000000

/-- a block that is owned gets immutable, but for its spare cells; a cell of another block is seen so -/
theorem inv_seal {w0 : World} {M : Imm} {H : Heap} {w : World} {i i' j b bR n cap : Nat} {cs ds P Q : List LV} (hI : Lx.Inv gl w0 M ((i, .blk bR (cs ++ ds)) :: (j, .blk b (P ++ .msl i' 4 bR 0 n cap :: Q)) :: H) w) (h1 : cs.length = n * 4) (h2 : n ≤ cap) (h3 : ds.length = (cap - n) * 4) :
    ∃ M', MLe M M' ∧ Lx.Inv gl w0 M' ((61, .tok ⟨bR, n * 4, cap * 4⟩) :: (j, .blk b (P ++ .osl 61 ⟨bR, n * 4, cap * 4⟩ 4 n cs :: Q)) :: H) w := by
  obtain ⟨M', hM, hI2, hc⟩ := hI.split_own (id' := 61)
  rw [h1, h3, show n * 4 + (cap - n) * 4 = cap * 4 by omega] at hI2
  refine ⟨M', hM, ?_⟩
  refine Lx.Inv.perm (Lx.Inv.weaken (id' := j) (hI2.perm (List.Perm.swap _ _ _)) fun k c' hk => ?_) (List.Perm.swap _ _ _)
  by_cases hkP : k < P.length
  · rw [List.getElem?_append_left hkP] at hk
    exact ⟨c', by rw [List.getElem?_append_left hkP]; exact hk, fun v hv => hv⟩
  · rw [List.getElem?_append_right (by omega)] at hk
    obtain ⟨d, hd⟩ : ∃ d, k - P.length = d := ⟨_, rfl⟩
    rw [hd] at hk
    cases d with
    | zero =>
      refine ⟨.msl i' 4 bR 0 n cap, by rw [List.getElem?_append_right (by omega), hd]; rfl, fun v hv => ?_⟩
      simp only [List.getElem?_cons_zero, Option.some.injEq] at hk
      subst hk
      simp only [RV] at hv ⊢
      refine ⟨h1, ?_⟩
      rcases hv with rfl | ⟨_, h5, a, rfl⟩
      · exact .inl ⟨bR, 0, cap, rfl, h2, hc, .inr ⟨rfl, by simp, by simp⟩⟩
      · subst h5
        exact .inr ⟨a, rfl, rfl⟩
    | succ d =>
      exact ⟨c', by rw [List.getElem?_append_right (by omega), hd]; exact hk, fun v hv => hv⟩
theorem ents_seal {env env' : Env} {H H0 H' : Heap} {i i' j b bR n cap : Nat} {cs ds P Q : List LV} (h1 : cs.length = n * 4) (h2 : n ≤ cap) (h3 : ds.length = (cap - n) * 4) (hp : H0.Perm ((i, .blk bR (cs ++ ds)) :: (j, .blk b (P ++ .msl i' 4 bR 0 n cap :: Q)) :: H)) (h : Ents gl env ((61, .tok ⟨bR, n * 4, cap * 4⟩) :: (j, .blk b (P ++ .osl 61 ⟨bR, n * 4, cap * 4⟩ 4 n cs :: Q)) :: H) env' H') : Ents gl env H0 env' H' := fun vv m w0 M HF w a hI hF => by
  obtain ⟨M', hM, hI'⟩ := inv_seal (hI.perm (hp.append_right HF)) h1 h2 h3
  obtain ⟨M2, hM2, hF2, hI2⟩ := h vv m w0 M' HF w a hI' (hF.mono hM)
  exact ⟨M2, hM.trans hM2, hF2, hI2⟩
/-- the events of which the first are copied -/
def mix (l : List Ev) (τs : List Tok) : List LV := (l.take τs.length |>.zip τs).flatMap EwC ++ (l.drop τs.length).flatMap EvC
theorem mix_nil (l : List Ev) : mix l [] = l.flatMap EvC := by simp [mix]
theorem mix_all (l : List Ev) (τs : List Tok) (h : τs.length = l.length) : mix l τs = (l.zip τs).flatMap EwC := by
  rw [mix, h, List.take_length, List.drop_length, List.flatMap_nil, List.append_nil]
theorem mix_at (l : List Ev) (τs : List Tok) (h : τs.length < l.length) : ∃ P R : List LV, P.length = τs.length * 5 ∧ mix l τs = P ++ (EvC (l.getD τs.length ev0) ++ R) ∧ ∀ τ, mix l (τs ++ [τ]) = P ++ (EwC (l.getD τs.length ev0, τ) ++ R) := by
  refine ⟨(l.take τs.length |>.zip τs).flatMap EwC, (l.drop (τs.length + 1)).flatMap EvC, ?_, ?_, fun τ => ?_⟩
  · rw [len_ew, List.length_zip, List.length_take]
    omega
  · rw [mix, List.drop_eq_getElem_cons h, List.flatMap_cons]
    simp [List.getD, h]
  · rw [mix, List.length_append, List.length_singleton, take_succ_getD ev0 l h, List.zip_append (by rw [List.length_take]; omega), List.flatMap_append]
    simp
theorem len_mix (l : List Ev) (τs : List Tok) (h : τs.length ≤ l.length) : (mix l τs).length = l.length * 5 := by
  rw [mix, List.length_append, len_ew, len_ev, List.length_zip, List.length_take, List.length_drop]
  omega
def tks (τs : List Tok) : Heap := τs.map fun τ => (61, .tok τ)
/-- what is within a computer's reach -/
def okAs (a : As) : Prop := (a.op.length ≤ 1073741900 ∧ a.ls.length ≤ 1073741900 ∧ a.gs.length ≤ 1073741900) ∧ ∀ e ∈ a.op, e.rs.length ≤ 1073741900 ∧ ∀ r ∈ e.rs, r.ps.length ≤ 1073741900
theorem rc_at (l : List Rc) (m : Nat) {i : Nat} (h : i < l.length) : ((Sp (l.flatMap RcC) m).drop (i * 4)).take 4 = RcC (l.getD i rc0) := by
  have hl := len_rc l
  rw [← take_rows (f := RcC) (w := 4) (fun _ => rfl) rc0 l h, Sp, List.drop_append_of_le_length (by omega), List.take_append_of_le_length (by rw [List.length_drop]; omega)]
theorem rc_set (l : List Rc) (i m : Nat) (h : i < l.length) : List.take (i * 4) (Sp (l.flatMap RcC) m) ++ RcC (l.getD i rc0) ++ List.drop (i * 4 + 4) (Sp (l.flatMap RcC) m) = Sp (l.flatMap RcC) m := by
  have hl := len_rc l
  have h1 := rc_at l m h
  generalize Sp (l.flatMap RcC) m = S at *
  rw [← h1, List.append_assoc, ← List.drop_drop, List.take_append_drop, List.take_append_drop]
theorem clone (a : As) (ha : okAs a) : LCalls Tryd.prog gl 32 [.agg (AsC a)] [] fun r H => ∃ (τs : List Tok) (bO cO bL cL bG cG : Nat), τs.length = a.op.length ∧ (a.op.length ≤ cO ∧ a.ls.length ≤ cL ∧ a.gs.length ≤ cG) ∧ r = .agg [.int .i64 a.bo, .int .i64 a.nx, .int .i64 a.st, .msl 60 5 bO 0 a.op.length cO, .msl 62 5 bL 0 a.ls.length cL, .msl 63 2 bG 0 a.gs.length cG, .int .i64 a.la] ∧ H = (60, .blk bO (Sp ((a.op.zip τs).flatMap EwC) ((cO - a.op.length) * 5))) :: (62, .blk bL (Sp (a.ls.flatMap LsC) ((cL - a.ls.length) * 5))) :: (63, .blk bG (Sp (a.gs.flatMap GpC) ((cG - a.gs.length) * 2))) :: tks τs := by
  refine fn_viewT Tryd.func32 t32 Tryd.ntmps32 (by simp) ?_
  obtain ⟨⟨hO, hL, hG⟩, hE⟩ := ha
  have cO := clnO a.op.length _ (len_ev a.op) hO
  have cL := clnL a.ls.length _ (len_ls a.ls) hL
  have cG := clnG a.gs.length _ (len_gp a.gs) hG
  unfold c32 r32
  rw [AsC_eq]
  repeat' (first | (simp (disch := first | omega | (simp only [List.length_cons, List.length_nil]; first | done | omega)) only [go_sem]) | (refine allI (fun b => ?_)) | (refine allT (fun τ => ?_)) | (refine brP (fun h => ?_) (fun h => ?_) <;> (try simp only [zgx, zbx] at h)) | (apply And.intro; focus (first | omega | (simp; done) | (simp +contextual; done) | (intros; and_intros <;> first | assumption | omega) | (intros; simp_all; done) | (intro hgd; refine ⟨hgd, ?_⟩; simp [hgd]; done) | (intro hgd; simp only [zgx] at hgd ⊢; omega))) | fail)
  first | refine newsE_U (cO) ?_ | refine newsE_T (cO) ?_ | refine newsE_of (cO) ?_
  rintro _ _ ⟨bO, cpO, hcO, rfl, rfl⟩
  repeat' (first | (simp (disch := first | omega | (simp only [List.length_cons, List.length_nil]; first | done | omega)) only [go_sem]) | (refine allI (fun b => ?_)) | (refine allT (fun τ => ?_)) | (refine brP (fun h => ?_) (fun h => ?_) <;> (try simp only [zgx, zbx] at h)) | (apply And.intro; focus (first | omega | (simp; done) | (simp +contextual; done) | (intros; and_intros <;> first | assumption | omega) | (intros; simp_all; done) | (intro hgd; refine ⟨hgd, ?_⟩; simp [hgd]; done) | (intro hgd; simp only [zgx] at hgd ⊢; omega))) | fail)
  rename_i b1
  generalize b = b2 at *
  refine loopI (ι := List Tok) (fun τs => τs.length ≤ a.op.length) (fun τs => [(14, .int .i64 τs.length), (13, .int .i64 a.op.length), (12, .msl 60 5 bO 0 a.op.length cpO), (2, .ptr 2 b2 0), (1, .ptr 1 b1 0)]) (fun τs => (60, .blk bO (Sp (mix a.op τs) ((cpO - a.op.length) * 5))) :: (2, .blk b2 [.int .i64 0, .int .i64 0, .int .i64 0, .fsl 1 0 [], .fsl 1 0 [], .fsl 1 0 [], .int .i64 0]) :: (1, .blk b1 [.int .i64 a.bo, .int .i64 a.nx, .int .i64 a.st, .msl 60 5 bO 0 a.op.length cpO, .sl 5 a.ls.length (a.ls.flatMap LsC), .sl 2 a.gs.length (a.gs.flatMap GpC), .int .i64 a.la]) :: tks τs) (fun τs => a.op.length - τs.length) [] (by simp) ?_ ?_
  · rw [mix_nil]
    exact Ents.envH (by simp [go_sem]) rfl
  intro τs hτ
  have hlm := len_mix a.op τs hτ
  have hls := length_Sp (mix a.op τs) ((cpO - a.op.length) * 5)
  simp (disch := first | omega | (simp only [List.length_cons, List.length_nil]; first | done | omega)) only [go_sem]
  refine brP (fun hb => ?_) (fun hb => ?_)
  · have hlt : τs.length < a.op.length := by simpa using hb
    obtain ⟨P, R, p1, p2, p3⟩ := mix_at a.op τs hlt
    have hok := hE _ (getD_memA (l := a.op) (i := τs.length) ev0 hlt)
    generalize a.op.getD τs.length ev0 = e at *
    have cR := clnR e.rs.length _ (len_rc e.rs) hok.1
    rw [p2] at hlm hls ⊢
    have hS : Sp (P ++ (EvC e ++ R)) ((cpO - a.op.length) * 5) = P ++ (.int .i64 e.bo :: .int .i64 e.se :: .int .i64 e.ti :: .sl 4 e.rs.length (e.rs.flatMap RcC) :: .bool e.co :: Sp R ((cpO - a.op.length) * 5)) := by
      simp [Sp, EvC]
    rw [hS] at hls ⊢
    generalize hR' : Sp R ((cpO - a.op.length) * 5) = R' at *
    have e2 : (List.drop (τs.length * 5) (P ++ (.int .i64 e.bo :: .int .i64 e.se :: .int .i64 e.ti :: .sl 4 e.rs.length (e.rs.flatMap RcC) :: .bool e.co :: R'))).take 5 = [.int .i64 e.bo, .int .i64 e.se, .int .i64 e.ti, .sl 4 e.rs.length (e.rs.flatMap RcC), .bool e.co] := by
      rw [← p1, List.drop_left]; rfl
    repeat' (first | (simp (disch := first | omega | (simp only [List.length_cons, List.length_nil]; first | done | omega)) only [go_sem, e2, zEv]) | (refine allI (fun b => ?_)) | (refine allT (fun τ => ?_)) | (refine brP (fun h => ?_) (fun h => ?_) <;> (try simp only [zgx, zbx] at h)) | (apply And.intro; focus (first | omega | (simp; done) | (simp +contextual; done) | (intros; and_intros <;> first | assumption | omega) | (intros; simp_all; done) | (intro hgd; refine ⟨hgd, ?_⟩; simp [hgd]; done) | (intro hgd; simp only [zgx] at hgd ⊢; omega))) | fail)
    first | refine newsE_U (cR) ?_ | refine newsE_T (cR) ?_ | refine newsE_of (cR) ?_
    rintro _ _ ⟨bR, cpR, hcR, rfl, rfl⟩
    repeat' (first | (simp (disch := first | omega | (simp only [List.length_cons, List.length_nil]; first | done | omega)) only [go_sem]) | (refine allI (fun b => ?_)) | (refine allT (fun τ => ?_)) | (refine brP (fun h => ?_) (fun h => ?_) <;> (try simp only [zgx, zbx] at h)) | (apply And.intro; focus (first | omega | (simp; done) | (simp +contextual; done) | (intros; and_intros <;> first | assumption | omega) | (intros; simp_all; done) | (intro hgd; refine ⟨hgd, ?_⟩; simp [hgd]; done) | (intro hgd; simp only [zgx] at hgd ⊢; omega))) | fail)
    have hst : List.take (τs.length * 5 + 3) (P ++ (.int .i64 e.bo :: .int .i64 e.se :: .int .i64 e.ti :: .sl 4 e.rs.length (e.rs.flatMap RcC) :: .bool e.co :: R')) ++ [.msl 61 4 bR 0 e.rs.length cpR] ++ List.drop (τs.length * 5 + 3 + 1) (P ++ (.int .i64 e.bo :: .int .i64 e.se :: .int .i64 e.ti :: .sl 4 e.rs.length (e.rs.flatMap RcC) :: .bool e.co :: R')) = P ++ (.int .i64 e.bo :: .int .i64 e.se :: .int .i64 e.ti :: .msl 61 4 bR 0 e.rs.length cpR :: .bool e.co :: R') := by
      rw [← p1]
      simp [List.take_length_add_append, List.drop_length_add_append, Nat.add_assoc]
    have g3 : (P ++ (.int .i64 e.bo :: .int .i64 e.se :: .int .i64 e.ti :: .msl 61 4 bR 0 e.rs.length cpR :: .bool e.co :: R')).getD (τs.length * 5 + 3) .any = .msl 61 4 bR 0 e.rs.length cpR := by
      rw [← p1]
      simp [List.getD, List.getElem?_append_right]
    have hl2 : (P ++ (.int .i64 e.bo :: .int .i64 e.se :: .int .i64 e.ti :: .msl 61 4 bR 0 e.rs.length cpR :: .bool e.co :: R')).length = (P ++ (.int .i64 e.bo :: .int .i64 e.se :: .int .i64 e.ti :: .sl 4 e.rs.length (e.rs.flatMap RcC) :: .bool e.co :: R')).length := by simp
    rw [hst]
    have hlr := len_rc e.rs
    have hsr := length_Sp (e.rs.flatMap RcC) ((cpR - e.rs.length) * 4)
    refine loopI (ι := Nat) (fun k => k ≤ e.rs.length) (fun k => (30, .int .i64 k) :: _) (fun _ => _) (fun k => e.rs.length - k) 0 (by omega) Ents.same ?_
    intro k hk
    simp (disch := first | omega | (simp only [List.length_cons, List.length_nil]; first | done | omega)) only [go_sem]
    refine brP (fun hb2 => ?_) (fun hb2 => ?_)
    · have hk2 : k < e.rs.length := by simpa using hb2
      have e3 := take_rows (f := RcC) (w := 4) (fun _ => rfl) rc0 e.rs hk2
      have hcr := clrec _ (hok.2 _ (getD_memA (l := e.rs) (i := k) rc0 hk2))
      have hset := rc_set e.rs k ((cpR - e.rs.length) * 4) hk2
      generalize e.rs.getD k rc0 = r at *
      rw [RcC_eq] at e3 hcr hset
      repeat' (first | (simp (disch := first | omega | (simp only [List.length_cons, List.length_nil]; first | done | omega)) only [go_sem, e3, zRc, g3]) | (refine allI (fun b => ?_)) | (refine allT (fun τ => ?_)) | (refine brP (fun h => ?_) (fun h => ?_) <;> (try simp only [zgx, zbx] at h)) | refine call_U (hcr) ?_ | refine callG_U (fun _ => hcr) ?_ | refine call_T (hcr) ?_ | refine callG_T (fun _ => hcr) ?_ | refine call_N (hcr) ?_ | refine call_of (hcr) ?_ | refine callG_of (fun _ => hcr) ?_ | (apply And.intro; focus (first | omega | (simp; done) | (simp +contextual; done) | (intros; and_intros <;> first | assumption | omega) | (intros; simp_all; done) | (intro hgd; refine ⟨hgd, ?_⟩; simp [hgd]; done) | (intro hgd; simp only [zgx] at hgd ⊢; omega))) | fail)
      rw [hset]
      exact ⟨⟨k + 1, by omega⟩, by dsimp only; omega, Ents.sub (by simp [go_sem]) ⟨_, (List.Sublist.cons _ (List.Sublist.refl _)), List.Perm.refl _⟩⟩
    · have hke : k = e.rs.length := by simp only [decide_eq_false_iff_not] at hb2; omega
      subst hke
      repeat' (first | (simp (disch := first | omega | (simp only [List.length_cons, List.length_nil]; first | done | omega)) only [go_sem]) | (refine allI (fun b => ?_)) | (refine allT (fun τ => ?_)) | (refine brP (fun h => ?_) (fun h => ?_) <;> (try simp only [zgx, zbx] at h)) | (apply And.intro; focus (first | omega | (simp; done) | (simp +contextual; done) | (intros; and_intros <;> first | assumption | omega) | (intros; simp_all; done) | (intro hgd; refine ⟨hgd, ?_⟩; simp [hgd]; done) | (intro hgd; simp only [zgx] at hgd ⊢; omega))) | fail)
      have hrow : P ++ (.int .i64 e.bo :: .int .i64 e.se :: .int .i64 e.ti :: .msl 61 4 bR 0 e.rs.length cpR :: .bool e.co :: R') = (P ++ [.int .i64 e.bo, .int .i64 e.se, .int .i64 e.ti]) ++ .msl 61 4 bR 0 e.rs.length cpR :: (.bool e.co :: R') := by simp
      rw [hrow]
      refine ⟨⟨τs ++ [⟨bR, e.rs.length * 4, cpR * 4⟩], by rw [List.length_append, List.length_singleton]; omega⟩, by dsimp only; rw [List.length_append, List.length_singleton]; omega, ents_seal (i := 61) (j := 60) hlr hcR (List.length_replicate ..) ((List.Perm.swap _ _ _).cons _) (Ents.sub (by simp [go_sem]) ⟨_, .cons_cons _ (.cons_cons _ (.cons _ (List.Sublist.refl _))), ?_⟩)⟩
      have hnew : Sp (mix a.op (τs ++ [⟨bR, e.rs.length * 4, cpR * 4⟩])) ((cpO - a.op.length) * 5) = (P ++ [.int .i64 e.bo, .int .i64 e.se, .int .i64 e.ti]) ++ .osl 61 ⟨bR, e.rs.length * 4, cpR * 4⟩ 4 e.rs.length (e.rs.flatMap RcC) :: (.bool e.co :: R') := by
        rw [p3, EwC_eq, ← hR']
        simp [Sp]
      dsimp only
      rw [hnew, tks, tks, List.map_append]
      exact List.perm_append_comm (l₁ := [_]) (l₂ := _ :: _ :: _ :: _)
  · have hte : τs.length = a.op.length := by simp only [decide_eq_false_iff_not] at hb; omega
    rw [mix_all _ _ hte]
    repeat' (first | (simp (disch := first | omega | (simp only [List.length_cons, List.length_nil]; first | done | omega)) only [go_sem]) | (refine allI (fun b => ?_)) | (refine allT (fun τ => ?_)) | (refine brP (fun h => ?_) (fun h => ?_) <;> (try simp only [zgx, zbx] at h)) | (apply And.intro; focus (first | omega | (simp; done) | (simp +contextual; done) | (intros; and_intros <;> first | assumption | omega) | (intros; simp_all; done) | (intro hgd; refine ⟨hgd, ?_⟩; simp [hgd]; done) | (intro hgd; simp only [zgx] at hgd ⊢; omega))) | fail)
    first | refine newsE_U (cL) ?_ | refine newsE_T (cL) ?_ | refine newsE_of (cL) ?_
    rintro _ _ ⟨bL, cpL, hcL, rfl, rfl⟩
    repeat' (first | (simp (disch := first | omega | (simp only [List.length_cons, List.length_nil]; first | done | omega)) only [go_sem]) | (refine allI (fun b => ?_)) | (refine allT (fun τ => ?_)) | (refine brP (fun h => ?_) (fun h => ?_) <;> (try simp only [zgx, zbx] at h)) | (apply And.intro; focus (first | omega | (simp; done) | (simp +contextual; done) | (intros; and_intros <;> first | assumption | omega) | (intros; simp_all; done) | (intro hgd; refine ⟨hgd, ?_⟩; simp [hgd]; done) | (intro hgd; simp only [zgx] at hgd ⊢; omega))) | fail)
    first | refine newsE_U (cG) ?_ | refine newsE_T (cG) ?_ | refine newsE_of (cG) ?_
    rintro _ _ ⟨bG, cpG, hcG, rfl, rfl⟩
    repeat' (first | (simp (disch := first | omega | (simp only [List.length_cons, List.length_nil]; first | done | omega)) only [go_sem]) | (refine allI (fun b => ?_)) | (refine allT (fun τ => ?_)) | (refine brP (fun h => ?_) (fun h => ?_) <;> (try simp only [zgx, zbx] at h)) | (apply And.intro; focus (first | omega | (simp; done) | (simp +contextual; done) | (intros; and_intros <;> first | assumption | omega) | (intros; simp_all; done) | (intro hgd; refine ⟨hgd, ?_⟩; simp [hgd]; done) | (intro hgd; simp only [zgx] at hgd ⊢; omega))) | fail)
    exact ⟨_, _, leVH.of (leV.refl _) ⟨_, .cons_cons _ (.cons_cons _ (.cons_cons _ (.cons _ (.cons _ (List.Sublist.refl _))))), (List.reverse_perm [_, _, _]).append_right (tks τs)⟩, τs, bO, cpO, bL, cpL, bG, cpG, hte, ⟨hcO, hcL, hcG⟩, rfl, rfl⟩
end Go.Proofs.YtfheeghkajihoaaDoor
