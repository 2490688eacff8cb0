/- Layer 22: a record of an event that is not held is taken (the program). -/
import Derived.Test.YtfheeghkajihoaaDoorBj
namespace Go.Proofs.YtfheeghkajihoaaDoor
open Go Go.Lx
set_option linter.unusedSimpArgs false
set_option linter.unusedVariables false
set_option maxRecDepth 100000
set_option maxHeartbeats 4000000

theorem leV.nil_osl (s i : Nat) (t : Tok) (s' : Nat) : leV (.fsl s 0 []) (.osl i t s' 0 []) := (leV.nil_sz s s').trans (leV.fsl_osl _ _ _ _ _)
theorem pickQ_snd (c a b : LV) : (pickQ c a b).2 = .any ∨ ∃ x, (pickQ c a b).2 = .bool x := by
  unfold pickQ
  split
  · exact .inr ⟨_, rfl⟩
  · exact .inr ⟨_, rfl⟩
  · exact .inr ⟨_, rfl⟩
  · exact .inl rfl
theorem pick_no (g b2 : Bool) (c a b : LV) : pickQ (.opt g (.bool false)) (.opt false (pickQ c a b).2) (.bool b2) = (g = true, .bool b2) := by
  rcases pickQ_snd c a b with h | ⟨x, h⟩ <;> rw [h] <;> simp [pickQ, LV.v, LV.g]
/-- an event that is new -/
def newE (k : Wk) (r : Rc) : Ev := ⟨k.a.bo, r.se, r.ti, [], false⟩
theorem insT (k : Wk) (r : Rc) (i : Nat) (hi : i ≤ k.ws.length) (hc : k.ws.length ≤ k.cO) (hl : k.ws.length ≤ 1000000000) : LCalls Tryd.prog gl 50 [.msl 60 5 k.bO 0 k.ws.length k.cO, .int .i64 i, .fsl 5 1 [.int .i64 k.a.bo, .int .i64 r.se, .int .i64 r.ti, .fsl 1 0 [], .bool false]] [(60, .blk k.bO (BO k))] fun x H => ∃ b2 c2, k.ws.length + 1 ≤ c2 ∧ x = .msl 60 5 b2 0 (k.ws.length + 1) c2 ∧ H = [(61, .tok ⟨0, 0, 0⟩), (60, .blk b2 (Sp ((k.ws.take i ++ (newE k r, ⟨0, 0, 0⟩) :: k.ws.drop i).flatMap EwC) ((c2 - (k.ws.length + 1)) * 5)))] := by
  intro w0 M HF w vs hI hv
  have hl2 := len_ew k.ws
  refine (ins k.bO i k.cO k.ws.length (k.ws.flatMap EwC) [.int .i64 k.a.bo, .int .i64 r.se, .int .i64 r.ti, .fsl 1 0 [], .bool false] hl2 _ _ _ _ _ rfl hi hc hl w0 M HF w vs hI hv).mono ?_
  rintro _ w' ⟨M', v, _, _, h1, h2, h3, h4, _, rfl, b2, c2, hc2, rfl, rfl⟩
  have e1 : List.take (i * 5) (k.ws.flatMap EwC) = (k.ws.take i).flatMap EwC := by
    conv => lhs; rw [← List.take_append_drop i k.ws, List.flatMap_append]
    exact List.take_left' (by rw [len_ew, List.length_take]; omega)
  have e2 : List.drop (i * 5) (k.ws.flatMap EwC) = (k.ws.drop i).flatMap EwC := by
    conv => lhs; rw [← List.take_append_drop i k.ws, List.flatMap_append]
    exact List.drop_left' (by rw [len_ew, List.length_take]; omega)
  have key : leVs (Sp (List.take (i * 5) (k.ws.flatMap EwC) ++ [.int .i64 k.a.bo, .int .i64 r.se, .int .i64 r.ti, .fsl 1 0 [], .bool false] ++ List.drop (i * 5) (k.ws.flatMap EwC)) ((c2 - (k.ws.length + 1)) * 5)) (Sp ((k.ws.take i ++ (newE k r, ⟨0, 0, 0⟩) :: k.ws.drop i).flatMap EwC) ((c2 - (k.ws.length + 1)) * 5)) := by
    rw [e1, e2, List.flatMap_append, List.flatMap_cons, Sp, Sp, EwC_eq]
    simp only [List.append_assoc]
    refine leVs.app (leVs.refl _) (leVs.app ?_ (leVs.refl _))
    exact ⟨leV.refl _, leV.refl _, leV.refl _, leV.nil_osl _ _ _ _, leV.refl _, trivial⟩
  exact ⟨M', v, _, _, h1, h2, h3, Lx.Inv.dummy (heapLe.inv (H := [(60, .blk b2 _)]) (H' := [(60, .blk b2 _)]) ⟨⟨rfl, key⟩, trivial⟩ h4) 61 0, b2, c2, hc2, rfl, rfl⟩
theorem take0n (k : Wk) (r : Rc) (hl : k.ws.length ≤ 1000000000) (hi : heldI k.ws r.se = -1) (hs : strayS k.a.nx none r = true) (hb : 0 ≤ k.a.st ∧ k.a.st ≤ 1000000000000) :
    LCalls Tryd.prog gl 33 [.ptr 50 k.b 0, .agg (RcC r)] [(50, .blk k.b (WkC k)), (60, .blk k.bO (BO k))] fun x H => x = .bool false ∧ H = [(50, .blk k.b (WkC k.stray)), (60, .blk k.bO (BO k))] := by
  refine fn_viewT Tryd.func33 t33 Tryd.ntmps33 (by simp) ?_
  have hh := held k r.se hl
  have hle := len_ew k.ws
  have hlo := length_Sp (k.ws.flatMap EwC) ((k.cO - k.ws.length) * 5)
  rw [hi] at hh
  have hc := chkr r
  have hsg := single r.ty
  have hR : strayS k.a.nx none r = (decide (chkRc r ≠ 0) || (decide (r.se = 0) || (decide (r.se < k.a.nx) || false))) := rfl
  rw [hs] at hR
  generalize chkRc r = C at *
  generalize singS r.ty = S at *
  unfold c33 r33
  rw [WkC_eq, BO] at *
  rw [RcC_eq] at *
  repeat' (first | (simp (disch := first | omega | (simp only [List.length_cons, List.length_nil]; first | done | omega)) only [go_sem]) | (refine allI (fun b => ?_)) | (refine allT (fun τ => ?_)) | (refine brP (fun h => ?_) (fun h => ?_) <;> (try simp only [zgx, zbx] at h)) | (apply And.intro; focus (first | omega | (simp; done) | (simp +contextual; done) | (intros; and_intros <;> first | assumption | omega) | (intros; simp_all; done) | (intro hgd; refine ⟨hgd, ?_⟩; simp [hgd]; done) | (intro hgd; simp only [zgx] at hgd ⊢; omega))) | fail)
  first | refine actsQ_U (hh) (pick_perm rfl (pick_perm rfl (List.Perm.refl _))) ?_ | refine actsQ_T (hh) (pick_perm rfl (pick_perm rfl (List.Perm.refl _))) ?_ | refine actsQ_N (hh) (pick_perm rfl (pick_perm rfl (List.Perm.refl _))) ?_ | refine actsQ_of (hh) (pick_perm rfl (pick_perm rfl (List.Perm.refl _))) ?_
  rintro _ _ ⟨rfl, rfl⟩
  repeat' (first | (simp (disch := first | omega | (simp only [List.length_cons, List.length_nil]; first | done | omega)) only [go_sem, gB_no, pick_no]) | (refine allI (fun b => ?_)) | (refine allT (fun τ => ?_)) | (refine brP (fun h => ?_) (fun h => ?_) <;> (try simp only [zgx, zbx] at h)) | refine call_U (hc) ?_ | refine callG_U (fun _ => hc) ?_ | refine call_T (hc) ?_ | refine callG_T (fun _ => hc) ?_ | refine call_U (hsg) ?_ | refine callG_U (fun _ => hsg) ?_ | refine call_T (hsg) ?_ | refine callG_T (fun _ => hsg) ?_ | refine call_N (hc) ?_ | refine call_of (hc) ?_ | refine callG_of (fun _ => hc) ?_ | refine call_N (hsg) ?_ | refine call_of (hsg) ?_ | refine callG_of (fun _ => hsg) ?_ | (apply And.intro; focus (first | omega | (simp; done) | (simp +contextual; done) | (intros; and_intros <;> first | assumption | omega) | (intros; simp_all; done) | (intro hgd; refine ⟨hgd, ?_⟩; simp [hgd]; done) | (intro hgd; simp only [zgx] at hgd ⊢; omega))) | fail)
  · exact ⟨_, _, leVH.of (leV.refl _) ⟨_, .cons_cons _ (.cons_cons _ (.cons _ (List.Sublist.refl _))), List.Perm.refl _⟩, rfl, rfl⟩
  · exfalso
    grind
/-- where a new event is put in -/
def posI (l : List (Ev × Tok)) (s : Int) : Nat := let i := fstI l.length fun i => decide (s < (l.getD i ew0).1.se); if i < 0 then l.length else i.toNat
theorem posI_le (l : List (Ev × Tok)) (s : Int) : posI l s ≤ l.length := by
  have := fstI_range l.length fun i => decide (s < (l.getD i ew0).1.se)
  unfold posI
  dsimp only
  split <;> omega
/-- the events with a new one -/
def insW (k : Wk) (r : Rc) (τ : Tok) : List (Ev × Tok) := k.ws.take (posI k.ws r.se) ++ (addR (newE k r) r, τ) :: k.ws.drop (posI k.ws r.se)
theorem take2 (k : Wk) (r : Rc) (hr : r.ps.length ≤ 1000000) (hl : k.ws.length ≤ 1000000000) (hcO : k.ws.length ≤ k.cO) (hL : k.a.ls.length ≤ 1000000000) (hcL : k.a.ls.length ≤ k.cL) (hi : heldI k.ws r.se = -1) (hs : strayS k.a.nx none r = false) :
    LCalls Tryd.prog gl 33 [.ptr 50 k.b 0, .agg (RcC r)] [(50, .blk k.b (WkC k)), (60, .blk k.bO (BO k)), (62, .blk k.bL (BL k))] fun x H => ∃ τ bO cO bL cL, (k.ws.length + 1 ≤ cO ∧ (k.a.ls ++ covL r).length ≤ cL) ∧ x = .bool true ∧ H = [(50, .blk k.b (WkC (k.took (insW k r τ) r bO cO bL cL))), (60, .blk bO (BO (k.took (insW k r τ) r bO cO bL cL))), (62, .blk bL (BL (k.took (insW k r τ) r bO cO bL cL))), (61, .tok τ)] := by
  refine fn_viewT Tryd.func33 t33 Tryd.ntmps33 (by simp) ?_
  have hh := held k r.se hl
  have hle := len_ew k.ws
  have hlo := length_Sp (k.ws.flatMap EwC) ((k.cO - k.ws.length) * 5)
  have hlL := len_ls k.a.ls
  have hsL := length_Sp (k.a.ls.flatMap LsC) ((k.cL - k.a.ls.length) * 5)
  rw [hi] at hh
  have hc := chkr r
  have hsg := single r.ty
  have hcr := clrec r (by omega)
  have hcv := cov r (by omega)
  have hcL : covL r = if (covS r).isSome then [(covS r).getD ls0] else [] := by
    unfold covL; cases covS r <;> rfl
  have hR : strayS k.a.nx none r = (decide (chkRc r ≠ 0) || (decide (r.se = 0) || (decide (r.se < k.a.nx) || false))) := rfl
  rw [hs] at hR
  have hcm := fun τ' => compW ({ newE k r with rs := [r] }, τ') (by simp)
  simp only [EwC_eq, newE, List.length_singleton, List.flatMap_singleton] at hcm
  have hix := fun b3 => idxE k.ws 49 (by kernel_rfl) b3 k.bO k.cO (RcC r) (fun x => decide (r.se < x.1.se)) (fun x => clT x b3 r) hl
  have hps : posI k.ws r.se = if fstI k.ws.length (fun i => decide (r.se < (k.ws.getD i ew0).1.se)) < 0 then k.ws.length else (fstI k.ws.length (fun i => decide (r.se < (k.ws.getD i ew0).1.se))).toNat := rfl
  have hpl := posI_le k.ws r.se
  have hin := insT k r (posI k.ws r.se) hpl hcO hl
  have hfr := fstI_range k.ws.length fun i => decide (r.se < (k.ws.getD i ew0).1.se)
  generalize fstI k.ws.length (fun i => decide (r.se < (k.ws.getD i ew0).1.se)) = fi at *
  generalize chkRc r = C at *
  generalize singS r.ty = S at *
  generalize (covS r).getD ls0 = cv at *
  generalize (covS r).isSome = cb at *
  unfold c33 r33
  rw [WkC_eq, BO, BL] at *
  rw [RcC_eq] at *
  repeat' (first | (simp (disch := first | omega | (simp only [List.length_cons, List.length_nil]; first | done | omega)) only [go_sem]) | (refine allI (fun b => ?_)) | (refine allT (fun τ => ?_)) | (refine brP (fun h => ?_) (fun h => ?_) <;> (try simp only [zgx, zbx] at h)) | (apply And.intro; focus (first | omega | (simp; done) | (simp +contextual; done) | (intros; and_intros <;> first | assumption | omega) | (intros; simp_all; done) | (intro hgd; refine ⟨hgd, ?_⟩; simp [hgd]; done) | (intro hgd; simp only [zgx] at hgd ⊢; omega))) | fail)
  first | refine actsQ_U (hh) (pick_perm rfl (pick_perm rfl (List.Perm.refl _))) ?_ | refine actsQ_T (hh) (pick_perm rfl (pick_perm rfl (List.Perm.refl _))) ?_ | refine actsQ_N (hh) (pick_perm rfl (pick_perm rfl (List.Perm.refl _))) ?_ | refine actsQ_of (hh) (pick_perm rfl (pick_perm rfl (List.Perm.refl _))) ?_
  rintro _ _ ⟨rfl, rfl⟩
  repeat' (first | (simp (disch := first | omega | (simp only [List.length_cons, List.length_nil]; first | done | omega)) only [go_sem, gB_no, pick_no]) | (refine allI (fun b => ?_)) | (refine allT (fun τ => ?_)) | (refine brP (fun h => ?_) (fun h => ?_) <;> (try simp only [zgx, zbx] at h)) | refine call_U (hc) ?_ | refine callG_U (fun _ => hc) ?_ | refine call_T (hc) ?_ | refine callG_T (fun _ => hc) ?_ | refine call_U (hsg) ?_ | refine callG_U (fun _ => hsg) ?_ | refine call_T (hsg) ?_ | refine callG_T (fun _ => hsg) ?_ | refine call_N (hc) ?_ | refine call_of (hc) ?_ | refine callG_of (fun _ => hc) ?_ | refine call_N (hsg) ?_ | refine call_of (hsg) ?_ | refine callG_of (fun _ => hsg) ?_ | (apply And.intro; focus (first | omega | (simp; done) | (simp +contextual; done) | (intros; and_intros <;> first | assumption | omega) | (intros; simp_all; done) | (intro hgd; refine ⟨hgd, ?_⟩; simp [hgd]; done) | (intro hgd; simp only [zgx] at hgd ⊢; omega))) | fail)
  · exfalso
    grind
  first | refine actsQ_U (hix _) (pick_perm rfl (pick_perm rfl (List.Perm.refl _))) ?_ | refine actsQ_T (hix _) (pick_perm rfl (pick_perm rfl (List.Perm.refl _))) ?_ | refine actsQ_N (hix _) (pick_perm rfl (pick_perm rfl (List.Perm.refl _))) ?_ | refine actsQ_of (hix _) (pick_perm rfl (pick_perm rfl (List.Perm.refl _))) ?_
  rintro _ _ ⟨rfl, rfl⟩
  have hpj : fi < 0 ∧ posI k.ws r.se = k.ws.length ∨ fi = (posI k.ws r.se : Int) := by
    by_cases h0 : fi < 0
    · exact .inl ⟨h0, by rw [hps, if_pos h0]⟩
    · exact .inr (by rw [hps, if_neg h0]; omega)
  have hW : insW k r = fun τ => k.ws.take (posI k.ws r.se) ++ (addR (newE k r) r, τ) :: k.ws.drop (posI k.ws r.se) := rfl
  generalize hj : posI k.ws r.se = j at *
  repeat' (first | (simp (disch := first | omega | (simp only [List.length_cons, List.length_nil]; first | done | omega)) only [go_sem, zEv, zRc]) | (refine allI (fun b => ?_)) | (refine allT (fun τ => ?_)) | (refine brP (fun h => ?_) (fun h => ?_) <;> (try simp only [zgx, zbx] at h)) | (apply And.intro; focus (first | omega | (simp; done) | (simp +contextual; done) | (intros; and_intros <;> first | assumption | omega) | (intros; simp_all; done) | (intro hgd; refine ⟨hgd, ?_⟩; simp [hgd]; done) | (intro hgd; simp only [zgx] at hgd ⊢; omega))) | fail)
  · rw [show ((k.ws.length : Nat) : Int) = (j : Int) by omega]
    first | refine actsQ_U (hin) (pick_perm rfl (List.Perm.refl _)) ?_ | refine actsQ_T (hin) (pick_perm rfl (List.Perm.refl _)) ?_ | refine actsQ_N (hin) (pick_perm rfl (List.Perm.refl _)) ?_ | refine actsQ_of (hin) (pick_perm rfl (List.Perm.refl _)) ?_
    rintro _ _ ⟨b2, c2, hc2, rfl, rfl⟩
    have hlw : (k.ws.take j ++ (newE k r, (⟨0, 0, 0⟩ : Tok)) :: k.ws.drop j).length = k.ws.length + 1 := by simp; omega
    have hgd : (k.ws.take j ++ (newE k r, (⟨0, 0, 0⟩ : Tok)) :: k.ws.drop j).getD j ew0 = (newE k r, ⟨0, 0, 0⟩) := by
      have hjt : (k.ws.take j).length = j := by rw [List.length_take]; omega
      simp [List.getD, List.getElem?_append_right, hjt]
    have hst : ∀ y, (k.ws.take j ++ (newE k r, (⟨0, 0, 0⟩ : Tok)) :: k.ws.drop j).set j y = k.ws.take j ++ y :: k.ws.drop j := fun y => by
      have hjt : (k.ws.take j).length = j := by rw [List.length_take]; omega
      rw [List.set_append_right _ _ (by omega), hjt, Nat.sub_self]; rfl
    obtain ⟨P, R, p1, p2, p3⟩ := ew_rows (k.ws.take j ++ (newE k r, (⟨0, 0, 0⟩ : Tok)) :: k.ws.drop j) j ((c2 - (k.ws.length + 1)) * 5) (by omega)
    rw [hgd, EwC_eq] at p2
    simp only [hst] at p3
    have hlp := length_Sp ((k.ws.take j ++ (newE k r, (⟨0, 0, 0⟩ : Tok)) :: k.ws.drop j).flatMap EwC) ((c2 - (k.ws.length + 1)) * 5)
    rw [len_ew, hlw] at hlp
    rw [p2] at hlp ⊢
    simp only [newE, List.length_nil, List.flatMap_nil, List.cons_append, List.nil_append] at hlp p2 ⊢
    have g3 : (P ++ .int .i64 k.a.bo :: .int .i64 r.se :: .int .i64 r.ti :: .osl 61 ⟨0, 0, 0⟩ 4 0 [] :: .bool false :: R).getD (j * 5 + 3) .any = .osl 61 ⟨0, 0, 0⟩ 4 0 [] := by
      rw [← p1]; simp [List.getD, List.getElem?_append_right]
    have s3 : ∀ y, List.take (j * 5 + 3) (P ++ .int .i64 k.a.bo :: .int .i64 r.se :: .int .i64 r.ti :: .osl 61 ⟨0, 0, 0⟩ 4 0 [] :: .bool false :: R) ++ [y] ++ List.drop (j * 5 + 3 + 1) (P ++ .int .i64 k.a.bo :: .int .i64 r.se :: .int .i64 r.ti :: .osl 61 ⟨0, 0, 0⟩ 4 0 [] :: .bool false :: R) = P ++ .int .i64 k.a.bo :: .int .i64 r.se :: .int .i64 r.ti :: y :: .bool false :: R := fun y => by
      rw [← p1]; simp [List.take_length_add_append, List.drop_length_add_append, Nat.add_assoc]
    have s4 : ∀ y z, List.take (j * 5 + 4) (P ++ .int .i64 k.a.bo :: .int .i64 r.se :: .int .i64 r.ti :: y :: .bool false :: R) ++ [z] ++ List.drop (j * 5 + 4 + 1) (P ++ .int .i64 k.a.bo :: .int .i64 r.se :: .int .i64 r.ti :: y :: .bool false :: R) = P ++ .int .i64 k.a.bo :: .int .i64 r.se :: .int .i64 r.ti :: y :: z :: R := fun y z => by
      rw [← p1]; simp [List.take_length_add_append, List.drop_length_add_append, Nat.add_assoc]
    have e5 : ∀ y, List.take 5 (List.drop (j * 5) (P ++ .int .i64 k.a.bo :: .int .i64 r.se :: .int .i64 r.ti :: y :: .bool false :: R)) = [.int .i64 k.a.bo, .int .i64 r.se, .int .i64 r.ti, y, .bool false] := fun y => by
      rw [← p1, List.drop_left]; rfl
    repeat' (first | (simp (disch := first | omega | (simp only [List.length_cons, List.length_nil]; first | done | omega)) only [go_sem]) | (refine allI (fun b => ?_)) | (refine allT (fun τ => ?_)) | (refine brP (fun h => ?_) (fun h => ?_) <;> (try simp only [zgx, zbx] at h)) | (apply And.intro; focus (first | omega | (simp; done) | (simp +contextual; done) | (intros; and_intros <;> first | assumption | omega) | (intros; simp_all; done) | (intro hgd; refine ⟨hgd, ?_⟩; simp [hgd]; done) | (intro hgd; simp only [zgx] at hgd ⊢; omega))) | fail)
    first | refine call_U (hcr) ?_ | refine call_T (hcr) ?_ | refine call_N (hcr) ?_ | refine call_of (hcr) ?_
    simp (disch := first | omega | (simp only [List.length_cons, List.length_nil]; first | done | omega)) only [go_sem, g3, zRc]
    refine ⟨by omega, by simp only [roomy]; omega, fun τ1 => ?_⟩
    rw [s3, e5]
    refine ⟨by omega, by simp only [List.length_append, List.length_cons] at hlp ⊢; omega, ?_⟩
    first | refine call_U (hcm _) ?_ | refine call_T (hcm _) ?_ | refine call_N (hcm _) ?_ | refine call_of (hcm _) ?_
    simp (disch := first | omega | (simp only [List.length_cons, List.length_nil]; first | done | omega)) only [go_sem]
    rw [s4, max_if]
    refine ⟨by simp only [List.length_append, List.length_cons] at hlp ⊢; omega, ?_⟩
    rw [LsC_eq] at hcv
    first | refine call_U (hcv) ?_ | refine call_T (hcv) ?_ | refine call_N (hcv) ?_ | refine call_of (hcv) ?_
    repeat' (first | (simp (disch := first | omega | (simp only [List.length_cons, List.length_nil]; first | done | omega)) only [go_sem, zLs]) | (refine allI (fun b => ?_)) | (refine allT (fun τ => ?_)) | (refine brP (fun h => ?_) (fun h => ?_) <;> (try simp only [zgx, zbx] at h)) | (apply And.intro; focus (first | omega | (simp; done) | (simp +contextual; done) | (intros; and_intros <;> first | assumption | omega) | (intros; simp_all; done) | (intro hgd; refine ⟨hgd, ?_⟩; simp [hgd]; done) | (intro hgd; simp only [zgx] at hgd ⊢; omega))) | fail)
    · rw [if_pos h] at hcL
      have hlen : (k.a.ls ++ covL r).length = k.a.ls.length + 1 := by rw [hcL]; simp
      refine .inl ⟨by omega, by omega, by simp only [roomy]; omega, fun b3 c3 hc3 => ⟨_, _, leVH.of (leV.refl _) ⟨_, .cons_cons _ (.cons _ (.cons_cons _ (.cons_cons _ (.cons _ (.cons_cons _ (List.nil_sublist _)))))), (List.perm_append_comm (l₁ := [_, _]) (l₂ := [_, _])).trans (List.Perm.swap _ _ _)⟩, τ1, b2, c2, b3, c3, ⟨hc2, by omega⟩, rfl, ?_⟩⟩
      rw [take_Sp _ hlL]
      have hlW : ∀ τ, (k.ws.take j ++ (addR (newE k r) r, τ) :: k.ws.drop j).length = k.ws.length + 1 := fun τ => by simp; omega
      simp only [WkC_eq, BO, BL, Wk.took, hW, hlW, hlen, p3, List.cons_append, List.nil_append]
      rw [hcL]
      simp [EwC_eq, LsC_eq, RcC_eq, addR, newE, Sp]
    · rw [if_neg (by simp [h])] at hcL
      have hlW : ∀ τ, (k.ws.take j ++ (addR (newE k r) r, τ) :: k.ws.drop j).length = k.ws.length + 1 := fun τ => by simp; omega
      refine ⟨_, _, leVH.of (leV.refl _) ⟨_, .cons _ (.cons_cons _ (.cons_cons _ (.cons _ (.cons_cons _ (.cons_cons _ (List.nil_sublist _)))))), (List.perm_append_comm (l₁ := [_]) (l₂ := [_, _, _])).trans (List.Perm.swap _ _ _)⟩, τ1, b2, c2, k.bL, k.cL, ⟨hc2, by rw [hcL, List.append_nil]; omega⟩, rfl, ?_⟩
      simp only [WkC_eq, BO, BL, Wk.took, hW, hlW, hcL, p3, List.append_nil]
      simp [EwC_eq, LsC_eq, RcC_eq, addR, newE, Sp]
  · rw [show fi = (j : Int) by omega]
    first | refine actsQ_U (hin) (pick_perm rfl (List.Perm.refl _)) ?_ | refine actsQ_T (hin) (pick_perm rfl (List.Perm.refl _)) ?_ | refine actsQ_N (hin) (pick_perm rfl (List.Perm.refl _)) ?_ | refine actsQ_of (hin) (pick_perm rfl (List.Perm.refl _)) ?_
    rintro _ _ ⟨b2, c2, hc2, rfl, rfl⟩
    have hlw : (k.ws.take j ++ (newE k r, (⟨0, 0, 0⟩ : Tok)) :: k.ws.drop j).length = k.ws.length + 1 := by simp; omega
    have hgd : (k.ws.take j ++ (newE k r, (⟨0, 0, 0⟩ : Tok)) :: k.ws.drop j).getD j ew0 = (newE k r, ⟨0, 0, 0⟩) := by
      have hjt : (k.ws.take j).length = j := by rw [List.length_take]; omega
      simp [List.getD, List.getElem?_append_right, hjt]
    have hst : ∀ y, (k.ws.take j ++ (newE k r, (⟨0, 0, 0⟩ : Tok)) :: k.ws.drop j).set j y = k.ws.take j ++ y :: k.ws.drop j := fun y => by
      have hjt : (k.ws.take j).length = j := by rw [List.length_take]; omega
      rw [List.set_append_right _ _ (by omega), hjt, Nat.sub_self]; rfl
    obtain ⟨P, R, p1, p2, p3⟩ := ew_rows (k.ws.take j ++ (newE k r, (⟨0, 0, 0⟩ : Tok)) :: k.ws.drop j) j ((c2 - (k.ws.length + 1)) * 5) (by omega)
    rw [hgd, EwC_eq] at p2
    simp only [hst] at p3
    have hlp := length_Sp ((k.ws.take j ++ (newE k r, (⟨0, 0, 0⟩ : Tok)) :: k.ws.drop j).flatMap EwC) ((c2 - (k.ws.length + 1)) * 5)
    rw [len_ew, hlw] at hlp
    rw [p2] at hlp ⊢
    simp only [newE, List.length_nil, List.flatMap_nil, List.cons_append, List.nil_append] at hlp p2 ⊢
    have g3 : (P ++ .int .i64 k.a.bo :: .int .i64 r.se :: .int .i64 r.ti :: .osl 61 ⟨0, 0, 0⟩ 4 0 [] :: .bool false :: R).getD (j * 5 + 3) .any = .osl 61 ⟨0, 0, 0⟩ 4 0 [] := by
      rw [← p1]; simp [List.getD, List.getElem?_append_right]
    have s3 : ∀ y, List.take (j * 5 + 3) (P ++ .int .i64 k.a.bo :: .int .i64 r.se :: .int .i64 r.ti :: .osl 61 ⟨0, 0, 0⟩ 4 0 [] :: .bool false :: R) ++ [y] ++ List.drop (j * 5 + 3 + 1) (P ++ .int .i64 k.a.bo :: .int .i64 r.se :: .int .i64 r.ti :: .osl 61 ⟨0, 0, 0⟩ 4 0 [] :: .bool false :: R) = P ++ .int .i64 k.a.bo :: .int .i64 r.se :: .int .i64 r.ti :: y :: .bool false :: R := fun y => by
      rw [← p1]; simp [List.take_length_add_append, List.drop_length_add_append, Nat.add_assoc]
    have s4 : ∀ y z, List.take (j * 5 + 4) (P ++ .int .i64 k.a.bo :: .int .i64 r.se :: .int .i64 r.ti :: y :: .bool false :: R) ++ [z] ++ List.drop (j * 5 + 4 + 1) (P ++ .int .i64 k.a.bo :: .int .i64 r.se :: .int .i64 r.ti :: y :: .bool false :: R) = P ++ .int .i64 k.a.bo :: .int .i64 r.se :: .int .i64 r.ti :: y :: z :: R := fun y z => by
      rw [← p1]; simp [List.take_length_add_append, List.drop_length_add_append, Nat.add_assoc]
    have e5 : ∀ y, List.take 5 (List.drop (j * 5) (P ++ .int .i64 k.a.bo :: .int .i64 r.se :: .int .i64 r.ti :: y :: .bool false :: R)) = [.int .i64 k.a.bo, .int .i64 r.se, .int .i64 r.ti, y, .bool false] := fun y => by
      rw [← p1, List.drop_left]; rfl
    repeat' (first | (simp (disch := first | omega | (simp only [List.length_cons, List.length_nil]; first | done | omega)) only [go_sem]) | (refine allI (fun b => ?_)) | (refine allT (fun τ => ?_)) | (refine brP (fun h => ?_) (fun h => ?_) <;> (try simp only [zgx, zbx] at h)) | (apply And.intro; focus (first | omega | (simp; done) | (simp +contextual; done) | (intros; and_intros <;> first | assumption | omega) | (intros; simp_all; done) | (intro hgd; refine ⟨hgd, ?_⟩; simp [hgd]; done) | (intro hgd; simp only [zgx] at hgd ⊢; omega))) | fail)
    first | refine call_U (hcr) ?_ | refine call_T (hcr) ?_ | refine call_N (hcr) ?_ | refine call_of (hcr) ?_
    simp (disch := first | omega | (simp only [List.length_cons, List.length_nil]; first | done | omega)) only [go_sem, g3, zRc]
    refine ⟨by omega, by simp only [roomy]; omega, fun τ1 => ?_⟩
    rw [s3, e5]
    refine ⟨by omega, by simp only [List.length_append, List.length_cons] at hlp ⊢; omega, ?_⟩
    first | refine call_U (hcm _) ?_ | refine call_T (hcm _) ?_ | refine call_N (hcm _) ?_ | refine call_of (hcm _) ?_
    simp (disch := first | omega | (simp only [List.length_cons, List.length_nil]; first | done | omega)) only [go_sem]
    rw [s4, max_if]
    refine ⟨by simp only [List.length_append, List.length_cons] at hlp ⊢; omega, ?_⟩
    rw [LsC_eq] at hcv
    first | refine call_U (hcv) ?_ | refine call_T (hcv) ?_ | refine call_N (hcv) ?_ | refine call_of (hcv) ?_
    repeat' (first | (simp (disch := first | omega | (simp only [List.length_cons, List.length_nil]; first | done | omega)) only [go_sem, zLs]) | (refine allI (fun b => ?_)) | (refine allT (fun τ => ?_)) | (refine brP (fun h => ?_) (fun h => ?_) <;> (try simp only [zgx, zbx] at h)) | (apply And.intro; focus (first | omega | (simp; done) | (simp +contextual; done) | (intros; and_intros <;> first | assumption | omega) | (intros; simp_all; done) | (intro hgd; refine ⟨hgd, ?_⟩; simp [hgd]; done) | (intro hgd; simp only [zgx] at hgd ⊢; omega))) | fail)
    · rw [if_pos h] at hcL
      have hlen : (k.a.ls ++ covL r).length = k.a.ls.length + 1 := by rw [hcL]; simp
      refine .inl ⟨by omega, by omega, by simp only [roomy]; omega, fun b3 c3 hc3 => ⟨_, _, leVH.of (leV.refl _) ⟨_, .cons_cons _ (.cons _ (.cons_cons _ (.cons_cons _ (.cons _ (.cons_cons _ (List.nil_sublist _)))))), (List.perm_append_comm (l₁ := [_, _]) (l₂ := [_, _])).trans (List.Perm.swap _ _ _)⟩, τ1, b2, c2, b3, c3, ⟨hc2, by omega⟩, rfl, ?_⟩⟩
      rw [take_Sp _ hlL]
      have hlW : ∀ τ, (k.ws.take j ++ (addR (newE k r) r, τ) :: k.ws.drop j).length = k.ws.length + 1 := fun τ => by simp; omega
      simp only [WkC_eq, BO, BL, Wk.took, hW, hlW, hlen, p3, List.cons_append, List.nil_append]
      rw [hcL]
      simp [EwC_eq, LsC_eq, RcC_eq, addR, newE, Sp]
    · rw [if_neg (by simp [h])] at hcL
      have hlW : ∀ τ, (k.ws.take j ++ (addR (newE k r) r, τ) :: k.ws.drop j).length = k.ws.length + 1 := fun τ => by simp; omega
      refine ⟨_, _, leVH.of (leV.refl _) ⟨_, .cons _ (.cons_cons _ (.cons_cons _ (.cons _ (.cons_cons _ (.cons_cons _ (List.nil_sublist _)))))), (List.perm_append_comm (l₁ := [_]) (l₂ := [_, _, _])).trans (List.Perm.swap _ _ _)⟩, τ1, b2, c2, k.bL, k.cL, ⟨hc2, by rw [hcL, List.append_nil]; omega⟩, rfl, ?_⟩
      simp only [WkC_eq, BO, BL, Wk.took, hW, hlW, hcL, p3, List.append_nil]
      simp [EwC_eq, LsC_eq, RcC_eq, addR, newE, Sp]
end Go.Proofs.YtfheeghkajihoaaDoor
