/- Layer 22: a record is taken (the program). -/
import Derived.Test.YtfheeghkajihoaaDoorBi
namespace Go.Proofs.YtfheeghkajihoaaDoor
open Go Go.Lx
set_option linter.unusedSimpArgs false
set_option linter.unusedVariables false
set_option maxRecDepth 100000
set_option maxHeartbeats 4000000

theorem compW (x : Ev × Tok) (he : x.1.rs.length ≤ 281474976710656) : Pure Tryd.prog gl 13 [.agg (EwC x)] (.bool (compS x.1.rs)) :=
  LCalls.args (comp x.1 he) ⟨leV.agg ⟨leV.refl _, leV.refl _, leV.refl _, leV.osl_sl _ _ _ _ _, leV.refl _, trivial⟩, trivial⟩
/-- whether a record is a stray one: if its event is held, that is the event x -/
def strayS (nx : Int) (x : Option Ev) (r : Rc) : Bool := decide (chkRc r ≠ 0) || (decide (r.se = 0) || (decide (r.se < nx) || (match x with
  | some e => e.co || singS r.ty
  | none => false)))
/-- a stray one more -/
def Wk.stray (k : Wk) : Wk := { k with a := { k.a with st := k.a.st + 1 } }
theorem take0 (k : Wk) (r : Rc) (hl : k.ws.length ≤ 1000000000) (j : Nat) (hj : j < k.ws.length) (hi : heldI k.ws r.se = j) (hs : strayS k.a.nx (some (k.ws.getD j ew0).1) r = true) (hb : 0 ≤ k.a.st ∧ k.a.st ≤ 1000000000000) :
    LCalls Tryd.prog gl 33 [.ptr 50 k.b 0, .agg (RcC r)] [(50, .blk k.b (WkC k)), (60, .blk k.bO (BO k))] fun x H => x = .bool false ∧ H = [(50, .blk k.b (WkC k.stray)), (60, .blk k.bO (BO k))] := by
  refine fn_viewT Tryd.func33 t33 Tryd.ntmps33 (by simp) ?_
  have hh := held k r.se hl
  have hle := len_ew k.ws
  have hlo := length_Sp (k.ws.flatMap EwC) ((k.cO - k.ws.length) * 5)
  have e2 := ew_at k.ws ((k.cO - k.ws.length) * 5) hj
  have g4 : (Sp (k.ws.flatMap EwC) ((k.cO - k.ws.length) * 5)).getD (j * 5 + 4) .any = .bool (k.ws.getD j ew0).1.co := by
    have := congrArg (fun z => z.getD 4 .any) e2
    rw [EwC_eq] at this
    simpa [List.getD, List.getElem?_take, List.getElem?_drop] using this
  rw [hi] at hh
  have hc := chkr r
  have hsg := single r.ty
  have hR : strayS k.a.nx (some (k.ws.getD j ew0).1) r = (decide (chkRc r ≠ 0) || (decide (r.se = 0) || (decide (r.se < k.a.nx) || ((k.ws.getD j ew0).1.co || singS r.ty)))) := rfl
  rw [hs] at hR
  generalize (k.ws.getD j ew0).1.co = co at *
  generalize chkRc r = C at *
  generalize singS r.ty = S at *
  unfold c33 r33
  rw [WkC_eq, BO] at *
  rw [RcC_eq] at *
  repeat' (first | (simp (disch := first | omega | (simp only [List.length_cons, List.length_nil]; first | done | omega)) only [go_sem]) | (refine allI (fun b => ?_)) | (refine allT (fun τ => ?_)) | (refine brP (fun h => ?_) (fun h => ?_) <;> (try simp only [zgx, zbx] at h)) | (apply And.intro; focus (first | omega | (simp; done) | (simp +contextual; done) | (intros; and_intros <;> first | assumption | omega) | (intros; simp_all; done) | (intro hgd; refine ⟨hgd, ?_⟩; simp [hgd]; done) | (intro hgd; simp only [zgx] at hgd ⊢; omega))) | fail)
  first | refine actsQ_U (hh) (pick_perm rfl (pick_perm rfl (List.Perm.refl _))) ?_ | refine actsQ_T (hh) (pick_perm rfl (pick_perm rfl (List.Perm.refl _))) ?_ | refine actsQ_N (hh) (pick_perm rfl (pick_perm rfl (List.Perm.refl _))) ?_ | refine actsQ_of (hh) (pick_perm rfl (pick_perm rfl (List.Perm.refl _))) ?_
  rintro _ _ ⟨rfl, rfl⟩
  repeat' (first | (simp (disch := first | omega | (simp only [List.length_cons, List.length_nil]; first | done | omega)) only [go_sem, g4]) | (refine allI (fun b => ?_)) | (refine allT (fun τ => ?_)) | (refine brP (fun h => ?_) (fun h => ?_) <;> (try simp only [zgx, zbx] at h)) | refine call_U (hc) ?_ | refine callG_U (fun _ => hc) ?_ | refine call_T (hc) ?_ | refine callG_T (fun _ => hc) ?_ | refine call_U (hsg) ?_ | refine callG_U (fun _ => hsg) ?_ | refine call_T (hsg) ?_ | refine callG_T (fun _ => hsg) ?_ | refine call_N (hc) ?_ | refine call_of (hc) ?_ | refine callG_of (fun _ => hc) ?_ | refine call_N (hsg) ?_ | refine call_of (hsg) ?_ | refine callG_of (fun _ => hsg) ?_ | (apply And.intro; focus (first | omega | (simp; done) | (simp +contextual; done) | (intros; and_intros <;> first | assumption | omega) | (intros; simp_all; done) | (intro hgd; refine ⟨hgd, ?_⟩; simp [hgd]; done) | (intro hgd; simp only [zgx] at hgd ⊢; omega))) | fail)
  · exact ⟨_, _, leVH.of (leV.refl _) ⟨_, .cons_cons _ (.cons_cons _ (.cons _ (List.Sublist.refl _))), List.Perm.refl _⟩, rfl, rfl⟩
  · omega
  · exfalso
    grind
theorem ew_rows (l : List (Ev × Tok)) (i m : Nat) (h : i < l.length) : ∃ P R : List LV, P.length = i * 5 ∧ Sp (l.flatMap EwC) m = P ++ (EwC (l.getD i ew0) ++ R) ∧ ∀ x, Sp ((l.set i x).flatMap EwC) m = P ++ (EwC x ++ R) := by
  refine ⟨(l.take i).flatMap EwC, (l.drop (i + 1)).flatMap EwC ++ List.replicate m .any, by rw [len_ew, List.length_take, Nat.min_eq_left (by omega)], ?_, fun x => ?_⟩
  · have e : l = l.take i ++ l.getD i ew0 :: l.drop (i + 1) := by
      conv => lhs; rw [← List.take_append_drop i l, List.drop_eq_getElem_cons h]
      simp [List.getD, h]
    conv => lhs; rw [e]
    rw [Sp, List.flatMap_append, List.flatMap_cons]
    simp only [List.append_assoc]
  · rw [List.set_eq_take_append_cons_drop, if_pos h]
    simp [Sp]
/-- an event with one record more -/
def addR (e : Ev) (r : Rc) : Ev := { e with rs := e.rs ++ [r], co := compS (e.rs ++ [r]) }
def covL (r : Rc) : List Ls := match covS r with
  | some x => [x]
  | none => []
/-- a record is taken -/
def Wk.took (k : Wk) (ws : List (Ev × Tok)) (r : Rc) (bO cO bL cL : Nat) : Wk := { k with a := { k.a with la := max k.a.la r.se, ls := k.a.ls ++ covL r }, ws := ws, bO := bO, cO := cO, bL := bL, cL := cL }
theorem take1 (k : Wk) (r : Rc) (hr : r.ps.length ≤ 1000000) (hl : k.ws.length ≤ 1000000000) (hL : k.a.ls.length ≤ 1000000000) (hcL : k.a.ls.length ≤ k.cL) (j : Nat) (hj : j < k.ws.length) (hn : (k.ws.getD j ew0).1.rs.length ≤ 1000000000) (hi : heldI k.ws r.se = j) (hs : strayS k.a.nx (some (k.ws.getD j ew0).1) r = false) :
    LCalls Tryd.prog gl 33 [.ptr 50 k.b 0, .agg (RcC r)] [(50, .blk k.b (WkC k)), (60, .blk k.bO (BO k)), (62, .blk k.bL (BL k)), (61, .tok (k.ws.getD j ew0).2)] fun x H => ∃ τ bL cL, (k.a.ls ++ covL r).length ≤ cL ∧ x = .bool true ∧ H = [(50, .blk k.b (WkC (k.took (k.ws.set j (addR (k.ws.getD j ew0).1 r, τ)) r k.bO k.cO bL cL))), (60, .blk k.bO (BO (k.took (k.ws.set j (addR (k.ws.getD j ew0).1 r, τ)) r k.bO k.cO bL cL))), (62, .blk bL (BL (k.took (k.ws.set j (addR (k.ws.getD j ew0).1 r, τ)) r k.bO k.cO bL cL))), (61, .tok τ)] := by
  refine fn_viewT Tryd.func33 t33 Tryd.ntmps33 (by simp) ?_
  have hh := held k r.se hl
  have hle := len_ew k.ws
  have hlo := length_Sp (k.ws.flatMap EwC) ((k.cO - k.ws.length) * 5)
  have hlL := len_ls k.a.ls
  have hsL := length_Sp (k.a.ls.flatMap LsC) ((k.cL - k.a.ls.length) * 5)
  obtain ⟨P, R, p1, p2, p3⟩ := ew_rows k.ws j ((k.cO - k.ws.length) * 5) hj
  rw [hi] at hh
  have hc := chkr r
  have hsg := single r.ty
  have hcr := clrec r (by omega)
  have hcv := cov r (by omega)
  have hcL : covL r = if (covS r).isSome then [(covS r).getD ls0] else [] := by
    unfold covL; cases covS r <;> rfl
  have hR : strayS k.a.nx (some (k.ws.getD j ew0).1) r = (decide (chkRc r ≠ 0) || (decide (r.se = 0) || (decide (r.se < k.a.nx) || ((k.ws.getD j ew0).1.co || singS r.ty)))) := rfl
  rw [hs] at hR
  generalize k.ws.getD j ew0 = q at *
  obtain ⟨e, τ⟩ := q
  dsimp only at *
  have hcm := fun τ' => compW ({ e with rs := e.rs ++ [r] }, τ') (by simp; omega)
  simp only [EwC_eq, List.length_append, List.length_singleton, List.flatMap_append, List.flatMap_singleton] at hcm
  generalize hcmp : compS (e.rs ++ [r]) = cm at *
  generalize chkRc r = C at *
  generalize singS r.ty = S at *
  generalize (covS r).getD ls0 = cv at *
  generalize (covS r).isSome = cb at *
  rw [EwC_eq] at p2
  have hlp : (Sp (k.ws.flatMap EwC) ((k.cO - k.ws.length) * 5)).length = P.length + 5 + R.length := by rw [p2]; simp; omega
  unfold c33 r33
  rw [WkC_eq, BO, BL] at *
  rw [p2] at hh hlp ⊢
  simp only [List.cons_append, List.nil_append] at hh hlp p2 ⊢
  have g4 : (P ++ .int .i64 e.bo :: .int .i64 e.se :: .int .i64 e.ti :: .osl 61 τ 4 e.rs.length (e.rs.flatMap RcC) :: .bool e.co :: R).getD (j * 5 + 4) .any = .bool e.co := by
    rw [← p1]; simp [List.getD, List.getElem?_append_right]
  have g3 : (P ++ .int .i64 e.bo :: .int .i64 e.se :: .int .i64 e.ti :: .osl 61 τ 4 e.rs.length (e.rs.flatMap RcC) :: .bool e.co :: R).getD (j * 5 + 3) .any = .osl 61 τ 4 e.rs.length (e.rs.flatMap RcC) := by
    rw [← p1]; simp [List.getD, List.getElem?_append_right]
  have s3 : ∀ y, List.take (j * 5 + 3) (P ++ .int .i64 e.bo :: .int .i64 e.se :: .int .i64 e.ti :: .osl 61 τ 4 e.rs.length (e.rs.flatMap RcC) :: .bool e.co :: R) ++ [y] ++ List.drop (j * 5 + 3 + 1) (P ++ .int .i64 e.bo :: .int .i64 e.se :: .int .i64 e.ti :: .osl 61 τ 4 e.rs.length (e.rs.flatMap RcC) :: .bool e.co :: R) = P ++ .int .i64 e.bo :: .int .i64 e.se :: .int .i64 e.ti :: y :: .bool e.co :: R := fun y => by
    rw [← p1]; simp [List.take_length_add_append, List.drop_length_add_append, Nat.add_assoc]
  have s4 : ∀ y z, List.take (j * 5 + 4) (P ++ .int .i64 e.bo :: .int .i64 e.se :: .int .i64 e.ti :: y :: .bool e.co :: R) ++ [z] ++ List.drop (j * 5 + 4 + 1) (P ++ .int .i64 e.bo :: .int .i64 e.se :: .int .i64 e.ti :: y :: .bool e.co :: R) = P ++ .int .i64 e.bo :: .int .i64 e.se :: .int .i64 e.ti :: y :: z :: R := fun y z => by
    rw [← p1]; simp [List.take_length_add_append, List.drop_length_add_append, Nat.add_assoc]
  have e5 : ∀ y, List.take 5 (List.drop (j * 5) (P ++ .int .i64 e.bo :: .int .i64 e.se :: .int .i64 e.ti :: y :: .bool e.co :: R)) = [.int .i64 e.bo, .int .i64 e.se, .int .i64 e.ti, y, .bool e.co] := fun y => by
    rw [← p1, List.drop_left]; rfl
  rw [RcC_eq] at *
  repeat' (first | (simp (disch := first | omega | (simp only [List.length_cons, List.length_nil]; first | done | omega)) only [go_sem]) | (refine allI (fun b => ?_)) | (refine allT (fun τ => ?_)) | (refine brP (fun h => ?_) (fun h => ?_) <;> (try simp only [zgx, zbx] at h)) | (apply And.intro; focus (first | omega | (simp; done) | (simp +contextual; done) | (intros; and_intros <;> first | assumption | omega) | (intros; simp_all; done) | (intro hgd; refine ⟨hgd, ?_⟩; simp [hgd]; done) | (intro hgd; simp only [zgx] at hgd ⊢; omega))) | fail)
  first | refine actsQ_U (hh) (pick_perm rfl (pick_perm rfl (List.Perm.refl _))) ?_ | refine actsQ_T (hh) (pick_perm rfl (pick_perm rfl (List.Perm.refl _))) ?_ | refine actsQ_N (hh) (pick_perm rfl (pick_perm rfl (List.Perm.refl _))) ?_ | refine actsQ_of (hh) (pick_perm rfl (pick_perm rfl (List.Perm.refl _))) ?_
  rintro _ _ ⟨rfl, rfl⟩
  repeat' (first | (simp (disch := first | omega | (simp only [List.length_cons, List.length_nil]; first | done | omega)) only [go_sem, g4]) | (refine allI (fun b => ?_)) | (refine allT (fun τ => ?_)) | (refine brP (fun h => ?_) (fun h => ?_) <;> (try simp only [zgx, zbx] at h)) | refine call_U (hc) ?_ | refine callG_U (fun _ => hc) ?_ | refine call_T (hc) ?_ | refine callG_T (fun _ => hc) ?_ | refine call_U (hsg) ?_ | refine callG_U (fun _ => hsg) ?_ | refine call_T (hsg) ?_ | refine callG_T (fun _ => hsg) ?_ | refine call_N (hc) ?_ | refine call_of (hc) ?_ | refine callG_of (fun _ => hc) ?_ | refine call_N (hsg) ?_ | refine call_of (hsg) ?_ | refine callG_of (fun _ => hsg) ?_ | (apply And.intro; focus (first | omega | (simp; done) | (simp +contextual; done) | (intros; and_intros <;> first | assumption | omega) | (intros; simp_all; done) | (intro hgd; refine ⟨hgd, ?_⟩; simp [hgd]; done) | (intro hgd; simp only [zgx] at hgd ⊢; omega))) | fail)
  · exfalso
    grind
  · omega
  first | refine call_U (hcr) ?_ | refine call_T (hcr) ?_ | refine call_N (hcr) ?_ | refine call_of (hcr) ?_
  simp (disch := first | omega | (simp only [List.length_cons, List.length_nil]; first | done | omega)) only [go_sem, g3, zRc]
  refine ⟨by omega, by simp only [roomy]; omega, fun τ1 => ?_⟩
  rw [s3, e5]
  refine ⟨by omega, by simp only [List.length_append, List.length_cons] at hlp ⊢; omega, ?_⟩
  first | refine call_U (hcm _) ?_ | refine call_T (hcm _) ?_ | refine call_N (hcm _) ?_ | refine call_of (hcm _) ?_
  simp (disch := first | omega | (simp only [List.length_cons, List.length_nil]; first | done | omega)) only [go_sem]
  rw [s4, max_if]
  refine ⟨by simp only [List.length_append, List.length_cons] at hlp ⊢; omega, ?_⟩
  rw [LsC_eq] at hcv
  first | refine call_U (hcv) ?_ | refine call_T (hcv) ?_ | refine call_N (hcv) ?_ | refine call_of (hcv) ?_
  repeat' (first | (simp (disch := first | omega | (simp only [List.length_cons, List.length_nil]; first | done | omega)) only [go_sem, zLs]) | (refine allI (fun b => ?_)) | (refine allT (fun τ => ?_)) | (refine brP (fun h => ?_) (fun h => ?_) <;> (try simp only [zgx, zbx] at h)) | (apply And.intro; focus (first | omega | (simp; done) | (simp +contextual; done) | (intros; and_intros <;> first | assumption | omega) | (intros; simp_all; done) | (intro hgd; refine ⟨hgd, ?_⟩; simp [hgd]; done) | (intro hgd; simp only [zgx] at hgd ⊢; omega))) | fail)
  · rw [if_pos h] at hcL
    have hlen : (k.a.ls ++ covL r).length = k.a.ls.length + 1 := by rw [hcL]; simp
    refine .inl ⟨by omega, by omega, by simp only [roomy]; omega, fun b2 c2 hc2 => ⟨_, _, leVH.of (leV.refl _) ⟨_, .cons_cons _ (.cons _ (.cons_cons _ (.cons_cons _ (.cons_cons _ (List.nil_sublist _))))), List.perm_append_comm (l₁ := [_, _]) (l₂ := [_, _])⟩, τ1, b2, c2, by omega, rfl, ?_⟩⟩
    rw [take_Sp _ hlL]
    simp only [WkC_eq, BO, BL, Wk.took, List.length_set, hlen, p3, List.cons_append, List.nil_append]
    rw [hcL]
    simp [EwC_eq, LsC_eq, RcC_eq, addR, hcmp, Sp]
  · rw [if_neg (by simp [h])] at hcL
    refine ⟨_, _, leVH.of (leV.refl _) ⟨_, .cons _ (.cons_cons _ (.cons_cons _ (.cons_cons _ (.cons _ (.cons_cons _ (List.nil_sublist _)))))), List.perm_append_comm (l₁ := [_]) (l₂ := [_, _, _])⟩, τ1, k.bL, k.cL, by rw [hcL, List.append_nil]; omega, rfl, ?_⟩
    simp only [WkC_eq, BO, BL, Wk.took, List.length_set, hcL, p3, List.append_nil]
    simp [EwC_eq, LsC_eq, RcC_eq, addR, hcmp, Sp]
end Go.Proofs.YtfheeghkajihoaaDoor
