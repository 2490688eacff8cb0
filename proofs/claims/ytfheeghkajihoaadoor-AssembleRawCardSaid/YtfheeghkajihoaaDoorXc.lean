/- Layer 22: records and their pairs (the reference). -/
import Derived.Test.YtfheeghkajihoaaDoorXg
import Derived.Test.YtfheeghkajihoaaDoorXa
import Derived.Test.YtfheeghkajihoaaDoorXf
import Derived.Test.YtfheeghkajihoaaDoorXb
namespace Go.Proofs.YtfheeghkajihoaaDoor
open Go Go.Lx
set_option linter.unusedSimpArgs false
set_option linter.unusedVariables false
set_option maxRecDepth 100000
set_option maxHeartbeats 4000000

theorem properR (s : List UInt8) : Pure Tryd.prog gl 83 [.str s] (.bool (nmP s)) := by
  refine fn_pureT Tryd.func83 t83 Tryd.ntmps83 (by simp) ?_
  have hR : nmP s = (decide (1 ≤ s.length) && decide (s.length ≤ 16) && lowU (s.getD 0 0) && s.all nmU) := rfl
  unfold c83 r83
  repeat' (first | (simp (disch := first | omega | (simp only [List.length_cons, List.length_nil]; first | done | omega)) only [go_sem, beq_nil_len]) | (refine allI (fun b => ?_)) | (refine allT (fun τ => ?_)) | (refine brP (fun h => ?_) (fun h => ?_) <;> (try simp only [zgx, zbx] at h)) | (apply And.intro; focus (first | omega | (simp; done) | (simp +contextual; done) | (intros; and_intros <;> first | assumption | omega) | (intros; simp_all; done) | (intro hgd; refine ⟨hgd, ?_⟩; simp [hgd]; done) | (intro hgd; simp only [zgx] at hgd ⊢; omega))) | fail)
  · have : nmP s = false := by
      rw [hR]
      simp only [Bool.and_eq_false_iff, decide_eq_false_iff_not]
      exact .inl (.inl (by omega))
    rw [this]
  · have hlen : 1 ≤ s.length ∧ s.length ≤ 16 := by omega
    refine loopI (ι := Nat) (fun k => (k ≤ s.length ∧ (s.take k).all nmU = true) ∧ (0 < k → lowU (s.getD 0 0) = true)) (fun k => [(3, .int .i64 k), (0, .str s)]) (fun _ => []) (fun k => s.length - k) 0 ⟨⟨by omega, by simp⟩, fun h => by omega⟩ (Ents.envH (by simp [go_sem]) rfl) ?_
    rintro k ⟨⟨hk, hn⟩, hlo⟩
    simp (disch := first | omega | (simp only [List.length_cons, List.length_nil]; first | done | omega)) only [go_sem]
    refine brP (fun hb => ?_) (fun hb => ?_)
    · have hk2 : k < s.length := by simpa using hb
      have ha := all_takeB nmU 0 s hk2
      have hf := fun h => all_false (p := nmU) (d := 0) hk2 h
      have hz : k = 0 → s.getD k 0 = s.getD 0 0 := fun h => by rw [h]
      generalize hc : s.getD k 0 = c at *
      have hlw : lowU c = (decide ((97 : Int) ≤ c.toNat) && decide ((c.toNat : Int) ≤ 122)) := by
        simp only [lowU]
        congr 1 <;> (rw [decide_eq_decide]; omega)
      have hnm : nmU c = ((decide ((97 : Int) ≤ c.toNat) && decide ((c.toNat : Int) ≤ 122)) || (decide ((48 : Int) ≤ c.toNat) && decide ((c.toNat : Int) ≤ 57)) || ((c.toNat : Int) == 95)) := by
        simp only [nmU, hlw]
        congr 1
        · congr 1
          congr 1 <;> (rw [decide_eq_decide]; omega)
        · rw [Bool.eq_iff_iff]; simp only [decide_eq_true_eq, beq_iff_eq]; omega
      repeat' (first | (simp (disch := first | omega | (simp only [List.length_cons, List.length_nil]; first | done | omega)) only [go_sem, hc]) | (refine allI (fun b => ?_)) | (refine allT (fun τ => ?_)) | (refine brP (fun h => ?_) (fun h => ?_) <;> (try simp only [zgx, zbx] at h)) | (apply And.intro; focus (first | omega | (simp; done) | (simp +contextual; done) | (intros; and_intros <;> first | assumption | omega) | (intros; simp_all; done) | (intro hgd; refine ⟨hgd, ?_⟩; simp [hgd]; done) | (intro hgd; simp only [zgx] at hgd ⊢; omega))) | fail)
      generalize (decide ((97 : Int) ≤ c.toNat) && decide ((c.toNat : Int) ≤ 122)) = L at *
      generalize (decide ((48 : Int) ≤ c.toNat) && decide ((c.toNat : Int) ≤ 57)) = D at *
      generalize ((c.toNat : Int) == 95) = U at *
      refine ⟨fun h => ⟨h, fun h2 => by rw [h, h2]; rfl⟩, fun h => ⟨h, fun h2 => by rw [h, h2]; rfl⟩, brP (fun hb2 => ?_) (fun hb2 => ?_)⟩
      · have : nmP s = false := by
          by_cases h0 : k = 0
          · have hl : lowU c = false := by
              rw [hlw]
              cases L <;> simp_all
            rw [hR, ← hz h0, hl]; simp
          · have hk0 : decide (0 < (k : Int)) = true := decide_eq_true (by omega)
            have hl : nmU c = false := by
              rw [hnm]
              rw [hk0] at hb2
              cases L <;> cases D <;> cases U <;> simp_all
            rw [hR, hf hl]; simp
        repeat' (first | (simp (disch := first | omega | (simp only [List.length_cons, List.length_nil]; first | done | omega)) only [go_sem]) | (refine allI (fun b => ?_)) | (refine allT (fun τ => ?_)) | (refine brP (fun h => ?_) (fun h => ?_) <;> (try simp only [zgx, zbx] at h)) | (apply And.intro; focus (first | omega | (simp; done) | (simp +contextual; done) | (intros; and_intros <;> first | assumption | omega) | (intros; simp_all; done) | (intro hgd; refine ⟨hgd, ?_⟩; simp [hgd]; done) | (intro hgd; simp only [zgx] at hgd ⊢; omega))) | fail)
        rw [this]
      · have hl : nmU c = true := by
          rw [hnm]
          cases L <;> cases D <;> cases U <;> simp_all
        have hl2 : k = 0 → lowU c = true := fun h => by
          rw [hlw]
          subst h
          cases L <;> simp_all
        repeat' (first | (simp (disch := first | omega | (simp only [List.length_cons, List.length_nil]; first | done | omega)) only [go_sem]) | (refine allI (fun b => ?_)) | (refine allT (fun τ => ?_)) | (refine brP (fun h => ?_) (fun h => ?_) <;> (try simp only [zgx, zbx] at h)) | (apply And.intro; focus (first | omega | (simp; done) | (simp +contextual; done) | (intros; and_intros <;> first | assumption | omega) | (intros; simp_all; done) | (intro hgd; refine ⟨hgd, ?_⟩; simp [hgd]; done) | (intro hgd; simp only [zgx] at hgd ⊢; omega))) | fail)
        refine ⟨⟨k + 1, ⟨by omega, by rw [ha, hn, hl]; rfl⟩, fun _ => ?_⟩, by dsimp only; omega, Ents.envH (by simp [go_sem]) rfl⟩
        by_cases h0 : k = 0
        · rw [← hz h0]; exact hl2 h0
        · exact hlo (by omega)
    · have hke : k = s.length := by simp only [decide_eq_false_iff_not] at hb; omega
      rw [hke, List.take_length] at hn
      repeat' (first | (simp (disch := first | omega | (simp only [List.length_cons, List.length_nil]; first | done | omega)) only [go_sem]) | (refine allI (fun b => ?_)) | (refine allT (fun τ => ?_)) | (refine brP (fun h => ?_) (fun h => ?_) <;> (try simp only [zgx, zbx] at h)) | (apply And.intro; focus (first | omega | (simp; done) | (simp +contextual; done) | (intros; and_intros <;> first | assumption | omega) | (intros; simp_all; done) | (intro hgd; refine ⟨hgd, ?_⟩; simp [hgd]; done) | (intro hgd; simp only [zgx] at hgd ⊢; omega))) | fail)
      rw [hR, hn, hlo (by omega)]
      simp; omega
theorem chkpR (p : Pr) : Pure Tryd.prog gl 77 [.agg (PrC p)] (.int .i64 (chkPr p)) := by
  refine fn_pureT Tryd.func77 t77 Tryd.ntmps77 (by simp) ?_
  unfold c77 r77
  rw [PrC_eq]
  repeat' (first | (simp (disch := first | omega | (simp only [List.length_cons, List.length_nil]; first | done | omega)) only [go_sem, bne_nil_len]) | (refine allI (fun b => ?_)) | (refine allT (fun τ => ?_)) | (refine brP (fun h => ?_) (fun h => ?_) <;> (try simp only [zgx, zbx] at h)) | refine call_U (properR _) ?_ | refine callG_U (fun _ => properR _) ?_ | refine call_T (properR _) ?_ | refine callG_T (fun _ => properR _) ?_ | refine call_N (properR _) ?_ | refine call_of (properR _) ?_ | refine callG_of (fun _ => properR _) ?_ | (apply And.intro; focus (first | omega | (simp; done) | (simp +contextual; done) | (intros; and_intros <;> first | assumption | omega) | (intros; simp_all; done) | (intro hgd; refine ⟨hgd, ?_⟩; simp [hgd]; done) | (intro hgd; simp only [zgx] at hgd ⊢; omega))) | fail)
  all_goals
    simp only [chkPr]
    grind
theorem find_name (t : Int) : (tyT.find? fun x => x.2.1 == t).isSome = decide (nameS t ≠ []) := by
  unfold nameS rowT
  cases h : tyT.find? fun x => x.2.1 == t with
  | none => rfl
  | some x =>
    have hx := List.mem_of_find?_eq_some h
    have : ∀ y ∈ tyT, y.1 ≠ [] := by decide
    have h2 := this x hx
    simp [h2]
theorem chkrR (r : Rc) : Pure Tryd.prog gl 61 [.agg (RcC r)] (.int .i64 (chkRc r)) := by
  refine fn_pureT Tryd.func61 t61 Tryd.ntmps61 (by simp) ?_
  have hle := len_pr r.ps
  have hR : chkRc r = if nameS r.ty = [] then 30 else if (r.ti < 0 ∨ 1099511627776 < r.ti) ∨ (r.se < 0 ∨ 1073741824 < r.se) then 31 else if 24 < r.ps.length then 32 else chkN r.ps r.ps.length := rfl
  have hfn := findB r.ty
  rw [find_name, TyC_eq] at hfn
  unfold c61 r61
  rw [RcC_eq]
  repeat' (first | (simp (disch := first | omega | (simp only [List.length_cons, List.length_nil]; first | done | omega)) only [go_sem, zTy]) | (refine allI (fun b => ?_)) | (refine allT (fun τ => ?_)) | (refine brP (fun h => ?_) (fun h => ?_) <;> (try simp only [zgx, zbx] at h)) | refine call_U (hfn) ?_ | refine callG_U (fun _ => hfn) ?_ | refine call_T (hfn) ?_ | refine callG_T (fun _ => hfn) ?_ | refine call_N (hfn) ?_ | refine call_of (hfn) ?_ | refine callG_of (fun _ => hfn) ?_ | (apply And.intro; focus (first | omega | (simp; done) | (simp +contextual; done) | (intros; and_intros <;> first | assumption | omega) | (intros; simp_all; done) | (intro hgd; refine ⟨hgd, ?_⟩; simp [hgd]; done) | (intro hgd; simp only [zgx] at hgd ⊢; omega))) | fail)
  · rw [hR, if_pos (by simpa using h)]
  · rw [hR, if_neg (by simpa using ‹_›), if_pos (by omega)]
  · rw [hR, if_neg (by simpa using ‹_›), if_neg (by omega), if_pos (by omega)]
  · rename_i b1 h1 h2
    have hR : chkRc r = chkN r.ps r.ps.length := by rw [hR, if_neg (by simpa using h1), if_neg (by omega), if_neg (by omega)]
    refine loopI (ι := Nat) (fun n => n ≤ r.ps.length ∧ chkN r.ps n = 0) (fun n => [(5, .int .i64 n), (1, .ptr 1 b1 0)]) (fun _ => [(1, .blk b1 [.int .i64 r.ty, .int .i64 r.ti, .int .i64 r.se, .sl 4 r.ps.length (r.ps.flatMap PrC)])]) (fun n => r.ps.length - n) 0 ⟨by omega, rfl⟩ (Ents.sub (by simp [go_sem]) ⟨_, .cons _ (List.Sublist.refl _), List.Perm.refl _⟩) ?_
    rintro n ⟨hn, hc⟩
    simp (disch := first | omega | (simp only [List.length_cons, List.length_nil]; first | done | omega)) only [go_sem]
    refine brP (fun hb => ?_) (fun hb => ?_)
    · have hn2 : n < r.ps.length := by simpa using hb
      have e2 : ((r.ps.flatMap PrC).drop (n * 4)).take 4 = PrC (r.ps.getD n pr0) := take_rows (f := PrC) (fun _ => rfl) pr0 _ hn2
      have g0 := getD_rows (f := PrC) (w := 4) (fun _ => rfl) (j := 0) (by omega) pr0 r.ps n hn2
      have hs : chkN r.ps (n + 1) = if chkPr (r.ps.getD n pr0) ≠ 0 then chkPr (r.ps.getD n pr0) else if dupB r.ps n n = true then 33 else 0 := by rw [chkN, if_neg (by omega)]
      have hck := chkpR (r.ps.getD n pr0)
      generalize hp : r.ps.getD n pr0 = p at *
      rw [PrC_eq] at e2 hck g0
      simp only [List.getD_cons_zero, Nat.add_zero] at g0
      repeat' (first | (simp (disch := first | omega | (simp only [List.length_cons, List.length_nil]; first | done | omega)) only [go_sem, e2, zPr]) | (refine allI (fun b => ?_)) | (refine allT (fun τ => ?_)) | (refine brP (fun h => ?_) (fun h => ?_) <;> (try simp only [zgx, zbx] at h)) | refine call_U (hck) ?_ | refine callG_U (fun _ => hck) ?_ | refine call_T (hck) ?_ | refine callG_T (fun _ => hck) ?_ | refine call_N (hck) ?_ | refine call_of (hck) ?_ | refine callG_of (fun _ => hck) ?_ | (apply And.intro; focus (first | omega | (simp; done) | (simp +contextual; done) | (intros; and_intros <;> first | assumption | omega) | (intros; simp_all; done) | (intro hgd; refine ⟨hgd, ?_⟩; simp [hgd]; done) | (intro hgd; simp only [zgx] at hgd ⊢; omega))) | fail)
      · rw [if_pos h] at hs
        rw [hR, chkN_err (n := n + 1) (by rw [hs]; exact h) _ (by omega), hs]
      · have h0 : chkPr p = 0 := by simpa using h
        rw [if_neg (by omega)] at hs
        refine loopI (ι := Nat) (fun j => j ≤ n ∧ dupB r.ps n j = false) (fun j => [(7, .int .i64 j), (5, .int .i64 n), (1, .ptr 1 b1 0)]) (fun _ => [(1, .blk b1 [.int .i64 r.ty, .int .i64 r.ti, .int .i64 r.se, .sl 4 r.ps.length (r.ps.flatMap PrC)])]) (fun j => n - j) 0 ⟨by omega, rfl⟩ (Ents.envH (by simp [go_sem]) rfl) ?_
        rintro j ⟨hj, hd⟩
        simp (disch := first | omega | (simp only [List.length_cons, List.length_nil]; first | done | omega)) only [go_sem]
        refine brP (fun hb2 => ?_) (fun hb2 => ?_)
        · have hj2 : j < n := by simpa using hb2
          have g3 := getD_rows (f := PrC) (w := 4) (fun _ => rfl) (j := 0) (by omega) pr0 r.ps j (by omega)
          have hds := dupB_succ r.ps n j
          rw [hp] at hds
          have hdm : (r.ps.getD j pr0).n = p.n → dupB r.ps n n = true := fun e => by
            rw [dupB, List.any_eq_true]
            exact ⟨j, List.mem_range.2 hj2, by rw [hp, e]; simp⟩
          generalize r.ps.getD j pr0 = q at *
          rw [PrC_eq] at g3
          simp only [List.getD_cons_zero, Nat.add_zero] at g3
          repeat' (first | (simp (disch := first | omega | (simp only [List.length_cons, List.length_nil]; first | done | omega)) only [go_sem, g0, g3]) | (refine allI (fun b => ?_)) | (refine allT (fun τ => ?_)) | (refine brP (fun h => ?_) (fun h => ?_) <;> (try simp only [zgx, zbx] at h)) | (apply And.intro; focus (first | omega | (simp; done) | (simp +contextual; done) | (intros; and_intros <;> first | assumption | omega) | (intros; simp_all; done) | (intro hgd; refine ⟨hgd, ?_⟩; simp [hgd]; done) | (intro hgd; simp only [zgx] at hgd ⊢; omega))) | fail)
          · have h9 := hdm h
            rw [if_pos h9] at hs
            rw [hR, chkN_err (n := n + 1) (by rw [hs]; simp) _ (by omega), hs]
          · exact ⟨⟨j + 1, by omega, by rw [hds, hd]; simpa using h⟩, by dsimp only; omega, Ents.sub (by simp [go_sem]) ⟨_, List.Sublist.refl _, List.Perm.refl _⟩⟩
        · have hje : j = n := by simp only [decide_eq_false_iff_not] at hb2; omega
          rw [hje] at hd
          rw [if_neg (by rw [hd]; simp)] at hs
          repeat' (first | (simp (disch := first | omega | (simp only [List.length_cons, List.length_nil]; first | done | omega)) only [go_sem]) | (refine allI (fun b => ?_)) | (refine allT (fun τ => ?_)) | (refine brP (fun h => ?_) (fun h => ?_) <;> (try simp only [zgx, zbx] at h)) | (apply And.intro; focus (first | omega | (simp; done) | (simp +contextual; done) | (intros; and_intros <;> first | assumption | omega) | (intros; simp_all; done) | (intro hgd; refine ⟨hgd, ?_⟩; simp [hgd]; done) | (intro hgd; simp only [zgx] at hgd ⊢; omega))) | fail)
          exact ⟨⟨n + 1, by omega, hs⟩, by dsimp only; omega, Ents.sub (by simp [go_sem]) ⟨_, List.Sublist.refl _, List.Perm.refl _⟩⟩
    · have hne : n = r.ps.length := by simp only [decide_eq_false_iff_not] at hb; omega
      repeat' (first | (simp (disch := first | omega | (simp only [List.length_cons, List.length_nil]; first | done | omega)) only [go_sem]) | (refine allI (fun b => ?_)) | (refine allT (fun τ => ?_)) | (refine brP (fun h => ?_) (fun h => ?_) <;> (try simp only [zgx, zbx] at h)) | (apply And.intro; focus (first | omega | (simp; done) | (simp +contextual; done) | (intros; and_intros <;> first | assumption | omega) | (intros; simp_all; done) | (intro hgd; refine ⟨hgd, ?_⟩; simp [hgd]; done) | (intro hgd; simp only [zgx] at hgd ⊢; omega))) | fail)
      rw [hR, ← hne, hc]
theorem getR (r : Rc) (nm : List UInt8) (hr : r.ps.length ≤ 281474976710656) : Pure Tryd.prog gl 78 [.agg (RcC r), .str nm] (.tup [.agg (PrC (getP r.ps nm)), .bool (getO r.ps nm).isSome]) := by
  refine fn_pureT Tryd.func78 t78 Tryd.ntmps78 (by simp) ?_
  have hle := len_pr r.ps
  unfold c78 r78
  rw [RcC_eq]
  repeat' (first | (simp (disch := first | omega | (simp only [List.length_cons, List.length_nil]; first | done | omega)) only [go_sem, zPr]) | (refine allI (fun b => ?_)) | (refine allT (fun τ => ?_)) | (refine brP (fun h => ?_) (fun h => ?_) <;> (try simp only [zgx, zbx] at h)) | (apply And.intro; focus (first | omega | (simp; done) | (simp +contextual; done) | (intros; and_intros <;> first | assumption | omega) | (intros; simp_all; done) | (intro hgd; refine ⟨hgd, ?_⟩; simp [hgd]; done) | (intro hgd; simp only [zgx] at hgd ⊢; omega))) | fail)
  refine loopI (ι := Nat) (fun n => n ≤ r.ps.length ∧ ∀ j, j < n → (r.ps.getD j pr0).n ≠ nm) (fun n => (6, .int .i64 n) :: _) (fun _ => _) (fun n => r.ps.length - n) 0 ⟨by omega, fun j hj => absurd hj (by omega)⟩ Ents.same ?_
  rintro n ⟨hn, hno⟩
  simp (disch := first | omega | (simp only [List.length_cons, List.length_nil]; first | done | omega)) only [go_sem]
  refine brP (fun hb => ?_) (fun hb => ?_)
  · have hn2 : n < r.ps.length := by simpa using hb
    have e2 := take_rows (f := PrC) (w := 4) (fun _ => rfl) pr0 r.ps hn2
    have g0 := getD_rows (f := PrC) (w := 4) (fun _ => rfl) (j := 0) (by omega) pr0 r.ps n hn2
    have hi := getO_is (nm := nm) hn2
    generalize hp : r.ps.getD n pr0 = p at *
    rw [PrC_eq] at e2 g0
    simp only [List.getD_cons_zero, Nat.add_zero] at g0
    repeat' (first | (simp (disch := first | omega | (simp only [List.length_cons, List.length_nil]; first | done | omega)) only [go_sem, e2, g0, zPr]) | (refine allI (fun b => ?_)) | (refine allT (fun τ => ?_)) | (refine brP (fun h => ?_) (fun h => ?_) <;> (try simp only [zgx, zbx] at h)) | (apply And.intro; focus (first | omega | (simp; done) | (simp +contextual; done) | (intros; and_intros <;> first | assumption | omega) | (intros; simp_all; done) | (intro hgd; refine ⟨hgd, ?_⟩; simp [hgd]; done) | (intro hgd; simp only [zgx] at hgd ⊢; omega))) | fail)
    · have ho := hi h hno
      rw [getP, ho]
      exact leV.of_eq (by simp [PrC_eq])
    · exact ⟨⟨n + 1, by omega, fun j hj => (by omega : j < n ∨ j = n).elim (hno j) fun e => by rw [e, hp]; exact h⟩, by dsimp only; omega, Ents.envH (by simp [go_sem]) rfl⟩
  · have hne : n = r.ps.length := by simp only [decide_eq_false_iff_not] at hb; omega
    have ho := getO_no (nm := nm) (ps := r.ps) fun j hj => hno j (by omega)
    repeat' (first | (simp (disch := first | omega | (simp only [List.length_cons, List.length_nil]; first | done | omega)) only [go_sem, zPr]) | (refine allI (fun b => ?_)) | (refine allT (fun τ => ?_)) | (refine brP (fun h => ?_) (fun h => ?_) <;> (try simp only [zgx, zbx] at h)) | (apply And.intro; focus (first | omega | (simp; done) | (simp +contextual; done) | (intros; and_intros <;> first | assumption | omega) | (intros; simp_all; done) | (intro hgd; refine ⟨hgd, ?_⟩; simp [hgd]; done) | (intro hgd; simp only [zgx] at hgd ⊢; omega))) | fail)
    rw [getP, ho]
    exact leV.of_eq (by simp [PrC_eq, pr0])
theorem numbersR (r : Rc) (hr : r.ps.length ≤ 281474976710656) : Pure Tryd.prog gl 62 [.agg (RcC r)] (.bool ((getP r.ps nFirst).k == 1 && (getP r.ps nLast).k == 1)) := by
  refine fn_pureT Tryd.func62 t62 Tryd.ntmps62 (by simp) ?_
  have h1 := getR r nFirst hr
  have h2 := getR r nLast hr
  unfold c62 r62
  rw [RcC_eq] at *
  rw [PrC_eq] at h1 h2
  generalize getP r.ps nFirst = p at *
  generalize getP r.ps nLast = q at *
  repeat' (first | (simp (disch := first | omega | (simp only [List.length_cons, List.length_nil]; first | done | omega)) only [go_sem, zPr]) | (refine allI (fun b => ?_)) | (refine allT (fun τ => ?_)) | (refine brP (fun h => ?_) (fun h => ?_) <;> (try simp only [zgx, zbx] at h)) | refine call_U (h1) ?_ | refine callG_U (fun _ => h1) ?_ | refine call_T (h1) ?_ | refine callG_T (fun _ => h1) ?_ | refine call_U (h2) ?_ | refine callG_U (fun _ => h2) ?_ | refine call_T (h2) ?_ | refine callG_T (fun _ => h2) ?_ | refine call_N (h1) ?_ | refine call_of (h1) ?_ | refine callG_of (fun _ => h1) ?_ | refine call_N (h2) ?_ | refine call_of (h2) ?_ | refine callG_of (fun _ => h2) ?_ | (apply And.intro; focus (first | omega | (simp; done) | (simp +contextual; done) | (intros; and_intros <;> first | assumption | omega) | (intros; simp_all; done) | (intro hgd; refine ⟨hgd, ?_⟩; simp [hgd]; done) | (intro hgd; simp only [zgx] at hgd ⊢; omega))) | fail)
theorem numR (r : Rc) (nm : List UInt8) (hr : r.ps.length ≤ 281474976710656) : Pure Tryd.prog gl 63 [.agg (RcC r), .str nm] (.int .i64 (getP r.ps nm).v) := by
  refine fn_pureT Tryd.func63 t63 Tryd.ntmps63 (by simp) ?_
  have h1 := getR r nm hr
  unfold c63 r63
  rw [RcC_eq] at *
  rw [PrC_eq] at h1
  repeat' (first | (simp (disch := first | omega | (simp only [List.length_cons, List.length_nil]; first | done | omega)) only [go_sem, zPr]) | (refine allI (fun b => ?_)) | (refine allT (fun τ => ?_)) | (refine brP (fun h => ?_) (fun h => ?_) <;> (try simp only [zgx, zbx] at h)) | refine call_U (h1) ?_ | refine callG_U (fun _ => h1) ?_ | refine call_T (h1) ?_ | refine callG_T (fun _ => h1) ?_ | refine call_N (h1) ?_ | refine call_of (h1) ?_ | refine callG_of (fun _ => h1) ?_ | (apply And.intro; focus (first | omega | (simp; done) | (simp +contextual; done) | (intros; and_intros <;> first | assumption | omega) | (intros; simp_all; done) | (intro hgd; refine ⟨hgd, ?_⟩; simp [hgd]; done) | (intro hgd; simp only [zgx] at hgd ⊢; omega))) | fail)
end Go.Proofs.YtfheeghkajihoaaDoor

/- Layer 22: a record is taken (the reference). -/
namespace Go.Proofs.YtfheeghkajihoaaDoor
open Go Go.Lx
set_option linter.unusedSimpArgs false
set_option linter.unusedVariables false
set_option maxRecDepth 100000
set_option maxHeartbeats 4000000

theorem chkN_le {ps : List Pr} : ∀ {n : Nat}, chkN ps n = 0 → ∀ j, j < n → chkPr (ps.getD j pr0) = 0
  | 0, _, j, hj => by omega
  | n + 1, h, j, hj => by
    have h1 : chkN ps n = 0 := by
      rw [chkN] at h
      split at h
      · exact h
      · rename_i hn; simpa using hn
    rcases Nat.lt_or_ge j n with h2 | h2
    · exact chkN_le h1 j h2
    · rw [show j = n by omega]
      rw [chkN, if_neg (by omega)] at h
      split at h
      · exact h
      · rename_i hn; simpa using hn
/-- a pair of a record without errors that is no number has the number 0 -/
theorem chk_num {r : Rc} (h : chkRc r = 0) (nm : List UInt8) : (getP r.ps nm).k ≠ 1 → (getP r.ps nm).v = 0 := by
  intro hk
  unfold getP at hk ⊢
  cases ho : getO r.ps nm with
  | none => rfl
  | some p =>
    rw [ho] at hk
    obtain ⟨i, hi, rfl⟩ := List.mem_iff_getElem.1 (List.mem_of_find?_eq_some ho)
    have hc : chkN r.ps r.ps.length = 0 := by
      unfold chkRc at h
      grind
    have := chkN_le hc i hi
    simp only [List.getD, hi, List.getElem?_eq_getElem, Option.getD_some] at this hk ⊢
    simp only [chkPr] at this
    grind
theorem numS_eq {r : Rc} (h : chkRc r = 0) (nm : List UInt8) : numS r.ps nm = ((getP r.ps nm).v, (getP r.ps nm).k == 1) := by
  have h2 := chk_num h nm
  unfold numS
  by_cases hk : (getP r.ps nm).k = 1
  · have : (getO r.ps nm).isSome = true := by
      unfold getP at hk
      cases ho : getO r.ps nm with
      | none => rw [ho] at hk; simp [pr0] at hk
      | some p => rfl
    rw [if_pos ⟨this, hk⟩, hk]; rfl
  · rw [if_neg (fun hh => hk hh.2), h2 hk, beq_eq_false_iff_ne.2 hk]
/-- what the reference reads out of a LOSS record -/
def lossR (r : Rc) : Ls := ⟨(getP r.ps nFirst).v, (getP r.ps nLast).v, (getP r.ps nRated).v, (getP r.ps nFull).v, (getP r.ps nStalled).v⟩
theorem covL_R {r : Rc} (h : chkRc r = 0) : covL r = if (r.ty = 1331 ∧ ((getP r.ps nFirst).k == 1 && (getP r.ps nLast).k == 1) = true) ∧ (1 ≤ (lossR r).f ∧ (lossR r).f ≤ (lossR r).l ∧ (lossR r).l < r.se) then [lossR r] else [] := by
  by_cases hc : (r.ty = 1331 ∧ ((getP r.ps nFirst).k == 1 && (getP r.ps nLast).k == 1) = true) ∧ (1 ≤ (lossR r).f ∧ (lossR r).f ≤ (lossR r).l ∧ (lossR r).l < r.se)
  · have h1 : covS r = some (lossR r) := by
      unfold covS
      simp only [numS_eq h, lossR] at hc ⊢
      exact if_neg (by grind)
    rw [if_pos hc]; unfold covL; rw [h1]
  · have h1 : covS r = none := by
      unfold covS
      simp only [numS_eq h, lossR] at hc ⊢
      exact if_pos (by grind)
    rw [if_neg hc]; unfold covL; rw [h1]
theorem rcompW (x : Ev × Tok) (he : x.1.rs.length ≤ 281474976710656) : Pure Tryd.prog gl 14 [.agg (EwC x)] (.bool (compS x.1.rs)) :=
  LCalls.args (rcomp x.1 he) ⟨leV.agg ⟨leV.refl _, leV.refl _, leV.refl _, leV.osl_sl _ _ _ _ _, leV.refl _, trivial⟩, trivial⟩
theorem rtake0 (k : Wk) (r : Rc) (hl : k.ws.length ≤ 1000000000) (j : Nat) (hj : j < k.ws.length) (hi : heldI k.ws r.se = j) (hs : strayS k.a.nx (some (k.ws.getD j ew0).1) r = true) (hb : 0 ≤ k.a.st ∧ k.a.st ≤ 1000000000000) :
    LCalls Tryd.prog gl 37 [.ptr 50 k.b 0, .agg (RcC r)] [(50, .blk k.b (RkC k)), (60, .blk k.bO (BO k))] fun x H => x = .tup [] ∧ H = [(50, .blk k.b (RkC k.stray)), (60, .blk k.bO (BO k))] := by
  refine fn_viewT Tryd.func37 t37 Tryd.ntmps37 (by simp) ?_
  have hh := heldR k r.se hl
  have hle := len_ew k.ws
  have hlo := length_Sp (k.ws.flatMap EwC) ((k.cO - k.ws.length) * 5)
  have g4 := gd_sp (f := EwC) (w := 5) (fun _ => rfl) (j := 4) (by omega) ew0 k.ws j ((k.cO - k.ws.length) * 5) hj
  rw [EwC_eq] at g4
  simp only [List.getD_cons_zero, List.getD_cons_succ] at g4
  rw [hi] at hh
  have hc := chkrR r
  have hsg := rsingle r.ty
  have hR : strayS k.a.nx (some (k.ws.getD j ew0).1) r = (decide (chkRc r ≠ 0) || (decide (r.se = 0) || (decide (r.se < k.a.nx) || ((k.ws.getD j ew0).1.co || singS r.ty)))) := rfl
  rw [hs] at hR
  generalize (k.ws.getD j ew0).1.co = co at *
  generalize chkRc r = C at *
  generalize singS r.ty = S at *
  unfold c37 r37
  rw [RkC_eq, BO] at *
  rw [RcC_eq] at *
  repeat' (first | (simp (disch := first | omega | (simp only [List.length_cons, List.length_nil]; first | done | omega)) only [go_sem]) | (refine allI (fun b => ?_)) | (refine allT (fun τ => ?_)) | (refine brP (fun h => ?_) (fun h => ?_) <;> (try simp only [zgx, zbx] at h)) | (apply And.intro; focus (first | omega | (simp; done) | (simp +contextual; done) | (intros; and_intros <;> first | assumption | omega) | (intros; simp_all; done) | (intro hgd; refine ⟨hgd, ?_⟩; simp [hgd]; done) | (intro hgd; simp only [zgx] at hgd ⊢; omega))) | fail)
  first | refine actsQ_U (hh) (pick_perm rfl (pick_perm rfl (List.Perm.refl _))) ?_ | refine actsQ_T (hh) (pick_perm rfl (pick_perm rfl (List.Perm.refl _))) ?_ | refine actsQ_N (hh) (pick_perm rfl (pick_perm rfl (List.Perm.refl _))) ?_ | refine actsQ_of (hh) (pick_perm rfl (pick_perm rfl (List.Perm.refl _))) ?_
  rintro _ _ ⟨rfl, rfl⟩
  repeat' (first | (simp (disch := first | omega | (simp only [List.length_cons, List.length_nil]; first | done | omega)) only [go_sem, g4]) | (refine allI (fun b => ?_)) | (refine allT (fun τ => ?_)) | (refine brP (fun h => ?_) (fun h => ?_) <;> (try simp only [zgx, zbx] at h)) | refine call_U (hc) ?_ | refine callG_U (fun _ => hc) ?_ | refine call_T (hc) ?_ | refine callG_T (fun _ => hc) ?_ | refine call_U (hsg) ?_ | refine callG_U (fun _ => hsg) ?_ | refine call_T (hsg) ?_ | refine callG_T (fun _ => hsg) ?_ | refine call_N (hc) ?_ | refine call_of (hc) ?_ | refine callG_of (fun _ => hc) ?_ | refine call_N (hsg) ?_ | refine call_of (hsg) ?_ | refine callG_of (fun _ => hsg) ?_ | (apply And.intro; focus (first | omega | (simp; done) | (simp +contextual; done) | (intros; and_intros <;> first | assumption | omega) | (intros; simp_all; done) | (intro hgd; refine ⟨hgd, ?_⟩; simp [hgd]; done) | (intro hgd; simp only [zgx] at hgd ⊢; omega))) | fail)
  · exact ⟨_, _, leVH.of (leV.refl _) ⟨_, .cons_cons _ (.cons_cons _ (.cons _ (List.nil_sublist _))), List.Perm.refl _⟩, rfl, rfl⟩
  · exfalso
    grind
theorem rtake0n (k : Wk) (r : Rc) (hl : k.ws.length ≤ 1000000000) (hi : heldI k.ws r.se = -1) (hs : strayS k.a.nx none r = true) (hb : 0 ≤ k.a.st ∧ k.a.st ≤ 1000000000000) :
    LCalls Tryd.prog gl 37 [.ptr 50 k.b 0, .agg (RcC r)] [(50, .blk k.b (RkC k)), (60, .blk k.bO (BO k))] fun x H => x = .tup [] ∧ H = [(50, .blk k.b (RkC k.stray)), (60, .blk k.bO (BO k))] := by
  refine fn_viewT Tryd.func37 t37 Tryd.ntmps37 (by simp) ?_
  have hh := heldR k r.se hl
  have hle := len_ew k.ws
  have hlo := length_Sp (k.ws.flatMap EwC) ((k.cO - k.ws.length) * 5)
  rw [hi] at hh
  have hc := chkrR r
  have hsg := rsingle r.ty
  have hR : strayS k.a.nx none r = (decide (chkRc r ≠ 0) || (decide (r.se = 0) || (decide (r.se < k.a.nx) || false))) := rfl
  rw [hs] at hR
  generalize chkRc r = C at *
  generalize singS r.ty = S at *
  unfold c37 r37
  rw [RkC_eq, BO] at *
  rw [RcC_eq] at *
  repeat' (first | (simp (disch := first | omega | (simp only [List.length_cons, List.length_nil]; first | done | omega)) only [go_sem]) | (refine allI (fun b => ?_)) | (refine allT (fun τ => ?_)) | (refine brP (fun h => ?_) (fun h => ?_) <;> (try simp only [zgx, zbx] at h)) | (apply And.intro; focus (first | omega | (simp; done) | (simp +contextual; done) | (intros; and_intros <;> first | assumption | omega) | (intros; simp_all; done) | (intro hgd; refine ⟨hgd, ?_⟩; simp [hgd]; done) | (intro hgd; simp only [zgx] at hgd ⊢; omega))) | fail)
  first | refine actsQ_U (hh) (pick_perm rfl (pick_perm rfl (List.Perm.refl _))) ?_ | refine actsQ_T (hh) (pick_perm rfl (pick_perm rfl (List.Perm.refl _))) ?_ | refine actsQ_N (hh) (pick_perm rfl (pick_perm rfl (List.Perm.refl _))) ?_ | refine actsQ_of (hh) (pick_perm rfl (pick_perm rfl (List.Perm.refl _))) ?_
  rintro _ _ ⟨rfl, rfl⟩
  repeat' (first | (simp (disch := first | omega | (simp only [List.length_cons, List.length_nil]; first | done | omega)) only [go_sem, gB_no, pick_no]) | (refine allI (fun b => ?_)) | (refine allT (fun τ => ?_)) | (refine brP (fun h => ?_) (fun h => ?_) <;> (try simp only [zgx, zbx] at h)) | refine call_U (hc) ?_ | refine callG_U (fun _ => hc) ?_ | refine call_T (hc) ?_ | refine callG_T (fun _ => hc) ?_ | refine call_U (hsg) ?_ | refine callG_U (fun _ => hsg) ?_ | refine call_T (hsg) ?_ | refine callG_T (fun _ => hsg) ?_ | refine call_N (hc) ?_ | refine call_of (hc) ?_ | refine callG_of (fun _ => hc) ?_ | refine call_N (hsg) ?_ | refine call_of (hsg) ?_ | refine callG_of (fun _ => hsg) ?_ | (apply And.intro; focus (first | omega | (simp; done) | (simp +contextual; done) | (intros; and_intros <;> first | assumption | omega) | (intros; simp_all; done) | (intro hgd; refine ⟨hgd, ?_⟩; simp [hgd]; done) | (intro hgd; simp only [zgx] at hgd ⊢; omega))) | fail)
  · exact ⟨_, _, leVH.of (leV.refl _) ⟨_, .cons_cons _ (.cons_cons _ (.cons _ (List.nil_sublist _))), List.Perm.refl _⟩, rfl, rfl⟩
  · exfalso
    grind
theorem rtake1 (k : Wk) (r : Rc) (hr : r.ps.length ≤ 1000000) (hl : k.ws.length ≤ 1000000000) (hL : k.a.ls.length ≤ 1000000000) (hcL : k.a.ls.length ≤ k.cL) (j : Nat) (hj : j < k.ws.length) (hn : (k.ws.getD j ew0).1.rs.length ≤ 1000000000) (hi : heldI k.ws r.se = j) (hs : strayS k.a.nx (some (k.ws.getD j ew0).1) r = false) :
    LCalls Tryd.prog gl 37 [.ptr 50 k.b 0, .agg (RcC r)] [(50, .blk k.b (RkC k)), (60, .blk k.bO (BO k)), (62, .blk k.bL (BL k)), (61, .tok (k.ws.getD j ew0).2)] fun x H => ∃ τ bL cL, (k.a.ls ++ covL r).length ≤ cL ∧ x = .tup [] ∧ H = [(50, .blk k.b (RkC (k.took (k.ws.set j (addR (k.ws.getD j ew0).1 r, τ)) r k.bO k.cO bL cL))), (60, .blk k.bO (BO (k.took (k.ws.set j (addR (k.ws.getD j ew0).1 r, τ)) r k.bO k.cO bL cL))), (62, .blk bL (BL (k.took (k.ws.set j (addR (k.ws.getD j ew0).1 r, τ)) r k.bO k.cO bL cL))), (61, .tok τ)] := by
  refine fn_viewT Tryd.func37 t37 Tryd.ntmps37 (by simp) ?_
  have hh := heldR k r.se hl
  have hle := len_ew k.ws
  have hlo := length_Sp (k.ws.flatMap EwC) ((k.cO - k.ws.length) * 5)
  have hlL := len_ls k.a.ls
  have hsL := length_Sp (k.a.ls.flatMap LsC) ((k.cL - k.a.ls.length) * 5)
  obtain ⟨P, R, p1, p2, p3⟩ := ew_rows k.ws j ((k.cO - k.ws.length) * 5) hj
  rw [hi] at hh
  have hc := chkrR r
  have hsg := rsingle r.ty
  have hstp := LCalls.args (args' := [.fsl 4 1 (RcC r), .int .i64 r.se]) (stampP r (by omega) r.se) ⟨leV.fsl_sl _ _ _, leV.refl _, trivial⟩
  change LCalls _ _ _ _ _ (fun r' H => r' = .sl 4 1 (RcC r) ∧ H = []) at hstp
  have hnu := numbersR r (by omega)
  have hnf := numR r nFirst (by omega)
  have hnl := numR r nLast (by omega)
  have hnr := numR r nRated (by omega)
  have hnt := numR r nFull (by omega)
  have hns := numR r nStalled (by omega)
  have hck : chkRc r = 0 := (stray_se hs).1
  have hcL := covL_R hck
  rw [lossR] at hcL
  have hR : strayS k.a.nx (some (k.ws.getD j ew0).1) r = (decide (chkRc r ≠ 0) || (decide (r.se = 0) || (decide (r.se < k.a.nx) || ((k.ws.getD j ew0).1.co || singS r.ty)))) := rfl
  rw [hs] at hR
  rw [hck] at hc
  obtain ⟨_, hs0, hsn⟩ := stray_se hs
  have dse : (r.se == 0) = false := beq_eq_false_iff_ne.2 hs0
  have dnx : decide (r.se < k.a.nx) = false := decide_eq_false (by omega)
  have dj : decide (0 ≤ (j : Int)) = true := decide_eq_true (by omega)
  have dj2 : decide ((j : Int) < 0) = false := decide_eq_false (by omega)
  generalize k.ws.getD j ew0 = q at *
  obtain ⟨e, τ⟩ := q
  dsimp only at *
  have hcm := fun τ' => rcompW ({ e with rs := e.rs ++ [r] }, τ') (by simp; omega)
  simp only [EwC_eq, List.length_append, List.length_singleton, List.flatMap_append, List.flatMap_singleton] at hcm
  generalize hcmp : compS (e.rs ++ [r]) = cm at *
  obtain ⟨hco, hS⟩ : e.co = false ∧ singS r.ty = false := by
    have h := hR.symm
    rw [Bool.or_eq_false_iff, Bool.or_eq_false_iff, Bool.or_eq_false_iff, Bool.or_eq_false_iff] at h
    exact h.2.2.2
  rw [hS] at hsg
  clear hR hs hck
  generalize (getP r.ps nFirst).v = vf at *
  generalize (getP r.ps nLast).v = vl at *
  generalize (getP r.ps nRated).v = vr at *
  generalize (getP r.ps nFull).v = vt at *
  generalize (getP r.ps nStalled).v = vs at *
  generalize ((getP r.ps nFirst).k == 1 && (getP r.ps nLast).k == 1) = nb at *
  rw [EwC_eq] at p2
  have hlp : (Sp (k.ws.flatMap EwC) ((k.cO - k.ws.length) * 5)).length = P.length + 5 + R.length := by rw [p2]; simp; omega
  unfold c37 r37
  rw [RkC_eq, BO, BL] at *
  rw [p2] at hh hlp ⊢
  simp only [List.cons_append, List.nil_append] at hh hlp p2 ⊢
  have g4 : (P ++ .int .i64 e.bo :: .int .i64 e.se :: .int .i64 e.ti :: .osl 61 τ 4 e.rs.length (e.rs.flatMap RcC) :: .bool e.co :: R).getD (j * 5 + 4) .any = .bool e.co := by
    rw [← p1]; simp [List.getD, List.getElem?_append_right]
  replace g4 := g4.trans (congrArg LV.bool hco)
  have g3 : (P ++ .int .i64 e.bo :: .int .i64 e.se :: .int .i64 e.ti :: .osl 61 τ 4 e.rs.length (e.rs.flatMap RcC) :: .bool e.co :: R).getD (j * 5 + 3) .any = .osl 61 τ 4 e.rs.length (e.rs.flatMap RcC) := by
    rw [← p1]; simp [List.getD, List.getElem?_append_right]
  have s3 : ∀ y, List.take (j * 5 + 3) (P ++ .int .i64 e.bo :: .int .i64 e.se :: .int .i64 e.ti :: .osl 61 τ 4 e.rs.length (e.rs.flatMap RcC) :: .bool e.co :: R) ++ [y] ++ List.drop (j * 5 + 3 + 1) (P ++ .int .i64 e.bo :: .int .i64 e.se :: .int .i64 e.ti :: .osl 61 τ 4 e.rs.length (e.rs.flatMap RcC) :: .bool e.co :: R) = P ++ .int .i64 e.bo :: .int .i64 e.se :: .int .i64 e.ti :: y :: .bool e.co :: R := fun y => by
    rw [← p1]; simp [List.take_length_add_append, List.drop_length_add_append, Nat.add_assoc]
  have s4 : ∀ y z, List.take (j * 5 + 4) (P ++ .int .i64 e.bo :: .int .i64 e.se :: .int .i64 e.ti :: y :: .bool e.co :: R) ++ [z] ++ List.drop (j * 5 + 4 + 1) (P ++ .int .i64 e.bo :: .int .i64 e.se :: .int .i64 e.ti :: y :: .bool e.co :: R) = P ++ .int .i64 e.bo :: .int .i64 e.se :: .int .i64 e.ti :: y :: z :: R := fun y z => by
    rw [← p1]; simp [List.take_length_add_append, List.drop_length_add_append, Nat.add_assoc]
  have e5 : ∀ y, List.take 5 (List.drop (j * 5) (P ++ .int .i64 e.bo :: .int .i64 e.se :: .int .i64 e.ti :: y :: .bool e.co :: R)) = [.int .i64 e.bo, .int .i64 e.se, .int .i64 e.ti, y, .bool e.co] := fun y => by
    rw [← p1, List.drop_left]; rfl
  rw [RcC_eq] at *
  repeat' (first | (simp (disch := first | omega | (simp only [List.length_cons, List.length_nil]; first | done | omega)) only [go_sem]) | (refine allI (fun b => ?_)) | (refine allT (fun τ => ?_)) | (refine brP (fun h => ?_) (fun h => ?_) <;> (try simp only [zgx, zbx] at h)) | (apply And.intro; focus (first | omega | (simp; done) | (simp +contextual; done) | (intros; and_intros <;> first | assumption | omega) | (intros; simp_all; done) | (intro hgd; refine ⟨hgd, ?_⟩; simp [hgd]; done) | (intro hgd; simp only [zgx] at hgd ⊢; omega))) | fail)
  first | refine actsQ_U (hh) (pick_perm rfl (pick_perm rfl (List.Perm.refl _))) ?_ | refine actsQ_T (hh) (pick_perm rfl (pick_perm rfl (List.Perm.refl _))) ?_ | refine actsQ_N (hh) (pick_perm rfl (pick_perm rfl (List.Perm.refl _))) ?_ | refine actsQ_of (hh) (pick_perm rfl (pick_perm rfl (List.Perm.refl _))) ?_
  rintro _ _ ⟨rfl, rfl⟩
  repeat' (first | (simp (disch := first | omega | (simp only [List.length_cons, List.length_nil]; first | done | omega)) only [go_sem, g4, dse, dnx, dj, dj2, zRc]) | (refine allI (fun b => ?_)) | (refine allT (fun τ => ?_)) | (refine brP (fun h => ?_) (fun h => ?_) <;> (try simp only [zgx, zbx] at h)) | refine call_U (hc) ?_ | refine callG_U (fun _ => hc) ?_ | refine call_T (hc) ?_ | refine callG_T (fun _ => hc) ?_ | refine call_U (hsg) ?_ | refine callG_U (fun _ => hsg) ?_ | refine call_T (hsg) ?_ | refine callG_T (fun _ => hsg) ?_ | refine call_U (hstp) ?_ | refine callG_U (fun _ => hstp) ?_ | refine call_T (hstp) ?_ | refine callG_T (fun _ => hstp) ?_ | refine call_N (hc) ?_ | refine call_of (hc) ?_ | refine callG_of (fun _ => hc) ?_ | refine call_N (hsg) ?_ | refine call_of (hsg) ?_ | refine callG_of (fun _ => hsg) ?_ | refine call_N (hstp) ?_ | refine call_of (hstp) ?_ | refine callG_of (fun _ => hstp) ?_ | (apply And.intro; focus (first | omega | (simp; done) | (simp +contextual; done) | (intros; and_intros <;> first | assumption | omega) | (intros; simp_all; done) | (intro hgd; refine ⟨hgd, ?_⟩; simp [hgd]; done) | (intro hgd; simp only [zgx] at hgd ⊢; omega))) | fail)
  simp (disch := first | omega | (simp only [List.length_cons, List.length_nil]; first | done | omega)) only [go_sem, g3, zRc]
  refine ⟨by simp only [roomy]; omega, fun τ1 => ⟨by omega, by omega, ?_⟩⟩
  rw [s3, e5]
  refine ⟨by omega, by simp only [List.length_append, List.length_cons] at hlp ⊢; omega, ?_⟩
  first | refine call_U (hcm _) ?_ | refine call_T (hcm _) ?_ | refine call_N (hcm _) ?_ | refine call_of (hcm _) ?_
  simp (disch := first | omega | (simp only [List.length_cons, List.length_nil]; first | done | omega)) only [go_sem]
  rw [s4, max_if]
  refine ⟨by omega, by simp only [List.length_append, List.length_cons] at hlp ⊢; omega, ?_⟩
  have hend : covL r = [] → ∃ r' H', leVH gl (.tup []) [(61, .tok τ1), (50, .blk k.b [.int .i64 k.a.bo, .int .i64 k.a.nx, .int .i64 k.a.st, .msl 60 5 k.bO 0 k.ws.length k.cO, .msl 62 5 k.bL 0 k.a.ls.length k.cL, .msl 63 2 k.bG 0 k.a.gs.length k.cG, .int .i64 (max k.a.la r.se)]), (60, .blk k.bO (P ++ .int .i64 e.bo :: .int .i64 e.se :: .int .i64 e.ti :: .osl 61 τ1 4 (e.rs.length + 1) (e.rs.flatMap RcC ++ [.int .i64 r.ty, .int .i64 r.ti, .int .i64 r.se, .sl 4 r.ps.length (r.ps.flatMap PrC)]) :: .bool cm :: R)), (62, .blk k.bL (Sp (k.a.ls.flatMap LsC) ((k.cL - k.a.ls.length) * 5)))] r' H' ∧ ∃ τ bL cL, (k.a.ls ++ covL r).length ≤ cL ∧ r' = .tup [] ∧ H' = [(50, .blk k.b (RkC (k.took (k.ws.set j (addR e r, τ)) r k.bO k.cO bL cL))), (60, .blk k.bO (BO (k.took (k.ws.set j (addR e r, τ)) r k.bO k.cO bL cL))), (62, .blk bL (BL (k.took (k.ws.set j (addR e r, τ)) r k.bO k.cO bL cL))), (61, .tok τ)] := fun hc0 => by
    refine ⟨_, _, leVH.of (leV.refl _) ⟨_, List.Sublist.refl _, List.perm_append_comm (l₁ := [_]) (l₂ := [_, _, _])⟩, τ1, k.bL, k.cL, by rw [hc0, List.append_nil]; omega, rfl, ?_⟩
    simp only [RkC_eq, BO, BL, Wk.took, List.length_set, hc0, p3, List.append_nil]
    simp [EwC_eq, LsC_eq, RcC_eq, addR, hcmp, Sp]
  rcases Bool.eq_false_or_eq_true (r.ty == 1331) with d1 | d1
  · cases nb with
    | true =>
      repeat' (first | (simp (disch := first | omega | (simp only [List.length_cons, List.length_nil]; first | done | omega)) only [go_sem, d1, zLs]) | (refine allI (fun b => ?_)) | (refine allT (fun τ => ?_)) | (refine brP (fun h => ?_) (fun h => ?_) <;> (try simp only [zgx, zbx] at h)) | refine call_U (hnu) ?_ | refine callG_U (fun _ => hnu) ?_ | refine call_T (hnu) ?_ | refine callG_T (fun _ => hnu) ?_ | refine call_U (hnf) ?_ | refine callG_U (fun _ => hnf) ?_ | refine call_T (hnf) ?_ | refine callG_T (fun _ => hnf) ?_ | refine call_U (hnl) ?_ | refine callG_U (fun _ => hnl) ?_ | refine call_T (hnl) ?_ | refine callG_T (fun _ => hnl) ?_ | refine call_U (hnr) ?_ | refine callG_U (fun _ => hnr) ?_ | refine call_T (hnr) ?_ | refine callG_T (fun _ => hnr) ?_ | refine call_U (hnt) ?_ | refine callG_U (fun _ => hnt) ?_ | refine call_T (hnt) ?_ | refine callG_T (fun _ => hnt) ?_ | refine call_U (hns) ?_ | refine callG_U (fun _ => hns) ?_ | refine call_T (hns) ?_ | refine callG_T (fun _ => hns) ?_ | refine call_N (hnu) ?_ | refine call_of (hnu) ?_ | refine callG_of (fun _ => hnu) ?_ | refine call_N (hnf) ?_ | refine call_of (hnf) ?_ | refine callG_of (fun _ => hnf) ?_ | refine call_N (hnl) ?_ | refine call_of (hnl) ?_ | refine callG_of (fun _ => hnl) ?_ | refine call_N (hnr) ?_ | refine call_of (hnr) ?_ | refine callG_of (fun _ => hnr) ?_ | refine call_N (hnt) ?_ | refine call_of (hnt) ?_ | refine callG_of (fun _ => hnt) ?_ | refine call_N (hns) ?_ | refine call_of (hns) ?_ | refine callG_of (fun _ => hns) ?_ | (apply And.intro; focus (first | omega | (simp; done) | (simp +contextual; done) | (intros; and_intros <;> first | assumption | omega) | (intros; simp_all; done) | (intro hgd; refine ⟨hgd, ?_⟩; simp [hgd]; done) | (intro hgd; simp only [zgx] at hgd ⊢; omega))) | fail)
      · rw [if_pos ⟨⟨by simpa using d1, rfl⟩, ⟨by omega, by omega, by omega⟩⟩] at hcL
        have hlen : (k.a.ls ++ covL r).length = k.a.ls.length + 1 := by rw [hcL]; simp
        refine .inl ⟨by omega, by omega, by simp only [roomy]; omega, fun b2 c2 hc2 => ⟨_, _, leVH.of (leV.refl _) ⟨_, .cons_cons _ (.cons _ (.cons_cons _ (.cons_cons _ (.cons_cons _ (.cons _ (List.nil_sublist _)))))), List.perm_append_comm (l₁ := [_, _]) (l₂ := [_, _])⟩, τ1, b2, c2, by omega, rfl, ?_⟩⟩
        rw [take_Sp _ hlL]
        simp only [RkC_eq, BO, BL, Wk.took, List.length_set, hlen, p3, List.cons_append, List.nil_append]
        rw [hcL]
        simp [EwC_eq, LsC_eq, RcC_eq, addR, hcmp, Sp]
      · obtain ⟨r', H', h1, h2⟩ := hend (by rw [hcL, if_neg (fun hh => by omega)])
        exact ⟨r', H', leVH.drop (.cons _ (.cons_cons _ (.cons_cons _ (.cons_cons _ (.cons _ (.cons_cons _ (List.nil_sublist _))))))) h1, h2⟩
    | false =>
      obtain ⟨r', H', h1, h2⟩ := hend (by rw [hcL, if_neg (fun hh => by simp at hh)])
      repeat' (first | (simp (disch := first | omega | (simp only [List.length_cons, List.length_nil]; first | done | omega)) only [go_sem, d1]) | (refine allI (fun b => ?_)) | (refine allT (fun τ => ?_)) | (refine brP (fun h => ?_) (fun h => ?_) <;> (try simp only [zgx, zbx] at h)) | refine call_U (hnu) ?_ | refine callG_U (fun _ => hnu) ?_ | refine call_T (hnu) ?_ | refine callG_T (fun _ => hnu) ?_ | refine call_N (hnu) ?_ | refine call_of (hnu) ?_ | refine callG_of (fun _ => hnu) ?_ | (apply And.intro; focus (first | omega | (simp; done) | (simp +contextual; done) | (intros; and_intros <;> first | assumption | omega) | (intros; simp_all; done) | (intro hgd; refine ⟨hgd, ?_⟩; simp [hgd]; done) | (intro hgd; simp only [zgx] at hgd ⊢; omega))) | fail)
      exact ⟨r', H', leVH.drop (.cons_cons _ (.cons_cons _ (.cons_cons _ (.cons _ (.cons_cons _ (List.nil_sublist _)))))) h1, h2⟩
  · obtain ⟨r', H', h1, h2⟩ := hend (by rw [hcL, if_neg (fun hh => by rw [hh.1.1] at d1; simp at d1)])
    repeat' (first | (simp (disch := first | omega | (simp only [List.length_cons, List.length_nil]; first | done | omega)) only [go_sem, d1]) | (refine allI (fun b => ?_)) | (refine allT (fun τ => ?_)) | (refine brP (fun h => ?_) (fun h => ?_) <;> (try simp only [zgx, zbx] at h)) | refine call_U (hnu) ?_ | refine callG_U (fun _ => hnu) ?_ | refine call_T (hnu) ?_ | refine callG_T (fun _ => hnu) ?_ | refine call_N (hnu) ?_ | refine call_of (hnu) ?_ | refine callG_of (fun _ => hnu) ?_ | (apply And.intro; focus (first | omega | (simp; done) | (simp +contextual; done) | (intros; and_intros <;> first | assumption | omega) | (intros; simp_all; done) | (intro hgd; refine ⟨hgd, ?_⟩; simp [hgd]; done) | (intro hgd; simp only [zgx] at hgd ⊢; omega))) | fail)
    exact ⟨r', H', leVH.drop (.cons_cons _ (.cons_cons _ (.cons_cons _ (.cons _ (.cons_cons _ (List.nil_sublist _)))))) h1, h2⟩
end Go.Proofs.YtfheeghkajihoaaDoor

/- Layer 22: a record of a new event is taken (the reference). -/
namespace Go.Proofs.YtfheeghkajihoaaDoor
open Go Go.Lx
set_option linter.unusedSimpArgs false
set_option linter.unusedVariables false
set_option maxRecDepth 100000
set_option maxHeartbeats 4000000

theorem pos_of {ws : List (Ev × Tok)} {s : Int} {n : Nat} (h0 : heldI ws s = -1) (hn : n ≤ ws.length) (h1 : ∀ j, j < n → (ws.getD j ew0).1.se < s) (h2 : n < ws.length → ¬ (ws.getD n ew0).1.se < s) : posI ws s = n := by
  have hh := fstI_neg (n := ws.length) (p := fun i => (ws.getD i ew0).1.se == s) h0
  unfold posI
  dsimp only
  by_cases hl : n < ws.length
  · have h3 := hh n hl
    rw [beq_eq_false_iff_ne] at h3
    have h4 := h2 hl
    rw [fstI_is hl (decide_eq_true (by omega)) fun j hj => decide_eq_false (by have := h1 j hj; omega), if_neg (by omega), Int.toNat_natCast]
  · rw [fstI_none fun j hj => decide_eq_false (by have := h1 j (by omega); omega), if_pos (by omega)]
    omega
theorem rtake2 (k : Wk) (r : Rc) (hr : r.ps.length ≤ 1000000) (hl : k.ws.length ≤ 1000000000) (hcO : k.ws.length ≤ k.cO) (hL : k.a.ls.length ≤ 1000000000) (hcL : k.a.ls.length ≤ k.cL) (hi : heldI k.ws r.se = -1) (hs : strayS k.a.nx none r = false) :
    LCalls Tryd.prog gl 37 [.ptr 50 k.b 0, .agg (RcC r)] [(50, .blk k.b (RkC k)), (60, .blk k.bO (BO k)), (62, .blk k.bL (BL k))] fun x H => ∃ τ bO cO bL cL, (k.ws.length + 1 ≤ cO ∧ (k.a.ls ++ covL r).length ≤ cL) ∧ x = .tup [] ∧ H = [(50, .blk k.b (RkC (k.took (insW k r τ) r bO cO bL cL))), (60, .blk bO (BO (k.took (insW k r τ) r bO cO bL cL))), (62, .blk bL (BL (k.took (insW k r τ) r bO cO bL cL))), (61, .tok τ)] := by
  refine fn_viewT Tryd.func37 t37 Tryd.ntmps37 (by simp) ?_
  have hh := heldR k r.se hl
  have hle := len_ew k.ws
  have hlo := length_Sp (k.ws.flatMap EwC) ((k.cO - k.ws.length) * 5)
  have hlL := len_ls k.a.ls
  have hsL := length_Sp (k.a.ls.flatMap LsC) ((k.cL - k.a.ls.length) * 5)
  have hi0 := hi
  rw [hi] at hh
  have hc := chkrR r
  have hsg := rsingle r.ty
  have hstp := LCalls.args (args' := [.fsl 4 1 (RcC r), .int .i64 r.se]) (stampP r (by omega) r.se) ⟨leV.fsl_sl _ _ _, leV.refl _, trivial⟩
  change LCalls _ _ _ _ _ (fun r' H => r' = .sl 4 1 (RcC r) ∧ H = []) at hstp
  have hnu := numbersR r (by omega)
  have hnf := numR r nFirst (by omega)
  have hnl := numR r nLast (by omega)
  have hnr := numR r nRated (by omega)
  have hnt := numR r nFull (by omega)
  have hns := numR r nStalled (by omega)
  obtain ⟨hck, hs0, hsn⟩ := stray_se hs
  have hcL0 := covL_R hck
  rw [lossR] at hcL0
  dsimp only at hcL0
  rw [hck] at hc
  have dse : (r.se == 0) = false := beq_eq_false_iff_ne.2 hs0
  have dnx : decide (r.se < k.a.nx) = false := decide_eq_false (by omega)
  have hcm := fun τ' => rcompW ({ newE k r with rs := [r] }, τ') (by simp)
  simp only [EwC_eq, newE, List.length_singleton, List.flatMap_singleton] at hcm
  generalize (getP r.ps nFirst).v = vf at *
  generalize (getP r.ps nLast).v = vl at *
  generalize (getP r.ps nRated).v = vr at *
  generalize (getP r.ps nFull).v = vt at *
  generalize (getP r.ps nStalled).v = vs at *
  generalize ((getP r.ps nFirst).k == 1 && (getP r.ps nLast).k == 1) = nb at *
  clear hs hck
  unfold c37 r37
  rw [RkC_eq, BO, BL] at *
  rw [RcC_eq] at *
  repeat' (first | (simp (disch := first | omega | (simp only [List.length_cons, List.length_nil]; first | done | omega)) only [go_sem]) | (refine allI (fun b => ?_)) | (refine allT (fun τ => ?_)) | (refine brP (fun h => ?_) (fun h => ?_) <;> (try simp only [zgx, zbx] at h)) | (apply And.intro; focus (first | omega | (simp; done) | (simp +contextual; done) | (intros; and_intros <;> first | assumption | omega) | (intros; simp_all; done) | (intro hgd; refine ⟨hgd, ?_⟩; simp [hgd]; done) | (intro hgd; simp only [zgx] at hgd ⊢; omega))) | fail)
  first | refine actsQ_U (hh) (pick_perm rfl (pick_perm rfl (List.Perm.refl _))) ?_ | refine actsQ_T (hh) (pick_perm rfl (pick_perm rfl (List.Perm.refl _))) ?_ | refine actsQ_N (hh) (pick_perm rfl (pick_perm rfl (List.Perm.refl _))) ?_ | refine actsQ_of (hh) (pick_perm rfl (pick_perm rfl (List.Perm.refl _))) ?_
  rintro _ _ ⟨rfl, rfl⟩
  repeat' (first | (simp (disch := first | omega | (simp only [List.length_cons, List.length_nil]; first | done | omega)) only [go_sem, gB_no, pick_no, dse, dnx, zRc, zEv]) | (refine allI (fun b => ?_)) | (refine allT (fun τ => ?_)) | (refine brP (fun h => ?_) (fun h => ?_) <;> (try simp only [zgx, zbx] at h)) | refine call_U (hc) ?_ | refine callG_U (fun _ => hc) ?_ | refine call_T (hc) ?_ | refine callG_T (fun _ => hc) ?_ | refine call_U (hsg) ?_ | refine callG_U (fun _ => hsg) ?_ | refine call_T (hsg) ?_ | refine callG_T (fun _ => hsg) ?_ | refine call_U (hstp) ?_ | refine callG_U (fun _ => hstp) ?_ | refine call_T (hstp) ?_ | refine callG_T (fun _ => hstp) ?_ | refine call_N (hc) ?_ | refine call_of (hc) ?_ | refine callG_of (fun _ => hc) ?_ | refine call_N (hsg) ?_ | refine call_of (hsg) ?_ | refine callG_of (fun _ => hsg) ?_ | refine call_N (hstp) ?_ | refine call_of (hstp) ?_ | refine callG_of (fun _ => hstp) ?_ | (apply And.intro; focus (first | omega | (simp; done) | (simp +contextual; done) | (intros; and_intros <;> first | assumption | omega) | (intros; simp_all; done) | (intro hgd; refine ⟨hgd, ?_⟩; simp [hgd]; done) | (intro hgd; simp only [zgx] at hgd ⊢; omega))) | fail)
  rename_i b3
  generalize b = b5 at *
  refine loopI (ι := Nat) (fun n => n ≤ k.ws.length ∧ ∀ j, j < n → (k.ws.getD j ew0).1.se < r.se) (fun n => (7, .int .i64 n) :: _) (fun _ => _) (fun n => k.ws.length - n) 0 ⟨by omega, fun j hj => by omega⟩ Ents.same ?_
  rintro n ⟨hn, hlt⟩
  by_cases hgo : n < k.ws.length ∧ (k.ws.getD n ew0).1.se < r.se
  · have d1 : decide ((n : Int) < (k.ws.length : Int)) = true := decide_eq_true (by omega)
    have d2 : decide ((k.ws.getD n ew0).1.se < r.se) = true := decide_eq_true hgo.2
    have g1 := gd_sp (f := EwC) (w := 5) (fun _ => rfl) (j := 1) (by omega) ew0 k.ws n ((k.cO - k.ws.length) * 5) hgo.1
    rw [EwC_eq] at g1
    simp only [List.getD_cons_zero, List.getD_cons_succ] at g1
    repeat' (first | (simp (disch := first | omega | (simp only [List.length_cons, List.length_nil]; first | done | omega)) only [go_sem, d1, d2, g1]) | (refine allI (fun b => ?_)) | (refine allT (fun τ => ?_)) | (refine brP (fun h => ?_) (fun h => ?_) <;> (try simp only [zgx, zbx] at h)) | (apply And.intro; focus (first | omega | (simp; done) | (simp +contextual; done) | (intros; and_intros <;> first | assumption | omega) | (intros; simp_all; done) | (intro hgd; refine ⟨hgd, ?_⟩; simp [hgd]; done) | (intro hgd; simp only [zgx] at hgd ⊢; omega))) | fail)
    refine ⟨⟨n + 1, by omega, fun j hj => ?_⟩, by dsimp only; omega, Ents.sub (by simp [go_sem]) ⟨_, List.Sublist.refl _, List.Perm.refl _⟩⟩
    rcases Nat.lt_or_ge j n with h1 | h1
    · exact hlt j h1
    · rw [show j = n by omega]; exact hgo.2
  · have hpn : posI k.ws r.se = n := pos_of hi0 hn hlt fun h1 h2 => hgo ⟨h1, h2⟩
    have htk : List.take (n * 5) (Sp (k.ws.flatMap EwC) ((k.cO - k.ws.length) * 5)) = (k.ws.take n).flatMap EwC := by
      rw [Sp, List.take_append_of_le_length (by omega), take_fm (f := EwC) (w := 5) (fun _ => rfl)]
    have hdr : List.take ((k.ws.length - n) * 5) (List.drop (if k.cO = n then 0 else n * 5) (Sp (k.ws.flatMap EwC) ((k.cO - k.ws.length) * 5))) = (k.ws.drop n).flatMap EwC := by
      rw [take_drop_Sp hle hn hcO, drop_fm (f := EwC) (w := 5) (fun _ => rfl)]
    have hltk : ((k.ws.take n).flatMap EwC).length = n * 5 := by rw [len_ew, List.length_take]; omega
    have hldr : ((k.ws.drop n).flatMap EwC).length = (k.ws.length - n) * 5 := by rw [len_ew, List.length_drop]
    have hif : (if k.cO = n then 0 else n * 5) + (k.ws.length - n) * 5 ≤ (Sp (k.ws.flatMap EwC) ((k.cO - k.ws.length) * 5)).length := by
      split <;> omega
    rcases Bool.eq_false_or_eq_true (decide ((n : Int) < (k.ws.length : Int))) with d1 | d1
    case' inl =>
      have hnl2 : n < k.ws.length := by simpa using d1
      have g1 := gd_sp (f := EwC) (w := 5) (fun _ => rfl) (j := 1) (by omega) ew0 k.ws n ((k.cO - k.ws.length) * 5) hnl2
      rw [EwC_eq] at g1
      simp only [List.getD_cons_zero, List.getD_cons_succ] at g1
      have d2 : decide ((k.ws.getD n ew0).1.se < r.se) = false := decide_eq_false fun h2 => hgo ⟨hnl2, h2⟩
      repeat' (first | (simp (disch := first | omega | (simp only [List.length_cons, List.length_nil]; first | done | omega)) only [go_sem, d1, d2, g1, zEv, Nat.sub_zero, ite_self, List.drop_zero, Nat.zero_add, htk, hdr]) | (refine allI (fun b => ?_)) | (refine allT (fun τ => ?_)) | (refine brP (fun h => ?_) (fun h => ?_) <;> (try simp only [zgx, zbx] at h)) | (apply And.intro; focus (first | omega | (simp; done) | (simp +contextual; done) | (intros; and_intros <;> first | assumption | omega) | (intros; simp_all; done) | (intro hgd; refine ⟨hgd, ?_⟩; simp [hgd]; done) | (intro hgd; simp only [zgx] at hgd ⊢; omega))) | fail)
    case' inr =>
      have hne : n = k.ws.length := by simp at d1; omega
      have g1 : (Sp (k.ws.flatMap EwC) ((k.cO - k.ws.length) * 5)).getD (n * 5 + 1) .any = .any := by
        simp only [Sp, List.getD]
        rw [List.getElem?_append_right (by omega), List.getElem?_replicate]
        split <;> rfl
      repeat' (first | (simp (disch := first | omega | (simp only [List.length_cons, List.length_nil]; first | done | omega)) only [go_sem, d1, g1, bin_anyL, bin_anyR, pick_0a0, zEv, Nat.sub_zero, ite_self, List.drop_zero, Nat.zero_add, htk, hdr]) | (refine allI (fun b => ?_)) | (refine allT (fun τ => ?_)) | (refine brP (fun h => ?_) (fun h => ?_) <;> (try simp only [zgx, zbx] at h)) | (apply And.intro; focus (first | omega | (simp; done) | (simp +contextual; done) | (intros; and_intros <;> first | assumption | omega) | (intros; simp_all; done) | (intro hgd; refine ⟨hgd, ?_⟩; simp [hgd]; done) | (intro hgd; simp only [zgx] at hgd ⊢; omega))) | fail)
    all_goals
      have hW : ∀ τ, insW k r τ = k.ws.take n ++ (addR (newE k r) r, τ) :: k.ws.drop n := fun τ => by rw [insW, hpn]
      have hWf : ∀ τ, (insW k r τ).flatMap EwC = (k.ws.take n).flatMap EwC ++ (EwC (addR (newE k r) r, τ) ++ (k.ws.drop n).flatMap EwC) := fun τ => by rw [hW, List.flatMap_append, List.flatMap_cons]
      have hWl : ∀ τ, (insW k r τ).length = k.ws.length + 1 := fun τ => by rw [hW]; simp; omega
      generalize (k.ws.take n).flatMap EwC = T at *
      generalize (k.ws.drop n).flatMap EwC = D at *
      have e1 : ∀ X : List LV, List.take (n * 5) (T ++ X) = T := fun X => by rw [← hltk, List.take_left]
      have e2 : ∀ X : List LV, List.take ((n + 1) * 5) (T ++ [.int .i64 k.a.bo, .int .i64 r.se, .int .i64 r.ti, .fsl 1 0 [], .bool false] ++ X) = T ++ [.int .i64 k.a.bo, .int .i64 r.se, .int .i64 r.ti, .fsl 1 0 [], .bool false] := fun X => List.take_left' (by simp; omega)
      refine ⟨by simp only [roomy]; omega, fun b6 c6 h6 => ⟨rfl, .inl ⟨by simp; omega, by simp; omega, by simp only [roomy]; omega, fun b7 c7 h7 => ⟨hif, rfl, .inl ?_⟩⟩⟩⟩
      simp only [e1, e2]
      refine ⟨by simp; omega, by simp; omega, by simp only [roomy]; omega, fun b8 c8 h8 => ?_⟩
      rw [show n + 1 + (k.ws.length - n) = k.ws.length + 1 by omega] at h8 ⊢
      have hform : ∀ Z : List LV, T ++ [.int .i64 k.a.bo, .int .i64 r.se, .int .i64 r.ti, .fsl 1 0 [], .bool false] ++ D ++ Z = T ++ .int .i64 k.a.bo :: .int .i64 r.se :: .int .i64 r.ti :: .fsl 1 0 [] :: .bool false :: (D ++ Z) := fun Z => by simp
      rw [hform]
      generalize hRR : D ++ List.replicate ((c8 - (k.ws.length + 1)) * 5) LV.any = R at *
      have hlR : R.length = (k.ws.length - n) * 5 + (c8 - (k.ws.length + 1)) * 5 := by rw [← hRR]; simp; omega
      have g3 : (T ++ .int .i64 k.a.bo :: .int .i64 r.se :: .int .i64 r.ti :: .fsl 1 0 [] :: .bool false :: R).getD (n * 5 + 3) .any = .fsl 1 0 [] := by
        rw [← hltk]; simp [List.getD, List.getElem?_append_right]
      have s3 : ∀ y, List.take (n * 5 + 3) (T ++ .int .i64 k.a.bo :: .int .i64 r.se :: .int .i64 r.ti :: .fsl 1 0 [] :: .bool false :: R) ++ [y] ++ List.drop (n * 5 + 3 + 1) (T ++ .int .i64 k.a.bo :: .int .i64 r.se :: .int .i64 r.ti :: .fsl 1 0 [] :: .bool false :: R) = T ++ .int .i64 k.a.bo :: .int .i64 r.se :: .int .i64 r.ti :: y :: .bool false :: R := fun y => by
        rw [← hltk]; simp [List.take_length_add_append, List.drop_length_add_append, Nat.add_assoc]
      have s4 : ∀ y z, List.take (n * 5 + 4) (T ++ .int .i64 k.a.bo :: .int .i64 r.se :: .int .i64 r.ti :: y :: .bool false :: R) ++ [z] ++ List.drop (n * 5 + 4 + 1) (T ++ .int .i64 k.a.bo :: .int .i64 r.se :: .int .i64 r.ti :: y :: .bool false :: R) = T ++ .int .i64 k.a.bo :: .int .i64 r.se :: .int .i64 r.ti :: y :: z :: R := fun y z => by
        rw [← hltk]; simp [List.take_length_add_append, List.drop_length_add_append, Nat.add_assoc]
      have e5 : ∀ y, List.take 5 (List.drop (n * 5) (T ++ .int .i64 k.a.bo :: .int .i64 r.se :: .int .i64 r.ti :: y :: .bool false :: R)) = [.int .i64 k.a.bo, .int .i64 r.se, .int .i64 r.ti, y, .bool false] := fun y => by
        rw [← hltk, List.drop_left]; rfl
      refine ⟨⟨by omega, by omega⟩, by simp; omega, ?_⟩
      simp (disch := first | omega | (simp only [List.length_cons, List.length_nil]; first | done | omega)) only [go_sem, g3, zRc]
      refine ⟨by simp only [roomy]; omega, fun τ1 => ⟨by omega, by simp; omega, ?_⟩⟩
      rw [s3, e5]
      refine ⟨by omega, by simp; omega, ?_⟩
      have hcm2 := fun τ' => LCalls.args (args' := [.agg [.int .i64 k.a.bo, .int .i64 r.se, .int .i64 r.ti, .osl 134 τ' 4 1 [.int .i64 r.ty, .int .i64 r.ti, .int .i64 r.se, .sl 4 r.ps.length (r.ps.flatMap PrC)], .bool false]]) (hcm τ') ⟨leV.agg ⟨leV.refl _, leV.refl _, leV.refl _, leV.osl_name 134 61 _ _ _ _, leV.refl _, trivial⟩, trivial⟩
      change ∀ τ', LCalls _ _ _ _ _ (fun r' H => r' = .bool (compS [r]) ∧ H = []) at hcm2
      first | refine call_U (hcm2 _) ?_ | refine call_T (hcm2 _) ?_ | refine call_N (hcm2 _) ?_ | refine call_of (hcm2 _) ?_
      simp (disch := first | omega | (simp only [List.length_cons, List.length_nil]; first | done | omega)) only [go_sem]
      rw [s4, max_if]
      have hend : ∀ bL cL, (k.a.ls ++ covL r).length ≤ cL → ∃ r' H', leVH gl (.tup []) [(134, .tok τ1), (103, .blk b8 (T ++ .int .i64 k.a.bo :: .int .i64 r.se :: .int .i64 r.ti :: .osl 134 τ1 4 1 [.int .i64 r.ty, .int .i64 r.ti, .int .i64 r.se, .sl 4 r.ps.length (r.ps.flatMap PrC)] :: .bool (compS [r]) :: R)), (50, .blk k.b [.int .i64 k.a.bo, .int .i64 k.a.nx, .int .i64 k.a.st, .msl 103 5 b8 0 (k.ws.length + 1) c8, .msl 62 5 bL 0 (k.a.ls ++ covL r).length cL, .msl 63 2 k.bG 0 k.a.gs.length k.cG, .int .i64 (max k.a.la r.se)]), (62, .blk bL (Sp ((k.a.ls ++ covL r).flatMap LsC) ((cL - (k.a.ls ++ covL r).length) * 5)))] r' H' ∧ ∃ τ bO cO bL cL, (k.ws.length + 1 ≤ cO ∧ (k.a.ls ++ covL r).length ≤ cL) ∧ r' = .tup [] ∧ H' = [(50, .blk k.b (RkC (k.took (insW k r τ) r bO cO bL cL))), (60, .blk bO (BO (k.took (insW k r τ) r bO cO bL cL))), (62, .blk bL (BL (k.took (insW k r τ) r bO cO bL cL))), (61, .tok τ)] := fun bL cL hc0 => by
        have hC : BO (k.took (insW k r τ1) r b8 c8 bL cL) = T ++ .int .i64 k.a.bo :: .int .i64 r.se :: .int .i64 r.ti :: .osl 61 τ1 4 1 [.int .i64 r.ty, .int .i64 r.ti, .int .i64 r.se, .sl 4 r.ps.length (r.ps.flatMap PrC)] :: .bool (compS [r]) :: R := by
          rw [BO]
          simp only [Wk.took, hWf, hWl]
          rw [← hRR]
          simp [Sp, EwC_eq, addR, newE, RcC_eq]
        have hS : RkC (k.took (insW k r τ1) r b8 c8 bL cL) = [.int .i64 k.a.bo, .int .i64 k.a.nx, .int .i64 k.a.st, .msl 60 5 b8 0 (k.ws.length + 1) c8, .msl 62 5 bL 0 (k.a.ls ++ covL r).length cL, .msl 63 2 k.bG 0 k.a.gs.length k.cG, .int .i64 (max k.a.la r.se)] := by
          rw [RkC_eq]; simp only [Wk.took, hWl]
        refine ⟨.tup [], [(50, .blk k.b (RkC (k.took (insW k r τ1) r b8 c8 bL cL))), (60, .blk b8 (BO (k.took (insW k r τ1) r b8 c8 bL cL))), (62, .blk bL (BL (k.took (insW k r τ1) r b8 c8 bL cL))), (61, .tok τ1)], ?_, τ1, b8, c8, bL, cL, ⟨h8, hc0⟩, rfl, rfl⟩
        rw [hC, hS, show BL (k.took (insW k r τ1) r b8 c8 bL cL) = Sp ((k.a.ls ++ covL r).flatMap LsC) ((cL - (k.a.ls ++ covL r).length) * 5) from rfl]
        exact leVH.gen (H2 := [(134, .tok τ1), (103, .blk b8 (T ++ .int .i64 k.a.bo :: .int .i64 r.se :: .int .i64 r.ti :: .osl 134 τ1 4 1 [.int .i64 r.ty, .int .i64 r.ti, .int .i64 r.se, .sl 4 r.ps.length (r.ps.flatMap PrC)] :: .bool (compS [r]) :: R)), (50, .blk k.b [.int .i64 k.a.bo, .int .i64 k.a.nx, .int .i64 k.a.st, .msl 103 5 b8 0 (k.ws.length + 1) c8, .msl 62 5 bL 0 (k.a.ls ++ covL r).length cL, .msl 63 2 k.bG 0 k.a.gs.length k.cG, .int .i64 (max k.a.la r.se)]), (62, .blk bL (Sp ((k.a.ls ++ covL r).flatMap LsC) ((cL - (k.a.ls ++ covL r).length) * 5)))]) (H3 := [(134, .tok τ1), (103, .blk b8 (T ++ .int .i64 k.a.bo :: .int .i64 r.se :: .int .i64 r.ti :: .osl 61 τ1 4 1 [.int .i64 r.ty, .int .i64 r.ti, .int .i64 r.se, .sl 4 r.ps.length (r.ps.flatMap PrC)] :: .bool (compS [r]) :: R)), (50, .blk k.b [.int .i64 k.a.bo, .int .i64 k.a.nx, .int .i64 k.a.st, .msl 60 5 b8 0 (k.ws.length + 1) c8, .msl 62 5 bL 0 (k.a.ls ++ covL r).length cL, .msl 63 2 k.bG 0 k.a.gs.length k.cG, .int .i64 (max k.a.la r.se)]), (62, .blk bL (Sp ((k.a.ls ++ covL r).flatMap LsC) ((cL - (k.a.ls ++ covL r).length) * 5)))]) (H4 := [(50, .blk k.b [.int .i64 k.a.bo, .int .i64 k.a.nx, .int .i64 k.a.st, .msl 60 5 b8 0 (k.ws.length + 1) c8, .msl 62 5 bL 0 (k.a.ls ++ covL r).length cL, .msl 63 2 k.bG 0 k.a.gs.length k.cG, .int .i64 (max k.a.la r.se)]), (103, .blk b8 (T ++ .int .i64 k.a.bo :: .int .i64 r.se :: .int .i64 r.ti :: .osl 61 τ1 4 1 [.int .i64 r.ty, .int .i64 r.ti, .int .i64 r.se, .sl 4 r.ps.length (r.ps.flatMap PrC)] :: .bool (compS [r]) :: R)), (62, .blk bL (Sp ((k.a.ls ++ covL r).flatMap LsC) ((cL - (k.a.ls ++ covL r).length) * 5))), (134, .tok τ1)]) (leV.refl _) (List.Sublist.refl _) ⟨rfl, ⟨rfl, leVs.app (leVs.refl _) ⟨leV.refl _, leV.refl _, leV.refl _, leV.osl_name _ 61 _ _ _ _, leV.refl _, leVs.refl _⟩⟩, ⟨rfl, leV.refl _, leV.refl _, leV.refl _, leV.msl_name _ 60 _ _ _ _ _, leV.refl _, leV.refl _, leV.refl _, trivial⟩, ⟨rfl, leVs.refl _⟩, trivial⟩ ((List.perm_append_comm (l₁ := [_, _]) (l₂ := [_, _])).trans ((List.perm_append_comm (l₁ := [_, _]) (l₂ := [_])).cons _)) rfl
      refine ⟨by omega, by simp; omega, ?_⟩
      rcases Bool.eq_false_or_eq_true (r.ty == 1331) with d3 | d3
      · cases nb with
        | true =>
          repeat' (first | (simp (disch := first | omega | (simp only [List.length_cons, List.length_nil]; first | done | omega)) only [go_sem, d3, zLs]) | (refine allI (fun b => ?_)) | (refine allT (fun τ => ?_)) | (refine brP (fun h => ?_) (fun h => ?_) <;> (try simp only [zgx, zbx] at h)) | refine call_U (hnu) ?_ | refine callG_U (fun _ => hnu) ?_ | refine call_T (hnu) ?_ | refine callG_T (fun _ => hnu) ?_ | refine call_U (hnf) ?_ | refine callG_U (fun _ => hnf) ?_ | refine call_T (hnf) ?_ | refine callG_T (fun _ => hnf) ?_ | refine call_U (hnl) ?_ | refine callG_U (fun _ => hnl) ?_ | refine call_T (hnl) ?_ | refine callG_T (fun _ => hnl) ?_ | refine call_U (hnr) ?_ | refine callG_U (fun _ => hnr) ?_ | refine call_T (hnr) ?_ | refine callG_T (fun _ => hnr) ?_ | refine call_U (hnt) ?_ | refine callG_U (fun _ => hnt) ?_ | refine call_T (hnt) ?_ | refine callG_T (fun _ => hnt) ?_ | refine call_U (hns) ?_ | refine callG_U (fun _ => hns) ?_ | refine call_T (hns) ?_ | refine callG_T (fun _ => hns) ?_ | refine call_N (hnu) ?_ | refine call_of (hnu) ?_ | refine callG_of (fun _ => hnu) ?_ | refine call_N (hnf) ?_ | refine call_of (hnf) ?_ | refine callG_of (fun _ => hnf) ?_ | refine call_N (hnl) ?_ | refine call_of (hnl) ?_ | refine callG_of (fun _ => hnl) ?_ | refine call_N (hnr) ?_ | refine call_of (hnr) ?_ | refine callG_of (fun _ => hnr) ?_ | refine call_N (hnt) ?_ | refine call_of (hnt) ?_ | refine callG_of (fun _ => hnt) ?_ | refine call_N (hns) ?_ | refine call_of (hns) ?_ | refine callG_of (fun _ => hns) ?_ | (apply And.intro; focus (first | omega | (simp; done) | (simp +contextual; done) | (intros; and_intros <;> first | assumption | omega) | (intros; simp_all; done) | (intro hgd; refine ⟨hgd, ?_⟩; simp [hgd]; done) | (intro hgd; simp only [zgx] at hgd ⊢; omega))) | fail)
          · rw [if_pos ⟨⟨by simpa using d3, rfl⟩, ⟨by omega, by omega, by omega⟩⟩] at hcL0
            have hlen : (k.a.ls ++ covL r).length = k.a.ls.length + 1 := by rw [hcL0]; simp
            refine .inl ⟨by omega, by omega, by simp only [roomy]; omega, fun b9 c9 h9 => ?_⟩
            obtain ⟨r', H', h1, h2⟩ := hend b9 c9 (by omega)
            refine ⟨r', H', leVH.trans (leVH.of (leV.refl _) ⟨_, .cons_cons _ (.cons _ (.cons_cons _ (.cons_cons _ (.cons _ (.cons_cons _ (List.nil_sublist _)))))), List.perm_append_comm (l₁ := [_]) (l₂ := [_, _, _])⟩) ?_, h2⟩
            rw [hlen, hcL0] at h1
            rw [take_Sp _ hlL]
            simpa [Sp, LsC_eq] using h1
          · obtain ⟨r', H', h1, h2⟩ := hend k.bL k.cL (by rw [hcL0, if_neg (fun hh => by omega), List.append_nil]; omega)
            rw [hcL0, if_neg (fun hh => by omega), List.append_nil] at h1
            exact ⟨r', H', leVH.drop (.cons _ (.cons_cons _ (.cons_cons _ (.cons _ (.cons_cons _ (.cons _ (.cons _ (.cons_cons _ (List.nil_sublist _))))))))) h1, h2⟩
        | false =>
          have hc0 := hcL0.trans (if_neg fun hh => by simp at hh)
          obtain ⟨r', H', h1, h2⟩ := hend k.bL k.cL (by rw [hc0, List.append_nil]; omega)
          rw [hc0, List.append_nil] at h1
          repeat' (first | (simp (disch := first | omega | (simp only [List.length_cons, List.length_nil]; first | done | omega)) only [go_sem, d3]) | (refine allI (fun b => ?_)) | (refine allT (fun τ => ?_)) | (refine brP (fun h => ?_) (fun h => ?_) <;> (try simp only [zgx, zbx] at h)) | refine call_U (hnu) ?_ | refine callG_U (fun _ => hnu) ?_ | refine call_T (hnu) ?_ | refine callG_T (fun _ => hnu) ?_ | refine call_N (hnu) ?_ | refine call_of (hnu) ?_ | refine callG_of (fun _ => hnu) ?_ | (apply And.intro; focus (first | omega | (simp; done) | (simp +contextual; done) | (intros; and_intros <;> first | assumption | omega) | (intros; simp_all; done) | (intro hgd; refine ⟨hgd, ?_⟩; simp [hgd]; done) | (intro hgd; simp only [zgx] at hgd ⊢; omega))) | fail)
          exact ⟨r', H', leVH.drop (.cons_cons _ (.cons_cons _ (.cons _ (.cons_cons _ (.cons _ (.cons _ (.cons_cons _ (List.nil_sublist _)))))))) h1, h2⟩
      · have hc0 := hcL0.trans (if_neg fun hh => by rw [hh.1.1] at d3; simp at d3)
        obtain ⟨r', H', h1, h2⟩ := hend k.bL k.cL (by rw [hc0, List.append_nil]; omega)
        rw [hc0, List.append_nil] at h1
        repeat' (first | (simp (disch := first | omega | (simp only [List.length_cons, List.length_nil]; first | done | omega)) only [go_sem, d3]) | (refine allI (fun b => ?_)) | (refine allT (fun τ => ?_)) | (refine brP (fun h => ?_) (fun h => ?_) <;> (try simp only [zgx, zbx] at h)) | refine call_U (hnu) ?_ | refine callG_U (fun _ => hnu) ?_ | refine call_T (hnu) ?_ | refine callG_T (fun _ => hnu) ?_ | refine call_N (hnu) ?_ | refine call_of (hnu) ?_ | refine callG_of (fun _ => hnu) ?_ | (apply And.intro; focus (first | omega | (simp; done) | (simp +contextual; done) | (intros; and_intros <;> first | assumption | omega) | (intros; simp_all; done) | (intro hgd; refine ⟨hgd, ?_⟩; simp [hgd]; done) | (intro hgd; simp only [zgx] at hgd ⊢; omega))) | fail)
        exact ⟨r', H', leVH.drop (.cons_cons _ (.cons_cons _ (.cons _ (.cons_cons _ (.cons _ (.cons _ (.cons_cons _ (List.nil_sublist _)))))))) h1, h2⟩
end Go.Proofs.YtfheeghkajihoaaDoor

/- Layer 22: a record is taken, with all events (the reference). -/
namespace Go.Proofs.YtfheeghkajihoaaDoor
open Go Go.Lx
set_option linter.unusedSimpArgs false
set_option linter.unusedVariables false
set_option maxRecDepth 100000
set_option maxHeartbeats 4000000

/-- what is at work -/
def HR (k : Wk) : Heap := [(50, .blk k.b (RkC k)), (60, .blk k.bO (BO k)), (62, .blk k.bL (BL k)), (63, .blk k.bG (BG k))]
theorem HR_eq (k : Wk) : HR k = [(50, .blk k.b (RkC k)), (60, .blk k.bO (BO k)), (62, .blk k.bL (BL k)), (63, .blk k.bG (BG k))] := Eq.trans rfl rfl
def HRT (k : Wk) : Heap := HR k ++ tkw k.ws
theorem pB {a b c d t : Nat × Ent} {T T' : Heap} (h : T.Perm (t :: T')) : ([a, b, c, d] ++ T).Perm ([a, b, c, t] ++ ([d] ++ T')) :=
  (h.append_left [a, b, c, d]).trans ((List.Perm.swap t d T').append_left [a, b, c])
theorem rtakeT (k : Wk) (m : Nat) (r : Rc) (hm : m ≤ 1000000000) (hr : r.ps.length ≤ 1000000) (hc : caps k) (ok : okA k.st.1 m) : LCalls Tryd.prog gl 37 [.ptr 50 k.b 0, .agg (RcC r)] (HRT k) fun x H => ∃ k', (k'.b = k.b ∧ caps k' ∧ k'.st = ((takeS k.st.1 r).1, k.out)) ∧ x = .tup [] ∧ H = HRT k' := by
  have hl : k.ws.length ≤ m := by have := ok.op; rwa [Wk.st, List.length_map] at this
  have hL : k.a.ls.length ≤ m := ok.lL
  have hst : 0 ≤ k.a.st ∧ k.a.st ≤ m := ok.st
  have hE : heldE k.st.1.op r.se = heldI k.ws r.se := heldE_fst _ _
  rw [HRT, HR_eq]
  rcases heldI_cases k.ws r.se with hn | ⟨j, hj, hjl, hjs⟩
  · have hev : evOf k.st.1 r = none := by rw [evOf, hE, hn]; rfl
    cases hs : strayS k.a.nx none r with
    | true =>
      have ht : takeS k.st.1 r = ({ k.st.1 with st := k.a.st + 1 }, false) := by
        rw [takeS, hev]; exact if_pos hs
      refine LCalls.use (rtake0n k r (by omega) hn hs (by omega)) (H2 := [(62, .blk k.bL (BL k)), (63, .blk k.bG (BG k))] ++ tkw k.ws) (List.Perm.refl _) ?_
      rintro _ _ ⟨rfl, rfl⟩
      rw [ht]
      exact ⟨_, List.Perm.refl _, k.stray, ⟨rfl, ⟨hc.cO, hc.cL, hc.cG⟩, rfl⟩, rfl, rfl⟩
    | false =>
      have hp : putE k.st.1 r = (insW k r ⟨0, 0, 0⟩).map Prod.fst := by
        rw [putE, hE, hn]
        rw [if_neg (by omega)]
        simp only [Wk.st, posE_fst, insW, List.map_append, List.map_cons, List.map_take, List.map_drop, newE]
      have hp2 : ∀ τ, (insW k r τ).map Prod.fst = putE k.st.1 r := fun τ => by rw [hp]; simp [insW]
      have ht : takeS k.st.1 r = ({ k.st.1 with op := putE k.st.1 r, la := max k.a.la r.se, ls := k.a.ls ++ covL r }, true) := by
        rw [takeS, hev]; exact if_neg (by rw [show k.st.1.nx = k.a.nx from rfl, hs]; simp)
      refine LCalls.use (rtake2 k r hr (by omega) hc.cO (by omega) hc.cL hn hs) (H2 := [(63, .blk k.bG (BG k))] ++ tkw k.ws) (List.Perm.refl _) ?_
      rintro _ _ ⟨τ, bO, cO, bL, cL, ⟨h1, h2⟩, rfl, rfl⟩
      rw [ht]
      refine ⟨HRT (k.took (insW k r τ) r bO cO bL cL), (pB (tkw_ins k.ws (posI k.ws r.se) (addR (newE k r) r, τ))).symm, k.took (insW k r τ) r bO cO bL cL, ⟨rfl, ⟨?_, h2, hc.cG⟩, ?_⟩, rfl, rfl⟩
      · simp only [Wk.took, insW]
        have := posI_le k.ws r.se
        simp; omega
      · simp only [Wk.st, Wk.took, hp2]
  · have hrl := ok.ev _ (List.mem_map_of_mem (f := Prod.fst) (getD_memA (l := k.ws) (i := j) ew0 hjl))
    have hgd : k.st.1.op.getD j ev0 = (k.ws.getD j ew0).1 := getD_fst _ _
    have hev : evOf k.st.1 r = some (k.ws.getD j ew0).1 := by
      rw [evOf, hE, hj, if_pos (by omega), Int.toNat_natCast, hgd]
    cases hs : strayS k.a.nx (some (k.ws.getD j ew0).1) r with
    | true =>
      have ht : takeS k.st.1 r = ({ k.st.1 with st := k.a.st + 1 }, false) := by
        rw [takeS, hev]; exact if_pos hs
      refine LCalls.use (rtake0 k r (by omega) j hjl hj hs (by omega)) (H2 := [(62, .blk k.bL (BL k)), (63, .blk k.bG (BG k))] ++ tkw k.ws) (List.Perm.refl _) ?_
      rintro _ _ ⟨rfl, rfl⟩
      rw [ht]
      exact ⟨_, List.Perm.refl _, k.stray, ⟨rfl, ⟨hc.cO, hc.cL, hc.cG⟩, rfl⟩, rfl, rfl⟩
    | false =>
      have hp : ∀ τ, (k.ws.set j (addR (k.ws.getD j ew0).1 r, τ)).map Prod.fst = putE k.st.1 r := fun τ => by
        rw [putE, hE, hj, if_pos (by omega), Int.toNat_natCast, hgd, List.map_set]
        rfl
      have ht : takeS k.st.1 r = ({ k.st.1 with op := putE k.st.1 r, la := max k.a.la r.se, ls := k.a.ls ++ covL r }, true) := by
        rw [takeS, hev]; exact if_neg (by rw [show k.st.1.nx = k.a.nx from rfl, hs]; simp)
      refine LCalls.use (rtake1 k r hr (by omega) (by omega) hc.cL j hjl (by have := hrl.2.1; omega) hj hs) (H2 := [(63, .blk k.bG (BG k))] ++ tkw (k.ws.eraseIdx j)) (pB (tkw_at hjl)) ?_
      rintro _ _ ⟨τ, bL, cL, h2, rfl, rfl⟩
      rw [ht]
      refine ⟨HRT (k.took (k.ws.set j (addR (k.ws.getD j ew0).1 r, τ)) r k.bO k.cO bL cL), (pB (tkw_set hjl (addR (k.ws.getD j ew0).1 r, τ))).symm, k.took (k.ws.set j (addR (k.ws.getD j ew0).1 r, τ)) r k.bO k.cO bL cL, ⟨rfl, ⟨?_, h2, hc.cG⟩, ?_⟩, rfl, rfl⟩
      · simp only [Wk.took, List.length_set]
        exact hc.cO
      · simp only [Wk.st, Wk.took, hp]
end Go.Proofs.YtfheeghkajihoaaDoor
