/- Layer 22: which records are sound (the program). -/
import Derived.Test.YtfheeghkajihoaaDoorBa
namespace Go.Proofs.YtfheeghkajihoaaDoor
open Go Go.Lx
set_option linter.unusedSimpArgs false
set_option linter.unusedVariables false
set_option maxRecDepth 100000
set_option maxHeartbeats 4000000

def lowU (c : UInt8) : Bool := decide (97 ≤ c.toNat) && decide (c.toNat ≤ 122)
/-- a letter of a name, behind the first -/
def nmU (c : UInt8) : Bool := lowU c || (decide (48 ≤ c.toNat) && decide (c.toNat ≤ 57)) || decide (c.toNat = 95)
/-- a name of a pair -/
def nmP (s : List UInt8) : Bool := decide (1 ≤ s.length) && decide (s.length ≤ 16) && lowU (s.getD 0 0) && s.all nmU
/-- the first error of a pair -/
def chkPr (p : Pr) : Int :=
  if nmP p.n = false then 22
  else if (p.k < 1 ∨ 3 < p.k) ∨ (p.k ≠ 1 ∧ p.v ≠ 0) ∨ (p.k ≠ 2 ∧ p.t.length ≠ 0) then 23
  else if 640 < p.t.length then 20 else 0
theorem all_takeB {α : Type} (p : α → Bool) (d : α) (l : List α) {i : Nat} (h : i < l.length) : (l.take (i + 1)).all p = ((l.take i).all p && p (l.getD i d)) := by
  rw [take_succ_getD d l h, List.all_append]; simp
theorem all_false {α : Type} {p : α → Bool} {d : α} {l : List α} {i : Nat} (h : i < l.length) (hp : p (l.getD i d) = false) : l.all p = false := by
  rw [List.all_eq_false]
  exact ⟨l.getD i d, getD_memA d h, by rw [hp]; simp⟩
theorem beq_nil_len (s : List UInt8) : (s == []) = decide (s.length = 0) := by cases s <;> simp
theorem bne_nil_len (s : List UInt8) : (s != []) = decide (s.length ≠ 0) := by cases s <;> simp
theorem proper (s : List UInt8) : Pure Tryd.prog gl 79 [.str s] (.bool (nmP s)) := by
  refine fn_pureT Tryd.func79 t79 Tryd.ntmps79 (by simp) ?_
  have hR : nmP s = (decide (1 ≤ s.length) && decide (s.length ≤ 16) && lowU (s.getD 0 0) && s.all nmU) := rfl
  unfold c79 r79
  repeat' (first | (simp (disch := first | omega | (simp only [List.length_cons, List.length_nil]; first | done | omega)) only [go_sem, beq_nil_len]) | (refine allI (fun b => ?_)) | (refine allT (fun τ => ?_)) | (refine brP (fun h => ?_) (fun h => ?_) <;> (try simp only [zgx, zbx] at h)) | (apply And.intro; focus (first | omega | (simp; done) | (simp +contextual; done) | (intros; and_intros <;> first | assumption | omega) | (intros; simp_all; done) | (intro hgd; refine ⟨hgd, ?_⟩; simp [hgd]; done) | (intro hgd; simp only [zgx] at hgd ⊢; omega))) | fail)
  · have : nmP s = false := by
      rw [hR]
      simp only [lowU, Bool.and_eq_false_iff, decide_eq_false_iff_not]
      omega
    rw [this]
  · have hlen : 1 ≤ s.length ∧ s.length ≤ 16 := by omega
    have hlow : lowU (s.getD 0 0) = true := by
      simp only [lowU, Bool.and_eq_true, decide_eq_true_eq]
      omega
    refine loopI (ι := Nat) (fun k => k ≤ s.length ∧ (s.take k).all nmU = true) (fun k => [(24, .int .i64 k), (23, .int .i64 s.length), (0, .str s)]) (fun _ => []) (fun k => s.length - k) 0 ⟨by omega, by simp⟩ (Ents.envH (by simp [go_sem]) rfl) ?_
    rintro k ⟨hk, hn⟩
    simp (disch := first | omega | (simp only [List.length_cons, List.length_nil]; first | done | omega)) only [go_sem]
    refine brP (fun hb => ?_) (fun hb => ?_)
    · have hk2 : k < s.length := by simpa using hb
      have ha := all_takeB nmU 0 s hk2
      have hf := fun h => all_false (p := nmU) (d := 0) hk2 h
      generalize hc : s.getD k 0 = c at *
      repeat' (first | (simp (disch := first | omega | (simp only [List.length_cons, List.length_nil]; first | done | omega)) only [go_sem, hc]) | (refine allI (fun b => ?_)) | (refine allT (fun τ => ?_)) | (refine brP (fun h => ?_) (fun h => ?_) <;> (try simp only [zgx, zbx] at h)) | (apply And.intro; focus (first | omega | (simp; done) | (simp +contextual; done) | (intros; and_intros <;> first | assumption | omega) | (intros; simp_all; done) | (intro hgd; refine ⟨hgd, ?_⟩; simp [hgd]; done) | (intro hgd; simp only [zgx] at hgd ⊢; omega))) | fail)
      · have : nmU c = false := by simp only [nmU, lowU]; grind
        rw [hR, hf this]
        simp
      · have : nmU c = true := by simp only [nmU, lowU]; grind
        exact ⟨⟨k + 1, by omega, by rw [ha, hn, this]; rfl⟩, by dsimp only; omega, Ents.envH (by simp [go_sem]) rfl⟩
    · have hke : k = s.length := by simp only [decide_eq_false_iff_not] at hb; omega
      rw [hke, List.take_length] at hn
      repeat' (first | (simp (disch := first | omega | (simp only [List.length_cons, List.length_nil]; first | done | omega)) only [go_sem]) | (refine allI (fun b => ?_)) | (refine allT (fun τ => ?_)) | (refine brP (fun h => ?_) (fun h => ?_) <;> (try simp only [zgx, zbx] at h)) | (apply And.intro; focus (first | omega | (simp; done) | (simp +contextual; done) | (intros; and_intros <;> first | assumption | omega) | (intros; simp_all; done) | (intro hgd; refine ⟨hgd, ?_⟩; simp [hgd]; done) | (intro hgd; simp only [zgx] at hgd ⊢; omega))) | fail)
      rw [hR, hn, hlow]
      simp; omega
theorem chkp (p : Pr) : Pure Tryd.prog gl 71 [.agg (PrC p)] (.int .i64 (chkPr p)) := by
  refine fn_pureT Tryd.func71 t71 Tryd.ntmps71 (by simp) ?_
  unfold c71 r71
  rw [PrC_eq]
  repeat' (first | (simp (disch := first | omega | (simp only [List.length_cons, List.length_nil]; first | done | omega)) only [go_sem, bne_nil_len]) | (refine allI (fun b => ?_)) | (refine allT (fun τ => ?_)) | (refine brP (fun h => ?_) (fun h => ?_) <;> (try simp only [zgx, zbx] at h)) | refine call_U (proper _) ?_ | refine callG_U (fun _ => proper _) ?_ | refine call_T (proper _) ?_ | refine callG_T (fun _ => proper _) ?_ | refine call_N (proper _) ?_ | refine call_of (proper _) ?_ | refine callG_of (fun _ => proper _) ?_ | (apply And.intro; focus (first | omega | (simp; done) | (simp +contextual; done) | (intros; and_intros <;> first | assumption | omega) | (intros; simp_all; done) | (intro hgd; refine ⟨hgd, ?_⟩; simp [hgd]; done) | (intro hgd; simp only [zgx] at hgd ⊢; omega))) | fail)
  all_goals
    simp only [chkPr]
    grind
/-- an earlier pair has the name of the pair n -/
def dupB (ps : List Pr) (n k : Nat) : Bool := (List.range k).any fun j => (ps.getD j pr0).n == (ps.getD n pr0).n
theorem dupB_succ (ps : List Pr) (n k : Nat) : dupB ps n (k + 1) = (dupB ps n k || ((ps.getD k pr0).n == (ps.getD n pr0).n)) := by simp [dupB, List.range_succ]
/-- the first error of the first n pairs -/
def chkN (ps : List Pr) : Nat → Int
  | 0 => 0
  | n + 1 => if chkN ps n ≠ 0 then chkN ps n else if chkPr (ps.getD n pr0) ≠ 0 then chkPr (ps.getD n pr0) else if dupB ps n n = true then 33 else 0
theorem chkN_err {ps : List Pr} {n : Nat} (h : chkN ps n ≠ 0) : ∀ m, n ≤ m → chkN ps m = chkN ps n
  | 0, hm => by rw [show n = 0 by omega]
  | m + 1, hm => by
    rcases (by omega : n = m + 1 ∨ n ≤ m) with e | hm
    · rw [e]
    · rw [chkN, chkN_err h m hm, if_pos h]
/-- the first error of a record -/
def chkRc (r : Rc) : Int :=
  if nameS r.ty = [] then 30
  else if (r.ti < 0 ∨ 1099511627776 < r.ti) ∨ (r.se < 0 ∨ 1073741824 < r.se) then 31
  else if 24 < r.ps.length then 32 else chkN r.ps r.ps.length
theorem chkr (r : Rc) : Pure Tryd.prog gl 47 [.agg (RcC r)] (.int .i64 (chkRc r)) := by
  refine fn_pureT Tryd.func47 t47 Tryd.ntmps47 (by simp) ?_
  have hle := len_pr r.ps
  have hR : chkRc r = if nameS r.ty = [] then 30 else if (r.ti < 0 ∨ 1099511627776 < r.ti) ∨ (r.se < 0 ∨ 1073741824 < r.se) then 31 else if 24 < r.ps.length then 32 else chkN r.ps r.ps.length := rfl
  have hzP : zeros ([.str [], .int .i64 0, .int .i64 0, .str []] : List LV) 4 = [.str [], .int .i64 0, .int .i64 0, .str []] := Eq.trans rfl rfl
  unfold c47 r47
  rw [RcC_eq]
  repeat' (first | (simp (disch := first | omega | (simp only [List.length_cons, List.length_nil]; first | done | omega)) only [go_sem, hzP]) | (refine allI (fun b => ?_)) | (refine allT (fun τ => ?_)) | (refine brP (fun h => ?_) (fun h => ?_) <;> (try simp only [zgx, zbx] at h)) | refine call_U (name _) ?_ | refine callG_U (fun _ => name _) ?_ | refine call_T (name _) ?_ | refine callG_T (fun _ => name _) ?_ | refine call_N (name _) ?_ | refine call_of (name _) ?_ | refine callG_of (fun _ => name _) ?_ | (apply And.intro; focus (first | omega | (simp; done) | (simp +contextual; done) | (intros; and_intros <;> first | assumption | omega) | (intros; simp_all; done) | (intro hgd; refine ⟨hgd, ?_⟩; simp [hgd]; done) | (intro hgd; simp only [zgx] at hgd ⊢; omega))) | fail)
  · rw [hR, if_pos ‹_›]
  · rw [hR, if_neg ‹_›, if_pos (by omega)]
  · rw [hR, if_neg ‹_›, if_neg (by omega), if_pos (by omega)]
  · rename_i h1 h2
    revert b
    intro b1
    have hR : chkRc r = chkN r.ps r.ps.length := by rw [hR, if_neg h1, if_neg (by omega), if_neg (by omega)]
    refine loopI (ι := Nat) (fun n => n ≤ r.ps.length ∧ chkN r.ps n = 0) (fun n => [(40, .int .i64 n), (39, .int .i64 r.ps.length), (38, .sl 4 r.ps.length (r.ps.flatMap PrC)), (1, .ptr 1 b1 0)]) (fun _ => [(1, .blk b1 [.int .i64 r.ty, .int .i64 r.ti, .int .i64 r.se, .sl 4 r.ps.length (r.ps.flatMap PrC)])]) (fun n => r.ps.length - n) 0 ⟨by omega, rfl⟩ (Ents.envH (by simp [go_sem]) rfl) ?_
    rintro n ⟨hn, hc⟩
    simp (disch := first | omega | (simp only [List.length_cons, List.length_nil]; first | done | omega)) only [go_sem]
    refine brP (fun hb => ?_) (fun hb => ?_)
    · have hn2 : n < r.ps.length := by simpa using hb
      have e2 : ((r.ps.flatMap PrC).drop (n * 4)).take 4 = PrC (r.ps.getD n pr0) := take_rows (f := PrC) (fun _ => rfl) pr0 _ hn2
      have hs : chkN r.ps (n + 1) = if chkPr (r.ps.getD n pr0) ≠ 0 then chkPr (r.ps.getD n pr0) else if dupB r.ps n n = true then 33 else 0 := by rw [chkN, if_neg (by omega)]
      have hck := chkp (r.ps.getD n pr0)
      generalize hp : r.ps.getD n pr0 = p at *
      rw [PrC_eq] at e2 hck
      repeat' (first | (simp (disch := first | omega | (simp only [List.length_cons, List.length_nil]; first | done | omega)) only [go_sem, e2, hzP, Nat.sub_zero]) | (refine allI (fun b => ?_)) | (refine allT (fun τ => ?_)) | (refine brP (fun h => ?_) (fun h => ?_) <;> (try simp only [zgx, zbx] at h)) | refine call_U (hck) ?_ | refine callG_U (fun _ => hck) ?_ | refine call_T (hck) ?_ | refine callG_T (fun _ => hck) ?_ | refine call_N (hck) ?_ | refine call_of (hck) ?_ | refine callG_of (fun _ => hck) ?_ | (apply And.intro; focus (first | omega | (simp; done) | (simp +contextual; done) | (intros; and_intros <;> first | assumption | omega) | (intros; simp_all; done) | (intro hgd; refine ⟨hgd, ?_⟩; simp [hgd]; done) | (intro hgd; simp only [zgx] at hgd ⊢; omega))) | fail)
      · rw [if_pos h] at hs
        rw [hR, chkN_err (n := n + 1) (by rw [hs]; exact h) _ (by omega), hs]
      · have h0 : chkPr p = 0 := by simpa using h
        rw [if_neg (by omega)] at hs
        refine loopI (ι := Nat) (fun j => j ≤ n ∧ dupB r.ps n j = false) (fun j => [(55, .int .i64 j), (54, .int .i64 n), (53, .sl 4 n ((r.ps.flatMap PrC).take (n * 4))), (3, .int .i64 n), (4, .ptr 4 b 0), (40, .int .i64 n), (39, .int .i64 r.ps.length), (38, .sl 4 r.ps.length (r.ps.flatMap PrC)), (1, .ptr 1 b1 0)]) (fun _ => [(4, .blk b [.str p.n, .int .i64 p.k, .int .i64 p.v, .str p.t]), (1, .blk b1 [.int .i64 r.ty, .int .i64 r.ti, .int .i64 r.se, .sl 4 r.ps.length (r.ps.flatMap PrC)])]) (fun j => n - j) 0 ⟨by omega, rfl⟩ (Ents.envH (by simp [go_sem]) rfl) ?_
        rintro j ⟨hj, hd⟩
        have htl : ((r.ps.flatMap PrC).take (n * 4)).length = n * 4 := by rw [List.length_take, hle]; omega
        simp (disch := first | omega | (simp only [List.length_cons, List.length_nil]; first | done | omega)) only [go_sem]
        refine brP (fun hb2 => ?_) (fun hb2 => ?_)
        · have hj2 : j < n := by simpa using hb2
          have e3 : (((r.ps.flatMap PrC).take (n * 4)).drop (j * 4)).take 4 = PrC (r.ps.getD j pr0) := by
            rw [List.drop_take, List.take_take, Nat.min_eq_left (by omega)]
            exact take_rows (f := PrC) (fun _ => rfl) pr0 _ (by omega)
          have hds := dupB_succ r.ps n j
          rw [hp] at hds
          have hdm : (r.ps.getD j pr0).n = p.n → dupB r.ps n n = true := fun e => by
            rw [dupB, List.any_eq_true]
            exact ⟨j, List.mem_range.2 hj2, by rw [hp, e]; simp⟩
          generalize r.ps.getD j pr0 = q at *
          rw [PrC_eq] at e3
          repeat' (first | (simp (disch := first | omega | (simp only [List.length_cons, List.length_nil]; first | done | omega)) only [go_sem, e3, hzP]) | (refine allI (fun b => ?_)) | (refine allT (fun τ => ?_)) | (refine brP (fun h => ?_) (fun h => ?_) <;> (try simp only [zgx, zbx] at h)) | (apply And.intro; focus (first | omega | (simp; done) | (simp +contextual; done) | (intros; and_intros <;> first | assumption | omega) | (intros; simp_all; done) | (intro hgd; refine ⟨hgd, ?_⟩; simp [hgd]; done) | (intro hgd; simp only [zgx] at hgd ⊢; omega))) | fail)
          · have h9 := hdm h
            rw [if_pos h9] at hs
            rw [hR, chkN_err (n := n + 1) (by rw [hs]; simp) _ (by omega), hs]
          · exact ⟨⟨j + 1, by omega, by rw [hds, hd]; simpa using h⟩, by dsimp only; omega, Ents.sub (by simp [go_sem]) ⟨_, List.Sublist.cons _ (List.Sublist.refl _), List.Perm.refl _⟩⟩
        · have hje : j = n := by simp only [decide_eq_false_iff_not] at hb2; omega
          rw [hje] at hd
          rw [if_neg (by rw [hd]; simp)] at hs
          repeat' (first | (simp (disch := first | omega | (simp only [List.length_cons, List.length_nil]; first | done | omega)) only [go_sem]) | (refine allI (fun b => ?_)) | (refine allT (fun τ => ?_)) | (refine brP (fun h => ?_) (fun h => ?_) <;> (try simp only [zgx, zbx] at h)) | (apply And.intro; focus (first | omega | (simp; done) | (simp +contextual; done) | (intros; and_intros <;> first | assumption | omega) | (intros; simp_all; done) | (intro hgd; refine ⟨hgd, ?_⟩; simp [hgd]; done) | (intro hgd; simp only [zgx] at hgd ⊢; omega))) | fail)
          exact ⟨⟨n + 1, by omega, hs⟩, by dsimp only; omega, Ents.sub (by simp [go_sem]) ⟨_, List.Sublist.cons _ (List.Sublist.refl _), List.Perm.refl _⟩⟩
    · have hne : n = r.ps.length := by simp only [decide_eq_false_iff_not] at hb; omega
      repeat' (first | (simp (disch := first | omega | (simp only [List.length_cons, List.length_nil]; first | done | omega)) only [go_sem]) | (refine allI (fun b => ?_)) | (refine allT (fun τ => ?_)) | (refine brP (fun h => ?_) (fun h => ?_) <;> (try simp only [zgx, zbx] at h)) | (apply And.intro; focus (first | omega | (simp; done) | (simp +contextual; done) | (intros; and_intros <;> first | assumption | omega) | (intros; simp_all; done) | (intro hgd; refine ⟨hgd, ?_⟩; simp [hgd]; done) | (intro hgd; simp only [zgx] at hgd ⊢; omega))) | fail)
      rw [hR, ← hne, hc]
end Go.Proofs.YtfheeghkajihoaaDoor
