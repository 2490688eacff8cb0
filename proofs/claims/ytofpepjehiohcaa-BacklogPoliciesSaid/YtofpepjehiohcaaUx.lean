/- Layer 20: policies of failures (no program in sight). -/
import Derived.Test.YtofpepjehiohcaaUu
namespace Go.Proofs.Ytofpepjehiohcaa
open Go Go.Lx
set_option linter.unusedSimpArgs false
set_option linter.unusedVariables false
set_option maxRecDepth 100000
set_option maxHeartbeats 4000000

/-- without the policy and what it alone changes -/
def er (b : Bl) : Bl := { b with fail := 0, no := [], hal := false }
theorem er_lose (b : Bl) (why t : Int) : loseB (er b) why t = er (loseB b why t) := by
  simp [loseB, er, losePd]
  rfl
theorem er_refuse (b : Bl) (s t n : Int) : refuse (er b) s t n = refuse b s t n := rfl
theorem er_off (b : Bl) (t n : Int) : offB (er b) t n = (er (offB b t n).1, (offB b t n).2) := by
  unfold offB
  rw [show (er b).ser = b.ser from rfl]
  split
  · rfl
  · dsimp only
    rw [show (er b).pd = b.pd from rfl, er_refuse, er_lose]
    cases pend b.pd
    · simp only [Bool.false_eq_true, if_false]
      split <;> rfl
    · simp only [if_true]
      split <;> rfl
theorem er_put (b : Bl) (r : Rc) (last : Bool) : putB (er b) r last = er (putB b r last) := rfl
theorem er_take (b : Bl) (t n : Int) : takeB (er b) t n = er (takeB b t n) := by
  unfold takeB
  rw [show (er b).pd = b.pd from rfl, show restB (er b) n = er (restB b n) from rfl]
  have hc : canTell (er (restB b n)) t ↔ canTell (restB b n) t := Iff.rfl
  by_cases h : pend b.pd = true ∧ canTell (restB b n) t
  · rw [if_pos h, if_pos (by rwa [hc])]; rfl
  · rw [if_neg h, if_neg (by rwa [hc])]
def erP (x : Pl) : Pl := { x with b := er x.b }
theorem erP_off (x : Pl) (n : Int) : offP (erP x) n = erP (offP x n) := by
  unfold offP
  simp only [show (erP x).b = er x.b from rfl, show (erP x).ti = x.ti from rfl, er_off]
  split <;> rfl
theorem erP_put (x : Pl) (i : Nat) : putP (erP x) i = erP (putP x i) := by
  unfold putP
  simp only [show (erP x).b = er x.b from rfl, show (erP x).op = x.op from rfl, er_put]
  split <;> rfl
theorem erP_tak (x : Pl) (n : Int) : takP (erP x) n = erP (takP x n) := by
  unfold takP
  simp only [show (erP x).b = er x.b from rfl, show (erP x).ti = x.ti from rfl, er_take]
  rfl
/-- one round of BacklogPolicies -/
def polR (l : List Int) (s : Int × Pl) : Int × Pl :=
  if nV l s.1 6 < 3 then (s.1 + 1 + 1, offP s.2 (pickV l (s.1 + 1) [1, 2, 5]))
  else if nV l s.1 6 < 5 ∧ 0 < s.2.op.length then (s.1 + 1 + 1, putP s.2 (nV l (s.1 + 1) s.2.op.length).toNat)
  else (s.1 + 1 + 1, takP s.2 (nV l (s.1 + 1) 4))
def polN (l : List Int) : Nat → Int × Pl → Int × Pl
  | 0, s => s
  | n + 1, s => polR l (polN l n s)
theorem erP_rnd (l : List Int) (a : Int) (x : Pl) : polR l (a, erP x) = ((polR l (a, x)).1, erP (polR l (a, x)).2) := by
  unfold polR
  simp only [show (erP x).op = x.op from rfl, erP_off, erP_put, erP_tak]
  split
  · rfl
  · split <;> rfl
theorem erP_run (l : List Int) (a : Int) (x : Pl) : ∀ n, polN l n (a, erP x) = ((polN l n (a, x)).1, erP (polN l n (a, x)).2)
  | 0 => rfl
  | n + 1 => by
    rw [polN, polN, erP_run l a x n, erP_rnd]
/-- what a policy changes -/
structure PI (f : Int) (b : Bl) : Prop where
  fl : b.fail = f
  ls : 0 ≤ b.lost
  hl : b.hal = (decide (f = 3) && decide (0 < b.lost))
  no : (b.no.length : Int) = if f = 2 then (if b.lost < 16 then b.lost else 16) else 0
theorem PI.lose {f : Int} {b : Bl} (h : PI f b) (why t : Int) : PI f (loseB b why t) := by
  obtain ⟨h1, h2, h3, h4⟩ := h
  refine ⟨h1, by simp only [loseB]; omega, ?_, ?_⟩
  · simp only [loseB, h1, h3]
    by_cases hf : f = 3
    · simp [hf]; omega
    · simp [hf]
  · simp only [loseB, h1]
    by_cases hf : f = 2
    · simp only [hf, if_true] at h4 ⊢
      simp only [trim, List.length_drop, List.length_append, List.length_singleton]
      split at h4 <;> split <;> omega
    · simp only [hf, if_false] at h4 ⊢
      exact h4
theorem PI.off {f : Int} {b : Bl} (h : PI f b) (t n : Int) : PI f (offB b t n).1 := by
  unfold offB
  split
  · exact h
  · dsimp only
    cases pend b.pd
    · simp only [Bool.false_eq_true, if_false]
      split
      · exact h.lose _ _
      · exact ⟨h.fl, h.ls, h.hl, h.no⟩
    · simp only [if_true]
      split
      · exact h.lose _ _
      · exact ⟨h.fl, h.ls, h.hl, h.no⟩
theorem PI.take {f : Int} {b : Bl} (h : PI f b) (t n : Int) : PI f (takeB b t n) := by
  unfold takeB
  split <;> exact ⟨h.fl, h.ls, h.hl, h.no⟩
theorem PI.rnd {f : Int} (l : List Int) (s : Int × Pl) (h : PI f s.2.b) : PI f (polR l s).2.b := by
  unfold polR
  split
  · dsimp only [offP]
    split <;> exact h.off _ _
  · split
    · dsimp only [putP]
      split <;> exact ⟨h.fl, h.ls, h.hl, h.no⟩
    · exact h.take _ _
theorem PI.run {f : Int} (l : List Int) (s : Int × Pl) (h : PI f s.2.b) : ∀ n, PI f (polN l n s).2.b
  | 0 => h
  | n + 1 => PI.rnd l _ (PI.run l s h n)
/-- the play at its beginning, and what it comes to -/
def polX (l : List Int) (f : Int) : Pl := { begX l 0 with b := confB (begX l 0).b (begX l 0).b.lim (begX l 0).b.rate f }
def polB (l : List Int) (f : Int) : Bl := (polN l 20 (3, polX l f)).2.b
theorem polX_b (l : List Int) {f : Int} (hf : 1 ≤ f ∧ f ≤ 3) : (polX l f).b = { bl0 with lim := begL l 0, rate := begR l 0, fail := f } := by
  have hb : (begX l 0).b = { bl0 with lim := begL l 0, rate := begR l 0, fail := begF l 0 } := by
    simp only [begX, confB, beg_ok l 0, if_true]
  have hs := beg_ok l 0
  simp only [setOk, decide_eq_true_eq] at hs
  simp only [polX, hb, confB]
  rw [if_pos]
  simp only [setOk, decide_eq_true_eq]
  omega
theorem polB_PI (l : List Int) {f : Int} (hf : 1 ≤ f ∧ f ≤ 3) : PI f (polB l f) := by
  refine PI.run l (3, polX l f) ?_ 20
  rw [polX_b l hf]
  refine ⟨rfl, by simp [bl0], by simp [bl0], ?_⟩
  simp [bl0]
theorem polB_er (l : List Int) {f g : Int} (hf : 1 ≤ f ∧ f ≤ 3) (hg : 1 ≤ g ∧ g ≤ 3) : er (polB l f) = er (polB l g) := by
  have h1 := erP_run l 3 (polX l f) 20
  have h2 := erP_run l 3 (polX l g) 20
  have h0 : erP (polX l f) = erP (polX l g) := by
    simp only [erP, polX_b l hf, polX_b l hg]
    rfl
  rw [h0, h2] at h1
  exact (congrArg (fun s => s.2.b) h1).symm
theorem polX_ok (l : List Int) (f : Int) : okP 0 (polX l f) := by
  obtain ⟨h0, h1, h2, h3, h4, h5, h6, h7⟩ := begX_ok l 0
  exact ⟨h0, h1.conf _ _ _, h2.conf _ _ _, h3, h4, h5, h6, h7⟩
theorem polR_step (l : List Int) (a : Int) (x : Pl) : Stepd x (polR l (a, x)).2 := by
  unfold polR
  dsimp only
  split
  · exact .off _
  · split
    · rename_i h
      have := nV_range l (a + 1) (n := x.op.length) (by omega)
      exact .put _ (by omega)
    · exact .tak _
end Go.Proofs.Ytofpepjehiohcaa
