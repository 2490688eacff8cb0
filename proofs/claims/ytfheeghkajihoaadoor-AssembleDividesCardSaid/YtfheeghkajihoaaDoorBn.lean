/- Layer 22: what feeding and flushing do (the program). -/
import Derived.Test.YtfheeghkajihoaaDoorBm
namespace Go.Proofs.YtfheeghkajihoaaDoor
open Go Go.Lx
set_option linter.unusedSimpArgs false
set_option linter.unusedVariables false
set_option maxRecDepth 100000
set_option maxHeartbeats 4000000

/-- where a new event is put in -/
def posE (l : List Ev) (s : Int) : Nat := let i := fstI l.length fun i => decide (s < (l.getD i ev0).se); if i < 0 then l.length else i.toNat
theorem posE_fst (ws : List (Ev × Tok)) (s : Int) : posE (ws.map Prod.fst) s = posI ws s := by
  simp only [posE, posI, List.length_map, getD_fst]
/-- the event of a record, if it is held -/
def evOf (a : As) (r : Rc) : Option Ev := if 0 ≤ heldE a.op r.se then some (a.op.getD (heldE a.op r.se).toNat ev0) else none
/-- the events with a record more -/
def putE (a : As) (r : Rc) : List Ev := if 0 ≤ heldE a.op r.se then a.op.set (heldE a.op r.se).toNat (addR (a.op.getD (heldE a.op r.se).toNat ev0) r) else a.op.take (posE a.op r.se) ++ addR ⟨a.bo, r.se, r.ti, [], false⟩ r :: a.op.drop (posE a.op r.se)
def takeS (a : As) (r : Rc) : As × Bool :=
  if strayS a.nx (evOf a r) r then ({ a with st := a.st + 1 }, false)
  else ({ a with op := putE a r, la := max a.la r.se, ls := a.ls ++ covL r }, true)
def settleS (edge : Int) (s : St) : St := ({ (runS edge (1073741825 - s.1.nx).toNat s).1 with ls := keepL (runS edge (1073741825 - s.1.nx).toNat s).1.ls (runS edge (1073741825 - s.1.nx).toNat s).1.nx }, (runS edge (1073741825 - s.1.nx).toNat s).2)
theorem settleS_of {edge : Int} {s R : St} (h : Runs edge s R) : settleS edge s = ({ R.1 with ls := keepL R.1.ls R.1.nx }, R.2) := by
  rw [settleS, h.run _ (Int.self_le_toNat _)]
def feedR (s : St) (r : Rc) : St := if (takeS s.1 r).2 then settleS ((takeS s.1 r).1.la - 64) ((takeS s.1 r).1, s.2) else ((takeS s.1 r).1, s.2)
def feedS (a : As) (l : List Rc) : St := l.foldl feedR (a, [])
def flushS (a : As) : St := settleS a.la (a, [])
/-- what is within a computer's reach -/
structure okA (a : As) (m : Nat) : Prop where
  op : a.op.length ≤ m
  ev : ∀ e ∈ a.op, (1 ≤ e.se ∧ e.se ≤ 1073741824) ∧ e.rs.length ≤ m ∧ ∀ r ∈ e.rs, r.ps.length ≤ 1000000
  lL : a.ls.length ≤ m
  ls : okLs a.ls
  gs : okGs a.gs
  nx : 1 ≤ a.nx ∧ a.nx ≤ 1073741825
  lG : a.gs.length < a.nx
  st : 0 ≤ a.st ∧ a.st ≤ m
  la : 0 ≤ a.la ∧ a.la ≤ 1073741824
theorem okA.mono {a : As} {m m' : Nat} (h : okA a m) (hm : m ≤ m') : okA a m' :=
  ⟨Nat.le_trans h.op hm, fun e he => ⟨(h.ev e he).1, Nat.le_trans (h.ev e he).2.1 hm, (h.ev e he).2.2⟩, Nat.le_trans h.lL hm, h.ls, h.gs, h.nx, h.lG, ⟨h.st.1, by have := h.st.2; omega⟩, h.la⟩
theorem chk_se {r : Rc} (h : chkRc r = 0) : 0 ≤ r.se ∧ r.se ≤ 1073741824 := by
  unfold chkRc at h
  grind
theorem covL_ok {r : Rc} (h : r.se ≤ 1073741824) : okLs (covL r) := by
  intro x hx
  unfold covL covS at hx
  split at hx
  · rename_i y hy
    simp only [List.mem_singleton] at hx
    subst hx
    split at hy
    · cases hy
    · cases hy
      dsimp only
      omega
  · simp at hx
theorem stray_se {nx : Int} {x : Option Ev} {r : Rc} (h : strayS nx x r = false) : chkRc r = 0 ∧ r.se ≠ 0 ∧ nx ≤ r.se := by
  unfold strayS at h
  grind
theorem okA_take {a : As} {m : Nat} {r : Rc} (h : okA a m) (hr : r.ps.length ≤ 1000000) : okA (takeS a r).1 (m + 1) := by
  unfold takeS
  by_cases hs : strayS a.nx (evOf a r) r = true
  · rw [if_pos hs]
    have h2 := h.mono (Nat.le_succ m)
    exact ⟨h2.op, h2.ev, h2.lL, h2.ls, h2.gs, h2.nx, h2.lG, ⟨by have := h.st; dsimp only; omega, by have := h.st; dsimp only; omega⟩, h2.la⟩
  · rw [if_neg hs]
    obtain ⟨h1, h2, h3⟩ := stray_se (Bool.eq_false_iff.2 hs)
    have h4 := chk_se h1
    have hn := h.nx
    have hev : ∀ e : Ev, ((1 ≤ e.se ∧ e.se ≤ 1073741824) ∧ e.rs.length ≤ m ∧ ∀ r ∈ e.rs, r.ps.length ≤ 1000000) → (1 ≤ (addR e r).se ∧ (addR e r).se ≤ 1073741824) ∧ (addR e r).rs.length ≤ m + 1 ∧ ∀ q ∈ (addR e r).rs, q.ps.length ≤ 1000000 := fun e ⟨e1, e2, e3⟩ => by
      refine ⟨e1, by simp [addR]; omega, fun q hq => ?_⟩
      rcases List.mem_append.1 hq with hq | hq
      · exact e3 q hq
      · simp only [List.mem_singleton] at hq
        rw [hq]; exact hr
    refine ⟨?_, ?_, ?_, ?_, h.gs, hn, h.lG, ⟨h.st.1, by have := h.st.2; dsimp only; omega⟩, ?_⟩
    · have := h.op
      simp only [putE]
      split
      · rw [List.length_set]; omega
      · simp; omega
    · have old : ∀ e ∈ a.op, (1 ≤ e.se ∧ e.se ≤ 1073741824) ∧ e.rs.length ≤ m + 1 ∧ ∀ r ∈ e.rs, r.ps.length ≤ 1000000 := fun e he => ⟨(h.ev e he).1, by have := (h.ev e he).2.1; omega, (h.ev e he).2.2⟩
      intro e he
      simp only [putE] at he
      split at he
      · rename_i hi
        rcases List.mem_or_eq_of_mem_set he with he | rfl
        · exact old e he
        · have hr := fstI_range a.op.length fun i => (a.op.getD i ev0).se == r.se
          change _ ∧ heldE a.op r.se < _ at hr
          exact hev _ (h.ev _ (getD_memA ev0 (by omega)))
      · rcases List.mem_append.1 he with he | he
        · exact old e (List.mem_of_mem_take he)
        · rcases List.mem_cons.1 he with rfl | he
          · exact hev _ ⟨by dsimp only; omega, by simp, by simp⟩
          · exact old e (List.mem_of_mem_drop he)
    · have := h.lL
      have h5 : (covL r).length ≤ 1 := by unfold covL; split <;> simp
      simp only [List.length_append]; omega
    · intro x hx
      rcases List.mem_append.1 hx with hx | hx
      · exact h.ls x hx
      · exact covL_ok h4.2 x hx
    · have := h.la
      dsimp only; omega
/-- what a round keeps -/
theorem stepS_keep {edge : Int} {s s' : St} (h : stepS edge s = some s') : (s'.1.bo = s.1.bo ∧ s'.1.st = s.1.st ∧ s'.1.la = s.1.la ∧ s'.1.ls = s.1.ls) ∧ s'.1.op.Sublist s.1.op ∧ (∃ t, s'.2 = s.2 ++ t) := by
  unfold stepS at h
  split at h
  · cases h
  split at h
  · split at h
    · cases h
    · cases h; exact ⟨⟨rfl, rfl, rfl, rfl⟩, List.eraseIdx_sublist _ _, _, rfl⟩
  split at h
  · cases h; exact ⟨⟨rfl, rfl, rfl, rfl⟩, List.Sublist.refl _, [], by simp⟩
  split at h
  · cases h
  · cases h; exact ⟨⟨rfl, rfl, rfl, rfl⟩, List.Sublist.refl _, [], by simp⟩
theorem Runs.keep {edge : Int} {s s' : St} (h : Runs edge s s') : (s'.1.bo = s.1.bo ∧ s'.1.st = s.1.st ∧ s'.1.la = s.1.la ∧ s'.1.ls = s.1.ls) ∧ s'.1.op.Sublist s.1.op := by
  induction h with
  | stop _ => exact ⟨⟨rfl, rfl, rfl, rfl⟩, List.Sublist.refl _⟩
  | step h _ ih =>
    obtain ⟨⟨a1, a2, a3, a4⟩, a5, _⟩ := stepS_keep h
    obtain ⟨⟨b1, b2, b3, b4⟩, b5⟩ := ih
    exact ⟨⟨b1.trans a1, b2.trans a2, b3.trans a3, b4.trans a4⟩, b5.trans a5⟩
end Go.Proofs.YtfheeghkajihoaaDoor
