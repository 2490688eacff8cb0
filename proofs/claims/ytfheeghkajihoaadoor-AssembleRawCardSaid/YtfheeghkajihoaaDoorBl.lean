/- Layer 22: what settling does, step by step (the program). -/
import Derived.Test.YtfheeghkajihoaaDoorBk
namespace Go.Proofs.YtfheeghkajihoaaDoor
open Go Go.Lx
set_option linter.unusedSimpArgs false
set_option linter.unusedVariables false
set_option maxRecDepth 100000
set_option maxHeartbeats 4000000

/-- where an event with a serial number is -/
def heldE (l : List Ev) (s : Int) : Int := fstI l.length fun i => (l.getD i ev0).se == s
/-- the number before the least one above x of the first n events -/
def befEN (l : List Ev) (x : Int) : Nat → Int
  | 0 => 1073741824
  | n + 1 => if x < (l.getD n ev0).se then min (befEN l x n) ((l.getD n ev0).se - 1) else befEN l x n
def befE (l : List Ev) (x : Int) : Int := befEN l x l.length
/-- the number before the least one above x at which a range begins, at most m, of the first n ranges -/
def losN (ls : List Ls) (x m : Int) : Nat → Int
  | 0 => m
  | n + 1 => if x < (ls.getD n ls0).f then min (losN ls x m n) ((ls.getD n ls0).f - 1) else losN ls x m n
def losI (ls : List Ls) (x m : Int) : Int := losN ls x m ls.length
theorem getD_fst (ws : List (Ev × Tok)) (i : Nat) : (ws.map Prod.fst).getD i ev0 = (ws.getD i ew0).1 := by
  simp only [List.getD, List.getElem?_map]
  cases ws[i]? <;> rfl
theorem heldE_fst (ws : List (Ev × Tok)) (s : Int) : heldE (ws.map Prod.fst) s = heldI ws s := by
  simp only [heldE, heldI, List.length_map, getD_fst]
theorem befEN_fst (ws : List (Ev × Tok)) (x : Int) : ∀ n, befEN (ws.map Prod.fst) x n = befN ws x n
  | 0 => rfl
  | n + 1 => by simp only [befEN, befN, befEN_fst ws x n, getD_fst]
theorem befE_fst (ws : List (Ev × Tok)) (x : Int) : befE (ws.map Prod.fst) x = befI ws x := by rw [befE, befI, List.length_map, befEN_fst]
/-- an assembler, and what it gave out -/
abbrev St := As × List Ev
/-- one round; none: nothing more is given out -/
def stepS (edge : Int) (s : St) : Option St :=
  if 1073741824 < s.1.nx then none
  else if 0 ≤ heldE s.1.op s.1.nx then
    if (s.1.op.getD (heldE s.1.op s.1.nx).toNat ev0).co = false ∧ edge < s.1.nx then none
    else some ({ s.1 with op := s.1.op.eraseIdx (heldE s.1.op s.1.nx).toNat, nx := s.1.nx + 1 }, s.2 ++ [s.1.op.getD (heldE s.1.op s.1.nx).toNat ev0])
  else if (covI s.1.ls s.1.nx).2 then some ({ s.1 with nx := min (covI s.1.ls s.1.nx).1 (befE s.1.op s.1.nx) + 1 }, s.2)
  else if edge < s.1.nx then none
  else some ({ s.1 with gs := gapS s.1.gs s.1.nx (losI s.1.ls s.1.nx (min edge (befE s.1.op s.1.nx))), nx := losI s.1.ls s.1.nx (min edge (befE s.1.op s.1.nx)) + 1 }, s.2)
/-- what comes of it in the end -/
inductive Runs (edge : Int) : St → St → Prop
  | stop {s : St} : stepS edge s = none → Runs edge s s
  | step {s s' r : St} : stepS edge s = some s' → Runs edge s' r → Runs edge s r
def runS (edge : Int) : Nat → St → St
  | 0, s => s
  | f + 1, s => match stepS edge s with
    | none => s
    | some s' => runS edge f s'
theorem covN_ge (ls : List Ls) (x : Int) : ∀ n, (covN ls x n).2 = true → x ≤ (covN ls x n).1
  | 0, h => by simp [covN] at h
  | n + 1, h => by
    simp only [covN] at h ⊢
    by_cases hc : (ls.getD n ls0).f ≤ x ∧ x ≤ (ls.getD n ls0).l
    · rw [if_pos hc]; dsimp only; omega
    · rw [if_neg hc] at h ⊢
      exact covN_ge ls x n h
theorem befEN_ge (l : List Ev) (x : Int) (hx : x ≤ 1073741824) : ∀ n, x ≤ befEN l x n
  | 0 => hx
  | n + 1 => by
    have := befEN_ge l x hx n
    simp only [befEN]
    split <;> omega
theorem losN_ge (ls : List Ls) (x m : Int) (hx : x ≤ m) : ∀ n, x ≤ losN ls x m n
  | 0 => hx
  | n + 1 => by
    have := losN_ge ls x m hx n
    simp only [losN]
    split <;> omega
theorem befEN_le (l : List Ev) (x : Int) : ∀ n, befEN l x n ≤ 1073741824
  | 0 => Int.le_refl _
  | n + 1 => by
    have := befEN_le l x n
    simp only [befEN]
    split <;> omega
theorem losN_le (ls : List Ls) (x m : Int) : ∀ n, losN ls x m n ≤ m
  | 0 => Int.le_refl _
  | n + 1 => by
    have := losN_le ls x m n
    simp only [losN]
    split <;> omega
theorem stepS_up {edge : Int} {s s' : St} (h : stepS edge s = some s') : s.1.nx < s'.1.nx ∧ s.1.nx ≤ 1073741824 ∧ s'.1.nx ≤ 1073741825 := by
  unfold stepS at h
  by_cases h1 : 1073741824 < s.1.nx
  · rw [if_pos h1] at h; cases h
  rw [if_neg h1] at h
  by_cases h2 : 0 ≤ heldE s.1.op s.1.nx
  · rw [if_pos h2] at h
    split at h
    · cases h
    · cases h; dsimp only; omega
  rw [if_neg h2] at h
  have hb := befEN_ge s.1.op s.1.nx (by omega) s.1.op.length
  have hb2 := befEN_le s.1.op s.1.nx s.1.op.length
  change s.1.nx ≤ befE s.1.op s.1.nx at hb
  change befE s.1.op s.1.nx ≤ _ at hb2
  by_cases h3 : (covI s.1.ls s.1.nx).2 = true
  · rw [if_pos h3] at h
    cases h
    have := covN_ge s.1.ls s.1.nx _ h3
    change s.1.nx ≤ (covI s.1.ls s.1.nx).1 at this
    dsimp only
    omega
  rw [if_neg h3] at h
  by_cases h4 : edge < s.1.nx
  · rw [if_pos h4] at h; cases h
  rw [if_neg h4] at h
  cases h
  have h5 := losN_ge s.1.ls s.1.nx (min edge (befE s.1.op s.1.nx)) (by omega) s.1.ls.length
  have h6 := losN_le s.1.ls s.1.nx (min edge (befE s.1.op s.1.nx)) s.1.ls.length
  change _ ≤ losI _ _ _ at h5
  change losI _ _ _ ≤ _ at h6
  dsimp only
  omega
theorem Runs.run {edge : Int} {s r : St} (h : Runs edge s r) : ∀ f : Nat, 1073741825 - s.1.nx ≤ f → runS edge f s = r := by
  induction h with
  | stop h =>
    intro f _
    cases f with
    | zero => rfl
    | succ f => simp only [runS, h]
  | step h _ ih =>
    intro f hf
    have hu := stepS_up h
    cases f with
    | zero => omega
    | succ f =>
      simp only [runS, h]
      exact ih f (by omega)
theorem Runs.det {edge : Int} {s r r' : St} (h : Runs edge s r) (h' : Runs edge s r') : r = r' := by
  rw [← h.run _ (Int.self_le_toNat _), ← h'.run _ (Int.self_le_toNat _)]
theorem runs_ex (edge : Int) : ∀ (f : Nat) (s : St), 1073741825 - s.1.nx ≤ f → Runs edge s (runS edge f s)
  | f, s, hf => by
    cases hs : stepS edge s with
    | none =>
      cases f with
      | zero => exact .stop hs
      | succ f => simp only [runS, hs]; exact .stop hs
    | some s' =>
      have hu := stepS_up hs
      cases f with
      | zero => omega
      | succ f =>
        simp only [runS, hs]
        exact .step hs (runs_ex edge f s' (by omega))
end Go.Proofs.YtfheeghkajihoaaDoor
