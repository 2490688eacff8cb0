/- Layer 22: what feeding and flushing do (the program). -/
import Derived.Test.YtfheeghkajihoaaDoorBm
namespace Go.Proofs.YtfheeghkajihoaaDoor
open Go Go.Lx
set_option linter.unusedSimpArgs false
set_option linter.unusedVariables false
set_option maxRecDepth 100000
set_option maxHeartbeats 4000000

/-- where a new event is put in -/
def posE (l : List Ev) (s : Int) : Nat := let i := fstI l.length fun i => decide (s < (l.getD i ev0).se); if i < 0 then l.length else i.toNat
theorem posE_fst (ws : List (Ev × Tok)) (s : Int) : posE (ws.map Prod.fst) s = posI ws s := by
  simp only [posE, posI, List.length_map, getD_fst]
/-- the event of a record, if it is held -/
def evOf (a : As) (r : Rc) : Option Ev := if 0 ≤ heldE a.op r.se then some (a.op.getD (heldE a.op r.se).toNat ev0) else none
/-- the events with a record more -/
def putE (a : As) (r : Rc) : List Ev := if 0 ≤ heldE a.op r.se then a.op.set (heldE a.op r.se).toNat (addR (a.op.getD (heldE a.op r.se).toNat ev0) r) else a.op.take (posE a.op r.se) ++ addR ⟨a.bo, r.se, r.ti, [], false⟩ r :: a.op.drop (posE a.op r.se)
def takeS (a : As) (r : Rc) : As × Bool :=
  if strayS a.nx (evOf a r) r then ({ a with st := a.st + 1 }, false)
  else ({ a with op := putE a r, la := max a.la r.se, ls := a.ls ++ covL r }, true)
def settleS (edge : Int) (s : St) : St := ({ (runS edge (1073741825 - s.1.nx).toNat s).1 with ls := keepL (runS edge (1073741825 - s.1.nx).toNat s).1.ls (runS edge (1073741825 - s.1.nx).toNat s).1.nx }, (runS edge (1073741825 - s.1.nx).toNat s).2)
theorem settleS_of {edge : Int} {s R : St} (h : Runs edge s R) : settleS edge s = ({ R.1 with ls := keepL R.1.ls R.1.nx }, R.2) := by
  rw [settleS, h.run _ (Int.self_le_toNat _)]
def feedR (s : St) (r : Rc) : St := if (takeS s.1 r).2 then settleS ((takeS s.1 r).1.la - 64) ((takeS s.1 r).1, s.2) else ((takeS s.1 r).1, s.2)
def feedS (a : As) (l : List Rc) : St := l.foldl feedR (a, [])
def flushS (a : As) : St := settleS a.la (a, [])
/-- what is within a computer's reach -/
structure okA (a : As) (m : Nat) : Prop where
  op : a.op.length ≤ m
  ev : ∀ e ∈ a.op, (1 ≤ e.se ∧ e.se ≤ 1073741824) ∧ e.rs.length ≤ m ∧ ∀ r ∈ e.rs, r.ps.length ≤ 1000000
  lL : a.ls.length ≤ m
  ls : okLs a.ls
  gs : okGs a.gs
  nx : 1 ≤ a.nx ∧ a.nx ≤ 1073741825
  lG : a.gs.length < a.nx
  st : 0 ≤ a.st ∧ a.st ≤ m
  la : 0 ≤ a.la ∧ a.la ≤ 1073741824
theorem okA.mono {a : As} {m m' : Nat} (h : okA a m) (hm : m ≤ m') : okA a m' :=
  ⟨Nat.le_trans h.op hm, fun e he => ⟨(h.ev e he).1, Nat.le_trans (h.ev e he).2.1 hm, (h.ev e he).2.2⟩, Nat.le_trans h.lL hm, h.ls, h.gs, h.nx, h.lG, ⟨h.st.1, by have := h.st.2; omega⟩, h.la⟩
theorem chk_se {r : Rc} (h : chkRc r = 0) : 0 ≤ r.se ∧ r.se ≤ 1073741824 := by
  unfold chkRc at h
  grind
theorem covL_ok {r : Rc} (h : r.se ≤ 1073741824) : okLs (covL r) := by
  intro x hx
  unfold covL covS at hx
  split at hx
  · rename_i y hy
    simp only [List.mem_singleton] at hx
    subst hx
    split at hy
    · cases hy
    · cases hy
      dsimp only
      omega
  · simp at hx
theorem stray_se {nx : Int} {x : Option Ev} {r : Rc} (h : strayS nx x r = false) : chkRc r = 0 ∧ r.se ≠ 0 ∧ nx ≤ r.se := by
  unfold strayS at h
  grind
theorem okA_take {a : As} {m : Nat} {r : Rc} (h : okA a m) (hr : r.ps.length ≤ 1000000) : okA (takeS a r).1 (m + 1) := by
  unfold takeS
  by_cases hs : strayS a.nx (evOf a r) r = true
  · rw [if_pos hs]
    have h2 := h.mono (Nat.le_succ m)
    exact ⟨h2.op, h2.ev, h2.lL, h2.ls, h2.gs, h2.nx, h2.lG, ⟨by have := h.st; dsimp only; omega, by have := h.st; dsimp only; omega⟩, h2.la⟩
  · rw [if_neg hs]
    obtain ⟨h1, h2, h3⟩ := stray_se (Bool.eq_false_iff.2 hs)
    have h4 := chk_se h1
    have hn := h.nx
    have hev : ∀ e : Ev, ((1 ≤ e.se ∧ e.se ≤ 1073741824) ∧ e.rs.length ≤ m ∧ ∀ r ∈ e.rs, r.ps.length ≤ 1000000) → (1 ≤ (addR e r).se ∧ (addR e r).se ≤ 1073741824) ∧ (addR e r).rs.length ≤ m + 1 ∧ ∀ q ∈ (addR e r).rs, q.ps.length ≤ 1000000 := fun e ⟨e1, e2, e3⟩ => by
      refine ⟨e1, by simp [addR]; omega, fun q hq => ?_⟩
      rcases List.mem_append.1 hq with hq | hq
      · exact e3 q hq
      · simp only [List.mem_singleton] at hq
        rw [hq]; exact hr
    refine ⟨?_, ?_, ?_, ?_, h.gs, hn, h.lG, ⟨h.st.1, by have := h.st.2; dsimp only; omega⟩, ?_⟩
    · have := h.op
      simp only [putE]
      split
      · rw [List.length_set]; omega
      · simp; omega
    · have old : ∀ e ∈ a.op, (1 ≤ e.se ∧ e.se ≤ 1073741824) ∧ e.rs.length ≤ m + 1 ∧ ∀ r ∈ e.rs, r.ps.length ≤ 1000000 := fun e he => ⟨(h.ev e he).1, by have := (h.ev e he).2.1; omega, (h.ev e he).2.2⟩
      intro e he
      simp only [putE] at he
      split at he
      · rename_i hi
        rcases List.mem_or_eq_of_mem_set he with he | rfl
        · exact old e he
        · have hr := fstI_range a.op.length fun i => (a.op.getD i ev0).se == r.se
          change _ ∧ heldE a.op r.se < _ at hr
          exact hev _ (h.ev _ (getD_memA ev0 (by omega)))
      · rcases List.mem_append.1 he with he | he
        · exact old e (List.mem_of_mem_take he)
        · rcases List.mem_cons.1 he with rfl | he
          · exact hev _ ⟨by dsimp only; omega, by simp, by simp⟩
          · exact old e (List.mem_of_mem_drop he)
    · have := h.lL
      have h5 : (covL r).length ≤ 1 := by unfold covL; split <;> simp
      simp only [List.length_append]; omega
    · intro x hx
      rcases List.mem_append.1 hx with hx | hx
      · exact h.ls x hx
      · exact covL_ok h4.2 x hx
    · have := h.la
      dsimp only; omega
/-- what a round keeps -/
theorem stepS_keep {edge : Int} {s s' : St} (h : stepS edge s = some s') : (s'.1.bo = s.1.bo ∧ s'.1.st = s.1.st ∧ s'.1.la = s.1.la ∧ s'.1.ls = s.1.ls) ∧ s'.1.op.Sublist s.1.op ∧ (∃ t, s'.2 = s.2 ++ t) := by
  unfold stepS at h
  split at h
  · cases h
  split at h
  · split at h
    · cases h
    · cases h; exact ⟨⟨rfl, rfl, rfl, rfl⟩, List.eraseIdx_sublist _ _, _, rfl⟩
  split at h
  · cases h; exact ⟨⟨rfl, rfl, rfl, rfl⟩, List.Sublist.refl _, [], by simp⟩
  split at h
  · cases h
  · cases h; exact ⟨⟨rfl, rfl, rfl, rfl⟩, List.Sublist.refl _, [], by simp⟩
theorem Runs.keep {edge : Int} {s s' : St} (h : Runs edge s s') : (s'.1.bo = s.1.bo ∧ s'.1.st = s.1.st ∧ s'.1.la = s.1.la ∧ s'.1.ls = s.1.ls) ∧ s'.1.op.Sublist s.1.op := by
  induction h with
  | stop _ => exact ⟨⟨rfl, rfl, rfl, rfl⟩, List.Sublist.refl _⟩
  | step h _ ih =>
    obtain ⟨⟨a1, a2, a3, a4⟩, a5, _⟩ := stepS_keep h
    obtain ⟨⟨b1, b2, b3, b4⟩, b5⟩ := ih
    exact ⟨⟨b1.trans a1, b2.trans a2, b3.trans a3, b4.trans a4⟩, b5.trans a5⟩
end Go.Proofs.YtfheeghkajihoaaDoor

/- Layer 22: a record is taken, with all spare cells (the program). -/
namespace Go.Proofs.YtfheeghkajihoaaDoor
open Go Go.Lx
set_option linter.unusedSimpArgs false
set_option linter.unusedVariables false
set_option maxRecDepth 100000
set_option maxHeartbeats 4000000

theorem LCalls.use {P : Program} {gl : Glob} {f : FuncId} {args : List LV} {H H0 H2 : Heap} {Q K : LV → Heap → Prop} (h : LCalls P gl f args H0 Q) (hp : H.Perm (H0 ++ H2)) (hk : ∀ r H', Q r H' → ∃ H3, (H' ++ H2).Perm H3 ∧ K r H3) : LCalls P gl f args H K := by
  intro w0 M HF w vs hI hv
  refine (actsQ_of (K := fun r H' => ∃ H3, H'.Perm H3 ∧ K r H3) h hp hk w0 M HF w vs hI hv).mono ?_
  rintro _ w' ⟨M', v, r, H', h1, h2, h3, h4, H3, h5, h6⟩
  exact ⟨M', v, r, H3, h1, h2, h3, h4.perm (h5.append_right HF), h6⟩
theorem LCalls.useS {P : Program} {gl : Glob} {f : FuncId} {args : List LV} {H H0 H2 : Heap} {Q K : LV → Heap → Prop} (h : LCalls P gl f args H0 Q) (hp : H.Perm (H0 ++ H2)) (hk : ∀ r H', Q r H' → ∃ H3, H3.Sublist (H' ++ H2) ∧ K r H3) : LCalls P gl f args H K := by
  intro w0 M HF w vs hI hv
  refine (actsQ_of (K := fun r H' => ∃ H3, H3.Sublist H' ∧ K r H3) h hp hk w0 M HF w vs hI hv).mono ?_
  rintro _ w' ⟨M', v, r, H', h1, h2, h3, h4, H3, h5, h6⟩
  exact ⟨M', v, r, H3, h1, h2, h3, h4.sub (h5.append_right HF), h6⟩
def tkw (ws : List (Ev × Tok)) : Heap := ws.map fun x => (61, .tok x.2)
theorem tkw_set {ws : List (Ev × Tok)} {j : Nat} (h : j < ws.length) (x : Ev × Tok) : (tkw (ws.set j x)).Perm ((61, .tok x.2) :: tkw (ws.eraseIdx j)) := by
  rw [List.set_eq_take_append_cons_drop, if_pos h, List.eraseIdx_eq_take_drop_succ]
  exact (List.perm_middle (l₁ := ws.take j) (l₂ := ws.drop (j + 1)) (a := x)).map fun x : Ev × Tok => ((61, Ent.tok x.2) : Nat × Ent)
theorem tkw_at {ws : List (Ev × Tok)} {j : Nat} (h : j < ws.length) : (tkw ws).Perm ((61, .tok (ws.getD j ew0).2) :: tkw (ws.eraseIdx j)) := by
  have e : ws.set j (ws.getD j ew0) = ws := by simp [List.getD, h]
  have := tkw_set h (ws.getD j ew0)
  rwa [e] at this
theorem tkw_ins (ws : List (Ev × Tok)) (j : Nat) (x : Ev × Tok) : (tkw (ws.take j ++ x :: ws.drop j)).Perm ((61, .tok x.2) :: tkw ws) := by
  have h1 : (ws.take j ++ x :: ws.drop j).Perm (x :: ws) := by
    have := (List.perm_middle (l₁ := ws.take j) (l₂ := ws.drop j) (a := x))
    rwa [List.take_append_drop] at this
  exact h1.map fun x : Ev × Tok => ((61, Ent.tok x.2) : Nat × Ent)
/-- what is at work -/
def HT (k : Wk) : Heap := HW k ++ tkw k.ws
structure caps (k : Wk) : Prop where
  cO : k.ws.length ≤ k.cO
  cL : k.a.ls.length ≤ k.cL
  cG : k.a.gs.length ≤ k.cG
theorem pA {a b c d e t : Nat × Ent} {T T' : Heap} (h : T.Perm (t :: T')) : ([a, b, c, d, e] ++ T).Perm ([a, b, c, t] ++ ([d, e] ++ T')) :=
  (h.append_left [a, b, c, d, e]).trans ((List.perm_middle (l₁ := [d, e]) (a := t) (l₂ := T')).append_left [a, b, c])
theorem takeT (k : Wk) (m : Nat) (r : Rc) (hm : m ≤ 1000000000) (hr : r.ps.length ≤ 1000000) (hc : caps k) (ok : okA k.st.1 m) : LCalls Tryd.prog gl 33 [.ptr 50 k.b 0, .agg (RcC r)] (HT k) fun x H => ∃ k', (k'.b = k.b ∧ caps k' ∧ k'.st = ((takeS k.st.1 r).1, k.out)) ∧ x = .bool (takeS k.st.1 r).2 ∧ H = HT k' := by
  have hl : k.ws.length ≤ m := by have := ok.op; rwa [Wk.st, List.length_map] at this
  have hL : k.a.ls.length ≤ m := ok.lL
  have hst : 0 ≤ k.a.st ∧ k.a.st ≤ m := ok.st
  have hE : heldE k.st.1.op r.se = heldI k.ws r.se := heldE_fst _ _
  rw [HT, HW_eq]
  rcases heldI_cases k.ws r.se with hn | ⟨j, hj, hjl, hjs⟩
  · have hev : evOf k.st.1 r = none := by rw [evOf, hE, hn]; rfl
    cases hs : strayS k.a.nx none r with
    | true =>
      have ht : takeS k.st.1 r = ({ k.st.1 with st := k.a.st + 1 }, false) := by
        rw [takeS, hev]; exact if_pos hs
      refine LCalls.use (take0n k r (by omega) hn hs (by omega)) (H2 := [(62, .blk k.bL (BL k)), (63, .blk k.bG (BG k)), (64, .tok k.τ)] ++ tkw k.ws) (List.Perm.refl _) ?_
      rintro _ _ ⟨rfl, rfl⟩
      rw [ht]
      exact ⟨_, List.Perm.refl _, k.stray, ⟨rfl, ⟨hc.cO, hc.cL, hc.cG⟩, rfl⟩, rfl, rfl⟩
    | false =>
      have hp : putE k.st.1 r = (insW k r ⟨0, 0, 0⟩).map Prod.fst := by
        rw [putE, hE, hn]
        rw [if_neg (by omega)]
        simp only [Wk.st, posE_fst, insW, List.map_append, List.map_cons, List.map_take, List.map_drop, newE]
      have hp2 : ∀ τ, (insW k r τ).map Prod.fst = putE k.st.1 r := fun τ => by rw [hp]; simp [insW]
      have ht : takeS k.st.1 r = ({ k.st.1 with op := putE k.st.1 r, la := max k.a.la r.se, ls := k.a.ls ++ covL r }, true) := by
        rw [takeS, hev]; exact if_neg (by rw [show k.st.1.nx = k.a.nx from rfl, hs]; simp)
      refine LCalls.use (take2 k r hr (by omega) hc.cO (by omega) hc.cL hn hs) (H2 := [(63, .blk k.bG (BG k)), (64, .tok k.τ)] ++ tkw k.ws) (List.Perm.refl _) ?_
      rintro _ _ ⟨τ, bO, cO, bL, cL, ⟨h1, h2⟩, rfl, rfl⟩
      rw [ht]
      refine ⟨HT (k.took (insW k r τ) r bO cO bL cL), (pA (tkw_ins k.ws (posI k.ws r.se) (addR (newE k r) r, τ))).symm, k.took (insW k r τ) r bO cO bL cL, ⟨rfl, ⟨?_, h2, hc.cG⟩, ?_⟩, rfl, rfl⟩
      · simp only [Wk.took, insW]
        have := posI_le k.ws r.se
        simp; omega
      · simp only [Wk.st, Wk.took, hp2]
  · have hrl := ok.ev _ (List.mem_map_of_mem (f := Prod.fst) (getD_memA (l := k.ws) (i := j) ew0 hjl))
    have hgd : k.st.1.op.getD j ev0 = (k.ws.getD j ew0).1 := getD_fst _ _
    have hev : evOf k.st.1 r = some (k.ws.getD j ew0).1 := by
      rw [evOf, hE, hj, if_pos (by omega), Int.toNat_natCast, hgd]
    cases hs : strayS k.a.nx (some (k.ws.getD j ew0).1) r with
    | true =>
      have ht : takeS k.st.1 r = ({ k.st.1 with st := k.a.st + 1 }, false) := by
        rw [takeS, hev]; exact if_pos hs
      refine LCalls.use (take0 k r (by omega) j hjl hj hs (by omega)) (H2 := [(62, .blk k.bL (BL k)), (63, .blk k.bG (BG k)), (64, .tok k.τ)] ++ tkw k.ws) (List.Perm.refl _) ?_
      rintro _ _ ⟨rfl, rfl⟩
      rw [ht]
      exact ⟨_, List.Perm.refl _, k.stray, ⟨rfl, ⟨hc.cO, hc.cL, hc.cG⟩, rfl⟩, rfl, rfl⟩
    | false =>
      have hp : ∀ τ, (k.ws.set j (addR (k.ws.getD j ew0).1 r, τ)).map Prod.fst = putE k.st.1 r := fun τ => by
        rw [putE, hE, hj, if_pos (by omega), Int.toNat_natCast, hgd, List.map_set]
        rfl
      have ht : takeS k.st.1 r = ({ k.st.1 with op := putE k.st.1 r, la := max k.a.la r.se, ls := k.a.ls ++ covL r }, true) := by
        rw [takeS, hev]; exact if_neg (by rw [show k.st.1.nx = k.a.nx from rfl, hs]; simp)
      refine LCalls.use (take1 k r hr (by omega) (by omega) hc.cL j hjl (by have := hrl.2.1; omega) hj hs) (H2 := [(63, .blk k.bG (BG k)), (64, .tok k.τ)] ++ tkw (k.ws.eraseIdx j)) (pA (tkw_at hjl)) ?_
      rintro _ _ ⟨τ, bL, cL, h2, rfl, rfl⟩
      rw [ht]
      refine ⟨HT (k.took (k.ws.set j (addR (k.ws.getD j ew0).1 r, τ)) r k.bO k.cO bL cL), (pA (tkw_set hjl (addR (k.ws.getD j ew0).1 r, τ))).symm, k.took (k.ws.set j (addR (k.ws.getD j ew0).1 r, τ)) r k.bO k.cO bL cL, ⟨rfl, ⟨?_, h2, hc.cG⟩, ?_⟩, rfl, rfl⟩
      · simp only [Wk.took, List.length_set]
        exact hc.cO
      · simp only [Wk.st, Wk.took, hp]
theorem okW_of {k : Wk} {m : Nat} (hm : m ≤ 1000000000) (hc : caps k) (ok : okA k.st.1 m) (ho : k.out.length < k.a.nx) : okW k :=
  ⟨hc.cO, hc.cL, hc.cG, by have := ok.op; rw [Wk.st, List.length_map] at this; omega, Nat.le_trans ok.lL hm, fun x hx => (ok.ev _ (List.mem_map_of_mem (f := Prod.fst) hx)).1, ok.ls, ok.gs, ok.nx, ok.lG, ho⟩
theorem settleT (k : Wk) (m : Nat) (edge : Int) (hm : m ≤ 1000000000) (hed : -100 ≤ edge ∧ edge ≤ 1073741824) (hc : caps k) (ok : okA k.st.1 m) (ho : k.out.length < k.a.nx) : LCalls Tryd.prog gl 34 [.ptr 50 k.b 0, .int .i64 edge] (HT k) fun x H => ∃ k', (k'.b = k.b ∧ caps k' ∧ k'.st = settleS edge k.st ∧ okA k'.st.1 m ∧ k'.out.length < k'.a.nx) ∧ x = .tup [] ∧ H = HT k' := by
  refine LCalls.useS (settle k edge hed (okW_of hm hc ok ho)) (H2 := tkw k.ws) (List.Perm.refl _) ?_
  rintro _ _ ⟨rfl, k', R, ⟨hb, hsu, ok'⟩, hR, hst, rfl⟩
  have hkp := hR.keep
  have e1 : k'.a.ls = keepL R.1.ls R.1.nx := congrArg (fun z : St => z.1.ls) hst
  have e2 : k'.a.st = R.1.st := congrArg (fun z : St => z.1.st) hst
  have e3 : k'.a.la = R.1.la := congrArg (fun z : St => z.1.la) hst
  refine ⟨HT k', (hsu.map _).append_left _, k', ⟨hb, ⟨ok'.cO, ok'.cL, ok'.cG⟩, by rw [hst, settleS_of hR], ⟨?_, ?_, ?_, ok'.ls, ok'.gs, ok'.nx, ok'.lG, ?_, ?_⟩, ok'.out⟩, rfl, rfl⟩
  · have := ok.op
    have h2 := (hsu.map Prod.fst).length_le
    exact Nat.le_trans h2 this
  · exact fun e he => ok.ev e ((hsu.map Prod.fst).mem he)
  · have := ok.lL
    have h2 := keep_le R.1.ls R.1.nx
    change k'.a.ls.length ≤ m
    rw [e1]
    rw [hkp.1.2.2.2] at h2 ⊢
    exact Nat.le_trans h2 this
  · have := ok.st
    change 0 ≤ k'.a.st ∧ k'.a.st ≤ m
    rw [e2, hkp.1.2.1]
    exact this
  · have := ok.la
    change 0 ≤ k'.a.la ∧ k'.a.la ≤ 1073741824
    rw [e3, hkp.1.2.2.1]
    exact this
end Go.Proofs.YtfheeghkajihoaaDoor

/- Layer 22: New, Feed and Flush (the program). -/
namespace Go.Proofs.YtfheeghkajihoaaDoor
open Go Go.Lx
set_option linter.unusedSimpArgs false
set_option linter.unusedVariables false
set_option maxRecDepth 100000
set_option maxHeartbeats 4000000

theorem new (bo : Int) : Pure Tryd.prog gl 17 [.int .i64 bo] (.agg (AsC ⟨bo, 1, 0, [], [], [], 0⟩)) := by
  refine fn_pureT Tryd.func17 t17 Tryd.ntmps17 (by simp) ?_
  unfold c17 r17
  rw [AsC_eq]
  repeat' (first | (simp (disch := first | omega | (simp only [List.length_cons, List.length_nil]; first | done | omega)) only [go_sem]) | (refine allI (fun b => ?_)) | (refine allT (fun τ => ?_)) | (refine brP (fun h => ?_) (fun h => ?_) <;> (try simp only [zgx, zbx] at h)) | (apply And.intro; focus (first | omega | (simp; done) | (simp +contextual; done) | (intros; and_intros <;> first | assumption | omega) | (intros; simp_all; done) | (intro hgd; refine ⟨hgd, ?_⟩; simp [hgd]; done) | (intro hgd; simp only [zgx] at hgd ⊢; omega))) | fail)
  exact leV.agg ⟨leV.refl _, leV.refl _, leV.refl _, leV.nil_sl _ _, leV.nil_sl _ _, leV.nil_sl _ _, leV.refl _, trivial⟩
theorem leVs_ew : ∀ (l : List (Ev × Tok)), leVs (l.flatMap EwC) ((l.map Prod.fst).flatMap EvC)
  | [] => trivial
  | x :: l => by
    rw [List.flatMap_cons, List.map_cons, List.flatMap_cons, EwC_eq, EvC_eq]
    exact leVs.app ⟨leV.refl _, leV.refl _, leV.refl _, leV.osl_sl _ _ _ _ _, leV.refl _, trivial⟩ (leVs_ew l)
/-- what is given back -/
theorem pubO (k : Wk) (hc : caps k) : leVH gl (.tup [.agg [.int .i64 k.a.bo, .int .i64 k.a.nx, .int .i64 k.a.st, .msl 60 5 k.bO 0 k.ws.length k.cO, .msl 62 5 k.bL 0 k.a.ls.length k.cL, .msl 63 2 k.bG 0 k.a.gs.length k.cG, .int .i64 k.a.la], .osl 64 k.τ 5 k.out.length (k.out.flatMap EvC)]) [(60, .blk k.bO (BO k)), (62, .blk k.bL (BL k)), (63, .blk k.bG (BG k)), (64, .tok k.τ)] (.tup [.agg (AsC k.st.1), .osl 64 k.τ 5 k.out.length (k.out.flatMap EvC)]) [(64, .tok k.τ)] := by
  have h1 := len_ew k.ws
  have h2 := len_ls k.a.ls
  have h3 := len_gp k.a.gs
  have c1 := hc.cO
  have c2 := hc.cL
  have c3 := hc.cG
  have s1 : (BO k).length = k.cO * 5 := by rw [BO, length_Sp]; omega
  have s2 : (BL k).length = k.cL * 5 := by rw [BL, length_Sp]; omega
  have s3 : (BG k).length = k.cG * 2 := by rw [BG, length_Sp]; omega
  refine leVH.pub 60 rfl ?_ (leVH.pub 62 rfl ?_ (leVH.pub 63 rfl ?_ (leVH.of ?_ ⟨[(64, .tok k.τ)], List.Sublist.refl _, List.Perm.refl _⟩)))
  all_goals simp [pubV, pubAs, pubA, pubCs, pubC]
  · exact ⟨by omega, c1⟩
  · exact ⟨by omega, c2⟩
  · exact ⟨by omega, c3⟩
  · rw [BO, BL, BG, take_Sp _ h1, take_Sp _ h2, take_Sp _ h3, AsC_eq]
    simp only [Wk.st, List.length_map]
    exact leV.tup ⟨leV.agg ⟨leV.refl _, leV.refl _, leV.refl _, leV.sl (leVs_ew _), leV.refl _, leV.refl _, leV.refl _, trivial⟩, leV.refl _, trivial⟩
theorem pubT (k : Wk) (hc : caps k) : leVH gl (.tup [.agg [.int .i64 k.a.bo, .int .i64 k.a.nx, .int .i64 k.a.st, .msl 60 5 k.bO 0 k.ws.length k.cO, .msl 62 5 k.bL 0 k.a.ls.length k.cL, .msl 63 2 k.bG 0 k.a.gs.length k.cG, .int .i64 k.a.la], .osl 64 k.τ 5 k.out.length (k.out.flatMap EvC)]) [(60, .blk k.bO (BO k)), (62, .blk k.bL (BL k)), (63, .blk k.bG (BG k))] (.tup [.agg (AsC k.st.1), .sl 5 k.out.length (k.out.flatMap EvC)]) [] := by
  have h1 := len_ew k.ws
  have h2 := len_ls k.a.ls
  have h3 := len_gp k.a.gs
  have c1 := hc.cO
  have c2 := hc.cL
  have c3 := hc.cG
  have s1 : (BO k).length = k.cO * 5 := by rw [BO, length_Sp]; omega
  have s2 : (BL k).length = k.cL * 5 := by rw [BL, length_Sp]; omega
  have s3 : (BG k).length = k.cG * 2 := by rw [BG, length_Sp]; omega
  refine leVH.pub 60 rfl ?_ (leVH.pub 62 rfl ?_ (leVH.pub 63 rfl ?_ (leVH.of ?_ ⟨[], List.nil_sublist _, List.Perm.refl _⟩)))
  all_goals simp [pubV, pubAs, pubA, pubCs, pubC]
  · exact ⟨by omega, c1⟩
  · exact ⟨by omega, c2⟩
  · exact ⟨by omega, c3⟩
  · rw [BO, BL, BG, take_Sp _ h1, take_Sp _ h2, take_Sp _ h3, AsC_eq]
    simp only [Wk.st, List.length_map]
    exact leV.tup ⟨leV.agg ⟨leV.refl _, leV.refl _, leV.refl _, leV.sl (leVs_ew _), leV.refl _, leV.refl _, leV.refl _, trivial⟩, leV.osl_sl _ _ _ _ _, trivial⟩
theorem leVH.drop {x r : LV} {H H' H2 : Heap} (hs : H2.Sublist H) (h : leVH gl x H2 r H') : leVH gl x H r H' := fun w0 M HF w v hI hv => h w0 M HF w v (hI.sub (hs.append_right HF)) hv
theorem tkw_zip (l : List Ev) (τs : List Tok) (h : τs.length = l.length) : tkw (l.zip τs) = tks τs := by
  have e : (l.zip τs).map Prod.snd = τs := List.map_snd_zip (by omega)
  rw [tkw, tks, show (l.zip τs).map (fun x => ((61, Ent.tok x.2) : Nat × Ent)) = ((l.zip τs).map Prod.snd).map fun τ => (61, .tok τ) by rw [List.map_map]; rfl, e]
theorem fst_zip (l : List Ev) (τs : List Tok) (h : τs.length = l.length) : (l.zip τs).map Prod.fst = l := List.map_fst_zip (by omega)
/-- the assembler at work, in the beginning -/
def wk0 (a : As) (τs : List Tok) (b bO cO bL cL bG cG : Nat) : Wk := ⟨a, a.op.zip τs, [], ⟨0, 0, 0⟩, b, bO, cO, bL, cL, bG, cG⟩
/-- the beginning, by whatever name -/
theorem enterI {w0 : World} {M : Imm} {HF : Heap} {w : World} {H H1 R : Heap} (i : Nat) (a : As) (τs : List Tok) (b bO cO bL cL bG cG : Nat) (hτ : τs.length = a.op.length) (hp : H.Perm ((i, .blk b [.int .i64 a.bo, .int .i64 a.nx, .int .i64 a.st, .msl 60 5 bO 0 a.op.length cO, .msl 62 5 bL 0 a.ls.length cL, .msl 63 2 bG 0 a.gs.length cG, .int .i64 a.la, .fsl 1 0 []]) :: (60, .blk bO (Sp ((a.op.zip τs).flatMap EwC) ((cO - a.op.length) * 5))) :: (62, .blk bL (Sp (a.ls.flatMap LsC) ((cL - a.ls.length) * 5))) :: (63, .blk bG (Sp (a.gs.flatMap GpC) ((cG - a.gs.length) * 2))) :: (tks τs ++ R))) (h1 : (HT (wk0 a τs b bO cO bL cL bG cG) ++ R).Perm H1) (hI : Lx.Inv gl w0 M (H ++ HF) w) : Lx.Inv gl w0 M (H1 ++ HF) w := by
  have hlz : (a.op.zip τs).length = a.op.length := by rw [List.length_zip]; omega
  have h2 := hI.perm (hp.append_right HF)
  have h3 := h2.dummy 64 0
  have h4 := h3.perm (List.perm_append_comm (l₁ := [_]) (l₂ := [_, _, _, _]) |>.append_right ((tks τs ++ R) ++ HF))
  have h5 : Lx.Inv gl w0 M ([(50, .blk b [.int .i64 a.bo, .int .i64 a.nx, .int .i64 a.st, .msl 60 5 bO 0 a.op.length cO, .msl 62 5 bL 0 a.ls.length cL, .msl 63 2 bG 0 a.gs.length cG, .int .i64 a.la, .fsl 1 0 []]), (60, .blk bO (Sp ((a.op.zip τs).flatMap EwC) ((cO - a.op.length) * 5))), (62, .blk bL (Sp (a.ls.flatMap LsC) ((cL - a.ls.length) * 5))), (63, .blk bG (Sp (a.gs.flatMap GpC) ((cG - a.gs.length) * 2))), (64, .tok ⟨0, 0, 0⟩)] ++ ((tks τs ++ R) ++ HF)) w := h4.names (by simp)
  have h6 : heapLe [(50, .blk b [.int .i64 a.bo, .int .i64 a.nx, .int .i64 a.st, .msl 60 5 bO 0 a.op.length cO, .msl 62 5 bL 0 a.ls.length cL, .msl 63 2 bG 0 a.gs.length cG, .int .i64 a.la, .fsl 1 0 []]), (60, .blk bO (Sp ((a.op.zip τs).flatMap EwC) ((cO - a.op.length) * 5))), (62, .blk bL (Sp (a.ls.flatMap LsC) ((cL - a.ls.length) * 5))), (63, .blk bG (Sp (a.gs.flatMap GpC) ((cG - a.gs.length) * 2))), (64, .tok ⟨0, 0, 0⟩)] (HW (wk0 a τs b bO cO bL cL bG cG)) := by
    rw [HW_eq]
    simp only [WkC_eq, BO, BL, BG, wk0, hlz]
    exact ⟨⟨rfl, leV.refl _, leV.refl _, leV.refl _, leV.refl _, leV.refl _, leV.refl _, leV.refl _, leV.nil_osl _ _ _ _, trivial⟩, ⟨rfl, leVs.refl _⟩, ⟨rfl, leVs.refl _⟩, ⟨rfl, leVs.refl _⟩, rfl, trivial⟩
  have h7 := h6.inv h5
  refine Lx.Inv.perm h7 ?_
  rw [show HW (wk0 a τs b bO cO bL cL bG cG) ++ ((tks τs ++ R) ++ HF) = (HT (wk0 a τs b bO cO bL cL bG cG) ++ R) ++ HF by rw [HT]; simp only [List.append_assoc]; rw [show tkw (wk0 a τs b bO cO bL cL bG cG).ws = tks τs from tkw_zip _ _ hτ]]
  exact h1.append_right HF
theorem enter0 {env env' : Env} {H H1 R : Heap} (i : Nat) (a : As) (τs : List Tok) (b bO cO bL cL bG cG : Nat) (hτ : τs.length = a.op.length) (he : envLe env env') (hp : H.Perm ((i, .blk b [.int .i64 a.bo, .int .i64 a.nx, .int .i64 a.st, .msl 60 5 bO 0 a.op.length cO, .msl 62 5 bL 0 a.ls.length cL, .msl 63 2 bG 0 a.gs.length cG, .int .i64 a.la, .fsl 1 0 []]) :: (60, .blk bO (Sp ((a.op.zip τs).flatMap EwC) ((cO - a.op.length) * 5))) :: (62, .blk bL (Sp (a.ls.flatMap LsC) ((cL - a.ls.length) * 5))) :: (63, .blk bG (Sp (a.gs.flatMap GpC) ((cG - a.gs.length) * 2))) :: (tks τs ++ R))) (h1 : (HT (wk0 a τs b bO cO bL cL bG cG) ++ R).Perm H1) : Ents gl env H env' H1 :=
  Ents.mk he.get fun _ _ _ _ hI => enterI i a τs b bO cO bL cL bG cG hτ hp h1 hI
theorem okAs_of {a : As} {m : Nat} (h : okA a m) (hm : m ≤ 1000000000) : okAs a :=
  ⟨⟨by have := h.op; omega, by have := h.lL; omega, by have := h.lG; have := h.nx; omega⟩, fun e he => ⟨by have := (h.ev e he).2.1; omega, fun r hr => by have := (h.ev e he).2.2 r hr; omega⟩⟩
theorem caps0 (a : As) (τs : List Tok) (b bO cO bL cL bG cG : Nat) (hτ : τs.length = a.op.length) (h : a.op.length ≤ cO ∧ a.ls.length ≤ cL ∧ a.gs.length ≤ cG) : caps (wk0 a τs b bO cO bL cL bG cG) :=
  ⟨by simp only [wk0, List.length_zip]; omega, h.2.1, h.2.2⟩
theorem st0 (a : As) (τs : List Tok) (b bO cO bL cL bG cG : Nat) (hτ : τs.length = a.op.length) : (wk0 a τs b bO cO bL cL bG cG).st = (a, []) := by
  simp only [Wk.st, wk0, fst_zip _ _ hτ]
theorem LCalls.post {f : Nat} {args : List LV} {H : Heap} {K K' : LV → Heap → Prop} (h : LCalls Tryd.prog gl f args H K) (hk : ∀ r H', K r H' → ∃ r2 H2, leVH gl r H' r2 H2 ∧ K' r2 H2) : LCalls Tryd.prog gl f args H K' := fun w0 M HF w vs hI hv => (h w0 M HF w vs hI hv).mono (by
  rintro _ w' ⟨M', v, r, H', h1, h2, h3, h4, h5⟩
  obtain ⟨r2, H2, h6, h7⟩ := hk r H' h5
  obtain ⟨M2, h8, h9, h10⟩ := h6 w0 M' HF w' v h4 h3
  exact ⟨M2, v, r2, H2, h1.trans h8, h2, h9, h10, h7⟩)
theorem feedO (a : As) (m : Nat) (ok : okA a m) (l : List Rc) (hm : m + l.length ≤ 1000000000) (hl : ∀ r ∈ l, r.ps.length ≤ 1000000) : LCalls Tryd.prog gl 16 [.agg (AsC a), .sl 4 l.length (l.flatMap RcC)] [] fun v H => ∃ τ, v = .tup [.agg (AsC (feedS a l).1), .osl 64 τ 5 (feedS a l).2.length ((feedS a l).2.flatMap EvC)] ∧ H = [(64, .tok τ)] := by
  refine fn_viewT Tryd.func16 t16 Tryd.ntmps16 (by simp) ?_
  have hcl := clone a (okAs_of ok (by omega))
  have hll := len_rc l
  unfold c16 r16
  rw [AsC_eq a] at hcl ⊢
  repeat' (first | (simp (disch := first | omega | (simp only [List.length_cons, List.length_nil]; first | done | omega)) only [go_sem]) | (refine allI (fun b => ?_)) | (refine allT (fun τ => ?_)) | (refine brP (fun h => ?_) (fun h => ?_) <;> (try simp only [zgx, zbx] at h)) | (apply And.intro; focus (first | omega | (simp; done) | (simp +contextual; done) | (intros; and_intros <;> first | assumption | omega) | (intros; simp_all; done) | (intro hgd; refine ⟨hgd, ?_⟩; simp [hgd]; done) | (intro hgd; simp only [zgx] at hgd ⊢; omega))) | fail)
  first | refine actsQ_U (hcl) (List.Perm.refl _) ?_ | refine actsQ_T (hcl) (List.Perm.refl _) ?_ | refine actsQ_N (hcl) (List.Perm.refl _) ?_ | refine actsQ_of (hcl) (List.Perm.refl _) ?_
  rintro _ _ ⟨τs, bO, cO, bL, cL, bG, cG, hτ, hcp, rfl, rfl⟩
  repeat' (first | (simp (disch := first | omega | (simp only [List.length_cons, List.length_nil]; first | done | omega)) only [go_sem]) | (refine allI (fun b => ?_)) | (refine allT (fun τ => ?_)) | (refine brP (fun h => ?_) (fun h => ?_) <;> (try simp only [zgx, zbx] at h)) | (apply And.intro; focus (first | omega | (simp; done) | (simp +contextual; done) | (intros; and_intros <;> first | assumption | omega) | (intros; simp_all; done) | (intro hgd; refine ⟨hgd, ?_⟩; simp [hgd]; done) | (intro hgd; simp only [zgx] at hgd ⊢; omega))) | fail)
  rename_i b2 b4
  generalize b = bb at *
  generalize hR : ([(2, .blk b2 [.int .i64 a.bo, .int .i64 a.nx, .int .i64 a.st, .sl 5 a.op.length (a.op.flatMap EvC), .sl 5 a.ls.length (a.ls.flatMap LsC), .sl 2 a.gs.length (a.gs.flatMap GpC), .int .i64 a.la])] : Heap) = R
  refine loopI (ι := Nat × Wk) (fun y => y.1 ≤ l.length ∧ (y.2.b = bb ∧ caps y.2) ∧ y.2.st = (l.take y.1).foldl feedR (a, []) ∧ okA y.2.st.1 (m + y.1) ∧ y.2.out.length < y.2.a.nx) (fun y => [(15, .int .i64 y.1), (14, .int .i64 l.length), (13, .sl 4 l.length (l.flatMap RcC)), (6, .ptr 50 bb 0), (4, .ptr 4 b4 0)]) (fun y => (4, .blk b4 [.int .i64 0, .int .i64 0, .int .i64 0, .fsl 1 0 [], .fsl 1 0 [], .fsl 1 0 [], .int .i64 0]) :: (HT y.2 ++ R)) (fun y => l.length - y.1) (0, wk0 a τs bb bO cO bL cL bG cG) ⟨Nat.zero_le _, ⟨rfl, caps0 a τs bb bO cO bL cL bG cG hτ hcp⟩, st0 a τs bb bO cO bL cL bG cG hτ, by rw [st0 a τs bb bO cO bL cL bG cG hτ]; exact ok, by have := ok.nx; simp only [wk0, List.length_nil]; omega⟩ (enter0 12 a τs bb bO cO bL cL bG cG hτ ?_ (List.Perm.refl _) List.perm_middle) ?_
  · simp only [envLe, Lx.get, if_true, Nat.reduceEqDiff, if_false]
    exact ⟨leV.refl _, leV.refl _, leV.refl _, leV.ptr_name _ _ _ _, leV.refl _, trivial⟩
  rintro ⟨i, k⟩ ⟨h1, ⟨hb, hc⟩, hst, hok, ho⟩
  dsimp only at h1 hb hc hst hok ho ⊢
  subst hb
  simp (disch := first | omega | (simp only [List.length_cons, List.length_nil]; first | done | omega)) only [go_sem]
  refine brP (fun hb => ?_) (fun hb => ?_)
  · have hlt : i < l.length := by simpa using hb
    have e2 := take_rows (f := RcC) (w := 4) (fun _ => rfl) rc0 l hlt
    have hps := hl _ (getD_memA (l := l) (i := i) rc0 hlt)
    have hts : l.take (i + 1) = l.take i ++ [l.getD i rc0] := take_succ_getD rc0 l hlt
    generalize l.getD i rc0 = r at *
    have htk := takeT k (m + i) r (by omega) hps hc hok
    have hok2 := okA_take hok hps
    have hfr : feedR k.st r = if (takeS k.st.1 r).2 then settleS ((takeS k.st.1 r).1.la - 64) ((takeS k.st.1 r).1, k.out) else ((takeS k.st.1 r).1, k.out) := rfl
    have hnx : (takeS k.st.1 r).1.nx = k.a.nx := by unfold takeS; split <;> rfl
    rw [RcC_eq] at e2 htk
    repeat' (first | (simp (disch := first | omega | (simp only [List.length_cons, List.length_nil]; first | done | omega)) only [go_sem, e2, zRc]) | (refine allI (fun b => ?_)) | (refine allT (fun τ => ?_)) | (refine brP (fun h => ?_) (fun h => ?_) <;> (try simp only [zgx, zbx] at h)) | (apply And.intro; focus (first | omega | (simp; done) | (simp +contextual; done) | (intros; and_intros <;> first | assumption | omega) | (intros; simp_all; done) | (intro hgd; refine ⟨hgd, ?_⟩; simp [hgd]; done) | (intro hgd; simp only [zgx] at hgd ⊢; omega))) | fail)
    refine LCalls.use htk (H2 := [(8, _), (4, _)] ++ R) (List.perm_append_comm_assoc [(8, _), (4, _)] (HT k) R) ?_
    rintro _ _ ⟨k', ⟨hb', hc', hst'⟩, rfl, rfl⟩
    refine ⟨_, (List.perm_append_comm_assoc [(8, _), (4, _)] (HT k') R).symm, ?_⟩
    have ho' : k'.out.length < k'.a.nx := by
      have e1 : k'.out = k.out := congrArg Prod.snd hst'
      have e2 : k'.a.nx = (takeS k.st.1 r).1.nx := congrArg (fun z : St => z.1.nx) hst'
      rw [e1, e2, hnx]; exact ho
    have hla : k'.a.la = (takeS k.st.1 r).1.la := congrArg (fun z : St => z.1.la) hst'
    have hok' : okA k'.st.1 (m + i + 1) := by rw [hst']; exact hok2
    have hlb : 0 ≤ k'.a.la ∧ k'.a.la ≤ 1073741824 := hok'.la
    rw [← hla, ← hst'] at hfr
    refine ⟨_, _, _, EntsT.refl _ _ _ _, ?_⟩
    cases htb : (takeS k.st.1 r).2 with
    | false =>
      rw [htb, if_neg (by simp)] at hfr
      repeat' (first | (simp (disch := first | omega | (simp only [List.length_cons, List.length_nil]; first | done | omega)) only [go_sem]) | (refine allI (fun b => ?_)) | (refine allT (fun τ => ?_)) | (refine brP (fun h => ?_) (fun h => ?_) <;> (try simp only [zgx, zbx] at h)) | (apply And.intro; focus (first | omega | (simp; done) | (simp +contextual; done) | (intros; and_intros <;> first | assumption | omega) | (intros; simp_all; done) | (intro hgd; refine ⟨hgd, ?_⟩; simp [hgd]; done) | (intro hgd; simp only [zgx] at hgd ⊢; omega))) | fail)
      refine ⟨⟨(i + 1, k'), by dsimp only; omega, ⟨hb', hc'⟩, ?_, hok', ho'⟩, by dsimp only; omega, Ents.sub (by simp [go_sem]) ⟨_, List.Sublist.cons _ (List.Sublist.refl _), List.Perm.refl _⟩⟩
      dsimp only
      rw [hts, List.foldl_append, ← hst]
      exact hfr.symm
    | true =>
      rw [htb, if_pos rfl] at hfr
      have gH : getH (HT k' ++ R) 50 = some (.blk k.b [.int .i64 k'.a.bo, .int .i64 k'.a.nx, .int .i64 k'.a.st, .msl 60 5 k'.bO 0 k'.ws.length k'.cO, .msl 62 5 k'.bL 0 k'.a.ls.length k'.cL, .msl 63 2 k'.bG 0 k'.a.gs.length k'.cG, .int .i64 k'.a.la, .osl 64 k'.τ 5 k'.out.length (k'.out.flatMap EvC)]) := by
        rw [HT, HW_eq, WkC_eq, hb']; rfl
      have hse := settleT k' (m + i + 1) (k'.a.la - 64) (by omega) (by omega) hc' hok' ho'
      rw [hb'] at hse
      repeat' (first | (simp (disch := first | omega | (simp only [List.length_cons, List.length_nil]; first | done | omega)) only [go_sem, gH]) | (refine allI (fun b => ?_)) | (refine allT (fun τ => ?_)) | (refine brP (fun h => ?_) (fun h => ?_) <;> (try simp only [zgx, zbx] at h)) | (apply And.intro; focus (first | omega | (simp; done) | (simp +contextual; done) | (intros; and_intros <;> first | assumption | omega) | (intros; simp_all; done) | (intro hgd; refine ⟨hgd, ?_⟩; simp [hgd]; done) | (intro hgd; simp only [zgx] at hgd ⊢; omega))) | fail)
      refine LCalls.use hse (H2 := [(8, _), (4, _)] ++ R) (List.perm_append_comm_assoc [(8, _), (4, _)] (HT k') R) ?_
      rintro _ _ ⟨k2, ⟨hb2, hc2, hst2, hok2', ho2⟩, rfl, rfl⟩
      refine ⟨_, (List.perm_append_comm_assoc [(8, _), (4, _)] (HT k2) R).symm, ?_⟩
      refine ⟨_, _, _, EntsT.refl _ _ _ _, ?_⟩
      repeat' (first | (simp (disch := first | omega | (simp only [List.length_cons, List.length_nil]; first | done | omega)) only [go_sem]) | (refine allI (fun b => ?_)) | (refine allT (fun τ => ?_)) | (refine brP (fun h => ?_) (fun h => ?_) <;> (try simp only [zgx, zbx] at h)) | (apply And.intro; focus (first | omega | (simp; done) | (simp +contextual; done) | (intros; and_intros <;> first | assumption | omega) | (intros; simp_all; done) | (intro hgd; refine ⟨hgd, ?_⟩; simp [hgd]; done) | (intro hgd; simp only [zgx] at hgd ⊢; omega))) | fail)
      refine ⟨⟨(i + 1, k2), by dsimp only; omega, ⟨hb2, hc2⟩, ?_, hok2', ho2⟩, by dsimp only; omega, Ents.sub (by simp [go_sem]) ⟨_, List.Sublist.cons _ (List.Sublist.refl _), List.Perm.refl _⟩⟩
      dsimp only
      rw [hts, List.foldl_append, ← hst, hst2]
      exact hfr.symm
  · have hie : i = l.length := by simp only [decide_eq_false_iff_not] at hb; omega
    subst hie
    rw [List.take_length] at hst
    rw [HT, HW_eq, WkC_eq]
    simp only [List.cons_append, List.nil_append]
    repeat' (first | (simp (disch := first | omega | (simp only [List.length_cons, List.length_nil]; first | done | omega)) only [go_sem]) | (refine allI (fun b => ?_)) | (refine allT (fun τ => ?_)) | (refine brP (fun h => ?_) (fun h => ?_) <;> (try simp only [zgx, zbx] at h)) | (apply And.intro; focus (first | omega | (simp; done) | (simp +contextual; done) | (intros; and_intros <;> first | assumption | omega) | (intros; simp_all; done) | (intro hgd; refine ⟨hgd, ?_⟩; simp [hgd]; done) | (intro hgd; simp only [zgx] at hgd ⊢; omega))) | fail)
    have hf : feedS a l = k.st := hst.symm
    refine ⟨_, [(64, .tok k.τ)], leVH.drop (.cons _ (.cons _ (.cons_cons _ (.cons_cons _ (.cons_cons _ (.cons_cons _ (List.nil_sublist _))))))) (pubO k hc), k.τ, ?_, rfl⟩
    rw [hf]
    rfl
theorem feed (a : As) (m : Nat) (ok : okA a m) (l : List Rc) (hm : m + l.length ≤ 1000000000) (hl : ∀ r ∈ l, r.ps.length ≤ 1000000) : Pure Tryd.prog gl 16 [.agg (AsC a), .sl 4 l.length (l.flatMap RcC)] (.tup [.agg (AsC (feedS a l).1), .sl 5 (feedS a l).2.length ((feedS a l).2.flatMap EvC)]) :=
  LCalls.post (feedO a m ok l hm hl) (by
    rintro _ _ ⟨τ, rfl, rfl⟩
    exact ⟨_, [], leVH.of (leV.tup (show leVs [_, _] [_, _] from ⟨leV.refl _, leV.osl_sl _ _ _ _ _, trivial⟩)) ⟨[], List.nil_sublist _, List.Perm.refl _⟩, rfl, rfl⟩)
theorem getH_tkw (ws : List (Ev × Tok)) (e : Ent) (R : Heap) : getH (tkw ws ++ (2, e) :: R) 2 = some e := by
  induction ws with
  | nil => rfl
  | cons x l ih => exact ih
theorem setH_tkw (ws : List (Ev × Tok)) (e e' : Ent) (R : Heap) : setH (tkw ws ++ (2, e) :: R) 2 e' = tkw ws ++ (2, e') :: R := by
  induction ws with
  | nil => rfl
  | cons x l ih =>
    show (61, Ent.tok x.2) :: setH (tkw l ++ (2, e) :: R) 2 e' = (61, Ent.tok x.2) :: (tkw l ++ (2, e') :: R)
    rw [ih]
theorem settle8 (a : As) (m : Nat) (ok : okA a m) (hm : m ≤ 1000000000) (edge : Int) (hed : -100 ≤ edge ∧ edge ≤ 1073741824) (τs : List Tok) (b bO cO bL cL bG cG : Nat) (hτ : τs.length = a.op.length) (hcp : a.op.length ≤ cO ∧ a.ls.length ≤ cL ∧ a.gs.length ≤ cG) (R : Heap) : LCalls Tryd.prog gl 34 [.ptr 8 b 0, .int .i64 edge] ((8, .blk b [.int .i64 a.bo, .int .i64 a.nx, .int .i64 a.st, .msl 60 5 bO 0 a.op.length cO, .msl 62 5 bL 0 a.ls.length cL, .msl 63 2 bG 0 a.gs.length cG, .int .i64 a.la, .fsl 1 0 []]) :: (60, .blk bO (Sp ((a.op.zip τs).flatMap EwC) ((cO - a.op.length) * 5))) :: (62, .blk bL (Sp (a.ls.flatMap LsC) ((cL - a.ls.length) * 5))) :: (63, .blk bG (Sp (a.gs.flatMap GpC) ((cG - a.gs.length) * 2))) :: (tks τs ++ R)) fun x H => ∃ k', (k'.b = b ∧ caps k' ∧ k'.st = settleS edge (a, [])) ∧ x = .tup [] ∧ H = (8, .blk k'.b (WkC k')) :: (60, .blk k'.bO (BO k')) :: (62, .blk k'.bL (BL k')) :: (63, .blk k'.bG (BG k')) :: (64, .tok k'.τ) :: (tkw k'.ws ++ R) := by
  intro w0 M HF w vs hI hv
  have hs := settleT (wk0 a τs b bO cO bL cL bG cG) m edge hm hed (caps0 a τs b bO cO bL cL bG cG hτ hcp) (by rw [st0 a τs b bO cO bL cL bG cG hτ]; exact ok) (by have := ok.nx; simp only [wk0, List.length_nil]; omega)
  have h2 : LCalls Tryd.prog gl 34 [.ptr 50 b 0, .int .i64 edge] (HT (wk0 a τs b bO cO bL cL bG cG) ++ R) fun x H => ∃ k', (k'.b = b ∧ caps k' ∧ k'.st = settleS edge (a, [])) ∧ x = .tup [] ∧ H = HT k' ++ R :=
    LCalls.use hs (List.Perm.refl _) (by
      rintro _ _ ⟨k', ⟨h1, h2, h3, _, _⟩, rfl, rfl⟩
      exact ⟨_, List.Perm.refl _, k', ⟨h1, h2, by rw [h3, st0 a τs b bO cO bL cL bG cG hτ]⟩, rfl, rfl⟩)
  refine (h2 w0 M HF w vs (enterI 8 a τs b bO cO bL cL bG cG hτ (List.Perm.refl _) (List.Perm.refl _) hI) (leVs.rvs (xs := [.ptr 8 b 0, .int .i64 edge]) (ys := [.ptr 50 b 0, .int .i64 edge]) ⟨leV.ptr_name _ _ _ _, leV.refl _, trivial⟩ hv)).mono ?_
  rintro _ w' ⟨M', v, _, _, h1, h2, h3, h4, k', hk, rfl, rfl⟩
  refine ⟨M', v, _, _, h1, h2, h3, h4.names ?_, k', hk, rfl, rfl⟩
  rw [HT, HW_eq]
  simp
theorem flush (a : As) (m : Nat) (ok : okA a m) (hm : m ≤ 1000000000) : Pure Tryd.prog gl 23 [.agg (AsC a)] (.tup [.agg (AsC (flushS a).1), .sl 5 (flushS a).2.length ((flushS a).2.flatMap EvC)]) := by
  refine fn_viewT Tryd.func23 t23 Tryd.ntmps23 (by simp) ?_
  have hcl := clone a (okAs_of ok (by omega))
  unfold c23 r23
  rw [AsC_eq a] at hcl ⊢
  repeat' (first | (simp (disch := first | omega | (simp only [List.length_cons, List.length_nil]; first | done | omega)) only [go_sem]) | (refine allI (fun b => ?_)) | (refine allT (fun τ => ?_)) | (refine brP (fun h => ?_) (fun h => ?_) <;> (try simp only [zgx, zbx] at h)) | (apply And.intro; focus (first | omega | (simp; done) | (simp +contextual; done) | (intros; and_intros <;> first | assumption | omega) | (intros; simp_all; done) | (intro hgd; refine ⟨hgd, ?_⟩; simp [hgd]; done) | (intro hgd; simp only [zgx] at hgd ⊢; omega))) | fail)
  first | refine actsQ_U (hcl) (List.Perm.refl _) ?_ | refine actsQ_T (hcl) (List.Perm.refl _) ?_ | refine actsQ_N (hcl) (List.Perm.refl _) ?_ | refine actsQ_of (hcl) (List.Perm.refl _) ?_
  rintro _ _ ⟨τs, bO, cO, bL, cL, bG, cG, hτ, hcp, rfl, rfl⟩
  repeat' (first | (simp (disch := first | omega | (simp only [List.length_cons, List.length_nil]; first | done | omega)) only [go_sem]) | (refine allI (fun b => ?_)) | (refine allT (fun τ => ?_)) | (refine brP (fun h => ?_) (fun h => ?_) <;> (try simp only [zgx, zbx] at h)) | (apply And.intro; focus (first | omega | (simp; done) | (simp +contextual; done) | (intros; and_intros <;> first | assumption | omega) | (intros; simp_all; done) | (intro hgd; refine ⟨hgd, ?_⟩; simp [hgd]; done) | (intro hgd; simp only [zgx] at hgd ⊢; omega))) | fail)
  refine actsQ_U (settle8 a m ok hm a.la (by have := ok.la; omega) τs _ bO cO bL cL bG cG hτ hcp _) (List.Perm.of_eq (List.append_nil _).symm) ?_
  rintro _ _ ⟨k, ⟨hb, hc, hst⟩, rfl, rfl⟩
  rw [hb, List.append_nil, WkC_eq]
  repeat' (first | (simp (disch := first | omega | (simp only [List.length_cons, List.length_nil]; first | done | omega)) only [go_sem, getH_tkw, setH_tkw]) | (refine allI (fun b => ?_)) | (refine allT (fun τ => ?_)) | (refine brP (fun h => ?_) (fun h => ?_) <;> (try simp only [zgx, zbx] at h)) | (apply And.intro; focus (first | omega | (simp; done) | (simp +contextual; done) | (intros; and_intros <;> first | assumption | omega) | (intros; simp_all; done) | (intro hgd; refine ⟨hgd, ?_⟩; simp [hgd]; done) | (intro hgd; simp only [zgx] at hgd ⊢; omega))) | fail)
  have hf : flushS a = k.st := hst.symm
  refine ⟨_, [], leVH.drop (.cons _ (.cons_cons _ (.cons_cons _ (.cons_cons _ (List.nil_sublist _))))) (pubT k hc), ?_, rfl⟩
  rw [hf]
  rfl
end Go.Proofs.YtfheeghkajihoaaDoor

/- Layer 22: awake (the laws). -/
namespace Go.Proofs.YtfheeghkajihoaaDoor
open Go Go.Lx
set_option linter.unusedSimpArgs false
set_option linter.unusedVariables false
set_option maxRecDepth 100000
set_option maxHeartbeats 4000000

def as0 (bo : Int) : As := ⟨bo, 1, 0, [], [], [], 0⟩
theorem okA0 (bo : Int) : okA (as0 bo) 0 := ⟨Nat.le_refl _, fun e he => absurd he (by simp [as0]), Nat.le_refl _, fun x hx => absurd hx (by simp [as0]), fun x hx => absurd hx (by simp [as0]), by simp [as0], by simp [as0], by simp [as0], by simp [as0]⟩
def l4 : List Rc := [⟨1300, 0, 2, []⟩, ⟨1300, 0, 1, []⟩, ⟨1320, 0, 2, []⟩, ⟨1320, 0, 1, []⟩]
theorem out4 : (feedS (as0 3) l4).2 = [⟨3, 1, 0, [⟨1300, 0, 1, []⟩, ⟨1320, 0, 1, []⟩], true⟩, ⟨3, 2, 0, [⟨1300, 0, 2, []⟩, ⟨1320, 0, 2, []⟩], true⟩] := by kernel_rfl
theorem z16 : zeros ([.int .i64 0, .int .i64 0, .int .i64 0, .fsl 1 0 []] : List LV) 16 = [.int .i64 0, .int .i64 0, .int .i64 0, .fsl 1 0 [], .int .i64 0, .int .i64 0, .int .i64 0, .fsl 1 0 [], .int .i64 0, .int .i64 0, .int .i64 0, .fsl 1 0 [], .int .i64 0, .int .i64 0, .int .i64 0, .fsl 1 0 []] := Eq.trans rfl rfl
theorem awake : Pure Tryd.prog gl 9 [] (.bool true) := by
  refine fn_viewT Tryd.func9 t9 Tryd.ntmps9 (by simp) ?_
  have hn := new 3
  have hf := LCalls.args (args' := [.agg (AsC (as0 3)), .fsl 4 4 [.int .i64 1300, .int .i64 0, .int .i64 2, .fsl 1 0 [], .int .i64 1300, .int .i64 0, .int .i64 1, .fsl 1 0 [], .int .i64 1320, .int .i64 0, .int .i64 2, .fsl 1 0 [], .int .i64 1320, .int .i64 0, .int .i64 1, .fsl 1 0 []]]) (feed (as0 3) 0 (okA0 3) l4 (by simp [l4]) (by simp [l4])) ⟨leV.refl _, (leV.fsl_sl _ _ _).trans (leV.sl ⟨leV.refl _, leV.refl _, leV.refl _, leV.nil_sl _ _, leV.refl _, leV.refl _, leV.refl _, leV.nil_sl _ _, leV.refl _, leV.refl _, leV.refl _, leV.nil_sl _ _, leV.refl _, leV.refl _, leV.refl _, leV.nil_sl _ _, trivial⟩), trivial⟩
  rw [out4] at hf
  generalize (feedS (as0 3) l4).1 = A at *
  unfold c9 r9
  simp only [as0, AsC_eq, RcC_eq, EvC_eq, List.flatMap_cons, List.flatMap_nil, List.cons_append, List.nil_append, List.append_nil, List.length_cons, List.length_nil, Nat.zero_add, Nat.reduceAdd] at hn hf
  repeat' (first | (simp (disch := first | omega | (simp only [List.length_cons, List.length_nil]; first | done | omega)) only [go_sem, z16]) | (refine allI (fun b => ?_)) | (refine allT (fun τ => ?_)) | (refine brP (fun h => ?_) (fun h => ?_) <;> (try simp only [zgx, zbx] at h)) | refine call_U (hn) ?_ | refine callG_U (fun _ => hn) ?_ | refine call_T (hn) ?_ | refine callG_T (fun _ => hn) ?_ | refine call_U (hf) ?_ | refine callG_U (fun _ => hf) ?_ | refine call_T (hf) ?_ | refine callG_T (fun _ => hf) ?_ | refine call_N (hn) ?_ | refine call_of (hn) ?_ | refine callG_of (fun _ => hn) ?_ | refine call_N (hf) ?_ | refine call_of (hf) ?_ | refine callG_of (fun _ => hf) ?_ | (apply And.intro; focus (first | omega | (simp; done) | (simp +contextual; done) | (intros; and_intros <;> first | assumption | omega) | (intros; simp_all; done) | (intro hgd; refine ⟨hgd, ?_⟩; simp [hgd]; done) | (intro hgd; simp only [zgx] at hgd ⊢; omega))) | fail)
  exact view_sub (leV.refl _) (List.nil_sublist _)
end Go.Proofs.YtfheeghkajihoaaDoor
