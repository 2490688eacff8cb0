/- Layer 22: a record is taken, with all spare cells (the program). -/
import Derived.Test.YtfheeghkajihoaaDoorBn
namespace Go.Proofs.YtfheeghkajihoaaDoor
open Go Go.Lx
set_option linter.unusedSimpArgs false
set_option linter.unusedVariables false
set_option maxRecDepth 100000
set_option maxHeartbeats 4000000

theorem LCalls.use {P : Program} {gl : Glob} {f : FuncId} {args : List LV} {H H0 H2 : Heap} {Q K : LV → Heap → Prop} (h : LCalls P gl f args H0 Q) (hp : H.Perm (H0 ++ H2)) (hk : ∀ r H', Q r H' → ∃ H3, (H' ++ H2).Perm H3 ∧ K r H3) : LCalls P gl f args H K := by
  intro w0 M HF w vs hI hv
  refine (actsQ_of (K := fun r H' => ∃ H3, H'.Perm H3 ∧ K r H3) h hp hk w0 M HF w vs hI hv).mono ?_
  rintro _ w' ⟨M', v, r, H', h1, h2, h3, h4, H3, h5, h6⟩
  exact ⟨M', v, r, H3, h1, h2, h3, h4.perm (h5.append_right HF), h6⟩
theorem LCalls.useS {P : Program} {gl : Glob} {f : FuncId} {args : List LV} {H H0 H2 : Heap} {Q K : LV → Heap → Prop} (h : LCalls P gl f args H0 Q) (hp : H.Perm (H0 ++ H2)) (hk : ∀ r H', Q r H' → ∃ H3, H3.Sublist (H' ++ H2) ∧ K r H3) : LCalls P gl f args H K := by
  intro w0 M HF w vs hI hv
  refine (actsQ_of (K := fun r H' => ∃ H3, H3.Sublist H' ∧ K r H3) h hp hk w0 M HF w vs hI hv).mono ?_
  rintro _ w' ⟨M', v, r, H', h1, h2, h3, h4, H3, h5, h6⟩
  exact ⟨M', v, r, H3, h1, h2, h3, h4.sub (h5.append_right HF), h6⟩
def tkw (ws : List (Ev × Tok)) : Heap := ws.map fun x => (61, .tok x.2)
theorem tkw_set {ws : List (Ev × Tok)} {j : Nat} (h : j < ws.length) (x : Ev × Tok) : (tkw (ws.set j x)).Perm ((61, .tok x.2) :: tkw (ws.eraseIdx j)) := by
  rw [List.set_eq_take_append_cons_drop, if_pos h, List.eraseIdx_eq_take_drop_succ]
  exact (List.perm_middle (l₁ := ws.take j) (l₂ := ws.drop (j + 1)) (a := x)).map fun x : Ev × Tok => ((61, Ent.tok x.2) : Nat × Ent)
theorem tkw_at {ws : List (Ev × Tok)} {j : Nat} (h : j < ws.length) : (tkw ws).Perm ((61, .tok (ws.getD j ew0).2) :: tkw (ws.eraseIdx j)) := by
  have e : ws.set j (ws.getD j ew0) = ws := by simp [List.getD, h]
  have := tkw_set h (ws.getD j ew0)
  rwa [e] at this
theorem tkw_ins (ws : List (Ev × Tok)) (j : Nat) (x : Ev × Tok) : (tkw (ws.take j ++ x :: ws.drop j)).Perm ((61, .tok x.2) :: tkw ws) := by
  have h1 : (ws.take j ++ x :: ws.drop j).Perm (x :: ws) := by
    have := (List.perm_middle (l₁ := ws.take j) (l₂ := ws.drop j) (a := x))
    rwa [List.take_append_drop] at this
  exact h1.map fun x : Ev × Tok => ((61, Ent.tok x.2) : Nat × Ent)
/-- what is at work -/
def HT (k : Wk) : Heap := HW k ++ tkw k.ws
structure caps (k : Wk) : Prop where
  cO : k.ws.length ≤ k.cO
  cL : k.a.ls.length ≤ k.cL
  cG : k.a.gs.length ≤ k.cG
theorem pA {a b c d e t : Nat × Ent} {T T' : Heap} (h : T.Perm (t :: T')) : ([a, b, c, d, e] ++ T).Perm ([a, b, c, t] ++ ([d, e] ++ T')) :=
  (h.append_left [a, b, c, d, e]).trans ((List.perm_middle (l₁ := [d, e]) (a := t) (l₂ := T')).append_left [a, b, c])
theorem takeT (k : Wk) (m : Nat) (r : Rc) (hm : m ≤ 1000000000) (hr : r.ps.length ≤ 1000000) (hc : caps k) (ok : okA k.st.1 m) : LCalls Tryd.prog gl 33 [.ptr 50 k.b 0, .agg (RcC r)] (HT k) fun x H => ∃ k', (k'.b = k.b ∧ caps k' ∧ k'.st = ((takeS k.st.1 r).1, k.out)) ∧ x = .bool (takeS k.st.1 r).2 ∧ H = HT k' := by
  have hl : k.ws.length ≤ m := by have := ok.op; rwa [Wk.st, List.length_map] at this
  have hL : k.a.ls.length ≤ m := ok.lL
  have hst : 0 ≤ k.a.st ∧ k.a.st ≤ m := ok.st
  have hE : heldE k.st.1.op r.se = heldI k.ws r.se := heldE_fst _ _
  rw [HT, HW_eq]
  rcases heldI_cases k.ws r.se with hn | ⟨j, hj, hjl, hjs⟩
  · have hev : evOf k.st.1 r = none := by rw [evOf, hE, hn]; rfl
    cases hs : strayS k.a.nx none r with
    | true =>
      have ht : takeS k.st.1 r = ({ k.st.1 with st := k.a.st + 1 }, false) := by
        rw [takeS, hev]; exact if_pos hs
      refine LCalls.use (take0n k r (by omega) hn hs (by omega)) (H2 := [(62, .blk k.bL (BL k)), (63, .blk k.bG (BG k)), (64, .tok k.τ)] ++ tkw k.ws) (List.Perm.refl _) ?_
      rintro _ _ ⟨rfl, rfl⟩
      rw [ht]
      exact ⟨_, List.Perm.refl _, k.stray, ⟨rfl, ⟨hc.cO, hc.cL, hc.cG⟩, rfl⟩, rfl, rfl⟩
    | false =>
      have hp : putE k.st.1 r = (insW k r ⟨0, 0, 0⟩).map Prod.fst := by
        rw [putE, hE, hn]
        rw [if_neg (by omega)]
        simp only [Wk.st, posE_fst, insW, List.map_append, List.map_cons, List.map_take, List.map_drop, newE]
      have hp2 : ∀ τ, (insW k r τ).map Prod.fst = putE k.st.1 r := fun τ => by rw [hp]; simp [insW]
      have ht : takeS k.st.1 r = ({ k.st.1 with op := putE k.st.1 r, la := max k.a.la r.se, ls := k.a.ls ++ covL r }, true) := by
        rw [takeS, hev]; exact if_neg (by rw [show k.st.1.nx = k.a.nx from rfl, hs]; simp)
      refine LCalls.use (take2 k r hr (by omega) hc.cO (by omega) hc.cL hn hs) (H2 := [(63, .blk k.bG (BG k)), (64, .tok k.τ)] ++ tkw k.ws) (List.Perm.refl _) ?_
      rintro _ _ ⟨τ, bO, cO, bL, cL, ⟨h1, h2⟩, rfl, rfl⟩
      rw [ht]
      refine ⟨HT (k.took (insW k r τ) r bO cO bL cL), (pA (tkw_ins k.ws (posI k.ws r.se) (addR (newE k r) r, τ))).symm, k.took (insW k r τ) r bO cO bL cL, ⟨rfl, ⟨?_, h2, hc.cG⟩, ?_⟩, rfl, rfl⟩
      · simp only [Wk.took, insW]
        have := posI_le k.ws r.se
        simp; omega
      · simp only [Wk.st, Wk.took, hp2]
  · have hrl := ok.ev _ (List.mem_map_of_mem (f := Prod.fst) (getD_memA (l := k.ws) (i := j) ew0 hjl))
    have hgd : k.st.1.op.getD j ev0 = (k.ws.getD j ew0).1 := getD_fst _ _
    have hev : evOf k.st.1 r = some (k.ws.getD j ew0).1 := by
      rw [evOf, hE, hj, if_pos (by omega), Int.toNat_natCast, hgd]
    cases hs : strayS k.a.nx (some (k.ws.getD j ew0).1) r with
    | true =>
      have ht : takeS k.st.1 r = ({ k.st.1 with st := k.a.st + 1 }, false) := by
        rw [takeS, hev]; exact if_pos hs
      refine LCalls.use (take0 k r (by omega) j hjl hj hs (by omega)) (H2 := [(62, .blk k.bL (BL k)), (63, .blk k.bG (BG k)), (64, .tok k.τ)] ++ tkw k.ws) (List.Perm.refl _) ?_
      rintro _ _ ⟨rfl, rfl⟩
      rw [ht]
      exact ⟨_, List.Perm.refl _, k.stray, ⟨rfl, ⟨hc.cO, hc.cL, hc.cG⟩, rfl⟩, rfl, rfl⟩
    | false =>
      have hp : ∀ τ, (k.ws.set j (addR (k.ws.getD j ew0).1 r, τ)).map Prod.fst = putE k.st.1 r := fun τ => by
        rw [putE, hE, hj, if_pos (by omega), Int.toNat_natCast, hgd, List.map_set]
        rfl
      have ht : takeS k.st.1 r = ({ k.st.1 with op := putE k.st.1 r, la := max k.a.la r.se, ls := k.a.ls ++ covL r }, true) := by
        rw [takeS, hev]; exact if_neg (by rw [show k.st.1.nx = k.a.nx from rfl, hs]; simp)
      refine LCalls.use (take1 k r hr (by omega) (by omega) hc.cL j hjl (by have := hrl.2.1; omega) hj hs) (H2 := [(63, .blk k.bG (BG k)), (64, .tok k.τ)] ++ tkw (k.ws.eraseIdx j)) (pA (tkw_at hjl)) ?_
      rintro _ _ ⟨τ, bL, cL, h2, rfl, rfl⟩
      rw [ht]
      refine ⟨HT (k.took (k.ws.set j (addR (k.ws.getD j ew0).1 r, τ)) r k.bO k.cO bL cL), (pA (tkw_set hjl (addR (k.ws.getD j ew0).1 r, τ))).symm, k.took (k.ws.set j (addR (k.ws.getD j ew0).1 r, τ)) r k.bO k.cO bL cL, ⟨rfl, ⟨?_, h2, hc.cG⟩, ?_⟩, rfl, rfl⟩
      · simp only [Wk.took, List.length_set]
        exact hc.cO
      · simp only [Wk.st, Wk.took, hp]
theorem okW_of {k : Wk} {m : Nat} (hm : m ≤ 1000000000) (hc : caps k) (ok : okA k.st.1 m) (ho : k.out.length < k.a.nx) : okW k :=
  ⟨hc.cO, hc.cL, hc.cG, by have := ok.op; rw [Wk.st, List.length_map] at this; omega, Nat.le_trans ok.lL hm, fun x hx => (ok.ev _ (List.mem_map_of_mem (f := Prod.fst) hx)).1, ok.ls, ok.gs, ok.nx, ok.lG, ho⟩
theorem settleT (k : Wk) (m : Nat) (edge : Int) (hm : m ≤ 1000000000) (hed : -100 ≤ edge ∧ edge ≤ 1073741824) (hc : caps k) (ok : okA k.st.1 m) (ho : k.out.length < k.a.nx) : LCalls Tryd.prog gl 34 [.ptr 50 k.b 0, .int .i64 edge] (HT k) fun x H => ∃ k', (k'.b = k.b ∧ caps k' ∧ k'.st = settleS edge k.st ∧ okA k'.st.1 m ∧ k'.out.length < k'.a.nx) ∧ x = .tup [] ∧ H = HT k' := by
  refine LCalls.useS (settle k edge hed (okW_of hm hc ok ho)) (H2 := tkw k.ws) (List.Perm.refl _) ?_
  rintro _ _ ⟨rfl, k', R, ⟨hb, hsu, ok'⟩, hR, hst, rfl⟩
  have hkp := hR.keep
  have e1 : k'.a.ls = keepL R.1.ls R.1.nx := congrArg (fun z : St => z.1.ls) hst
  have e2 : k'.a.st = R.1.st := congrArg (fun z : St => z.1.st) hst
  have e3 : k'.a.la = R.1.la := congrArg (fun z : St => z.1.la) hst
  refine ⟨HT k', (hsu.map _).append_left _, k', ⟨hb, ⟨ok'.cO, ok'.cL, ok'.cG⟩, by rw [hst, settleS_of hR], ⟨?_, ?_, ?_, ok'.ls, ok'.gs, ok'.nx, ok'.lG, ?_, ?_⟩, ok'.out⟩, rfl, rfl⟩
  · have := ok.op
    have h2 := (hsu.map Prod.fst).length_le
    exact Nat.le_trans h2 this
  · exact fun e he => ok.ev e ((hsu.map Prod.fst).mem he)
  · have := ok.lL
    have h2 := keep_le R.1.ls R.1.nx
    change k'.a.ls.length ≤ m
    rw [e1]
    rw [hkp.1.2.2.2] at h2 ⊢
    exact Nat.le_trans h2 this
  · have := ok.st
    change 0 ≤ k'.a.st ∧ k'.a.st ≤ m
    rw [e2, hkp.1.2.1]
    exact this
  · have := ok.la
    change 0 ≤ k'.a.la ∧ k'.a.la ≤ 1073741824
    rw [e3, hkp.1.2.2.1]
    exact this
end Go.Proofs.YtfheeghkajihoaaDoor
