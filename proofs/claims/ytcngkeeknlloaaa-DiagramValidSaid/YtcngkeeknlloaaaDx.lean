/- Layer 16: a diagram is its own renumbering exactly if numbered says so. -/
import Derived.Test.YtcngkeeknlloaaaDw
namespace Go.Proofs.Ytcngkeeknlloaaa
open Go Go.Lx
set_option linter.unusedSimpArgs false
set_option linter.unusedVariables false
set_option maxRecDepth 100000

def toZ (N nx : Nat) : List Int := (List.range N).map fun j => if j < nx then (j : Int) else -1
theorem len_toZ (N nx : Nat) : (toZ N nx).length = N := by simp [toZ]
theorem toZ_get {N nx j : Nat} : (toZ N nx).getD j (-1) = if j < N ∧ j < nx then (j : Int) else -1 := by
  by_cases h : j < N
  · simp [toZ, List.getD, h]
  · simp [toZ, List.getD, h]
theorem toZ_set {N a : Nat} (h : a < N) : (toZ N a).set a (a : Int) = toZ N (a + 1) := by
  refine List.ext_getElem (by simp [toZ]) fun j h3 h4 => ?_
  rw [List.getElem_set]
  split
  · rename_i e
    subst e
    simp [toZ]
  · rename_i e
    simp only [toZ, List.getElem_map, List.getElem_range]
    by_cases h5 : j < a
    · rw [if_pos h5, if_pos (by omega)]
    · rw [if_neg h5, if_neg (by omega)]
theorem fin_old' (ns : List Br) {k : Nat} {r : Int} {nx : Nat} (h : r < nx) : fin ns k r nx = (true, nx) := by
  cases k with
  | zero => rfl
  | succ k => rw [fin, if_pos h]
theorem lock {ns : List Br} (hd : Down ns) : ∀ (k : Nat) (r : Int) (nx : Nat), r < k → r < ns.length → nx ≤ ns.length → GoodSt ns (ns.take nx) (toZ ns.length nx) →
    (∀ j : Nat, 0 ≤ (vis ns k r (ns.take nx) (toZ ns.length nx)).2.2.getD j (-1) → (vis ns k r (ns.take nx) (toZ ns.length nx)).2.2.getD j (-1) = j) →
    ∃ m, fin ns k r nx = (true, m) ∧ m ≤ ns.length ∧ vis ns k r (ns.take nx) (toZ ns.length nx) = (r, ns.take m, toZ ns.length m)
  | 0, r, nx, h1, h2, h3, hg, ht => ⟨nx, rfl, h3, rfl⟩
  | k + 1, r, nx, h1, h2, h3, hg, ht => by
    by_cases hn : r < 0
    · exact ⟨nx, fin_old' ns (by omega), h3, by rw [vis, if_pos hn]⟩
    · obtain ⟨a, rfl⟩ : ∃ a : Nat, r = (a : Int) := ⟨r.toNat, by omega⟩
      have haN : a < ns.length := by omega
      by_cases hax : a < nx
      · refine ⟨nx, fin_old' ns (by omega), h3, ?_⟩
        have e := toZ_get (N := ns.length) (nx := nx) (j := a)
        rw [if_pos ⟨haN, hax⟩] at e
        rw [vis, if_neg hn, Int.toNat_natCast, e, if_pos (by omega)]
      · have hda := hd a haN
        have hno : ¬ (0 : Int) ≤ (toZ ns.length nx).getD a (-1) := by rw [toZ_get, if_neg (fun h => hax h.2)]; omega
        rw [vis, if_neg hn, Int.toNat_natCast, if_neg hno] at ht ⊢
        obtain ⟨t1, a1, a2, a3, a4, a5, a6, a7⟩ := vis_ok hd k (ns.getD a br0).n (ns.take nx) (toZ ns.length nx) (by omega) (by omega) (len_toZ _ _) hg
        obtain ⟨t2, b1, b2, b3, b4, b5, b6, b7⟩ := vis_ok hd k (ns.getD a br0).y _ _ (by omega) (by omega) a2 a4
        have c1 := lock hd k (ns.getD a br0).n nx (by omega) (by omega) h3 hg
        generalize hv1 : vis ns k (ns.getD a br0).n (ns.take nx) (toZ ns.length nx) = v1 at *
        generalize hv2 : vis ns k (ns.getD a br0).y v1.2.1 v1.2.2 = v2 at *
        dsimp only at ht ⊢
        have hml : a < v2.2.2.length := by omega
        have hba : v2.2.2.getD a (-1) = -1 := by rw [b7 a (by omega), a7 a (by omega), toZ_get, if_neg (fun h => hax h.2)]
        have ht2 : ∀ j : Nat, 0 ≤ v2.2.2.getD j (-1) → v2.2.2.getD j (-1) = j := fun j hj => by
          have := ht j
          rw [getD_set hml] at this
          by_cases hja : j = a
          · subst hja; omega
          · rw [if_neg hja] at this
            exact this hj
        have ht1 : ∀ j : Nat, 0 ≤ v1.2.2.getD j (-1) → v1.2.2.getD j (-1) = j := fun j hj => by
          have e := b3 j hj
          rw [← e]
          exact ht2 j (by rw [e]; exact hj)
        obtain ⟨m1, f1, f2, f3⟩ := c1 ht1
        obtain ⟨x1, o1, z1⟩ := v1
        simp only [Prod.mk.injEq] at f3
        obtain ⟨rfl, rfl, rfl⟩ := f3
        have c2 := lock hd k (ns.getD a br0).y m1 (by omega) (by omega) f2 a4
        dsimp only at hv2
        rw [hv2] at c2
        obtain ⟨m2, g1, g2, g3⟩ := c2 ht2
        obtain ⟨x2, o2, z2⟩ := v2
        simp only [Prod.mk.injEq] at g3
        obtain ⟨rfl, rfl, rfl⟩ := g3
        have hlen : (ns.take m2).length = m2 := by rw [List.length_take]; omega
        have hself := ht a (by rw [getD_set (by rw [len_toZ]; exact haN), if_pos rfl]; omega)
        rw [getD_set (by rw [len_toZ]; exact haN), if_pos rfl] at hself
        rw [hlen] at hself
        obtain rfl : m2 = a := by omega
        refine ⟨m2 + 1, ?_, by omega, ?_⟩
        · rw [fin, if_neg (by omega), Int.toNat_natCast, f1]
          dsimp only
          rw [if_neg (by simp), g1]
          simp
        · dsimp only
          rw [hlen, toZ_set haN]
          have e9 : ns.take (m2 + 1) = ns.take m2 ++ [ns.getD m2 br0] := take_succ_getD br0 ns haN
          rw [e9]
theorem vis_of_fin {ns : List Br} (hd : Down ns) : ∀ (k : Nat) (r : Int) (nx m : Nat), fin ns k r nx = (true, m) → r < k → r < ns.length → nx ≤ ns.length → m ≤ ns.length ∧ vis ns k r (ns.take nx) (toZ ns.length nx) = (r, ns.take m, toZ ns.length m)
  | 0, r, nx, m, hf, h1, h2, h3 => by
    obtain rfl : nx = m := congrArg Prod.snd hf
    exact ⟨h3, rfl⟩
  | k + 1, r, nx, m, hf, h1, h2, h3 => by
    by_cases hn : r < 0
    · rw [fin_old' ns (by omega)] at hf
      obtain rfl : nx = m := congrArg Prod.snd hf
      exact ⟨h3, by rw [vis, if_pos hn]⟩
    · obtain ⟨a, rfl⟩ : ∃ a : Nat, r = (a : Int) := ⟨r.toNat, by omega⟩
      have haN : a < ns.length := by omega
      have e := toZ_get (N := ns.length) (nx := nx) (j := a)
      by_cases hax : a < nx
      · rw [fin_old' ns (by omega)] at hf
        obtain rfl : nx = m := congrArg Prod.snd hf
        rw [if_pos ⟨haN, hax⟩] at e
        exact ⟨h3, by rw [vis, if_neg hn, Int.toNat_natCast, e, if_pos (by omega)]⟩
      · rw [if_neg (fun h => hax h.2)] at e
        have hda := hd a haN
        rw [fin, if_neg (by omega), Int.toNat_natCast] at hf
        rw [vis, if_neg hn, Int.toNat_natCast, e, if_neg (by omega)]
        cases hr1 : fin ns k (ns.getD a br0).n nx with
        | mk x1 n1 =>
          rw [hr1] at hf
          cases x1 with
          | false => simp at hf
          | true =>
            obtain ⟨p1, p2⟩ := vis_of_fin hd k (ns.getD a br0).n nx n1 hr1 (by omega) (by omega) h3
            dsimp only at hf
            cases hr2 : fin ns k (ns.getD a br0).y n1 with
            | mk x2 n2 =>
              rw [hr2] at hf
              cases x2 with
              | false => simp at hf
              | true =>
                obtain ⟨q1, q2⟩ := vis_of_fin hd k (ns.getD a br0).y n1 n2 hr2 (by omega) (by omega) p1
                simp only [Bool.true_eq_false, if_false] at hf
                by_cases han : (a : Int) = n2
                · rw [if_pos han] at hf
                  obtain rfl : n2 + 1 = m := congrArg Prod.snd hf
                  obtain rfl : a = n2 := by omega
                  rw [p2]
                  dsimp only
                  rw [q2]
                  dsimp only
                  have hlen : (ns.take a).length = a := by rw [List.length_take]; omega
                  have e9 : ns.take (a + 1) = ns.take a ++ [ns.getD a br0] := take_succ_getD br0 ns haN
                  rw [hlen, toZ_set haN, e9]
                  exact ⟨by omega, rfl⟩
                · rw [if_neg han] at hf
                  simp at hf
/-- the renumbering is the identity exactly if the nodes are numbered as they are finished -/
theorem order_iff {ns : List Br} (hd : Down ns) (hN : ns.Nodup) {r : Int} (hr : r < ns.length) : ((vis ns ns.length r [] (toZ ns.length 0)).1 = r ∧ (vis ns ns.length r [] (toZ ns.length 0)).2.1 = ns) ↔ fin ns ns.length r 0 = (true, ns.length) := by
  have h0 : GoodSt ns (ns.take 0) (toZ ns.length 0) := fun j hj => by
    rw [toZ_get, if_neg (fun h => absurd h.2 (by omega))] at hj
    omega
  constructor
  · rintro ⟨h1, h2⟩
    obtain ⟨t, a1, a2, a3, a4, a5, a6, a7⟩ := vis_ok hd ns.length r (ns.take 0) (toZ ns.length 0) hr hr (len_toZ _ _) h0
    rw [List.take_zero] at *
    rw [h2] at a4
    obtain ⟨m, f1, f2, f3⟩ := lock hd ns.length r 0 hr hr (by omega) (by rw [List.take_zero]; exact h0) (by rw [List.take_zero]; exact good_id hd hN a2 a4)
    rw [List.take_zero] at f3
    rw [f3] at h2
    have hm : (ns.take m).length = ns.length := congrArg List.length h2
    rw [List.length_take] at hm
    rw [f1, show m = ns.length by omega]
  · intro h
    obtain ⟨_, e⟩ := vis_of_fin hd ns.length r 0 ns.length h hr hr (by omega)
    rw [List.take_zero] at e
    rw [e]
    exact ⟨rfl, List.take_length⟩
end Go.Proofs.Ytcngkeeknlloaaa
