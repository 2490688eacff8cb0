/- Layer 16: the renumbering of a diagram is the identity exactly if its nodes are in the order in which they are finished. -/
import Derived.Test.YtcngkeeknlloaaaDf
namespace Go.Proofs.Ytcngkeeknlloaaa
open Go Go.Lx
set_option linter.unusedSimpArgs false
set_option linter.unusedVariables false
set_option maxRecDepth 100000

def vis (ns : List Br) : Nat → Int → List Br → List Int → Int × List Br × List Int
  | 0, r, out, to => (r, out, to)
  | k + 1, r, out, to => if r < 0 then (r, out, to) else if 0 ≤ to.getD r.toNat (-1) then (to.getD r.toNat (-1), out, to) else
    (((vis ns k (ns.getD r.toNat br0).y (vis ns k (ns.getD r.toNat br0).n out to).2.1 (vis ns k (ns.getD r.toNat br0).n out to).2.2).2.1.length : Int),
      (vis ns k (ns.getD r.toNat br0).y (vis ns k (ns.getD r.toNat br0).n out to).2.1 (vis ns k (ns.getD r.toNat br0).n out to).2.2).2.1 ++ [⟨(ns.getD r.toNat br0).a, (vis ns k (ns.getD r.toNat br0).n out to).1, (vis ns k (ns.getD r.toNat br0).y (vis ns k (ns.getD r.toNat br0).n out to).2.1 (vis ns k (ns.getD r.toNat br0).n out to).2.2).1⟩],
      (vis ns k (ns.getD r.toNat br0).y (vis ns k (ns.getD r.toNat br0).n out to).2.1 (vis ns k (ns.getD r.toNat br0).n out to).2.2).2.2.set r.toNat (vis ns k (ns.getD r.toNat br0).y (vis ns k (ns.getD r.toNat br0).n out to).2.1 (vis ns k (ns.getD r.toNat br0).n out to).2.2).2.1.length)
def rho (to : List Int) (x : Int) : Int := if x < 0 then x else to.getD x.toNat (-1)
/-- what is numbered has its node, renamed, at its number -/
def GoodSt (ns : List Br) (out : List Br) (to : List Int) : Prop := ∀ j : Nat, 0 ≤ to.getD j (-1) → ∃ c : Nat, to.getD j (-1) = c ∧ out[c]? = some ⟨(ns.getD j br0).a, rho to (ns.getD j br0).n, rho to (ns.getD j br0).y⟩ ∧ (0 ≤ (ns.getD j br0).n → 0 ≤ rho to (ns.getD j br0).n) ∧ (0 ≤ (ns.getD j br0).y → 0 ≤ rho to (ns.getD j br0).y)
def MonoT (to to' : List Int) : Prop := ∀ j : Nat, 0 ≤ to.getD j (-1) → to'.getD j (-1) = to.getD j (-1)
theorem MonoT.trans {a b c : List Int} (h : MonoT a b) (h' : MonoT b c) : MonoT a c := fun j hj => by
  have e := h j hj
  rw [h' j (by rw [e]; exact hj), e]
theorem MonoT.rho {a b : List Int} (h : MonoT a b) {x : Int} (hx : 0 ≤ x → 0 ≤ rho a x) : rho b x = rho a x := by
  unfold Proofs.Ytcngkeeknlloaaa.rho at *
  split
  · rfl
  · rename_i h0
    have := hx (by omega)
    rw [if_neg h0] at this
    exact h _ this
theorem getD_set {l : List Int} {i j : Nat} {v : Int} (hi : i < l.length) : (l.set i v).getD j (-1) = if j = i then v else l.getD j (-1) := by
  simp only [List.getD, List.getElem?_set]
  by_cases h : i = j
  · subst h; simp [hi]
  · rw [if_neg h, if_neg (fun e => h e.symm)]
/-- a visit: lengths, order, numbers, and nothing above is touched -/
theorem vis_ok {ns : List Br} (hd : Down ns) : ∀ (k : Nat) (r : Int) (out : List Br) (to : List Int), r < k → r < ns.length → to.length = ns.length → GoodSt ns out to →
    ∃ t, (vis ns k r out to).2.1 = out ++ t ∧ (vis ns k r out to).2.2.length = ns.length ∧ MonoT to (vis ns k r out to).2.2 ∧ GoodSt ns (vis ns k r out to).2.1 (vis ns k r out to).2.2 ∧ (vis ns k r out to).1 = rho (vis ns k r out to).2.2 r ∧ (0 ≤ r → 0 ≤ rho (vis ns k r out to).2.2 r) ∧ ∀ j : Nat, r < j → (vis ns k r out to).2.2.getD j (-1) = to.getD j (-1)
  | 0, r, out, to, h1, h2, h3, h4 => by
    refine ⟨[], (List.append_nil _).symm, h3, fun _ _ => rfl, h4, ?_, fun h => by omega, fun _ _ => rfl⟩
    show r = rho to r
    rw [rho, if_pos (by omega)]
  | k + 1, r, out, to, h1, h2, h3, h4 => by
    rw [vis]
    split
    · rename_i h
      refine ⟨[], (List.append_nil _).symm, h3, fun _ _ => rfl, h4, ?_, fun h => by omega, fun _ _ => rfl⟩
      show r = rho to r
      rw [rho, if_pos h]
    · rename_i hn
      split
      · rename_i h
        refine ⟨[], (List.append_nil _).symm, h3, fun _ _ => rfl, h4, ?_, fun _ => ?_, fun _ _ => rfl⟩
        · show _ = rho to r
          rw [rho, if_neg hn]
        · show 0 ≤ rho to r
          rw [rho, if_neg hn]; exact h
      · rename_i hno
        obtain ⟨m, rfl⟩ : ∃ m : Nat, r = (m : Int) := ⟨r.toNat, by omega⟩
        rw [Int.toNat_natCast] at *
        have hdm := hd m (by omega)
        obtain ⟨t1, a1, a2, a3, a4, a5, a6, a7⟩ := vis_ok hd k (ns.getD m br0).n out to (by omega) (by omega) h3 h4
        generalize vis ns k (ns.getD m br0).n out to = v1 at *
        obtain ⟨t2, b1, b2, b3, b4, b5, b6, b7⟩ := vis_ok hd k (ns.getD m br0).y v1.2.1 v1.2.2 (by omega) (by omega) a2 a4
        generalize vis ns k (ns.getD m br0).y v1.2.1 v1.2.2 = v2 at *
        dsimp only
        have hml : m < v2.2.2.length := by omega
        have hbm : v2.2.2.getD m (-1) < 0 := by rw [b7 m (by omega), a7 m (by omega)]; omega
        have hmo : MonoT v2.2.2 (v2.2.2.set m v2.2.1.length) := fun j hj => by
          rw [getD_set hml, if_neg (fun e => by subst e; omega)]
        have hself : (v2.2.2.set m (v2.2.1.length : Int)).getD m (-1) = v2.2.1.length := by rw [getD_set hml, if_pos rfl]
        have hr1 : rho (v2.2.2.set m v2.2.1.length) (ns.getD m br0).n = v1.1 := by
          have e1 := MonoT.rho b3 (x := (ns.getD m br0).n) a6
          rw [MonoT.rho hmo (x := (ns.getD m br0).n) (fun h => by rw [e1]; exact a6 h), e1, a5]
        have hr2 : rho (v2.2.2.set m v2.2.1.length) (ns.getD m br0).y = v2.1 := by
          rw [MonoT.rho hmo (x := (ns.getD m br0).y) b6, b5]
        refine ⟨t1 ++ t2 ++ [⟨(ns.getD m br0).a, v1.1, v2.1⟩], by rw [b1, a1]; simp, by rw [List.length_set]; exact b2, (a3.trans b3).trans hmo, fun j hj => ?_, ?_, fun _ => ?_, fun j hj => ?_⟩
        · by_cases hjm : j = m
          · subst hjm
            refine ⟨v2.2.1.length, hself, ?_, fun h => ?_, fun h => ?_⟩
            · rw [hr1, hr2]; simp
            · rw [hr1, a5, ← MonoT.rho b3 a6]
              have := a6 h
              rw [MonoT.rho b3 a6]; exact this
            · rw [hr2, b5]; exact b6 h
          · rw [getD_set hml, if_neg hjm] at hj ⊢
            obtain ⟨c, c1, c2, c3, c4⟩ := b4 j hj
            have hc : c < v2.2.1.length := (List.getElem?_eq_some_iff.1 c2).1
            have e3 := MonoT.rho hmo (x := (ns.getD j br0).n) c3
            have e4 := MonoT.rho hmo (x := (ns.getD j br0).y) c4
            exact ⟨c, c1, by rw [List.getElem?_append_left hc, c2, e3, e4], by rw [e3]; exact c3, by rw [e4]; exact c4⟩
        · rw [rho, if_neg (by omega), Int.toNat_natCast, hself]
        · rw [rho, if_neg (by omega), Int.toNat_natCast, hself]; omega
        · rw [getD_set hml, if_neg (by omega), b7 j (by omega), a7 j (by omega)]
/-- what is numbered by itself -/
theorem good_id {ns : List Br} (hd : Down ns) (hN : ns.Nodup) {to : List Int} (hl : to.length = ns.length) (hg : GoodSt ns ns to) : ∀ j : Nat, 0 ≤ to.getD j (-1) → to.getD j (-1) = j := by
  intro j
  induction j using Nat.strongRecOn with
  | ind j ih =>
    intro hj
    have hjl : j < ns.length := by
      rcases Nat.lt_or_ge j to.length with h | h
      · omega
      · simp only [List.getD, List.getElem?_eq_none h] at hj
        simp at hj
    have hdj := hd j hjl
    obtain ⟨c, c1, c2, c3, c4⟩ := hg j hj
    have hrho : ∀ x : Int, x < j → (0 ≤ x → 0 ≤ rho to x) → rho to x = x := fun x hx h0 => by
      unfold rho at *
      split
      · rfl
      · rename_i hx0
        have := h0 (by omega)
        rw [if_neg hx0] at this
        have := ih x.toNat (by omega) this
        omega
    rw [hrho _ hdj.1 c3, hrho _ hdj.2 c4] at c2
    obtain ⟨hc, hc2⟩ := List.getElem?_eq_some_iff.1 c2
    rw [c1]
    rw [List.nodup_iff_pairwise_ne, List.pairwise_iff_getElem] at hN
    have hjg : ns[j] = ns.getD j br0 := by simp [List.getD, hjl]
    have heq : ns[c] = ns[j] := by rw [hc2, hjg]
    rcases Nat.lt_trichotomy c j with h | h | h
    · exact absurd heq (hN c j hc hjl h)
    · rw [h]
    · exact absurd heq.symm (hN j c hjl hc h)
end Go.Proofs.Ytcngkeeknlloaaa
