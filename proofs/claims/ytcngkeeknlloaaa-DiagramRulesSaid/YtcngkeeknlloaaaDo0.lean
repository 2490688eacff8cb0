/- Layer 16: what is known of what is built (plain). -/
import Derived.Test.YtcngkeeknlloaaaDk
namespace Go.Proofs.Ytcngkeeknlloaaa
open Go Go.Lx
set_option linter.unusedSimpArgs false
set_option linter.unusedVariables false
set_option maxRecDepth 100000
set_option maxHeartbeats 4000000

theorem chS_bd {l : List Rl} {wh : List Int} {tb : List At} (h : WhOk l wh tb) (m : Nat) : -2000000 ≤ chS l wh tb m ∧ chS l wh tb m < 0 := by
  unfold chS
  have := h.ll
  split
  · rename_i n hn
    have := h.ix n (List.mem_of_find?_eq_some hn)
    omega
  · omega
theorem leaf_ch (l : List Rl) (wh : List Int) (tb : List At) (ans : Nat) : leafS (needS l wh tb) ans = chS l wh tb ans := by
  unfold leafS chS needS
  rw [List.find?_map]
  have hp : ((fun n : Int × Nat => decide (n.2 &&& ans = n.2)) ∘ fun i => (i, maskA tb (ownA (l.getD i.toNat rl0)))) = fun i => (ownA (l.getD i.toNat rl0)).all fun a => ans.testBit (idxA tb a).toNat := by
    funext i
    rw [Bool.eq_iff_iff]
    simp only [Function.comp, decide_eq_true_eq, List.all_eq_true]
    exact maskA_all tb _ ans
  rw [hp]
  cases wh.find? fun i => (ownA (l.getD i.toNat rl0)).all fun a => ans.testBit (idxA tb a).toNat <;> rfl
theorem leaf_ch' (l : List Rl) (wh : List Int) (tb : List At) : leafS (needS l wh tb) = chS l wh tb := funext fun ans => leaf_ch l wh tb ans
theorem Dn.down {ns : List Br} (h : Dn ns) : Down ns := fun i hi => by
  have := h i (ns.getD i br0) (by simp [List.getD, hi])
  exact this
/-- all that is known of what is built -/
theorem built {l : List Rl} {wh : List Int} {tb : List At} (h : WhOk l wh tb) (ns : List Br) (r : Int) (hR : bld (chS l wh tb) tb.length 0 0 [] = (r, ns)) : ns.Nodup ∧ Down ns ∧ r < ns.length ∧ fin ns ns.length r 0 = (true, ns.length) ∧ (∀ b ∈ ns, brOk b) ∧ -2000000 ≤ r ∧ ns.length ≤ 5000 ∧ (ns = [] ∨ r + 1 = ns.length) ∧ Rep (chS l wh tb) ns tb.length 0 0 r ∧ ∀ b ∈ ns, 0 ≤ b.a ∧ b.a < tb.length ∧ b.n ≠ b.y := by
  have hp := pow12 h.lt
  have hlt := h.lt
  obtain ⟨t, e, hN, hD, hrep, hr, ha, hl, hf⟩ := bld_main (lf := chS l wh tb) (fun m => (chS_bd h m).2) tb.length 0 0 [] (by simp) (fun j b hj => by simp at hj)
  obtain ⟨b1, b2, b3, b4⟩ := bld_ok (lf := chS l wh tb) (fun m => ⟨(chS_bd h m).1, by have := (chS_bd h m).2; omega⟩) tb.length 0 0 [] (by omega) (by simp; omega) (by simp)
  rw [hR] at *
  dsimp only at *
  have hf2 := hf [] ns.length hr
  rw [List.append_nil] at hf2
  simp only [List.nil_append] at e
  subst e
  simp only [List.length_nil] at b2
  exact ⟨hN, hD.down, hr, hf2, b1, b3, by omega, hl, hrep, fun b hb => by have := ha b hb; omega⟩
end Go.Proofs.Ytcngkeeknlloaaa
