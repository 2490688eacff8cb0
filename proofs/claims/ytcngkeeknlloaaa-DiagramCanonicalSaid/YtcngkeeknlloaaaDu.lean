/- Layer 16: diagrams of the same function are the same. -/
import Derived.Test.YtcngkeeknlloaaaDs
namespace Go.Proofs.Ytcngkeeknlloaaa
open Go Go.Lx
set_option linter.unusedSimpArgs false
set_option linter.unusedVariables false
set_option maxRecDepth 100000

/-- what is built depends on the leaves of the answers that can come -/
theorem bld_congr {lf lf' : Nat → Int} : ∀ (k i ans : Nat) (ns : List Br), ans < 2 ^ i → (∀ K, K < 2 ^ (i + k) → lf K = lf' K) → bld lf k i ans ns = bld lf' k i ans ns
  | 0, i, ans, ns, h, hl => by
    show (lf ans, ns) = (lf' ans, ns)
    rw [hl ans h]
  | k + 1, i, ans, ns, h, hl => by
    have h1 : 2 ^ (i + 1) = 2 ^ i + 2 ^ i := by rw [Nat.pow_succ]; omega
    have h2 : ans ||| 2 ^ i < 2 ^ (i + 1) := Nat.or_lt_two_pow (by omega) (by have := Nat.two_pow_pos i; omega)
    have h3 : ∀ K, K < 2 ^ (i + 1 + k) → lf K = lf' K := fun K hK => hl K (by rw [show i + (k + 1) = i + 1 + k by omega]; exact hK)
    rw [bld_succ, bld_succ, bld_congr k (i + 1) ans ns (by omega) h3, bld_congr k (i + 1) (ans ||| 2 ^ i) (bld lf' k (i + 1) ans ns).2 h2 h3]
/-- two lists of rules over the same atoms: the same diagram exactly if they decide alike -/
theorem canonical {la lb : List Rl} {wa wb : List Int} {tb : List At} (ha : WhOk la wa tb) (hb : WhOk lb wb tb) : bld (chS la wa tb) tb.length 0 0 [] = bld (chS lb wb tb) tb.length 0 0 [] ↔ ∀ K, K < 2 ^ tb.length → chS la wa tb K = chS lb wb tb K := by
  constructor
  · intro h K hK
    cases hR : bld (chS la wa tb) tb.length 0 0 [] with
    | mk r ns =>
      have hR2 : bld (chS lb wb tb) tb.length 0 0 [] = (r, ns) := h ▸ hR
      obtain ⟨a1, a2, a3, a4, a5, a6, a7, a8, a9, a10⟩ := built ha ns r hR
      obtain ⟨b1, b2, b3, b4, b5, b6, b7, b8, b9, b10⟩ := built hb ns r hR2
      have hbits : ∀ t, t < (bitsL tb.length K).length → (bitsL tb.length K).getD t false = K.testBit t := fun t ht => by
        simp [bitsL] at ht ⊢
        simp [List.getD, ht]
      have e1 := walk_rep (lf := chS la wa tb) (fun m => (chS_bd ha m).2) a2 K (bitsL tb.length K) hbits tb.length 0 ns.length r (by simpa [Nat.mod_one] using a9) (by simp [bitsL]) a3
      have e2 := walk_rep (lf := chS lb wb tb) (fun m => (chS_bd hb m).2) a2 K (bitsL tb.length K) hbits tb.length 0 ns.length r (by simpa [Nat.mod_one] using b9) (by simp [bitsL]) a3
      rw [Nat.zero_add, Nat.mod_eq_of_lt hK] at e1 e2
      rw [← e1, e2]
  · intro h
    exact bld_congr tb.length 0 0 [] (by simp) (by rw [Nat.zero_add]; exact h)
/-- atoms that are there already add nothing -/
theorem gather_sub : ∀ (l acc : List At), (∀ a ∈ l, a ∈ acc) → gather acc l = some acc
  | [], acc, _ => rfl
  | a :: r, acc, h => by rw [gather, if_pos (h a (by simp)), gather_sub r acc fun b hb => h b (List.mem_cons_of_mem _ hb)]
theorem gather_app : ∀ (l m acc : List At), gather acc (l ++ m) = (gather acc l).bind fun x => gather x m
  | [], m, acc => rfl
  | a :: r, m, acc => by
    rw [List.cons_append, gather, gather]
    split
    · exact gather_app r m acc
    · split
      · rfl
      · exact gather_app r m _
/-- if the first rule has all atoms, then the atoms are those of the first -/
theorem gather_head {h l : List At} (hs : ∀ a ∈ l, a ∈ h) : gather [] (h ++ l) = gather [] h := by
  rw [gather_app]
  cases hx : gather [] h with
  | none => rfl
  | some x =>
    obtain ⟨_, _, h3⟩ := gather_is h [] x hx (by simp)
    exact gather_sub l x fun a ha => h3 a (hs a ha)
end Go.Proofs.Ytcngkeeknlloaaa
