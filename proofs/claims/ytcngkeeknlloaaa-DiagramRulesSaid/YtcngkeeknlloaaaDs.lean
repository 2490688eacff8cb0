/- Layer 16: the diagram decides. -/
import Derived.Test.YtcngkeeknlloaaaDo0
namespace Go.Proofs.Ytcngkeeknlloaaa
open Go Go.Lx
set_option linter.unusedSimpArgs false
set_option linter.unusedVariables false
set_option maxRecDepth 100000
set_option maxHeartbeats 4000000

theorem rep_atom {lf : Nat → Int} (hlf : ∀ m, lf m < 0) {ns : List Br} : ∀ {k i ans c : Nat}, Rep lf ns k i ans (c : Int) → ∃ q, ns[c]? = some q ∧ (i : Int) ≤ q.a
  | 0, i, ans, c, h => by have h1 : (c : Int) = lf ans := h; have := hlf ans; omega
  | k + 1, i, ans, c, ⟨rn, ry, h1, h2, h3⟩ => by
    rcases h3 with ⟨rfl, rfl⟩ | ⟨h4, j, h5, h6⟩
    · obtain ⟨q, hq1, hq2⟩ := rep_atom hlf h1
      exact ⟨q, hq1, by omega⟩
    · obtain rfl : c = j := by omega
      exact ⟨_, h6, by dsimp only; omega⟩
/-- the nodes below ask later atoms -/
def Gt (ns : List Br) : Prop := ∀ (j : Nat) (b : Br), ns[j]? = some b → ∀ c : Nat, (b.n = c ∨ b.y = c) → ∃ q, ns[c]? = some q ∧ b.a < q.a
theorem get_ext {ns : List Br} {c : Nat} {q : Br} (t : List Br) (h : ns[c]? = some q) : (ns ++ t)[c]? = some q := by
  have hj : c < ns.length := (List.getElem?_eq_some_iff.1 h).1
  rw [List.getElem?_append_left hj, h]
theorem bld_gt {lf : Nat → Int} (hlf : ∀ m, lf m < 0) : ∀ (k i ans : Nat) (ns : List Br), ns.Nodup → Dn ns → Gt ns → Gt (bld lf k i ans ns).2
  | 0, i, ans, ns, hN, hd, hg => hg
  | k + 1, i, ans, ns, hN, hd, hg => by
    obtain ⟨t1, e1, n1, d1, rep1, _⟩ := bld_main hlf k (i + 1) ans ns hN hd
    have g1 := bld_gt hlf k (i + 1) ans ns hN hd hg
    rw [bld_succ]
    generalize bld lf k (i + 1) ans ns = r1 at *
    obtain ⟨t2, e2, n2, d2, rep2, _⟩ := bld_main hlf k (i + 1) (ans ||| 2 ^ i) r1.2 n1 d1
    have g2 := bld_gt hlf k (i + 1) (ans ||| 2 ^ i) r1.2 n1 d1 g1
    generalize bld lf k (i + 1) (ans ||| 2 ^ i) r1.2 = r2 at *
    split
    · exact g2
    · split
      · exact g2
      · intro j b hb c hc
        dsimp only at hb ⊢
        rcases Nat.lt_or_ge j r2.2.length with h | h
        · rw [List.getElem?_append_left h] at hb
          obtain ⟨q, hq1, hq2⟩ := g2 j b hb c hc
          exact ⟨q, get_ext _ hq1, hq2⟩
        · rw [List.getElem?_append_right h] at hb
          obtain ⟨h8, h9⟩ := List.getElem?_eq_some_iff.1 hb
          have hj : j = r2.2.length := by simp at h8; omega
          subst hj
          simp at h9
          subst h9
          dsimp only at hc ⊢
          rcases hc with hc | hc
          · rw [hc] at rep1
            obtain ⟨q, hq1, hq2⟩ := rep_atom hlf rep1
            exact ⟨q, get_ext _ (by rw [e2]; exact get_ext _ hq1), by omega⟩
          · rw [hc] at rep2
            obtain ⟨q, hq1, hq2⟩ := rep_atom hlf rep2
            exact ⟨q, get_ext _ hq1, by omega⟩
theorem bel_of {ns : List Br} {i : Nat} {a r : Int} (hi : i ≤ ns.length) (h : r < i) (hg : ∀ c : Nat, r = c → ∃ q, ns[c]? = some q ∧ a < q.a) : bel (ns.take i) a r = true := by
  by_cases h0 : r < 0
  · simp [bel, h0]
  · obtain ⟨c, rfl⟩ : ∃ c : Nat, r = (c : Int) := ⟨r.toNat, by omega⟩
    obtain ⟨q, hq1, hq2⟩ := hg c rfl
    have hc : c < i := by omega
    have : (ns.take i).getD c br0 = q := by
      simp [List.getD, List.getElem?_take, hc, hq1]
    simp only [bel, Int.toNat_natCast, this, Bool.or_eq_true, Bool.and_eq_true, decide_eq_true_eq, List.length_take]
    exact .inr ⟨by omega, hq2⟩
theorem valid_built {l : List Rl} {wh : List Int} {tb : List At} (h : WhOk l wh tb) (ns : List Br) (r : Int) (hR : bld (chS l wh tb) tb.length 0 0 [] = (r, ns)) : validP ⟨tb, ns, r⟩ = true := by
  obtain ⟨f1, f2, f3, f4, f5, f6, f7, f8, f9, f10⟩ := built h ns r hR
  have hG := bld_gt (lf := chS l wh tb) (fun m => (chS_bd h m).2) tb.length 0 0 [] (by simp) (fun j b hj => by simp at hj) (fun j b hj => by simp at hj)
  rw [hR] at hG
  have hlt := h.lt
  unfold validP
  dsimp only
  rw [if_neg (by omega)]
  by_cases h0 : ns.length = 0
  · rw [if_pos h0]
    simp; omega
  · rw [if_neg h0, if_neg (by rcases f8 with f8 | f8; (rw [f8] at h0; exact absurd rfl h0); omega), if_pos, f4]
    simp only [goodN, decide_eq_true_eq]
    intro i hi
    have hm : ns.getD i br0 ∈ ns := getD_memA br0 hi
    have hget : ns[i]? = some (ns.getD i br0) := by simp [List.getD, hi]
    have hdn := f2 i hi
    have hrg := f10 _ hm
    refine ⟨⟨hrg.1, hrg.2.1⟩, hrg.2.2, fun hmm => ?_, bel_of (by omega) hdn.1 fun c hc => hG i _ hget c (.inl hc), bel_of (by omega) hdn.2 fun c hc => hG i _ hget c (.inr hc)⟩
    obtain ⟨m, hm1, hm2⟩ := List.mem_take_iff_getElem.1 hmm
    rw [List.nodup_iff_pairwise_ne, List.pairwise_iff_getElem] at f1
    refine f1 m i (by omega) hi (by omega) ?_
    rw [hm2]
    simp [List.getD, hi]
theorem or_mod {K i : Nat} : (K % 2 ^ i) ||| 2 ^ i = K % 2 ^ i + 2 ^ i := by
  have h1 := Nat.two_pow_add_eq_or_of_lt (Nat.mod_lt K (Nat.two_pow_pos i)) 1
  rw [Nat.or_comm, Nat.mul_one] at h1
  rw [← h1]
  omega
theorem mod_succ (K i : Nat) : K % 2 ^ (i + 1) = K % 2 ^ i + if K.testBit i = true then 2 ^ i else 0 := by
  rw [Nat.mod_pow_succ, Nat.testBit_eq_decide_div_mod_eq]
  have h : K / 2 ^ i % 2 = 0 ∨ K / 2 ^ i % 2 = 1 := by omega
  rcases h with h | h <;> simp [h]
theorem walk_rep {lf : Nat → Int} (hlf : ∀ m, lf m < 0) {ns : List Br} (hd : Down ns) (K : Nat) (ans : List Bool) (ha : ∀ t, t < ans.length → ans.getD t false = K.testBit t) : ∀ (k i f : Nat) (r : Int), Rep lf ns k i (K % 2 ^ i) r → i + k = ans.length → r < f → walkD ns ans f r = lf (K % 2 ^ (i + k))
  | 0, i, f, r, h1, h2, h3 => by
    have h4 : r = lf (K % 2 ^ i) := h1
    rw [walkD_neg _ _ _ (by rw [h4]; exact hlf _), h4]
    rfl
  | k + 1, i, f, r, ⟨rn, ry, h1, h2, h3⟩, h4, h5 => by
    have hb := ha i (by omega)
    have hs := mod_succ K i
    have e : i + (k + 1) = i + 1 + k := by omega
    rw [e]
    have hN : K.testBit i = false → Rep lf ns k (i + 1) (K % 2 ^ (i + 1)) rn := fun h => by
      rw [hs, h]; simpa using h1
    have hY : K.testBit i = true → Rep lf ns k (i + 1) (K % 2 ^ (i + 1)) ry := fun h => by
      rw [hs, h]
      rw [or_mod] at h2
      simpa using h2
    rcases h3 with ⟨rfl, rfl⟩ | ⟨h6, j, rfl, h8⟩
    · cases ht : K.testBit i with
      | false => exact walk_rep hlf hd K ans ha k (i + 1) f _ (hN ht) (by omega) h5
      | true => exact walk_rep hlf hd K ans ha k (i + 1) f _ (hY ht) (by omega) h5
    · obtain ⟨g, rfl⟩ : ∃ g, f = g + 1 := ⟨f - 1, by omega⟩
      obtain ⟨hj, hj2⟩ := List.getElem?_eq_some_iff.1 h8
      have hget : ns.getD j br0 = ⟨i, rn, ry⟩ := by simp [List.getD, h8]
      have hdj := hd j hj
      rw [hget] at hdj
      dsimp only at hdj
      rw [walkD, if_neg (by omega), Int.toNat_natCast, hget]
      dsimp only
      rw [Int.toNat_natCast, hb]
      have hd1 : decide ((i : Int) < (ans.length : Int)) = true := by simp; omega
      rw [hd1, Bool.true_and]
      cases ht : K.testBit i with
      | false =>
        rw [if_neg (by simp)]
        exact walk_rep hlf hd K ans ha k (i + 1) g _ (hN ht) (by omega) (by omega)
      | true =>
        rw [if_pos rfl]
        exact walk_rep hlf hd K ans ha k (i + 1) g _ (hY ht) (by omega) (by omega)
def bitsL (n K : Nat) : List Bool := (List.range n).map fun i => K.testBit i
theorem decides {l : List Rl} {wh : List Int} {tb : List At} (h : WhOk l wh tb) (ns : List Br) (r : Int) (hR : bld (chS l wh tb) tb.length 0 0 [] = (r, ns)) (K : Nat) (hK : K < 2 ^ tb.length) : decS ⟨tb, ns, r⟩ (bitsL tb.length K) = if chS l wh tb K < -1 then -2 - chS l wh tb K else chS l wh tb K := by
  obtain ⟨f1, f2, f3, f4, f5, f6, f7, f8, f9, f10⟩ := built h ns r hR
  have hw := walk_rep (lf := chS l wh tb) (fun m => (chS_bd h m).2) f2 K (bitsL tb.length K) (fun t ht => by
    simp [bitsL] at ht ⊢
    simp [List.getD, ht]) tb.length 0 ns.length r (by simpa [Nat.mod_one] using f9) (by simp [bitsL]) f3
  rw [decS, if_pos (valid_built h ns r hR)]
  dsimp only
  rw [hw, Nat.zero_add, Nat.mod_eq_of_lt hK]
  have := (chS_bd h K).2
  unfold ruleOf
  by_cases h1 : chS l wh tb K = -1
  · rw [if_pos h1, if_neg (by omega), h1]
  · rw [if_neg h1, if_pos (by omega)]
end Go.Proofs.Ytcngkeeknlloaaa
