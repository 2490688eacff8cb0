/- Layer 16: what is built is reduced and in order. -/
import Derived.Test.YtcngkeeknlloaaaDg
namespace Go.Proofs.Ytcngkeeknlloaaa
open Go Go.Lx
set_option linter.unusedSimpArgs false
set_option linter.unusedVariables false
set_option maxRecDepth 100000

/-- a reference stands for the answers from an atom on -/
def Rep (lf : Nat → Int) (ns : List Br) : Nat → Nat → Nat → Int → Prop
  | 0, _, ans, r => r = lf ans
  | k + 1, i, ans, r => ∃ rn ry, Rep lf ns k (i + 1) ans rn ∧ Rep lf ns k (i + 1) (ans ||| 2 ^ i) ry ∧ ((rn = ry ∧ r = rn) ∨ (rn ≠ ry ∧ ∃ j : Nat, r = j ∧ ns[j]? = some ⟨i, rn, ry⟩))
def Dn (ns : List Br) : Prop := ∀ (j : Nat) (b : Br), ns[j]? = some b → b.n < j ∧ b.y < j
theorem Rep.ext {lf : Nat → Int} {ns : List Br} (t : List Br) : ∀ {k i ans : Nat} {r : Int}, Rep lf ns k i ans r → Rep lf (ns ++ t) k i ans r
  | 0, _, _, _, h => h
  | k + 1, i, ans, r, ⟨rn, ry, h1, h2, h3⟩ => ⟨rn, ry, h1.ext t, h2.ext t, h3.imp id fun ⟨h4, j, h5, h6⟩ => ⟨h4, j, h5, by
      have hj : j < ns.length := (List.getElem?_eq_some_iff.1 h6).1
      rw [List.getElem?_append_left hj, h6]⟩⟩
theorem idxB_nodup {ns : List Br} {b : Br} {j : Nat} (hN : ns.Nodup) (h : ns[j]? = some b) : idxB ns b = some j := by
  obtain ⟨hj, hb⟩ := List.getElem?_eq_some_iff.1 h
  rw [idxB, List.findIdx?_eq_some_iff_getElem]
  refine ⟨hj, by simp [hb], fun m hm => ?_⟩
  rw [List.nodup_iff_pairwise_ne, List.pairwise_iff_getElem] at hN
  have := hN m j (by omega) hj hm
  rw [hb] at this
  simpa using this
theorem idxB_get {ns : List Br} {b : Br} {j : Nat} (h : idxB ns b = some j) : ns[j]? = some b := by
  obtain ⟨hj, hb, _⟩ := List.findIdx?_eq_some_iff_getElem.1 h
  rw [List.getElem?_eq_getElem hj]
  simpa using hb
theorem idxB_none {ns : List Br} {b : Br} (h : idxB ns b = none) : b ∉ ns := fun hm => by
  have := List.findIdx?_eq_none_iff.1 h b hm
  simp at this
theorem rep_idem {lf : Nat → Int} {ns : List Br} (hN : ns.Nodup) : ∀ {k i ans : Nat} {r : Int}, Rep lf ns k i ans r → bld lf k i ans ns = (r, ns)
  | 0, i, ans, r, h => by rw [h]; rfl
  | k + 1, i, ans, r, ⟨rn, ry, h1, h2, h3⟩ => by
    rw [bld_succ, rep_idem hN h1, rep_idem hN h2]
    rcases h3 with ⟨rfl, rfl⟩ | ⟨h4, j, rfl, h6⟩
    · rw [if_pos rfl]
    · rw [if_neg h4, idxB_nodup hN h6]
theorem rep_cut {lf : Nat → Int} {ns t : List Br} (hd : Dn (ns ++ t)) : ∀ {k i ans : Nat} {r : Int}, Rep lf (ns ++ t) k i ans r → r < ns.length → Rep lf ns k i ans r
  | 0, _, _, _, h, _ => h
  | k + 1, i, ans, r, ⟨rn, ry, h1, h2, h3⟩, hr => by
    rcases h3 with ⟨rfl, rfl⟩ | ⟨h4, j, rfl, h6⟩
    · exact ⟨_, _, rep_cut hd h1 hr, rep_cut hd h2 hr, .inl ⟨rfl, rfl⟩⟩
    · have hj : j < ns.length := by omega
      have := hd j _ h6
      dsimp only at this
      rw [List.getElem?_append_left hj] at h6
      exact ⟨rn, ry, rep_cut hd h1 (by omega), rep_cut hd h2 (by omega), .inr ⟨h4, j, rfl, h6⟩⟩
theorem fin_old (ns : List Br) {k : Nat} {r : Int} {nx : Nat} (h : r < nx) : fin ns k r nx = (true, nx) := by
  cases k with
  | zero => rfl
  | succ k => rw [fin, if_pos h]
theorem bld_main {lf : Nat → Int} (hlf : ∀ m, lf m < 0) : ∀ (k i ans : Nat) (ns : List Br), ns.Nodup → Dn ns →
    ∃ t, (bld lf k i ans ns).2 = ns ++ t ∧ (bld lf k i ans ns).2.Nodup ∧ Dn (bld lf k i ans ns).2 ∧ Rep lf (bld lf k i ans ns).2 k i ans (bld lf k i ans ns).1 ∧ (bld lf k i ans ns).1 < (bld lf k i ans ns).2.length ∧ (∀ b ∈ t, (i : Int) ≤ b.a ∧ b.a < i + k ∧ b.n ≠ b.y) ∧ (t = [] ∨ (bld lf k i ans ns).1 + 1 = (bld lf k i ans ns).2.length) ∧
      ∀ (u : List Br) (f : Nat), (bld lf k i ans ns).1 < f → fin ((bld lf k i ans ns).2 ++ u) f (bld lf k i ans ns).1 ns.length = (true, (bld lf k i ans ns).2.length)
  | 0, i, ans, ns, hN, hd => by
    have h1 := hlf ans
    have h2 : lf ans < (ns.length : Int) := by omega
    exact ⟨[], (List.append_nil _).symm, hN, hd, rfl, h2, fun b hb => by simp at hb, .inl rfl, fun u f hf => fin_old _ h2⟩
  | k + 1, i, ans, ns, hN, hd => by
    obtain ⟨t1, e1, n1, d1, rep1, lt1, a1, l1, f1⟩ := bld_main hlf k (i + 1) ans ns hN hd
    have hidem := fun r (h : Rep lf ns (k + 1) i ans r) => rep_idem hN h
    rw [bld_succ] at hidem ⊢
    generalize bld lf k (i + 1) ans ns = r1 at *
    obtain ⟨t2, e2, n2, d2, rep2, lt2, a2, l2, f2⟩ := bld_main hlf k (i + 1) (ans ||| 2 ^ i) r1.2 n1 d1
    have hid2 := fun r (h : Rep lf r1.2 k (i + 1) (ans ||| 2 ^ i) r) => rep_idem n1 h
    generalize bld lf k (i + 1) (ans ||| 2 ^ i) r1.2 = r2 at *
    obtain ⟨r1a, r1b⟩ := r1
    obtain ⟨r2a, r2b⟩ := r2
    dsimp only at *
    by_cases he : r1a = r2a
    · subst he
      rw [if_pos rfl]
      have hr : Rep lf r1b k (i + 1) (ans ||| 2 ^ i) r1a := rep_cut (e2 ▸ d2) (e2 ▸ rep2) lt1
      have h3 := hid2 _ hr
      obtain rfl : r2b = r1b := congrArg Prod.snd h3
      exact ⟨t1, e1, n1, d1, ⟨_, _, rep1, hr, .inl ⟨rfl, rfl⟩⟩, lt1, fun b hb => by have := a1 b hb; omega, l1, f1⟩
    · rw [if_neg he] at hidem ⊢
      cases hx : idxB r2b ⟨i, r1a, r2a⟩ with
      | some j =>
        rw [hx] at hidem
        dsimp only at hidem ⊢
        have hg := idxB_get hx
        have hj2 := idxB_lt hx
        have hall : r2b = ns ++ (t1 ++ t2) := by rw [e2, e1, List.append_assoc]
        have hjn : j < ns.length := by
          rcases Nat.lt_or_ge j ns.length with h | h
          · exact h
          · exfalso
            rw [hall, List.getElem?_append_right h] at hg
            have hm := List.mem_of_getElem? hg
            rcases List.mem_append.1 hm with h5 | h5
            · have := a1 _ h5; dsimp only at this; omega
            · have := a2 _ h5; dsimp only at this; omega
        have hrep : Rep lf r2b (k + 1) i ans j := ⟨r1a, r2a, e2 ▸ rep1.ext t2, rep2, .inr ⟨he, j, rfl, hg⟩⟩
        have hrn : Rep lf ns (k + 1) i ans j := rep_cut (hall ▸ d2) (hall ▸ hrep) (by omega)
        have h3 := hidem _ hrn
        obtain rfl : r2b = ns := congrArg Prod.snd h3
        exact ⟨[], (List.append_nil _).symm, n2, d2, hrep, by omega, fun b hb => by simp at hb, .inl rfl, fun u f hf => fin_old _ (by omega)⟩
      | none =>
        dsimp only
        have hni := idxB_none hx
        have hl2 : r2b.length = r1b.length + t2.length := by rw [e2, List.length_append]
        have hl1 : r1b.length = ns.length + t1.length := by rw [e1, List.length_append]
        refine ⟨t1 ++ t2 ++ [⟨i, r1a, r2a⟩], by rw [e2, e1]; simp, ?_, ?_, ?_, by simp; omega, ?_, .inr (by simp), ?_⟩
        · rw [List.nodup_append]
          exact ⟨n2, by simp, fun a ha b hb e => by rw [List.mem_singleton.1 hb] at e; exact hni (e ▸ ha)⟩
        · intro j b hb
          rcases Nat.lt_or_ge j r2b.length with h | h
          · rw [List.getElem?_append_left h] at hb
            exact d2 j b hb
          · rw [List.getElem?_append_right h] at hb
            obtain ⟨h8, h9⟩ := List.getElem?_eq_some_iff.1 hb
            have hj : j = r2b.length := by simp at h8; omega
            subst hj
            simp at h9
            subst h9
            exact ⟨by dsimp only; omega, by dsimp only; omega⟩
        · exact ⟨r1a, r2a, by rw [e2, List.append_assoc]; exact rep1.ext _, rep2.ext _, .inr ⟨he, r2b.length, rfl, by simp⟩⟩
        · intro b hb
          rcases List.mem_append.1 hb with hb | hb
          · rcases List.mem_append.1 hb with hb | hb
            · have := a1 b hb; omega
            · have := a2 b hb; omega
          · rw [List.mem_singleton.1 hb]
            exact ⟨by dsimp only; omega, by dsimp only; omega, he⟩
        · intro u f hf
          obtain ⟨m, rfl⟩ : ∃ m, f = m + 1 := ⟨f - 1, by omega⟩
          have g1 := f1 (t2 ++ [⟨i, r1a, r2a⟩] ++ u) m (by omega)
          have g2 := f2 ([⟨i, r1a, r2a⟩] ++ u) m (by omega)
          have hE : r1b ++ (t2 ++ [(⟨i, r1a, r2a⟩ : Br)] ++ u) = r2b ++ [(⟨i, r1a, r2a⟩ : Br)] ++ u := by rw [e2]; simp
          rw [hE] at g1
          rw [← List.append_assoc] at g2
          have hget : (r2b ++ [(⟨i, r1a, r2a⟩ : Br)] ++ u).getD r2b.length br0 = ⟨i, r1a, r2a⟩ := by simp [List.getD]
          rw [fin, if_neg (by omega), Int.toNat_natCast, hget]
          dsimp only
          rw [g1]
          dsimp only
          rw [g2]
          simp
end Go.Proofs.Ytcngkeeknlloaaa
