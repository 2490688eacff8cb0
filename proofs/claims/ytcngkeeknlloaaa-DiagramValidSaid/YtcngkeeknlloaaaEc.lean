/- Layer 16: the reference's Valid. -/
import Derived.Test.YtcngkeeknlloaaaEb
import Derived.Test.YtcngkeeknlloaaaDv
namespace Go.Proofs.Ytcngkeeknlloaaa
open Go Go.Lx
set_option linter.unusedSimpArgs false
set_option linter.unusedVariables false
set_option maxRecDepth 100000
set_option maxHeartbeats 4000000

theorem fin_top {ns : List Br} {k : Nat} {r : Int} {nx m : Nat} (h : fin ns k r nx = (true, m)) (hr : (nx : Int) ≤ r) (hk : r < k) : (m : Int) = r + 1 := by
  obtain ⟨f, rfl⟩ : ∃ f, k = f + 1 := ⟨k - 1, by omega⟩
  rw [fin, if_neg (by omega)] at h
  split at h
  · simp at h
  · split at h
    · simp at h
    · split at h
      · have := congrArg Prod.snd h
        dsimp only at this
        omega
      · simp at h
theorem br_at {ns : List Br} {m : Nat} (h : m < ns.length) : (ns.flatMap BrC).getD (m * 3) .any = .int .i64 (ns.getD m br0).a := br_cell h 0 (by omega)
theorem validP_ord {d : Dg} (h12 : ¬ 12 < d.tb.length) (h0 : d.ns.length = 0 → d.r < 0) (h1 : 0 < d.ns.length → d.r = d.ns.length - 1) (hg : ∀ j, j < d.ns.length → nodeOk d.tb.length (d.ns.take j) (d.ns.getD j br0)) (hn : d.ns.Nodup) : validP d = sameP d ⟨d.tb, (ordS d.ns d.r).2, (ordS d.ns d.r).1⟩ := by
  have hdn := goodN_down hg
  have hg2 : goodN d = true := by simpa [goodN] using hg
  rw [validP, if_neg h12]
  by_cases h9 : d.ns.length = 0
  · have h8 : d.ns = [] := List.length_eq_zero_iff.1 h9
    have h7 := h0 h9
    rw [if_pos h9]
    simp [sameP, ordS, h8, h7, vis]
  · have h7 := h1 (by omega)
    rw [if_neg h9, if_neg (by omega), if_pos hg2]
    have hoi := order_iff hdn hn (r := d.r) (by omega)
    rw [Bool.eq_iff_iff]
    simp only [sameP, decide_eq_true_eq]
    constructor
    · intro h
      cases hf : fin d.ns d.ns.length d.r 0 with
      | mk x m =>
        rw [hf] at h
        dsimp only at h
        subst h
        have := fin_top hf (by omega) (by omega)
        obtain rfl : m = d.ns.length := by omega
        have := hoi.2 hf
        exact ⟨this.1.symm, this.2.symm⟩
    · intro h
      rw [hoi.1 ⟨h.1.symm, h.2.symm⟩]
theorem nodup_of {d : Dg} (hg : ∀ j, j < d.ns.length → nodeOk d.tb.length (d.ns.take j) (d.ns.getD j br0)) : d.ns.Nodup := by
  rw [List.nodup_iff_pairwise_ne, List.pairwise_iff_getElem]
  intro i j hi hj hij e
  refine (hg j hj).2.2.1 ?_
  rw [List.mem_take_iff_getElem]
  exact ⟨i, by omega, by rw [e]; simp [List.getD, hj]⟩
theorem ordS_len {ns : List Br} (hd : Down ns) {r : Int} (hr : r < ns.length) : (ordS ns r).2.length ≤ ns.length := by
  have h := vis_cnt hd ns.length r [] (toZ ns.length 0) hr (len_toZ _ _) (cnt_toZ _)
  have h2 := cnt_le (vis ns ns.length r [] (toZ ns.length 0)).2.2
  rw [vis_len, len_toZ] at h2
  simp only [ordS]
  omega
theorem rvalid (d : Dg) (h1 : d.ns.length ≤ 1000000) (h2 : d.tb.length ≤ 1000000) : Pure Try.prog gl 23 [.agg (DgC d)] (.bool (validP d)) := by
  refine fn_pureT Try.func23 t23 Try.ntmps23 (by simp) ?_
  have hle := len_br d.ns
  have hlt := len_at d.tb
  unfold c23 r23
  rw [DgC_eq]
  have hV : validP d = if 12 < d.tb.length then false else if d.ns.length = 0 then decide (d.r < 0) else if d.r ≠ d.ns.length - 1 then false else if goodN d = true then (fin d.ns d.ns.length d.r 0).1 else false := rfl
  have hVo := @validP_ord d
  generalize hVd : validP d = V at *
  repeat' (first | (simp (disch := first | omega | (simp only [List.length_cons, List.length_nil]; first | done | omega)) only [go_sem, Nat.reduceAdd, Nat.reduceMul, Nat.reduceSub, Nat.reduceEqDiff, Nat.reduceLeDiff, Nat.reduceMod, Nat.reduceLT, Int.reduceToNat, Int.reduceAdd, Int.reduceSub, Int.reduceMul, Int.reduceNeg, Int.reduceLE, Int.reduceLT, Int.toNat_natCast, Int.cast_ofNat_Int, Int.reduceNe, Int.reduceEq, Int.reduceBEq, Int.reduceBNe, not_false_eq_true, ne_eq, Int.reduceTMod, Int.reduceTDiv, beq_self_eq_true, bne_self_eq_false, List.contains_cons, List.contains_nil, Nat.reduceBEq]) | (refine allI (fun b => ?_)) | (refine allT (fun τ => ?_)) | (refine brP (fun h => ?_) (fun h => ?_) <;> (try simp only [Bool.and_eq_true, Bool.and_eq_false_iff, Bool.or_eq_true, Bool.or_eq_false_iff, Bool.not_eq_true', Bool.not_eq_false', decide_eq_true_eq, decide_eq_false_iff_not, beq_iff_eq, beq_eq_false_iff_ne, ne_eq, bne_iff_ne, Int.not_lt, Int.not_le] at h)) | (apply And.intro; focus (first | omega | (simp; done) | (simp +contextual; done) | (intros; and_intros <;> first | assumption | omega) | (intros; simp_all; done) | (intro hgd; refine ⟨hgd, ?_⟩; simp [hgd]; done) | (intro hgd; simp only [beq_eq_false_iff_ne, beq_iff_eq, decide_eq_true_eq, decide_eq_false_iff_not, bne_iff_ne, ne_eq, Bool.and_eq_true, Bool.or_eq_false_iff, Bool.or_eq_true, Bool.and_eq_false_iff] at hgd ⊢; omega))) | fail)
  · have hF : V = false := by
      rw [hV]
      by_cases h12 : 12 < d.tb.length
      · rw [if_pos h12]
      · rw [if_neg h12]
        by_cases h0 : d.ns.length = 0
        · rw [if_pos h0]
          simp only [decide_eq_false_iff_not]
          intro h9
          rcases h with (h | h) | h
          · omega
          · omega
          · omega
        · rw [if_neg h0, if_pos]
          intro h9
          rcases h with (h | h) | h
          · omega
          · omega
          · simp [h9] at h
    rw [hF]
  · obtain ⟨b1, rfl⟩ : ∃ x, x = b := ⟨b, rfl⟩
    have h12 : ¬ 12 < d.tb.length := by omega
    have k0 : d.ns.length = 0 → d.r < 0 := fun h0 => by
      rcases h.1.2 with h9 | h9
      · omega
      · exact h9
    have k1 : 0 < d.ns.length → d.r = d.ns.length - 1 := fun h0 => by
      rcases h.2 with h9 | h9
      · omega
      · simpa using h9
    have hV2 : goodN d = false → V = false := fun hg => by
      rw [hV, if_neg h12]
      by_cases h0 : d.ns.length = 0
      · exfalso
        have : goodN d = true := by simp only [goodN, decide_eq_true_eq]; intro i hi; omega
        rw [hg] at this; cases this
      · have := k1 (by omega)
        rw [if_neg h0, if_neg (by omega), hg]; rfl
    refine loopI (ι := Nat) (fun i => i ≤ d.ns.length ∧ ∀ j, j < i → nodeOk d.tb.length (d.ns.take j) (d.ns.getD j br0)) (fun i => [(3, .int .i64 i), (1, .ptr 1 b1 0)]) (fun i => [(1, .blk b1 [.sl 8 d.tb.length (d.tb.flatMap AtC), .sl 3 d.ns.length (d.ns.flatMap BrC), .int .i64 d.r])]) (fun i => d.ns.length - i) 0 ⟨by omega, fun j hj => absurd hj (by omega)⟩ (Ents.envH (by simp [go_sem]) rfl) ?_
    rintro i ⟨hi, hg⟩
    simp (disch := first | omega | (simp only [List.length_cons, List.length_nil]; first | done | omega)) only [go_sem, Nat.reduceAdd, Nat.reduceMul, Nat.reduceSub, Nat.reduceEqDiff, Nat.reduceLeDiff, Nat.reduceMod, Nat.reduceLT, Int.reduceToNat, Int.reduceAdd, Int.reduceSub, Int.reduceMul, Int.reduceNeg, Int.reduceLE, Int.reduceLT, Int.toNat_natCast, Int.cast_ofNat_Int, Int.reduceNe, Int.reduceEq, Int.reduceBEq, Int.reduceBNe, not_false_eq_true, ne_eq, Int.reduceTMod, Int.reduceTDiv, beq_self_eq_true, bne_self_eq_false, List.contains_cons, List.contains_nil, Nat.reduceBEq]
    refine brP (fun hb => ?_) (fun hb => ?_)
    · have hlt2 : i < d.ns.length := by simpa using hb
      have e2 : ((d.ns.flatMap BrC).drop (i * 3)).take 3 = BrC (d.ns.getD i br0) := take_rows (f := BrC) (fun _ => rfl) br0 _ hlt2
      have hnot := goodN_not hlt2
      have htl : (d.ns.take i).length = i := by rw [List.length_take]; omega
      generalize hq : d.ns.getD i br0 = q at *
      have hok : nodeOk d.tb.length (d.ns.take i) q ↔ (0 ≤ q.a ∧ q.a < d.tb.length) ∧ q.n ≠ q.y ∧ q ∉ d.ns.take i ∧ bel (d.ns.take i) q.a q.n = true ∧ bel (d.ns.take i) q.a q.y = true := Iff.rfl
      have hbl : ∀ ref, bel (d.ns.take i) q.a ref = true ↔ ref < 0 ∨ (ref < i ∧ q.a < (d.ns.getD ref.toNat br0).a) := fun ref => by
        simp only [bel, htl, Bool.or_eq_true, Bool.and_eq_true, decide_eq_true_eq]
        by_cases h0 : ref < 0
        · simp [h0]
        · by_cases h5 : ref < i
          · rw [show (d.ns.take i).getD ref.toNat br0 = d.ns.getD ref.toNat br0 by simp [List.getD, List.getElem?_take, show ref.toNat < i by omega]]
          · simp [h5]
      have hfail : ¬ nodeOk d.tb.length (d.ns.take i) q → V = false := fun hh => hV2 (hnot hh)
      have hn1 := hbl q.n
      have hy1 := hbl q.y
      rw [BrC_eq] at e2
      have hfb : (q.a < 0 ∨ (d.tb.length : Int) ≤ q.a ∨ (i : Int) ≤ q.n ∨ (i : Int) ≤ q.y ∨ q.n = q.y ∨ (0 ≤ q.n ∧ (d.ns.getD q.n.toNat br0).a ≤ q.a) ∨ (0 ≤ q.y ∧ (d.ns.getD q.y.toNat br0).a ≤ q.a)) → V = false := fun hc => hfail fun hh => by
        have hx := hok.1 hh
        have b1 := hn1.1 hx.2.2.2.1
        have b2 := hy1.1 hx.2.2.2.2
        omega
      have out : ∀ m, d.ns.length ≤ m → (d.ns.flatMap BrC).getD (m * 3) .any = .any := fun m hm => by simp [List.getD]; rw [List.getElem?_eq_none (by omega)]; rfl
      by_cases hN : q.n.toNat < d.ns.length
      · have gn := br_at hN
        by_cases hY : q.y.toNat < d.ns.length
        · have gy := br_at hY
          generalize (d.ns.getD q.n.toNat br0).a = xn at *
          generalize (d.ns.getD q.y.toNat br0).a = xy at *
          repeat' (first | (simp (disch := first | omega | (simp only [List.length_cons, List.length_nil]; first | done | omega)) only [go_sem, Nat.reduceAdd, Nat.reduceMul, Nat.reduceSub, Nat.reduceEqDiff, Nat.reduceLeDiff, Nat.reduceMod, Nat.reduceLT, Int.reduceToNat, Int.reduceAdd, Int.reduceSub, Int.reduceMul, Int.reduceNeg, Int.reduceLE, Int.reduceLT, Int.toNat_natCast, Int.cast_ofNat_Int, Int.reduceNe, Int.reduceEq, Int.reduceBEq, Int.reduceBNe, not_false_eq_true, ne_eq, Int.reduceTMod, Int.reduceTDiv, beq_self_eq_true, bne_self_eq_false, List.contains_cons, List.contains_nil, Nat.reduceBEq, e2, zBr, gn, gy]) | (refine allI (fun b => ?_)) | (refine allT (fun τ => ?_)) | (refine brP (fun h => ?_) (fun h => ?_) <;> (try simp only [Bool.and_eq_true, Bool.and_eq_false_iff, Bool.or_eq_true, Bool.or_eq_false_iff, Bool.not_eq_true', Bool.not_eq_false', decide_eq_true_eq, decide_eq_false_iff_not, beq_iff_eq, beq_eq_false_iff_ne, ne_eq, bne_iff_ne, Int.not_lt, Int.not_le] at h)) | (apply And.intro; focus (first | omega | (simp; done) | (simp +contextual; done) | (intros; and_intros <;> first | assumption | omega) | (intros; simp_all; done) | (intro hgd; refine ⟨hgd, ?_⟩; simp [hgd]; done) | (intro hgd; simp only [beq_eq_false_iff_ne, beq_iff_eq, decide_eq_true_eq, decide_eq_false_iff_not, bne_iff_ne, ne_eq, Bool.and_eq_true, Bool.or_eq_false_iff, Bool.or_eq_true, Bool.and_eq_false_iff] at hgd ⊢; omega))) | fail)
          · exact (hfb (by omega)).symm
          · rename_i h6
            refine loopI (ι := Nat) (fun j => j ≤ i ∧ ∀ m, m < j → d.ns.getD m br0 ≠ q) (fun j => [(5, .int .i64 j), (4, .ptr 4 b 0), (3, .int .i64 i), (1, .ptr 1 b1 0)]) (fun j => [(4, .blk b [.int .i64 q.a, .int .i64 q.n, .int .i64 q.y]), (1, .blk b1 [.sl 8 d.tb.length (d.tb.flatMap AtC), .sl 3 d.ns.length (d.ns.flatMap BrC), .int .i64 d.r])]) (fun j => i - j) 0 ⟨by omega, fun j hj => absurd hj (by omega)⟩ (Ents.envH (by simp [go_sem]) rfl) ?_
            rintro j ⟨hj, hgj⟩
            simp (disch := first | omega | (simp only [List.length_cons, List.length_nil]; first | done | omega)) only [go_sem, Nat.reduceAdd, Nat.reduceMul, Nat.reduceSub, Nat.reduceEqDiff, Nat.reduceLeDiff, Nat.reduceMod, Nat.reduceLT, Int.reduceToNat, Int.reduceAdd, Int.reduceSub, Int.reduceMul, Int.reduceNeg, Int.reduceLE, Int.reduceLT, Int.toNat_natCast, Int.cast_ofNat_Int, Int.reduceNe, Int.reduceEq, Int.reduceBEq, Int.reduceBNe, not_false_eq_true, ne_eq, Int.reduceTMod, Int.reduceTDiv, beq_self_eq_true, bne_self_eq_false, List.contains_cons, List.contains_nil, Nat.reduceBEq]
            refine brP (fun hb3 => ?_) (fun hb3 => ?_)
            · have hji : j < i := by simpa using hb3
              have e5 : ((d.ns.flatMap BrC).drop (j * 3)).take 3 = BrC (d.ns.getD j br0) := take_rows (f := BrC) (fun _ => rfl) br0 _ (by omega)
              have hmem : d.ns.getD j br0 ∈ d.ns.take i := by
                rw [List.mem_take_iff_getElem]
                exact ⟨j, by omega, by simp [List.getD, show j < d.ns.length by omega]⟩
              generalize hp : d.ns.getD j br0 = x at *
              rw [BrC_eq] at e5
              repeat' (first | (simp (disch := first | omega | (simp only [List.length_cons, List.length_nil]; first | done | omega)) only [go_sem, Nat.reduceAdd, Nat.reduceMul, Nat.reduceSub, Nat.reduceEqDiff, Nat.reduceLeDiff, Nat.reduceMod, Nat.reduceLT, Int.reduceToNat, Int.reduceAdd, Int.reduceSub, Int.reduceMul, Int.reduceNeg, Int.reduceLE, Int.reduceLT, Int.toNat_natCast, Int.cast_ofNat_Int, Int.reduceNe, Int.reduceEq, Int.reduceBEq, Int.reduceBNe, not_false_eq_true, ne_eq, Int.reduceTMod, Int.reduceTDiv, beq_self_eq_true, bne_self_eq_false, List.contains_cons, List.contains_nil, Nat.reduceBEq, e5]) | (refine allI (fun b => ?_)) | (refine allT (fun τ => ?_)) | (refine brP (fun h => ?_) (fun h => ?_) <;> (try simp only [Bool.and_eq_true, Bool.and_eq_false_iff, Bool.or_eq_true, Bool.or_eq_false_iff, Bool.not_eq_true', Bool.not_eq_false', decide_eq_true_eq, decide_eq_false_iff_not, beq_iff_eq, beq_eq_false_iff_ne, ne_eq, bne_iff_ne, Int.not_lt, Int.not_le] at h)) | (apply And.intro; focus (first | omega | (simp; done) | (simp +contextual; done) | (intros; and_intros <;> first | assumption | omega) | (intros; simp_all; done) | (intro hgd; refine ⟨hgd, ?_⟩; simp [hgd]; done) | (intro hgd; simp only [beq_eq_false_iff_ne, beq_iff_eq, decide_eq_true_eq, decide_eq_false_iff_not, bne_iff_ne, ne_eq, Bool.and_eq_true, Bool.or_eq_false_iff, Bool.or_eq_true, Bool.and_eq_false_iff] at hgd ⊢; omega))) | fail)
              · rw [hfail fun hh => (hok.1 hh).2.2.1 (by rw [← (brExt x q).2 h]; exact hmem)]
              · have hne : x ≠ q := fun e => by
                  obtain ⟨g1, g2, g3⟩ := (brExt x q).1 e
                  simp [g1, g2, g3] at h
                exact ⟨⟨j + 1, by omega, fun m hm => (by omega : m < j ∨ m = j).elim (hgj m) fun e => by rw [e, hp]; exact hne⟩, by dsimp only; omega, Ents.envH (by simp [go_sem]) rfl⟩
            · have hje : j = i := by simp only [decide_eq_false_iff_not] at hb3; omega
              subst hje
              repeat' (first | (simp (disch := first | omega | (simp only [List.length_cons, List.length_nil]; first | done | omega)) only [go_sem, Nat.reduceAdd, Nat.reduceMul, Nat.reduceSub, Nat.reduceEqDiff, Nat.reduceLeDiff, Nat.reduceMod, Nat.reduceLT, Int.reduceToNat, Int.reduceAdd, Int.reduceSub, Int.reduceMul, Int.reduceNeg, Int.reduceLE, Int.reduceLT, Int.toNat_natCast, Int.cast_ofNat_Int, Int.reduceNe, Int.reduceEq, Int.reduceBEq, Int.reduceBNe, not_false_eq_true, ne_eq, Int.reduceTMod, Int.reduceTDiv, beq_self_eq_true, bne_self_eq_false, List.contains_cons, List.contains_nil, Nat.reduceBEq]) | (refine allI (fun b => ?_)) | (refine allT (fun τ => ?_)) | (refine brP (fun h => ?_) (fun h => ?_) <;> (try simp only [Bool.and_eq_true, Bool.and_eq_false_iff, Bool.or_eq_true, Bool.or_eq_false_iff, Bool.not_eq_true', Bool.not_eq_false', decide_eq_true_eq, decide_eq_false_iff_not, beq_iff_eq, beq_eq_false_iff_ne, ne_eq, bne_iff_ne, Int.not_lt, Int.not_le] at h)) | (apply And.intro; focus (first | omega | (simp; done) | (simp +contextual; done) | (intros; and_intros <;> first | assumption | omega) | (intros; simp_all; done) | (intro hgd; refine ⟨hgd, ?_⟩; simp [hgd]; done) | (intro hgd; simp only [beq_eq_false_iff_ne, beq_iff_eq, decide_eq_true_eq, decide_eq_false_iff_not, bne_iff_ne, ne_eq, Bool.and_eq_true, Bool.or_eq_false_iff, Bool.or_eq_true, Bool.and_eq_false_iff] at hgd ⊢; omega))) | fail)
              refine ⟨⟨j + 1, by omega, fun m hm => ?_⟩, by dsimp only; omega, Ents.sub (by simp [go_sem]) ⟨_, List.Sublist.cons _ (List.Sublist.refl _), List.Perm.refl _⟩⟩
              rcases (by omega : m < j ∨ m = j) with h9 | h9
              · exact hg m h9
              · rw [h9, hq]
                refine hok.2 ⟨by omega, by omega, fun hm2 => ?_, hn1.2 (by omega), hy1.2 (by omega)⟩
                obtain ⟨k, hk1, hk2⟩ := List.mem_take_iff_getElem.1 hm2
                refine hgj k (by omega) ?_
                rw [← hk2]
                simp [List.getD, show k < d.ns.length by omega]
        · have gy := out _ (Nat.le_of_not_lt hY)
          have f3 : decide ((i : Int) ≤ q.y) = true := by simp; omega
          rw [hfb (by omega)]
          generalize (d.ns.getD q.n.toNat br0).a = xn at *
          repeat' (first | (simp (disch := first | omega | (simp only [List.length_cons, List.length_nil]; first | done | omega)) only [go_sem, Nat.reduceAdd, Nat.reduceMul, Nat.reduceSub, Nat.reduceEqDiff, Nat.reduceLeDiff, Nat.reduceMod, Nat.reduceLT, Int.reduceToNat, Int.reduceAdd, Int.reduceSub, Int.reduceMul, Int.reduceNeg, Int.reduceLE, Int.reduceLT, Int.toNat_natCast, Int.cast_ofNat_Int, Int.reduceNe, Int.reduceEq, Int.reduceBEq, Int.reduceBNe, not_false_eq_true, ne_eq, Int.reduceTMod, Int.reduceTDiv, beq_self_eq_true, bne_self_eq_false, List.contains_cons, List.contains_nil, Nat.reduceBEq, e2, zBr, gn, gy, f3, bin_anyL, pick_oa0, pick_o0a, LV.v, LV.g]) | (refine allI (fun b => ?_)) | (refine allT (fun τ => ?_)) | (refine brP (fun h => ?_) (fun h => ?_) <;> (try simp only [Bool.and_eq_true, Bool.and_eq_false_iff, Bool.or_eq_true, Bool.or_eq_false_iff, Bool.not_eq_true', Bool.not_eq_false', decide_eq_true_eq, decide_eq_false_iff_not, beq_iff_eq, beq_eq_false_iff_ne, ne_eq, bne_iff_ne, Int.not_lt, Int.not_le] at h)) | (apply And.intro; focus (first | omega | (simp; done) | (simp +contextual; done) | (intros; and_intros <;> first | assumption | omega) | (intros; simp_all; done) | (intro hgd; refine ⟨hgd, ?_⟩; simp [hgd]; done) | (intro hgd; simp only [beq_eq_false_iff_ne, beq_iff_eq, decide_eq_true_eq, decide_eq_false_iff_not, bne_iff_ne, ne_eq, Bool.and_eq_true, Bool.or_eq_false_iff, Bool.or_eq_true, Bool.and_eq_false_iff] at hgd ⊢; omega))) | fail)
          all_goals omega
      · have gn := out _ (Nat.le_of_not_lt hN)
        have f2 : decide ((i : Int) ≤ q.n) = true := by simp; omega
        rw [hfb (by omega)]
        by_cases hY : q.y.toNat < d.ns.length
        · have gy := br_at hY
          generalize (d.ns.getD q.y.toNat br0).a = xy at *
          repeat' (first | (simp (disch := first | omega | (simp only [List.length_cons, List.length_nil]; first | done | omega)) only [go_sem, Nat.reduceAdd, Nat.reduceMul, Nat.reduceSub, Nat.reduceEqDiff, Nat.reduceLeDiff, Nat.reduceMod, Nat.reduceLT, Int.reduceToNat, Int.reduceAdd, Int.reduceSub, Int.reduceMul, Int.reduceNeg, Int.reduceLE, Int.reduceLT, Int.toNat_natCast, Int.cast_ofNat_Int, Int.reduceNe, Int.reduceEq, Int.reduceBEq, Int.reduceBNe, not_false_eq_true, ne_eq, Int.reduceTMod, Int.reduceTDiv, beq_self_eq_true, bne_self_eq_false, List.contains_cons, List.contains_nil, Nat.reduceBEq, e2, zBr, gn, gy, f2, bin_anyL, pick_oa0, pick_o0a, LV.v, LV.g]) | (refine allI (fun b => ?_)) | (refine allT (fun τ => ?_)) | (refine brP (fun h => ?_) (fun h => ?_) <;> (try simp only [Bool.and_eq_true, Bool.and_eq_false_iff, Bool.or_eq_true, Bool.or_eq_false_iff, Bool.not_eq_true', Bool.not_eq_false', decide_eq_true_eq, decide_eq_false_iff_not, beq_iff_eq, beq_eq_false_iff_ne, ne_eq, bne_iff_ne, Int.not_lt, Int.not_le] at h)) | (apply And.intro; focus (first | omega | (simp; done) | (simp +contextual; done) | (intros; and_intros <;> first | assumption | omega) | (intros; simp_all; done) | (intro hgd; refine ⟨hgd, ?_⟩; simp [hgd]; done) | (intro hgd; simp only [beq_eq_false_iff_ne, beq_iff_eq, decide_eq_true_eq, decide_eq_false_iff_not, bne_iff_ne, ne_eq, Bool.and_eq_true, Bool.or_eq_false_iff, Bool.or_eq_true, Bool.and_eq_false_iff] at hgd ⊢; omega))) | fail)
          all_goals omega
        · have gy := out _ (Nat.le_of_not_lt hY)
          repeat' (first | (simp (disch := first | omega | (simp only [List.length_cons, List.length_nil]; first | done | omega)) only [go_sem, Nat.reduceAdd, Nat.reduceMul, Nat.reduceSub, Nat.reduceEqDiff, Nat.reduceLeDiff, Nat.reduceMod, Nat.reduceLT, Int.reduceToNat, Int.reduceAdd, Int.reduceSub, Int.reduceMul, Int.reduceNeg, Int.reduceLE, Int.reduceLT, Int.toNat_natCast, Int.cast_ofNat_Int, Int.reduceNe, Int.reduceEq, Int.reduceBEq, Int.reduceBNe, not_false_eq_true, ne_eq, Int.reduceTMod, Int.reduceTDiv, beq_self_eq_true, bne_self_eq_false, List.contains_cons, List.contains_nil, Nat.reduceBEq, e2, zBr, gn, gy, f2, bin_anyL, pick_oa0, pick_o0a, LV.v, LV.g]) | (refine allI (fun b => ?_)) | (refine allT (fun τ => ?_)) | (refine brP (fun h => ?_) (fun h => ?_) <;> (try simp only [Bool.and_eq_true, Bool.and_eq_false_iff, Bool.or_eq_true, Bool.or_eq_false_iff, Bool.not_eq_true', Bool.not_eq_false', decide_eq_true_eq, decide_eq_false_iff_not, beq_iff_eq, beq_eq_false_iff_ne, ne_eq, bne_iff_ne, Int.not_lt, Int.not_le] at h)) | (apply And.intro; focus (first | omega | (simp; done) | (simp +contextual; done) | (intros; and_intros <;> first | assumption | omega) | (intros; simp_all; done) | (intro hgd; refine ⟨hgd, ?_⟩; simp [hgd]; done) | (intro hgd; simp only [beq_eq_false_iff_ne, beq_iff_eq, decide_eq_true_eq, decide_eq_false_iff_not, bne_iff_ne, ne_eq, Bool.and_eq_true, Bool.or_eq_false_iff, Bool.or_eq_true, Bool.and_eq_false_iff] at hgd ⊢; omega))) | fail)
          all_goals omega
    · have hie : i = d.ns.length := by simp only [decide_eq_false_iff_not] at hb; omega
      subst hie
      have hrl : d.r < d.ns.length := by
        by_cases h0 : d.ns.length = 0
        · have := k0 h0; omega
        · have := k1 (by omega); omega
      have hdn := goodN_down hg
      have hor := orderP d.tb d.ns d.r h1 hdn d.r hrl
      have hsm := same2 d ⟨d.tb, (ordS d.ns d.r).2, (ordS d.ns d.r).1⟩ h1 (by have := ordS_len hdn hrl; dsimp only; omega)
      rw [← hVo h12 k0 k1 hg (nodup_of hg), DgC_eq, DgC_eq] at hsm
      dsimp only at hsm
      repeat' (first | (simp (disch := first | omega | (simp only [List.length_cons, List.length_nil]; first | done | omega)) only [go_sem, Nat.reduceAdd, Nat.reduceMul, Nat.reduceSub, Nat.reduceEqDiff, Nat.reduceLeDiff, Nat.reduceMod, Nat.reduceLT, Int.reduceToNat, Int.reduceAdd, Int.reduceSub, Int.reduceMul, Int.reduceNeg, Int.reduceLE, Int.reduceLT, Int.toNat_natCast, Int.cast_ofNat_Int, Int.reduceNe, Int.reduceEq, Int.reduceBEq, Int.reduceBNe, not_false_eq_true, ne_eq, Int.reduceTMod, Int.reduceTDiv, beq_self_eq_true, bne_self_eq_false, List.contains_cons, List.contains_nil, Nat.reduceBEq]) | (refine allI (fun b => ?_)) | (refine allT (fun τ => ?_)) | (refine brP (fun h => ?_) (fun h => ?_) <;> (try simp only [Bool.and_eq_true, Bool.and_eq_false_iff, Bool.or_eq_true, Bool.or_eq_false_iff, Bool.not_eq_true', Bool.not_eq_false', decide_eq_true_eq, decide_eq_false_iff_not, beq_iff_eq, beq_eq_false_iff_ne, ne_eq, bne_iff_ne, Int.not_lt, Int.not_le] at h)) | refine call_U (hor) ?_ | refine callG_U (fun _ => hor) ?_ | refine call_T (hor) ?_ | refine callG_T (fun _ => hor) ?_ | refine call_U (hsm) ?_ | refine callG_U (fun _ => hsm) ?_ | refine call_T (hsm) ?_ | refine callG_T (fun _ => hsm) ?_ | refine call_N (hor) ?_ | refine call_of (hor) ?_ | refine callG_of (fun _ => hor) ?_ | refine call_N (hsm) ?_ | refine call_of (hsm) ?_ | refine callG_of (fun _ => hsm) ?_ | (apply And.intro; focus (first | omega | (simp; done) | (simp +contextual; done) | (intros; and_intros <;> first | assumption | omega) | (intros; simp_all; done) | (intro hgd; refine ⟨hgd, ?_⟩; simp [hgd]; done) | (intro hgd; simp only [beq_eq_false_iff_ne, beq_iff_eq, decide_eq_true_eq, decide_eq_false_iff_not, bne_iff_ne, ne_eq, Bool.and_eq_true, Bool.or_eq_false_iff, Bool.or_eq_true, Bool.and_eq_false_iff] at hgd ⊢; omega))) | fail)
end Go.Proofs.Ytcngkeeknlloaaa
