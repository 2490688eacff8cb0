/- Layer 16: two lists of rules over the same atoms (plain), a rule is equal to itself. -/
import Derived.Test.YtcngkeeknlloaaaDu
import Derived.Test.YtcngkeeknlloaaaDv
import Derived.Test.YtcngkeeknlloaaaEi
import Derived.Test.YtcngkeeknlloaaaCl28
namespace Go.Proofs.Ytcngkeeknlloaaa
open Go Go.Lx
set_option linter.unusedSimpArgs false
set_option linter.unusedVariables false
set_option maxRecDepth 100000
set_option maxHeartbeats 4000000

def clr (r : Rl) : Rl := { r with w := 0, p := [], m := 0 }
def ixs (n : Nat) : List Int := (List.range n).map Int.ofNat
theorem ixs_len (n : Nat) : (ixs n).length = n := by simp [ixs]
theorem ixs_good (n : Nat) : goodW n (ixs n) = true := by
  simp only [goodW, decide_eq_true_eq]
  refine ⟨fun i hi => ?_, ?_⟩
  · obtain ⟨k, hk, rfl⟩ := List.mem_map.1 hi
    have := List.mem_range.1 hk
    simp only [Int.ofNat_eq_natCast]
    omega
  · rw [ixs, List.nodup_iff_pairwise_ne, List.pairwise_map]
    exact List.Pairwise.imp (fun h e => h (Int.ofNat.inj e)) (List.nodup_iff_pairwise_ne.1 List.nodup_range)
theorem allA_ixs (l : List Rl) : allA l (ixs l.length) = l.flatMap ownA := by
  have h1 : (ixs l.length).map (fun i => l.getD i.toNat rl0) = l := by
    refine List.ext_getElem (by simp [ixs]) fun i h1 h2 => ?_
    simp [ixs, List.getD, h2]
  conv => rhs; rw [← h1]
  rw [allA, List.flatMap_map]
theorem same_atoms {h : Rl} {la lb : List Rl} (hn : la.length = lb.length) (ha : ∀ r ∈ la, ∀ a ∈ ownA r, a ∈ ownA h) (hb : ∀ r ∈ lb, ∀ a ∈ ownA r, a ∈ ownA h) : atomsR (h :: la) (ixs (h :: la).length) = atomsR (h :: lb) (ixs (h :: la).length) := by
  have e1 : allA (h :: la) (ixs (h :: la).length) = ownA h ++ la.flatMap ownA := by rw [allA_ixs, List.flatMap_cons]
  have e2 : allA (h :: lb) (ixs (h :: la).length) = ownA h ++ lb.flatMap ownA := by rw [show (h :: la).length = (h :: lb).length by simp [hn], allA_ixs, List.flatMap_cons]
  have g1 := gather_head (h := ownA h) (l := la.flatMap ownA) fun a hm => by
    obtain ⟨r, h1, h2⟩ := List.mem_flatMap.1 hm
    exact ha r h1 a h2
  have g2 := gather_head (h := ownA h) (l := lb.flatMap ownA) fun a hm => by
    obtain ⟨r, h1, h2⟩ := List.mem_flatMap.1 hm
    exact hb r h1 a h2
  unfold atomsR
  rw [e1, e2, g1, g2, show (h :: lb).length = (h :: la).length by simp [hn]]
def sameK (la lb : List Rl) (wh : List Int) (tb : List At) (n : Nat) : Bool := decide (∀ K, K < n → chS la wh tb K = chS lb wh tb K)
theorem sameK_succ (la lb : List Rl) (wh : List Int) (tb : List At) (n : Nat) : sameK la lb wh tb (n + 1) = (sameK la lb wh tb n && (chS la wh tb n == chS lb wh tb n)) := by
  rw [Bool.eq_iff_iff]
  simp only [sameK, decide_eq_true_eq, Bool.and_eq_true, beq_iff_eq]
  constructor
  · intro h
    exact ⟨fun K hK => h K (by omega), h n (by omega)⟩
  · rintro ⟨h1, h2⟩ K hK
    rcases (by omega : K < n ∨ K = n) with h | rfl
    · exact h1 K h
    · exact h2
theorem canon_same {la lb : List Rl} {wh : List Int} {tb : List At} (ha : WhOk la wh tb) (hb : WhOk lb wh tb) {r1 r2 : Int} {n1 n2 : List Br} (h1 : bld (chS la wh tb) tb.length 0 0 [] = (r1, n1)) (h2 : bld (chS lb wh tb) tb.length 0 0 [] = (r2, n2)) : SameP ⟨tb, n1, r1⟩ ⟨tb, n2, r2⟩ = sameK la lb wh tb (2 ^ tb.length) := by
  have h := canonical ha hb
  rw [h1, h2] at h
  rw [Bool.eq_iff_iff]
  simp only [SameP, sameK, decide_eq_true_eq]
  constructor
  · rintro ⟨_, e1, e2⟩
    exact h.1 (by rw [e1, e2])
  · intro hk
    have := h.2 hk
    simp only [Prod.mk.injEq] at this
    exact ⟨trivial, this.1, this.2⟩
theorem eq_ (r : Rl) (hr : r.ts.length ≤ 1000000) : Pure Try.prog gl 28 [.agg (RlC r), .agg (RlC r)] (.bool true) := by
  refine fn_pureT Try.func28 t28 Try.ntmps28 (by simp) ?_
  have hle := len_te r.ts
  unfold c28 r28
  rw [RlC_eq, TsS_eq]
  have d1 : (r.l != r.l) = false := by simp
  have d2 : (r.a != r.a) = false := by simp
  have d3 : (r.c != r.c) = false := by simp
  have d4 : (r.w != r.w) = false := by simp
  have d5 : (r.p != r.p) = false := by simp
  have d6 : (r.m != r.m) = false := by simp
  have d7 : (r.k != r.k) = false := by simp
  have d8 : ((r.ts.length : Int) != (r.ts.length : Int)) = false := by simp
  have d9 : (r.p == r.p) = true := by simp
  have d10 : (r.k == r.k) = true := by simp
  repeat' (first | (simp (disch := first | omega | (simp only [List.length_cons, List.length_nil]; first | done | omega)) only [go_sem, Nat.reduceAdd, Nat.reduceMul, Nat.reduceSub, Nat.reduceEqDiff, Nat.reduceLeDiff, Nat.reduceMod, Nat.reduceLT, Int.reduceToNat, Int.reduceAdd, Int.reduceSub, Int.reduceMul, Int.reduceNeg, Int.reduceLE, Int.reduceLT, Int.toNat_natCast, Int.cast_ofNat_Int, Int.reduceNe, Int.reduceEq, Int.reduceBEq, Int.reduceBNe, not_false_eq_true, ne_eq, Int.reduceTMod, Int.reduceTDiv, beq_self_eq_true, bne_self_eq_false, List.contains_cons, List.contains_nil, Nat.reduceBEq, d1, d2, d3, d4, d5, d6, d7, d8, d9, d10, Bool.not_true]) | (refine allI (fun b => ?_)) | (refine allT (fun τ => ?_)) | (refine brP (fun h => ?_) (fun h => ?_) <;> (try simp only [Bool.and_eq_true, Bool.and_eq_false_iff, Bool.or_eq_true, Bool.or_eq_false_iff, Bool.not_eq_true', Bool.not_eq_false', decide_eq_true_eq, decide_eq_false_iff_not, beq_iff_eq, beq_eq_false_iff_ne, ne_eq, bne_iff_ne, Int.not_lt, Int.not_le] at h)) | (apply And.intro; focus (first | omega | (simp; done) | (simp +contextual; done) | (intros; and_intros <;> first | assumption | omega) | (intros; simp_all; done) | (intro hgd; refine ⟨hgd, ?_⟩; simp [hgd]; done) | (intro hgd; simp only [beq_eq_false_iff_ne, beq_iff_eq, decide_eq_true_eq, decide_eq_false_iff_not, bne_iff_ne, ne_eq, Bool.and_eq_true, Bool.or_eq_false_iff, Bool.or_eq_true, Bool.and_eq_false_iff] at hgd ⊢; omega))) | fail)
  rename_i b2
  refine loopI (ι := Nat) (fun i => i ≤ r.ts.length) (fun i => (5, .int .i64 i) :: _) (fun _ => _) (fun i => r.ts.length - i) 0 (by omega) Ents.same ?_
  intro i hi
  simp (disch := first | omega | (simp only [List.length_cons, List.length_nil]; first | done | omega)) only [go_sem, Nat.reduceAdd, Nat.reduceMul, Nat.reduceSub, Nat.reduceEqDiff, Nat.reduceLeDiff, Nat.reduceMod, Nat.reduceLT, Int.reduceToNat, Int.reduceAdd, Int.reduceSub, Int.reduceMul, Int.reduceNeg, Int.reduceLE, Int.reduceLT, Int.toNat_natCast, Int.cast_ofNat_Int, Int.reduceNe, Int.reduceEq, Int.reduceBEq, Int.reduceBNe, not_false_eq_true, ne_eq, Int.reduceTMod, Int.reduceTDiv, beq_self_eq_true, bne_self_eq_false, List.contains_cons, List.contains_nil, Nat.reduceBEq]
  refine brP (fun hb => ?_) (fun hb => ?_)
  · have hlt : i < r.ts.length := by simpa using hb
    have e2 : ((r.ts.flatMap TeC).drop (i * 5)).take 5 = TeC (r.ts.getD i te0) := take_rows (f := TeC) (fun _ => rfl) te0 _ hlt
    generalize r.ts.getD i te0 = q at *
    rw [TeC_eq] at e2
    repeat' (first | (simp (disch := first | omega | (simp only [List.length_cons, List.length_nil]; first | done | omega)) only [go_sem, Nat.reduceAdd, Nat.reduceMul, Nat.reduceSub, Nat.reduceEqDiff, Nat.reduceLeDiff, Nat.reduceMod, Nat.reduceLT, Int.reduceToNat, Int.reduceAdd, Int.reduceSub, Int.reduceMul, Int.reduceNeg, Int.reduceLE, Int.reduceLT, Int.toNat_natCast, Int.cast_ofNat_Int, Int.reduceNe, Int.reduceEq, Int.reduceBEq, Int.reduceBNe, not_false_eq_true, ne_eq, Int.reduceTMod, Int.reduceTDiv, beq_self_eq_true, bne_self_eq_false, List.contains_cons, List.contains_nil, Nat.reduceBEq, e2, Bool.not_true]) | (refine allI (fun b => ?_)) | (refine allT (fun τ => ?_)) | (refine brP (fun h => ?_) (fun h => ?_) <;> (try simp only [Bool.and_eq_true, Bool.and_eq_false_iff, Bool.or_eq_true, Bool.or_eq_false_iff, Bool.not_eq_true', Bool.not_eq_false', decide_eq_true_eq, decide_eq_false_iff_not, beq_iff_eq, beq_eq_false_iff_ne, ne_eq, bne_iff_ne, Int.not_lt, Int.not_le] at h)) | (apply And.intro; focus (first | omega | (simp; done) | (simp +contextual; done) | (intros; and_intros <;> first | assumption | omega) | (intros; simp_all; done) | (intro hgd; refine ⟨hgd, ?_⟩; simp [hgd]; done) | (intro hgd; simp only [beq_eq_false_iff_ne, beq_iff_eq, decide_eq_true_eq, decide_eq_false_iff_not, bne_iff_ne, ne_eq, Bool.and_eq_true, Bool.or_eq_false_iff, Bool.or_eq_true, Bool.and_eq_false_iff] at hgd ⊢; omega))) | fail)
    exact ⟨⟨i + 1, by omega⟩, by dsimp only; omega, Ents.envH (by simp [go_sem]) rfl⟩
  · repeat' (first | (simp (disch := first | omega | (simp only [List.length_cons, List.length_nil]; first | done | omega)) only [go_sem, Nat.reduceAdd, Nat.reduceMul, Nat.reduceSub, Nat.reduceEqDiff, Nat.reduceLeDiff, Nat.reduceMod, Nat.reduceLT, Int.reduceToNat, Int.reduceAdd, Int.reduceSub, Int.reduceMul, Int.reduceNeg, Int.reduceLE, Int.reduceLT, Int.toNat_natCast, Int.cast_ofNat_Int, Int.reduceNe, Int.reduceEq, Int.reduceBEq, Int.reduceBNe, not_false_eq_true, ne_eq, Int.reduceTMod, Int.reduceTDiv, beq_self_eq_true, bne_self_eq_false, List.contains_cons, List.contains_nil, Nat.reduceBEq]) | (refine allI (fun b => ?_)) | (refine allT (fun τ => ?_)) | (refine brP (fun h => ?_) (fun h => ?_) <;> (try simp only [Bool.and_eq_true, Bool.and_eq_false_iff, Bool.or_eq_true, Bool.or_eq_false_iff, Bool.not_eq_true', Bool.not_eq_false', decide_eq_true_eq, decide_eq_false_iff_not, beq_iff_eq, beq_eq_false_iff_ne, ne_eq, bne_iff_ne, Int.not_lt, Int.not_le] at h)) | (apply And.intro; focus (first | omega | (simp; done) | (simp +contextual; done) | (intros; and_intros <;> first | assumption | omega) | (intros; simp_all; done) | (intro hgd; refine ⟨hgd, ?_⟩; simp [hgd]; done) | (intro hgd; simp only [beq_eq_false_iff_ne, beq_iff_eq, decide_eq_true_eq, decide_eq_false_iff_not, bne_iff_ne, ne_eq, Bool.and_eq_true, Bool.or_eq_false_iff, Bool.or_eq_true, Bool.and_eq_false_iff] at hgd ⊢; omega))) | fail)
theorem FewQ.at {id i bs : Nat} {l : List Int} {a : Int} {f : FuncId} {m : Int} (h : LCalls Try.prog gl f [.ptr i bs 0, .int .i64 m] [(i, SB bs l a)] (FewQ i bs l a)) : LCalls Try.prog gl f [.ptr id bs 0, .int .i64 m] [(id, SB bs l a)] (FewQ id bs l a) :=
  fun w0 M HF w vs hI hv => (h w0 M HF w vs (hI.names (by simp)) ((show leVs [.ptr id bs 0, .int .i64 m] [.ptr i bs 0, .int .i64 m] from ⟨leV.ptr_name _ _ _ _, leV.refl _, trivial⟩).rvs hv)).mono fun _ _ ⟨M', v, r, H', h1, h2, h3, h4, a', rs, wh, bl, c, g1, g2, g3, g4, g5, g6⟩ =>
    ⟨M', v, r, _, h1, h2, h3, by subst g6; exact h4.names (by simp), a', rs, wh, bl, c, g1, g2, g3, g4, g5, rfl⟩
end Go.Proofs.Ytcngkeeknlloaaa
