/- Layer 16: Build. -/
import Derived.Test.YtcngkeeknlloaaaDd
namespace Go.Proofs.Ytcngkeeknlloaaa
open Go Go.Lx
set_option linter.unusedSimpArgs false
set_option linter.unusedVariables false
set_option maxRecDepth 100000
set_option maxHeartbeats 4000000

theorem gather_is : ∀ (l acc x : List At), gather acc l = some x → acc.length ≤ 12 → x.length ≤ 12 ∧ (∀ a ∈ acc, a ∈ x) ∧ ∀ a ∈ l, a ∈ x
  | [], acc, x, h, hl => by cases h; exact ⟨hl, fun _ h => h, by simp⟩
  | a :: r, acc, x, h, hl => by
    rw [gather] at h
    split at h
    · rename_i hm
      obtain ⟨h1, h2, h3⟩ := gather_is r acc x h hl
      exact ⟨h1, h2, fun b hb => (List.mem_cons.1 hb).elim (fun e => e ▸ h2 a hm) (h3 b)⟩
    · split at h
      · cases h
      · obtain ⟨h1, h2, h3⟩ := gather_is r (acc ++ [a]) x h (by simp; omega)
        exact ⟨h1, fun b hb => h2 b (List.mem_append_left _ hb), fun b hb => (List.mem_cons.1 hb).elim (fun e => e ▸ h2 a (by simp)) (h3 b)⟩
/-- rules and indices that are not too many -/
structure SmR (l : List Rl) (wh : List Int) : Prop where
  ll : l.length ≤ 1000000
  lw : wh.length ≤ 1000000
  lr : ∀ r ∈ l, r.ts.length ≤ 1000000
theorem atomsR_ok {l : List Rl} {wh : List Int} {x : List At} (hs : SmR l wh) (h : atomsR l wh = (x, 0)) : WhOk l wh x := by
  unfold atomsR at h
  split at h
  · rename_i hg
    cases hx : gather [] (allA l wh) with
    | none => rw [hx] at h; simp at h
    | some y =>
      rw [hx] at h
      simp only [Prod.mk.injEq, and_true] at h
      subst h
      obtain ⟨h1, _, h3⟩ := gather_is _ _ _ hx (by simp)
      simp only [goodW, decide_eq_true_eq] at hg
      exact ⟨hs.ll, hs.lw, h1, hs.lr, hg.1, fun i hi a ha => idxA_mem.2 (h3 a (List.mem_flatMap.2 ⟨i, hi, ha⟩))⟩
  · simp at h
theorem atomsR_err {l : List Rl} {wh : List Int} (h : (atomsR l wh).2 ≠ 0) : (atomsR l wh).1 = [] := by
  unfold atomsR at *
  split
  · split
    · rename_i h1 _ _ h2
      rw [if_pos h1, h2] at h
      exact absurd rfl h
    · rfl
  · rfl
theorem needS_ok {l : List Rl} {wh : List Int} {x : List At} (h : WhOk l wh x) : ∀ n ∈ needS l wh x, n.2 < 4096 ∧ 0 ≤ n.1 ∧ n.1 ≤ 1000000 := fun n hn => by
  obtain ⟨i, hi, rfl⟩ := List.mem_map.1 hn
  have := h.ix i hi
  have := h.ll
  exact ⟨maskA_lt x _ 0 h.lt (by omega), by dsimp only; omega, by dsimp only; omega⟩
/-- a diagram -/
structure Dg where
  tb : List At
  ns : List Br
  r : Int
  deriving DecidableEq
def DgC (d : Dg) : List LV := [AtS d.tb, BrS d.ns, .int .i64 d.r]
theorem DgC_eq (d : Dg) : DgC d = [.sl 8 d.tb.length (d.tb.flatMap AtC), .sl 3 d.ns.length (d.ns.flatMap BrC), .int .i64 d.r] := Eq.trans rfl rfl
def dgR (l : List Rl) (wh : List Int) : Dg × Int := if (atomsR l wh).2 = 0 then
    (let r := bld (leafS (needS l wh (atomsR l wh).1)) (atomsR l wh).1.length 0 0 []
    (⟨(atomsR l wh).1, r.2, r.1⟩, 0))
  else (⟨[], [], 0⟩, (atomsR l wh).2)
theorem dgR_ok {l : List Rl} {wh : List Int} (h : (atomsR l wh).2 = 0) : dgR l wh = (⟨(atomsR l wh).1, (bld (leafS (needS l wh (atomsR l wh).1)) (atomsR l wh).1.length 0 0 []).2, (bld (leafS (needS l wh (atomsR l wh).1)) (atomsR l wh).1.length 0 0 []).1⟩, 0) := if_pos h
theorem dgR_err {l : List Rl} {wh : List Int} (h : (atomsR l wh).2 ≠ 0) : dgR l wh = (⟨[], [], 0⟩, (atomsR l wh).2) := if_neg h
theorem cells_rawM (b : Nat) : cellsL (.raw (.map (some b))) = some [.raw (.map (some b))] := Eq.trans rfl rfl
theorem pow12 {n : Nat} (h : n ≤ 12) : 2 ^ n ≤ 4096 := Nat.le_trans (Nat.pow_le_pow_right (by omega) h) (by decide)
theorem build0 (b6 b8 b9 b10 b11 bm : Nat) (tb : List At) (all : List (Int × Nat)) (ht : tb.length ≤ 12) (hal : all.length ≤ 1000000) (hn : ∀ n ∈ all, n.2 < 4096 ∧ 0 ≤ n.1 ∧ n.1 ≤ 1000000) (hp : 2 ^ tb.length ≤ 5000) :
    LCalls Try.prog gl 43 [.int .i64 0, .int .i64 0, .ptr 6 b6 0, .ptr 8 b8 0, .ptr 11 b11 0, .ptr 10 b10 0, .ptr 9 b9 0] [(6, .blk b6 [.sl 8 tb.length (tb.flatMap AtC)]), (8, .blk b8 [.sl 2 all.length (all.flatMap NdC)]), (11, .blk b11 [.clo 43 [.ptr 6 b6 0, .ptr 8 b8 0, .ptr 11 b11 0, .ptr 10 b10 0, .ptr 9 b9 0]]), (10, .blk b10 [.raw (.map (some bm))]), (27, .map bm []), (9, .blk b9 [.fsl 1 0 []])]
      fun r H => ∃ τ', r = .int .i64 (bld (leafS all) tb.length 0 0 []).1 ∧ H = Hd b6 b8 b9 b10 b11 bm tb all (bld (leafS all) tb.length 0 0 []).2 τ' := fun w0 M HF w vs hI hv => by
  refine bldC b6 b8 b9 b10 b11 bm tb all ht hal hn tb.length 0 0 [] ⟨0, 0, 0⟩ (by omega) (by omega) (by simpa using hp) (by simp) w0 M HF w vs ?_ hv
  have h2 := (hI.dummy 56 0).perm (List.perm_middle (l₁ := ([(6, .blk b6 [.sl 8 tb.length (tb.flatMap AtC)]), (8, .blk b8 [.sl 2 all.length (all.flatMap NdC)]), (11, .blk b11 [.clo 43 [.ptr 6 b6 0, .ptr 8 b8 0, .ptr 11 b11 0, .ptr 10 b10 0, .ptr 9 b9 0]]), (10, .blk b10 [.raw (.map (some bm))]), (27, .map bm []), (9, .blk b9 [.fsl 1 0 []])] : Heap))).symm
  rw [List.append_cons] at h2
  refine heapLe.inv ?_ h2
  dsimp only [Hd, List.cons_append, List.nil_append, heapLe, entLe]
  exact ⟨⟨rfl, leVs.refl _⟩, ⟨rfl, leVs.refl _⟩, ⟨rfl, leVs.refl _⟩, ⟨rfl, leVs.refl _⟩, ⟨rfl, rfl⟩, ⟨rfl, leV.nil_osl _ _ _ _, trivial⟩, rfl, trivial⟩
theorem buildP (l : List Rl) (wh : List Int) (hs : SmR l wh) : Pure Try.prog gl 16 [RlS l, WhS wh] (.tup [.agg (DgC (dgR l wh).1), .int .i64 (dgR l wh).2]) := by
  refine fn_pureT Try.func16 t16 Try.ntmps16 (by simp) ?_
  have hlr := len_rl l
  have hlm : (wh.map (LV.int .i64)).length = wh.length := List.length_map _
  have hat := atoms l wh hs.ll hs.lw hs.lr
  have hll := hs.ll
  have hlw := hs.lw
  unfold c16 r16
  rw [RlS_eq, WhS_eq] at *
  rw [AtS_eq] at hat
  have hen := @dgR_err l wh
  have hok := @dgR_ok l wh
  have hwk : (atomsR l wh).2 = 0 → WhOk l wh (atomsR l wh).1 := fun h => atomsR_ok hs (by rw [← h])
  have hnl := len_at (atomsR l wh).1
  generalize hA : atomsR l wh = A at *
  obtain ⟨x, e⟩ := A
  dsimp only at hat hen hok hwk hnl ⊢
  repeat' (first | (simp (disch := first | omega | (simp only [List.length_cons, List.length_nil]; first | done | omega)) only [go_sem, Nat.reduceAdd, Nat.reduceMul, Nat.reduceSub, Nat.reduceEqDiff, Nat.reduceLeDiff, Nat.reduceMod, Nat.reduceLT, Int.reduceToNat, Int.reduceAdd, Int.reduceSub, Int.reduceMul, Int.reduceNeg, Int.reduceLE, Int.reduceLT, Int.reduceNe, Int.reduceEq, Int.reduceBEq, Int.reduceBNe, Int.reduceTMod, Int.reduceTDiv, Nat.reduceBEq]) | (refine allI (fun b => ?_)) | (refine allT (fun τ => ?_)) | (refine brP (fun h => ?_) (fun h => ?_) <;> (try simp only [zgx, zbx] at h)) | refine call_U (hat) ?_ | refine callG_U (fun _ => hat) ?_ | refine call_T (hat) ?_ | refine callG_T (fun _ => hat) ?_ | refine call_N (hat) ?_ | refine call_of (hat) ?_ | refine callG_of (fun _ => hat) ?_ | (apply And.intro; focus (first | omega | (simp; done) | (simp +contextual; done) | (intros; and_intros <;> first | assumption | omega) | (intros; simp_all; done) | (intro hgd; refine ⟨hgd, ?_⟩; simp [hgd]; done) | (intro hgd; simp only [zgx] at hgd ⊢; omega))) | fail)
  · rw [hen ‹_›, DgC_eq]
    exact leV.tup ⟨leV.agg ⟨leV.nil_sl _ _, leV.nil_sl _ _, leV.refl _, trivial⟩, leV.refl _, trivial⟩
  · have he : e = 0 := by simpa using h
    have hw := hwk he
    have hnd := needs l wh x hw
    have hno := needS_ok hw
    have hlt := hw.lt
    have hpw := pow12 hlt
    have hnw : (needS l wh x).length = wh.length := by simp [needS]
    rw [hok he, DgC_eq]
    rw [RlS_eq, WhS_eq, AtS_eq] at hnd
    generalize needS l wh x = all at *
    have hln := len_nd all
    have hbk := bld_ok (leafS_bd hno) x.length 0 0 [] (by omega) (by simp; omega) (by simp)
    repeat' (first | (simp (disch := first | omega | (simp only [List.length_cons, List.length_nil]; first | done | omega)) only [go_sem, Nat.reduceAdd, Nat.reduceMul, Nat.reduceSub, Nat.reduceEqDiff, Nat.reduceLeDiff, Nat.reduceMod, Nat.reduceLT, Int.reduceToNat, Int.reduceAdd, Int.reduceSub, Int.reduceMul, Int.reduceNeg, Int.reduceLE, Int.reduceLT, Int.reduceNe, Int.reduceEq, Int.reduceBEq, Int.reduceBNe, Int.reduceTMod, Int.reduceTDiv, Nat.reduceBEq, cells_rawM]) | (refine allI (fun b => ?_)) | (refine allT (fun τ => ?_)) | (refine brP (fun h => ?_) (fun h => ?_) <;> (try simp only [zgx, zbx] at h)) | refine call_U (hnd) ?_ | refine callG_U (fun _ => hnd) ?_ | refine call_T (hnd) ?_ | refine callG_T (fun _ => hnd) ?_ | refine call_N (hnd) ?_ | refine call_of (hnd) ?_ | refine callG_of (fun _ => hnd) ?_ | (apply And.intro; focus (first | omega | (simp; done) | (simp +contextual; done) | (intros; and_intros <;> first | assumption | omega) | (intros; simp_all; done) | (intro hgd; refine ⟨hgd, ?_⟩; simp [hgd]; done) | (intro hgd; simp only [zgx] at hgd ⊢; omega))) | fail)
    refine ⟨by kernel_rfl, ?_⟩
    first | refine actsQ_U (build0 _ _ _ _ _ _ x all hlt (by omega) hno (by omega)) (pick_perm rfl (pick_perm rfl (pick_perm rfl (pick_perm rfl (pick_perm rfl (pick_perm rfl (List.Perm.refl _))))))) ?_ | refine actsQ_T (build0 _ _ _ _ _ _ x all hlt (by omega) hno (by omega)) (pick_perm rfl (pick_perm rfl (pick_perm rfl (pick_perm rfl (pick_perm rfl (pick_perm rfl (List.Perm.refl _))))))) ?_ | refine actsQ_N (build0 _ _ _ _ _ _ x all hlt (by omega) hno (by omega)) (pick_perm rfl (pick_perm rfl (pick_perm rfl (pick_perm rfl (pick_perm rfl (pick_perm rfl (List.Perm.refl _))))))) ?_ | refine actsQ_of (build0 _ _ _ _ _ _ x all hlt (by omega) hno (by omega)) (pick_perm rfl (pick_perm rfl (pick_perm rfl (pick_perm rfl (pick_perm rfl (pick_perm rfl (List.Perm.refl _))))))) ?_
    rintro _ _ ⟨τ', rfl, rfl⟩
    simp only [Hd]
    repeat' (first | (simp (disch := first | omega | (simp only [List.length_cons, List.length_nil]; first | done | omega)) only [go_sem, Nat.reduceAdd, Nat.reduceMul, Nat.reduceSub, Nat.reduceEqDiff, Nat.reduceLeDiff, Nat.reduceMod, Nat.reduceLT, Int.reduceToNat, Int.reduceAdd, Int.reduceSub, Int.reduceMul, Int.reduceNeg, Int.reduceLE, Int.reduceLT, Int.reduceNe, Int.reduceEq, Int.reduceBEq, Int.reduceBNe, Int.reduceTMod, Int.reduceTDiv, Nat.reduceBEq]) | (refine allI (fun b => ?_)) | (refine allT (fun τ => ?_)) | (refine brP (fun h => ?_) (fun h => ?_) <;> (try simp only [zgx, zbx] at h)) | (apply And.intro; focus (first | omega | (simp; done) | (simp +contextual; done) | (intros; and_intros <;> first | assumption | omega) | (intros; simp_all; done) | (intro hgd; refine ⟨hgd, ?_⟩; simp [hgd]; done) | (intro hgd; simp only [zgx] at hgd ⊢; omega))) | fail)
    exact leV.tup ⟨leV.agg ⟨leV.refl _, leV.osl_sl _ _ _ _ _, leV.refl _, trivial⟩, leV.refl _, trivial⟩
end Go.Proofs.Ytcngkeeknlloaaa
