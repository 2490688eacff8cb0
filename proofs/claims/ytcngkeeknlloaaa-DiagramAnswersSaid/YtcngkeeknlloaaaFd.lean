/- Layer 16: the reference's Build, with the atoms owned. -/
import Derived.Test.YtcngkeeknlloaaaFc
namespace Go.Proofs.Ytcngkeeknlloaaa
open Go Go.Lx
set_option linter.unusedSimpArgs false
set_option linter.unusedVariables false
set_option maxRecDepth 100000
set_option maxHeartbeats 4000000

theorem leaf_ch (l : List Rl) (wh : List Int) (tb : List At) (ans : Nat) : leafS (needS l wh tb) ans = chS l wh tb ans := by
  unfold leafS chS needS
  rw [List.find?_map]
  have hp : ((fun n : Int × Nat => decide (n.2 &&& ans = n.2)) ∘ fun i => (i, maskA tb (ownA (l.getD i.toNat rl0)))) = fun i => (ownA (l.getD i.toNat rl0)).all fun a => ans.testBit (idxA tb a).toNat := by
    funext i
    rw [Bool.eq_iff_iff]
    simp only [Function.comp, decide_eq_true_eq, List.all_eq_true]
    exact maskA_all tb _ ans
  rw [hp]
  cases wh.find? fun i => (ownA (l.getD i.toNat rl0)).all fun a => ans.testBit (idxA tb a).toNat <;> rfl
theorem leaf_ch' (l : List Rl) (wh : List Int) (tb : List At) : leafS (needS l wh tb) = chS l wh tb := funext fun ans => leaf_ch l wh tb ans
theorem Dn.down {ns : List Br} (h : Dn ns) : Down ns := fun i hi => by
  have := h i (ns.getD i br0) (by simp [List.getD, hi])
  exact this
/-- all that is known of what is built -/
theorem built {l : List Rl} {wh : List Int} {tb : List At} (h : WhOk l wh tb) (ns : List Br) (r : Int) (hR : bld (chS l wh tb) tb.length 0 0 [] = (r, ns)) : ns.Nodup ∧ Down ns ∧ r < ns.length ∧ fin ns ns.length r 0 = (true, ns.length) ∧ (∀ b ∈ ns, brOk b) ∧ -2000000 ≤ r ∧ ns.length ≤ 5000 ∧ (ns = [] ∨ r + 1 = ns.length) ∧ Rep (chS l wh tb) ns tb.length 0 0 r ∧ ∀ b ∈ ns, 0 ≤ b.a ∧ b.a < tb.length ∧ b.n ≠ b.y := by
  have hp := pow12 h.lt
  have hlt := h.lt
  obtain ⟨t, e, hN, hD, hrep, hr, ha, hl, hf⟩ := bld_main (lf := chS l wh tb) (fun m => (chS_bd h m).2) tb.length 0 0 [] (by simp) (fun j b hj => by simp at hj)
  obtain ⟨b1, b2, b3, b4⟩ := bld_ok (lf := chS l wh tb) (fun m => ⟨(chS_bd h m).1, by have := (chS_bd h m).2; omega⟩) tb.length 0 0 [] (by omega) (by simp; omega) (by simp)
  rw [hR] at *
  dsimp only at *
  have hf2 := hf [] ns.length hr
  rw [List.append_nil] at hf2
  simp only [List.nil_append] at e
  subst e
  simp only [List.length_nil] at b2
  exact ⟨hN, hD.down, hr, hf2, b1, b3, by omega, hl, hrep, fun b hb => by have := ha b hb; omega⟩
theorem rbuild0 (b : Nat) (τa : Tok) (l : List Rl) (wh : List Int) (tb : List At) (h : WhOk l wh tb) : LCalls Try.prog gl 45 [.ptr 8 b 0, .sl 8 l.length (l.flatMap RlC), .sl 1 wh.length (wh.map (LV.int .i64)), .int .i64 0, .int .i64 0] [(8, .blk b [.osl 82 τa 8 tb.length (tb.flatMap AtC), .fsl 1 0 [], .int .i64 0])] fun r H => ∃ τ', r = .int .i64 (bld (chS l wh tb) tb.length 0 0 []).1 ∧ H = Hr b τa tb (bld (chS l wh tb) tb.length 0 0 []).2 τ' := fun w0 M HF w vs hI hv => by
  have hp := pow12 h.lt
  refine rbuild b τa l wh tb h tb.length 0 0 [] ⟨0, 0, 0⟩ (by omega) (by omega) (by simp; omega) (by simp) w0 M HF w vs ?_ hv
  have h2 := (hI.dummy 39 0).perm (List.Perm.swap ((8, Ent.blk b [.osl 82 τa 8 tb.length (tb.flatMap AtC), .fsl 1 0 [], .int .i64 0]) : Nat × Ent) _ _)
  refine heapLe.inv (H := [(8, .blk b [.osl 82 τa 8 tb.length (tb.flatMap AtC), .fsl 1 0 [], .int .i64 0]), (39, .tok ⟨0, 0, 0⟩)]) ?_ h2
  dsimp only [Hr, heapLe, entLe]
  exact ⟨⟨rfl, leV.refl _, leV.nil_osl _ _ _ _, leV.refl _, trivial⟩, rfl, trivial⟩
/-- what the reference's Build leaves: the atoms stay owned -/
def DgQ (D : Dg × Int) : LV → Heap → Prop := fun r H => ∃ τ : Tok, r = .tup [.agg [.osl 82 τ 8 D.1.tb.length (D.1.tb.flatMap AtC), .sl 3 D.1.ns.length (D.1.ns.flatMap BrC), .int .i64 D.1.r], .int .i64 D.2] ∧ H = [(82, .tok τ)]
theorem rBuildO (l : List Rl) (wh : List Int) (hs : SmR l wh) : LCalls Try.prog gl 17 [RlS l, WhS wh] [] (DgQ (dgR l wh)) := by
  refine fn_viewT Try.func17 t17 Try.ntmps17 (by simp) ?_
  have hlr := len_rl l
  have hlm : (wh.map (LV.int .i64)).length = wh.length := List.length_map _
  have hat := ratoms l wh hs.ll hs.lw hs.lr
  have hll := hs.ll
  have hlw := hs.lw
  unfold c17 r17
  rw [RlS_eq, WhS_eq] at *
  have hen := @dgR_err l wh
  have hok := @dgR_ok l wh
  have hwk : (atomsR l wh).2 = 0 → WhOk l wh (atomsR l wh).1 := fun h => atomsR_ok hs (by rw [← h])
  have hnl := len_at (atomsR l wh).1
  generalize hA : atomsR l wh = A at *
  obtain ⟨x, e⟩ := A
  dsimp only at hat hen hok hwk hnl ⊢
  repeat' (first | (simp (disch := first | omega | (simp only [List.length_cons, List.length_nil]; first | done | omega)) only [go_sem, Nat.reduceAdd, Nat.reduceMul, Nat.reduceSub, Nat.reduceEqDiff, Nat.reduceLeDiff, Nat.reduceMod, Nat.reduceLT, Int.reduceToNat, Int.reduceAdd, Int.reduceSub, Int.reduceMul, Int.reduceNeg, Int.reduceLE, Int.reduceLT, Int.reduceNe, Int.reduceEq, Int.reduceBEq, Int.reduceBNe, Int.reduceTMod, Int.reduceTDiv, Nat.reduceBEq]) | (refine allI (fun b => ?_)) | (refine allT (fun τ => ?_)) | (refine brP (fun h => ?_) (fun h => ?_) <;> (try simp only [zgx, zbx] at h)) | (apply And.intro; focus (first | omega | (simp; done) | (simp +contextual; done) | (intros; and_intros <;> first | assumption | omega) | (intros; simp_all; done) | (intro hgd; refine ⟨hgd, ?_⟩; simp [hgd]; done) | (intro hgd; simp only [zgx] at hgd ⊢; omega))) | fail)
  first | refine newsQ_U (hat) ?_ | refine newsQ_T (hat) ?_ | refine newsQ_of (hat) ?_
  rintro _ _ ⟨τa, rfl, rfl⟩
  repeat' (first | (simp (disch := first | omega | (simp only [List.length_cons, List.length_nil]; first | done | omega)) only [go_sem, Nat.reduceAdd, Nat.reduceMul, Nat.reduceSub, Nat.reduceEqDiff, Nat.reduceLeDiff, Nat.reduceMod, Nat.reduceLT, Int.reduceToNat, Int.reduceAdd, Int.reduceSub, Int.reduceMul, Int.reduceNeg, Int.reduceLE, Int.reduceLT, Int.reduceNe, Int.reduceEq, Int.reduceBEq, Int.reduceBNe, Int.reduceTMod, Int.reduceTDiv, Nat.reduceBEq]) | (refine allI (fun b => ?_)) | (refine allT (fun τ => ?_)) | (refine brP (fun h => ?_) (fun h => ?_) <;> (try simp only [zgx, zbx] at h)) | (apply And.intro; focus (first | omega | (simp; done) | (simp +contextual; done) | (intros; and_intros <;> first | assumption | omega) | (intros; simp_all; done) | (intro hgd; refine ⟨hgd, ?_⟩; simp [hgd]; done) | (intro hgd; simp only [zgx] at hgd ⊢; omega))) | fail)
  · rw [hen ‹_›]
    exact ⟨_, _, leVH.of (leV.tup (ys := [.agg [.osl 82 τa 8 0 [], .sl 3 0 [], .int .i64 0], _]) ⟨leV.agg ⟨leV.nil_osl _ _ _ _, leV.nil_sl _ _, leV.refl _, trivial⟩, leV.refl _, trivial⟩) ⟨_, List.Sublist.cons_cons _ (List.nil_sublist _), List.Perm.refl _⟩, _, rfl, rfl⟩
  · have he : e = 0 := by simpa using h
    have hw := hwk he
    have hrb := fun b => rbuild0 b τa l wh x hw
    rw [hok he, leaf_ch']
    cases hR : bld (chS l wh x) x.length 0 0 [] with
    | mk r ns =>
      rw [hR] at hrb
      obtain ⟨f1, f2, f3, f4, f5, f6, f7, f8, f9, f10⟩ := built hw ns r hR
      have ho := order τa x ns (by omega) f2 r f4 f3 (by omega) f5
      dsimp only at hrb ⊢
      have hlb := len_br ns
      first | refine actsQ_U (hrb _) (pick_perm rfl (List.Perm.refl _)) ?_ | refine actsQ_T (hrb _) (pick_perm rfl (List.Perm.refl _)) ?_ | refine actsQ_N (hrb _) (pick_perm rfl (List.Perm.refl _)) ?_ | refine actsQ_of (hrb _) (pick_perm rfl (List.Perm.refl _)) ?_
      rintro _ _ ⟨τ', rfl, rfl⟩
      simp only [Hr]
      have ho2 : Pure Try.prog gl _ [.agg [.osl 82 τa 8 x.length (x.flatMap AtC), .osl 39 τ' 3 ns.length (ns.flatMap BrC), .int .i64 0], .int .i64 r] _ := LCalls.args ho ⟨leV.agg ⟨leV.refl _, leV.osl_sl _ _ _ _ _, leV.refl _, trivial⟩, leV.refl _, trivial⟩
      repeat' (first | (simp (disch := first | omega | (simp only [List.length_cons, List.length_nil]; first | done | omega)) only [go_sem, Nat.reduceAdd, Nat.reduceMul, Nat.reduceSub, Nat.reduceEqDiff, Nat.reduceLeDiff, Nat.reduceMod, Nat.reduceLT, Int.reduceToNat, Int.reduceAdd, Int.reduceSub, Int.reduceMul, Int.reduceNeg, Int.reduceLE, Int.reduceLT, Int.reduceNe, Int.reduceEq, Int.reduceBEq, Int.reduceBNe, Int.reduceTMod, Int.reduceTDiv, Nat.reduceBEq]) | (refine allI (fun b => ?_)) | (refine allT (fun τ => ?_)) | (refine brP (fun h => ?_) (fun h => ?_) <;> (try simp only [zgx, zbx] at h)) | refine call_U (ho2) ?_ | refine callG_U (fun _ => ho2) ?_ | refine call_T (ho2) ?_ | refine callG_T (fun _ => ho2) ?_ | refine call_N (ho2) ?_ | refine call_of (ho2) ?_ | refine callG_of (fun _ => ho2) ?_ | (apply And.intro; focus (first | omega | (simp; done) | (simp +contextual; done) | (intros; and_intros <;> first | assumption | omega) | (intros; simp_all; done) | (intro hgd; refine ⟨hgd, ?_⟩; simp [hgd]; done) | (intro hgd; simp only [zgx] at hgd ⊢; omega))) | fail)
      exact ⟨_, _, leVH.of (leV.refl _) ⟨_, List.Sublist.cons _ (List.Sublist.cons _ (List.Sublist.cons_cons _ (List.nil_sublist _))), List.Perm.refl _⟩, _, rfl, rfl⟩
end Go.Proofs.Ytcngkeeknlloaaa
