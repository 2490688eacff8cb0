/- Layer 16: the reference's Build with its nodes owned. -/
import Derived.Test.YtcngkeeknlloaaaEd
namespace Go.Proofs.Ytcngkeeknlloaaa
open Go Go.Lx
set_option linter.unusedSimpArgs false
set_option linter.unusedVariables false
set_option maxRecDepth 100000
set_option maxHeartbeats 4000000

theorem ordS_fin {ns : List Br} (hd : Down ns) (hN : ns.Nodup) {r : Int} (hr : r < ns.length) (hf : fin ns ns.length r 0 = (true, ns.length)) : ordS ns r = (r, ns) := by
  obtain ⟨h1, h2⟩ := (order_iff hd hN hr).2 hf
  simp only [ordS, h1, h2]
theorem rBuildM (l : List Rl) (wh : List Int) (hs : SmR l wh) (he : (atomsR l wh).2 = 0) (r : Int) (ns : List Br) (hR : bld (chS l wh (atomsR l wh).1) (atomsR l wh).1.length 0 0 [] = (r, ns)) : NewsE Try.prog gl 17 [RlS l, WhS wh] 48 fun v e => ∃ a, v = .tup [a, .int .i64 0] ∧ OrdQ (atomsR l wh).1 ns r a e := by
  refine fn_viewT Try.func17 t17 Try.ntmps17 (by simp) ?_
  have hlr := len_rl l
  have hlm : (wh.map (LV.int .i64)).length = wh.length := List.length_map _
  have hat := ratoms l wh hs.ll hs.lw hs.lr
  have hll := hs.ll
  have hlw := hs.lw
  unfold c17 r17
  rw [RlS_eq, WhS_eq] at *
  rw [AtS_eq] at hat
  have hwk : (atomsR l wh).2 = 0 → WhOk l wh (atomsR l wh).1 := fun h => atomsR_ok hs (by rw [← h])
  have hnl := len_at (atomsR l wh).1
  generalize hA : atomsR l wh = A at *
  obtain ⟨x, e⟩ := A
  dsimp only at hat hwk hnl hR he ⊢
  subst he
  have hw := hwk rfl
  have hrb := fun b => rbuild0 b l wh x hw
  rw [hR] at hrb
  obtain ⟨f1, f2, f3, f4, f5, f6, f7, f8, f9, f10⟩ := built hw ns r hR
  have ho := orderM x ns 0 (by omega) f2 r f3
  rw [ordS_fin f2 f1 f3 f4] at ho
  dsimp only at hrb ho ⊢
  have hlb := len_br ns
  repeat' (first | (simp (disch := first | omega | (simp only [List.length_cons, List.length_nil]; first | done | omega)) only [go_sem, Nat.reduceAdd, Nat.reduceMul, Nat.reduceSub, Nat.reduceEqDiff, Nat.reduceLeDiff, Nat.reduceMod, Nat.reduceLT, Int.reduceToNat, Int.reduceAdd, Int.reduceSub, Int.reduceMul, Int.reduceNeg, Int.reduceLE, Int.reduceLT, Int.toNat_natCast, Int.cast_ofNat_Int, Int.reduceNe, Int.reduceEq, Int.reduceBEq, Int.reduceBNe, not_false_eq_true, ne_eq, Int.reduceTMod, Int.reduceTDiv, beq_self_eq_true, bne_self_eq_false, List.contains_cons, List.contains_nil, Nat.reduceBEq]) | (refine allI (fun b => ?_)) | (refine allT (fun τ => ?_)) | (refine brP (fun h => ?_) (fun h => ?_) <;> (try simp only [Bool.and_eq_true, Bool.and_eq_false_iff, Bool.or_eq_true, Bool.or_eq_false_iff, Bool.not_eq_true', Bool.not_eq_false', decide_eq_true_eq, decide_eq_false_iff_not, beq_iff_eq, beq_eq_false_iff_ne, ne_eq, bne_iff_ne, Int.not_lt, Int.not_le] at h)) | refine call_U (hat) ?_ | refine callG_U (fun _ => hat) ?_ | refine call_T (hat) ?_ | refine callG_T (fun _ => hat) ?_ | refine call_N (hat) ?_ | refine call_of (hat) ?_ | refine callG_of (fun _ => hat) ?_ | (apply And.intro; focus (first | omega | (simp; done) | (simp +contextual; done) | (intros; and_intros <;> first | assumption | omega) | (intros; simp_all; done) | (intro hgd; refine ⟨hgd, ?_⟩; simp [hgd]; done) | (intro hgd; simp only [beq_eq_false_iff_ne, beq_iff_eq, decide_eq_true_eq, decide_eq_false_iff_not, bne_iff_ne, ne_eq, Bool.and_eq_true, Bool.or_eq_false_iff, Bool.or_eq_true, Bool.and_eq_false_iff] at hgd ⊢; omega))) | fail)
  first | refine actsQ_U (hrb _) (pick_perm rfl (List.Perm.refl _)) ?_ | refine actsQ_T (hrb _) (pick_perm rfl (List.Perm.refl _)) ?_ | refine actsQ_N (hrb _) (pick_perm rfl (List.Perm.refl _)) ?_ | refine actsQ_of (hrb _) (pick_perm rfl (List.Perm.refl _)) ?_
  rintro _ _ ⟨τ', rfl, rfl⟩
  simp only [Hr]
  have ho2 : NewsE Try.prog gl _ [.agg [.sl 8 x.length (x.flatMap AtC), .osl 39 τ' 3 ns.length (ns.flatMap BrC), .int .i64 0], .int .i64 r] 48 _ := LCalls.args ho ⟨leV.agg ⟨leV.refl _, leV.osl_sl _ _ _ _ _, leV.refl _, trivial⟩, leV.refl _, trivial⟩
  repeat' (first | (simp (disch := first | omega | (simp only [List.length_cons, List.length_nil]; first | done | omega)) only [go_sem, Nat.reduceAdd, Nat.reduceMul, Nat.reduceSub, Nat.reduceEqDiff, Nat.reduceLeDiff, Nat.reduceMod, Nat.reduceLT, Int.reduceToNat, Int.reduceAdd, Int.reduceSub, Int.reduceMul, Int.reduceNeg, Int.reduceLE, Int.reduceLT, Int.toNat_natCast, Int.cast_ofNat_Int, Int.reduceNe, Int.reduceEq, Int.reduceBEq, Int.reduceBNe, not_false_eq_true, ne_eq, Int.reduceTMod, Int.reduceTDiv, beq_self_eq_true, bne_self_eq_false, List.contains_cons, List.contains_nil, Nat.reduceBEq]) | (refine allI (fun b => ?_)) | (refine allT (fun τ => ?_)) | (refine brP (fun h => ?_) (fun h => ?_) <;> (try simp only [Bool.and_eq_true, Bool.and_eq_false_iff, Bool.or_eq_true, Bool.or_eq_false_iff, Bool.not_eq_true', Bool.not_eq_false', decide_eq_true_eq, decide_eq_false_iff_not, beq_iff_eq, beq_eq_false_iff_ne, ne_eq, bne_iff_ne, Int.not_lt, Int.not_le] at h)) | (apply And.intro; focus (first | omega | (simp; done) | (simp +contextual; done) | (intros; and_intros <;> first | assumption | omega) | (intros; simp_all; done) | (intro hgd; refine ⟨hgd, ?_⟩; simp [hgd]; done) | (intro hgd; simp only [beq_eq_false_iff_ne, beq_iff_eq, decide_eq_true_eq, decide_eq_false_iff_not, bne_iff_ne, ne_eq, Bool.and_eq_true, Bool.or_eq_false_iff, Bool.or_eq_true, Bool.and_eq_false_iff] at hgd ⊢; omega))) | fail)
  first | refine newsE_U (ho2) ?_ | refine newsE_T (ho2) ?_ | refine newsE_of (ho2) ?_
  rintro _ _ ⟨bo, cap, hcap, rfl, rfl⟩
  repeat' (first | (simp (disch := first | omega | (simp only [List.length_cons, List.length_nil]; first | done | omega)) only [go_sem, Nat.reduceAdd, Nat.reduceMul, Nat.reduceSub, Nat.reduceEqDiff, Nat.reduceLeDiff, Nat.reduceMod, Nat.reduceLT, Int.reduceToNat, Int.reduceAdd, Int.reduceSub, Int.reduceMul, Int.reduceNeg, Int.reduceLE, Int.reduceLT, Int.toNat_natCast, Int.cast_ofNat_Int, Int.reduceNe, Int.reduceEq, Int.reduceBEq, Int.reduceBNe, not_false_eq_true, ne_eq, Int.reduceTMod, Int.reduceTDiv, beq_self_eq_true, bne_self_eq_false, List.contains_cons, List.contains_nil, Nat.reduceBEq]) | (refine allI (fun b => ?_)) | (refine allT (fun τ => ?_)) | (refine brP (fun h => ?_) (fun h => ?_) <;> (try simp only [Bool.and_eq_true, Bool.and_eq_false_iff, Bool.or_eq_true, Bool.or_eq_false_iff, Bool.not_eq_true', Bool.not_eq_false', decide_eq_true_eq, decide_eq_false_iff_not, beq_iff_eq, beq_eq_false_iff_ne, ne_eq, bne_iff_ne, Int.not_lt, Int.not_le] at h)) | (apply And.intro; focus (first | omega | (simp; done) | (simp +contextual; done) | (intros; and_intros <;> first | assumption | omega) | (intros; simp_all; done) | (intro hgd; refine ⟨hgd, ?_⟩; simp [hgd]; done) | (intro hgd; simp only [beq_eq_false_iff_ne, beq_iff_eq, decide_eq_true_eq, decide_eq_false_iff_not, bne_iff_ne, ne_eq, Bool.and_eq_true, Bool.or_eq_false_iff, Bool.or_eq_true, Bool.and_eq_false_iff] at hgd ⊢; omega))) | fail)
  exact ⟨_, _, leVH.of (leV.refl _) ⟨[(48, .blk bo (Sp (ns.flatMap BrC) ((cap - ns.length) * 3)))], List.Sublist.cons_cons _ (List.nil_sublist _), List.Perm.refl _⟩, _, rfl, _, rfl, bo, cap, hcap, rfl, rfl⟩
/-- a diagram of which the nodes are owned, lent -/
theorem lentD {H : Heap} {tb : List At} {ns : List Br} {r : Int} {bo cap : Nat} (hc : ns.length ≤ cap) (hH : getH H 48 = some (.blk bo (Sp (ns.flatMap BrC) ((cap - ns.length) * 3)))) : Lent gl H [.agg [.sl 8 tb.length (tb.flatMap AtC), .msl 48 3 bo 0 ns.length cap, .int .i64 r]] (delH H 48) [.agg (DgC ⟨tb, ns, r⟩)] := by
  have hlb := len_br ns
  have h := Lent.pub (gl := gl) (args := [.agg [.sl 8 tb.length (tb.flatMap AtC), .msl 48 3 bo 0 ns.length cap, .int .i64 r]]) 48 hH (by
    simp only [pubAs, pubA, pubCs, pubC, if_true]
    exact ⟨⟨trivial, ⟨trivial, by rw [length_Sp]; omega, hc⟩, trivial, trivial⟩, trivial⟩)
  simp only [pubAs, pubA, pubCs, pubC, if_true] at h
  rw [sp_take _ hlb] at h
  exact h
theorem lentDA {H : Heap} {tb : List At} {ns : List Br} {r : Int} {bo cap : Nat} (hc : ns.length ≤ cap) (hH : getH H 48 = some (.blk bo (Sp (ns.flatMap BrC) ((cap - ns.length) * 3)))) (ans : List Bool) : Lent gl H [.agg [.sl 8 tb.length (tb.flatMap AtC), .msl 48 3 bo 0 ns.length cap, .int .i64 r], .sl 1 ans.length (ans.map LV.bool)] (delH H 48) [.agg (DgC ⟨tb, ns, r⟩), BlS ans] := by
  have hlb := len_br ns
  have h := Lent.pub (gl := gl) (args := [.agg [.sl 8 tb.length (tb.flatMap AtC), .msl 48 3 bo 0 ns.length cap, .int .i64 r], .sl 1 ans.length (ans.map LV.bool)]) 48 hH (by
    simp only [pubAs, pubA, pubCs, pubC, if_true]
    exact ⟨⟨trivial, ⟨trivial, by rw [length_Sp]; omega, hc⟩, trivial, trivial⟩, trivial, trivial⟩)
  simp only [pubAs, pubA, pubCs, pubC, if_true] at h
  rw [sp_take _ hlb] at h
  exact h
theorem noD (d : Dg) : noNs [.agg (DgC d)] = true := by
  have h1 : noNs (d.tb.flatMap AtC) = true := noNs_flat _ fun a _ => rfl
  have h2 : noNs (d.ns.flatMap BrC) = true := noNs_flat _ fun a _ => rfl
  simp [noNs, noN, DgC_eq, h1, h2]
theorem noDA (d : Dg) (ans : List Bool) : noNs [.agg (DgC d), BlS ans] = true := by
  have h1 : noNs (d.tb.flatMap AtC) = true := noNs_flat _ fun a _ => rfl
  have h2 : noNs (d.ns.flatMap BrC) = true := noNs_flat _ fun a _ => rfl
  have h3 : noNs (ans.map LV.bool) = true := by
    induction ans with
    | nil => rfl
    | cons a l ih => simp [noNs, noN, ih]
  simp [noNs, noN, DgC_eq, BlS_eq, h1, h2, h3]
theorem gl0 : ∀ g, gl g = none := fun _ => rfl
end Go.Proofs.Ytcngkeeknlloaaa
