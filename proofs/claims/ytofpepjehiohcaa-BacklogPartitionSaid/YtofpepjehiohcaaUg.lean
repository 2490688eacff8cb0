/- Layer 20: backlog: records that are put. -/
import Derived.Test.YtofpepjehiohcaaUf
namespace Go.Proofs.Ytofpepjehiohcaa
open Go Go.Lx
set_option linter.unusedSimpArgs false
set_option linter.unusedVariables false
set_option maxRecDepth 100000
set_option maxHeartbeats 1000000

theorem idxF_range (x : Int) : ∀ (l : List Int) (k : Nat), idxF x l k = -1 ∨ (k ≤ idxF x l k ∧ idxF x l k < k + l.length)
  | [], k => .inl rfl
  | y :: l, k => by
    rw [idxF]
    split
    · right; simp only [List.length_cons]; omega
    · rcases idxF_range x l (k + 1) with h | h
      · exact .inl h
      · right; simp only [List.length_cons]; omega
/-- without the first place of a number -/
def del1 (l : List Int) (x : Int) : List Int := if 0 ≤ idxF x l 0 then l.take (idxF x l 0).toNat ++ l.drop ((idxF x l 0).toNat + 1) else l
def putB (b : Bl) (r : Rc) (last : Bool) : Bl := { b with qu := b.qu ++ [r], res := b.res - 1, op := if last then del1 b.op r.se else b.op }
theorem put (b : Bl) (k : Nat) (hk : okK k b) (r : Rc) (hr : r.ps.length ≤ 1000) (last : Bool) : Pure Try.prog gl 25 [BlL b, .agg (RcC r), .bool last] (BlL (putB b r last)) := by
  refine fn_viewT Try.func25 t25 Try.ntmps25 (by simp) ?_
  have hc := clone b hk.okB
  have hcr := crec r (by omega)
  obtain ⟨k0, k1_, k2, k3, k4, k5, k6, k7, k8, k9, k10, k11, k12, k13, k14⟩ := hk
  generalize hB : putB b r last = B
  rw [show BlL B = .agg (BlC B (InS B.op) (RcS B.qu) (NoS B.no)) from rfl]
  generalize hX : LV.agg (BlC B (InS B.op) (RcS B.qu) (NoS B.no)) = X
  unfold BlL BlC InS RcS NoS at hc
  rw [RcC_eq, PaS_eq] at hcr
  unfold c25 r25 BlL BlC InS RcS NoS
  simp (disch := first | omega | (simp only [List.length_cons, List.length_nil]; first | done | omega)) only [go_sem, Nat.reduceAdd, Nat.reduceMul, Nat.reduceSub, Nat.reduceEqDiff, Nat.reduceLeDiff, Nat.reduceMod, Nat.reduceLT, Int.reduceToNat, Int.reduceAdd, Int.reduceSub, Int.reduceMul, Int.reduceNeg, Int.reduceLE, Int.reduceLT, Int.toNat_natCast, Int.cast_ofNat_Int, Int.reduceNe, Int.reduceEq, Int.reduceBEq, Int.reduceBNe, not_false_eq_true, ne_eq, Int.reduceTMod, Int.reduceTDiv, beq_self_eq_true, bne_self_eq_false, List.contains_cons, List.contains_nil, Nat.reduceBEq, RcC_eq, PaS_eq]
  intro p3 p4 p6
  first | refine newsQ_U (hc) ?_ | refine newsQ_T (hc) ?_ | refine newsQ_of (hc) ?_
  rintro _ _ ⟨b1, c1, b2, c2, b3, c3, g, rfl, rfl⟩
  unfold BlO BlH BlC
  have hlen := len_rc b.qu
  have hi := index b1 c1 b.op r.se (by omega)
  have hx := idxF_range r.se b.op 0
  simp (disch := first | omega | (simp only [List.length_cons, List.length_nil]; first | done | omega)) only [go_sem, Nat.reduceAdd, Nat.reduceMul, Nat.reduceSub, Nat.reduceEqDiff, Nat.reduceLeDiff, Nat.reduceMod, Nat.reduceLT, Int.reduceToNat, Int.reduceAdd, Int.reduceSub, Int.reduceMul, Int.reduceNeg, Int.reduceLE, Int.reduceLT, Int.toNat_natCast, Int.cast_ofNat_Int, Int.reduceNe, Int.reduceEq, Int.reduceBEq, Int.reduceBNe, not_false_eq_true, ne_eq, Int.reduceTMod, Int.reduceTDiv, beq_self_eq_true, bne_self_eq_false, List.contains_cons, List.contains_nil, Nat.reduceBEq]
  first | refine call_U (hcr) ?_ | refine call_T (hcr) ?_ | refine call_N (hcr) ?_ | refine call_of (hcr) ?_
  simp (disch := first | omega | (simp only [List.length_cons, List.length_nil]; first | done | omega)) only [go_sem, Nat.reduceAdd, Nat.reduceMul, Nat.reduceSub, Nat.reduceEqDiff, Nat.reduceLeDiff, Nat.reduceMod, Nat.reduceLT, Int.reduceToNat, Int.reduceAdd, Int.reduceSub, Int.reduceMul, Int.reduceNeg, Int.reduceLE, Int.reduceLT, Int.toNat_natCast, Int.cast_ofNat_Int, Int.reduceNe, Int.reduceEq, Int.reduceBEq, Int.reduceBNe, not_false_eq_true, ne_eq, Int.reduceTMod, Int.reduceTDiv, beq_self_eq_true, bne_self_eq_false, List.contains_cons, List.contains_nil, Nat.reduceBEq, zR]
  refine ⟨rfl, .inl ⟨by rw [length_Sp]; omega, by rw [length_Sp]; omega, by simp only [roomy]; omega, fun b2' c2' h2 => ?_⟩⟩
  rw [take_Sp _ hlen, ← Sp]
  first | refine actsE_U (hi) (by first | rfl | simp only [getH, if_true]) ?_ | refine actsE_T (hi) (by first | rfl | simp only [getH, if_true]) ?_ | refine actsE_N (hi) (by first | rfl | simp only [getH, if_true]) ?_ | refine actsE_of (hi) (by first | rfl | simp only [getH, if_true]) ?_
  rintro _ _ ⟨rfl, rfl⟩
  have hqm : b.qu.flatMap RcC ++ [.int .i64 r.ty, .int .i64 r.ti, .int .i64 r.se, .sl 4 r.ps.length (r.ps.flatMap PaC)] = (b.qu ++ [r]).flatMap RcC := by simp [RcC, PaS]
  have hql : b.qu.length + 1 = (b.qu ++ [r]).length := by simp
  rw [hqm]
  have hend : ∀ (o : List Int) (c1' b1' k1' : Nat), o = (putB b r last).op → o.length ≤ c1' → ∀ H : Heap, getH H 2001 = some (.blk b1' (Sp (o.map (LV.int .i64)) k1')) → getH H 2002 = some (.blk b2' (Sp ((b.qu ++ [r]).flatMap RcC) ((c2' - (b.qu.length + 1)) * 4))) → getH H 2003 = some (.blk b3 (Sp (b.no.flatMap NoC) ((c3 - b.no.length) * 2))) →
      ∃ r' H', leVH gl (.agg [.int .i64 b.lim, .int .i64 b.rate, .int .i64 b.fail, .int .i64 b.ser, .int .i64 (b.res - 1), .msl 2001 1 b1' 0 o.length c1', .msl 2002 4 b2' 0 (b.qu.length + 1) c2', .int .i64 b.pd.f, .int .i64 b.pd.l, .int .i64 b.pd.r, .int .i64 b.pd.u, .int .i64 b.pd.s, .int .i64 b.win, .int .i64 b.used, .int .i64 b.lost, .bool b.hal, .msl 2003 2 b3 0 b.no.length c3]) H r' H' ∧ r' = X ∧ H' = [] := by
    intro o c1' b1' k1' ho hoc H g1 g2 g3
    subst ho
    subst hX
    subst hB
    rw [hql]
    exact view_end (pubB1 (b := putB b r last) ⟨hoc, by rw [← hql] at *; simpa [putB] using h2, g.2.2⟩ g1 g2 g3)
  cases last
  · repeat' (first | (simp (disch := first | omega | (simp only [List.length_cons, List.length_nil]; first | done | omega)) only [go_sem, Nat.reduceAdd, Nat.reduceMul, Nat.reduceSub, Nat.reduceEqDiff, Nat.reduceLeDiff, Nat.reduceMod, Nat.reduceLT, Int.reduceToNat, Int.reduceAdd, Int.reduceSub, Int.reduceMul, Int.reduceNeg, Int.reduceLE, Int.reduceLT, Int.toNat_natCast, Int.cast_ofNat_Int, Int.reduceNe, Int.reduceEq, Int.reduceBEq, Int.reduceBNe, not_false_eq_true, ne_eq, Int.reduceTMod, Int.reduceTDiv, beq_self_eq_true, bne_self_eq_false, List.contains_cons, List.contains_nil, Nat.reduceBEq]) | (refine allI (fun b => ?_)) | (refine allT (fun τ => ?_)) | (refine brP (fun h => ?_) (fun h => ?_) <;> (try simp only [Bool.and_eq_true, Bool.and_eq_false_iff, Bool.or_eq_true, Bool.or_eq_false_iff, Bool.not_eq_true', Bool.not_eq_false', decide_eq_true_eq, decide_eq_false_iff_not, beq_iff_eq, beq_eq_false_iff_ne, ne_eq, bne_iff_ne, Int.not_lt, Int.not_le] at h)))
    exact hend b.op c1 b1 _ rfl g.1 _ rfl rfl rfl
  · repeat' (first | (simp (disch := first | omega | (simp only [List.length_cons, List.length_nil]; first | done | omega)) only [go_sem, Nat.reduceAdd, Nat.reduceMul, Nat.reduceSub, Nat.reduceEqDiff, Nat.reduceLeDiff, Nat.reduceMod, Nat.reduceLT, Int.reduceToNat, Int.reduceAdd, Int.reduceSub, Int.reduceMul, Int.reduceNeg, Int.reduceLE, Int.reduceLT, Int.toNat_natCast, Int.cast_ofNat_Int, Int.reduceNe, Int.reduceEq, Int.reduceBEq, Int.reduceBNe, not_false_eq_true, ne_eq, Int.reduceTMod, Int.reduceTDiv, beq_self_eq_true, bne_self_eq_false, List.contains_cons, List.contains_nil, Nat.reduceBEq]) | (refine allI (fun b => ?_)) | (refine allT (fun τ => ?_)) | (refine brP (fun h => ?_) (fun h => ?_) <;> (try simp only [Bool.and_eq_true, Bool.and_eq_false_iff, Bool.or_eq_true, Bool.or_eq_false_iff, Bool.not_eq_true', Bool.not_eq_false', decide_eq_true_eq, decide_eq_false_iff_not, beq_iff_eq, beq_eq_false_iff_ne, ne_eq, bne_iff_ne, Int.not_lt, Int.not_le] at h)))
    · obtain ⟨i, hi⟩ : ∃ i : Nat, idxF r.se b.op 0 = i := ⟨_, (Int.toNat_of_nonneg h).symm⟩
      have hd := deli b1 b.op.length c1 i (i + 1) (b.op.map (LV.int .i64)) (by simp) g.1 (by omega) (by omega) (by omega)
      rw [show ((i + 1 : Nat) : Int) = (i : Int) + 1 by omega, ← hi] at hd
      first | refine actsE_U (hd) (by first | rfl | simp only [getH, if_true]) ?_ | refine actsE_T (hd) (by first | rfl | simp only [getH, if_true]) ?_ | refine actsE_N (hd) (by first | rfl | simp only [getH, if_true]) ?_ | refine actsE_of (hd) (by first | rfl | simp only [getH, if_true]) ?_
      rintro _ _ ⟨rfl, rfl⟩
      simp (disch := first | omega | (simp only [List.length_cons, List.length_nil]; first | done | omega)) only [go_sem, Nat.reduceAdd, Nat.reduceMul, Nat.reduceSub, Nat.reduceEqDiff, Nat.reduceLeDiff, Nat.reduceMod, Nat.reduceLT, Int.reduceToNat, Int.reduceAdd, Int.reduceSub, Int.reduceMul, Int.reduceNeg, Int.reduceLE, Int.reduceLT, Int.toNat_natCast, Int.cast_ofNat_Int, Int.reduceNe, Int.reduceEq, Int.reduceBEq, Int.reduceBNe, not_false_eq_true, ne_eq, Int.reduceTMod, Int.reduceTDiv, beq_self_eq_true, bne_self_eq_false, List.contains_cons, List.contains_nil, Nat.reduceBEq]
      have ho : b.op.take i ++ b.op.drop (i + 1) = (putB b r true).op := by simp [putB, del1, hi]
      have hol : b.op.length - (i + 1 - i) = (b.op.take i ++ b.op.drop (i + 1)).length := by simp; omega
      have hom : (b.op.map (LV.int .i64)).take (i * 1) ++ (b.op.map (LV.int .i64)).drop ((i + 1) * 1) = (b.op.take i ++ b.op.drop (i + 1)).map (LV.int .i64) := by simp [List.map_take, List.map_drop]
      rw [hol, hom]
      exact hend _ c1 b1 _ ho (by rw [← hol]; omega) _ rfl rfl rfl
    · refine hend b.op c1 b1 _ ?_ g.1 _ rfl rfl rfl
      simp only [putB, del1, if_true]
      rw [if_neg (by omega)]
end Go.Proofs.Ytofpepjehiohcaa
