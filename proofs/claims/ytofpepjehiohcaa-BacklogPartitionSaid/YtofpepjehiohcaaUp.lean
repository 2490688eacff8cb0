/- Layer 20: the reference: records that are put and taken. -/
import Derived.Test.YtofpepjehiohcaaUo
namespace Go.Proofs.Ytofpepjehiohcaa
open Go Go.Lx
set_option linter.unusedSimpArgs false
set_option linter.unusedVariables false
set_option maxRecDepth 100000
set_option maxHeartbeats 2000000

theorem idxF_none (x : Int) : ∀ (l : List Int) (k : Nat), x ∉ l → idxF x l k = -1
  | [], _, _ => rfl
  | y :: l, k, h => by
    simp only [List.mem_cons, not_or] at h
    rw [idxF, if_neg (fun e => h.1 e.symm), idxF_none x l (k + 1) h.2]
theorem idxF_app (x : Int) (c : List Int) : ∀ (a : List Int) (k : Nat), x ∉ a → idxF x (a ++ x :: c) k = (k + a.length : Nat)
  | [], k, _ => by simp [idxF]
  | y :: a, k, h => by
    simp only [List.mem_cons, not_or] at h
    rw [List.cons_append, idxF, if_neg (fun e => h.1 e.symm), idxF_app x c a (k + 1) h.2]
    simp only [List.length_cons]; congr 1; omega
theorem split_mem (x : Int) : ∀ (l : List Int), x ∈ l → ∃ a c, l = a ++ x :: c ∧ x ∉ a
  | [], h => by simp at h
  | y :: l, h => by
    by_cases e : x = y
    · subst e; exact ⟨[], l, rfl, by simp⟩
    · obtain ⟨a, c, h1, h2⟩ := split_mem x l (by simpa [e] using h)
      exact ⟨y :: a, c, by rw [h1]; rfl, by simp [e, h2]⟩
theorem filter_ne {x : Int} {l : List Int} (h : x ∉ l) : l.filter (fun y => y != x) = l := by
  refine List.filter_eq_self.2 fun y hy => ?_
  simp only [bne_iff_ne, ne_eq]
  exact fun e => h (e ▸ hy)
theorem del1_filter (l : List Int) (x : Int) (hl : l.Nodup) : del1 l x = l.filter (fun y => y != x) := by
  by_cases h : x ∈ l
  · obtain ⟨a, c, rfl, ha⟩ := split_mem x l h
    have hc : x ∉ c := by
      have := (List.nodup_append.1 hl).2.1
      exact (List.nodup_cons.1 this).1
    unfold del1
    rw [idxF_app x c a 0 ha, Nat.zero_add, if_pos (by omega), Int.toNat_natCast, List.take_left', List.filter_append, filter_ne ha, List.filter_cons]
    · simp only [bne_self_eq_false, Bool.false_eq_true, if_false, filter_ne hc]
      congr 1
      rw [show a ++ x :: c = (a ++ [x]) ++ c by simp, List.drop_left' (by simp)]
    · rfl
  · unfold del1
    rw [idxF_none x l 0 h, if_neg (by omega), filter_ne h]
theorem rput (b : Bl) (k : Nat) (hk : okK k b) (hop : b.op.Nodup) (r : Rc) (hr : r.ps.length ≤ 1000) (last : Bool) : Pure Try.prog gl 53 [BlL b, .agg (RcC r), .bool last] (BlL (putB b r last)) := by
  refine fn_viewT Try.func53 t53 Try.ntmps53 (by simp) ?_
  have hc := rcopy b hk.okB
  have hst := stamp [r] ⟨by simp, by simpa using (by omega : r.ps.length ≤ 1000000000)⟩ r.se
  have hst' := LCalls.args hst (args' := [.fsl 4 1 (RcC r), .int .i64 r.se]) ⟨by simpa [RcS] using leV.fsl_sl _ _ _, leV.refl _, trivial⟩
  rw [show [r].map (stampR r.se) = [r] from rfl] at hst'
  unfold RcS at hst'
  rw [List.flatMap_singleton, List.length_singleton, RcC_eq, PaS_eq] at hst'
  obtain ⟨k0, k1_, k2, k3, k4, k5, k6, k7, k8, k9, k10, k11, k12, k13, k14⟩ := hk
  generalize hB : putB b r last = B
  rw [show BlL B = .agg (BlC B (InS B.op) (RcS B.qu) (NoS B.no)) from rfl]
  generalize hX : LV.agg (BlC B (InS B.op) (RcS B.qu) (NoS B.no)) = X
  unfold BlL BlC InS RcS NoS at hc
  unfold c53 r53 BlL BlC InS RcS NoS
  simp (disch := first | omega | (simp only [List.length_cons, List.length_nil]; first | done | omega)) only [go_sem, Nat.reduceAdd, Nat.reduceMul, Nat.reduceSub, Nat.reduceEqDiff, Nat.reduceLeDiff, Nat.reduceMod, Nat.reduceLT, Int.reduceToNat, Int.reduceAdd, Int.reduceSub, Int.reduceMul, Int.reduceNeg, Int.reduceLE, Int.reduceLT, Int.toNat_natCast, Int.cast_ofNat_Int, Int.reduceNe, Int.reduceEq, Int.reduceBEq, Int.reduceBNe, not_false_eq_true, ne_eq, Int.reduceTMod, Int.reduceTDiv, beq_self_eq_true, bne_self_eq_false, List.contains_cons, List.contains_nil, Nat.reduceBEq, RcC_eq, PaS_eq]
  intro p3 p4 p6
  first | refine newsQ_U (hc) ?_ | refine newsQ_T (hc) ?_ | refine newsQ_of (hc) ?_
  rintro _ _ ⟨t1, t2, t3, rfl, rfl⟩
  unfold BlT BlTH BlC
  simp (disch := first | omega | (simp only [List.length_cons, List.length_nil]; first | done | omega)) only [go_sem, Nat.reduceAdd, Nat.reduceMul, Nat.reduceSub, Nat.reduceEqDiff, Nat.reduceLeDiff, Nat.reduceMod, Nat.reduceLT, Int.reduceToNat, Int.reduceAdd, Int.reduceSub, Int.reduceMul, Int.reduceNeg, Int.reduceLE, Int.reduceLT, Int.toNat_natCast, Int.cast_ofNat_Int, Int.reduceNe, Int.reduceEq, Int.reduceBEq, Int.reduceBNe, not_false_eq_true, ne_eq, Int.reduceTMod, Int.reduceTDiv, beq_self_eq_true, bne_self_eq_false, List.contains_cons, List.contains_nil, Nat.reduceBEq]
  intro p7
  simp (disch := first | omega | (simp only [List.length_cons, List.length_nil]; first | done | omega)) only [go_sem, Nat.reduceAdd, Nat.reduceMul, Nat.reduceSub, Nat.reduceEqDiff, Nat.reduceLeDiff, Nat.reduceMod, Nat.reduceLT, Int.reduceToNat, Int.reduceAdd, Int.reduceSub, Int.reduceMul, Int.reduceNeg, Int.reduceLE, Int.reduceLT, Int.toNat_natCast, Int.cast_ofNat_Int, Int.reduceNe, Int.reduceEq, Int.reduceBEq, Int.reduceBNe, not_false_eq_true, ne_eq, Int.reduceTMod, Int.reduceTDiv, beq_self_eq_true, bne_self_eq_false, List.contains_cons, List.contains_nil, Nat.reduceBEq, zR]
  first | refine call_U (hst') ?_ | refine call_T (hst') ?_ | refine call_N (hst') ?_ | refine call_of (hst') ?_
  simp (disch := first | omega | (simp only [List.length_cons, List.length_nil]; first | done | omega)) only [go_sem, Nat.reduceAdd, Nat.reduceMul, Nat.reduceSub, Nat.reduceEqDiff, Nat.reduceLeDiff, Nat.reduceMod, Nat.reduceLT, Int.reduceToNat, Int.reduceAdd, Int.reduceSub, Int.reduceMul, Int.reduceNeg, Int.reduceLE, Int.reduceLT, Int.toNat_natCast, Int.cast_ofNat_Int, Int.reduceNe, Int.reduceEq, Int.reduceBEq, Int.reduceBNe, not_false_eq_true, ne_eq, Int.reduceTMod, Int.reduceTDiv, beq_self_eq_true, bne_self_eq_false, List.contains_cons, List.contains_nil, Nat.reduceBEq]
  refine ⟨by simp only [roomy]; omega, fun t2' => ?_⟩
  have hqm : b.qu.flatMap RcC ++ [.int .i64 r.ty, .int .i64 r.ti, .int .i64 r.se, .sl 4 r.ps.length (r.ps.flatMap PaC)] = (b.qu ++ [r]).flatMap RcC := by simp [RcC, PaS]
  have hql : b.qu.length + 1 = (b.qu ++ [r]).length := by simp
  rw [hqm, hql]
  cases last
  · repeat' (first | (simp (disch := first | omega | (simp only [List.length_cons, List.length_nil]; first | done | omega)) only [go_sem, Nat.reduceAdd, Nat.reduceMul, Nat.reduceSub, Nat.reduceEqDiff, Nat.reduceLeDiff, Nat.reduceMod, Nat.reduceLT, Int.reduceToNat, Int.reduceAdd, Int.reduceSub, Int.reduceMul, Int.reduceNeg, Int.reduceLE, Int.reduceLT, Int.toNat_natCast, Int.cast_ofNat_Int, Int.reduceNe, Int.reduceEq, Int.reduceBEq, Int.reduceBNe, not_false_eq_true, ne_eq, Int.reduceTMod, Int.reduceTDiv, beq_self_eq_true, bne_self_eq_false, List.contains_cons, List.contains_nil, Nat.reduceBEq]) | (refine allI (fun b => ?_)) | (refine allT (fun τ => ?_)) | (refine brP (fun h => ?_) (fun h => ?_) <;> (try simp only [Bool.and_eq_true, Bool.and_eq_false_iff, Bool.or_eq_true, Bool.or_eq_false_iff, Bool.not_eq_true', Bool.not_eq_false', decide_eq_true_eq, decide_eq_false_iff_not, beq_iff_eq, beq_eq_false_iff_ne, ne_eq, bne_iff_ne, Int.not_lt, Int.not_le] at h)))
    subst hX
    subst hB
    exact view_sub (leV.agg (BlT_le (putB b r false) t1 t2' t3)) (List.nil_sublist _)
  · repeat' (first | (simp (disch := first | omega | (simp only [List.length_cons, List.length_nil]; first | done | omega)) only [go_sem, Nat.reduceAdd, Nat.reduceMul, Nat.reduceSub, Nat.reduceEqDiff, Nat.reduceLeDiff, Nat.reduceMod, Nat.reduceLT, Int.reduceToNat, Int.reduceAdd, Int.reduceSub, Int.reduceMul, Int.reduceNeg, Int.reduceLE, Int.reduceLT, Int.toNat_natCast, Int.cast_ofNat_Int, Int.reduceNe, Int.reduceEq, Int.reduceBEq, Int.reduceBNe, not_false_eq_true, ne_eq, Int.reduceTMod, Int.reduceTDiv, beq_self_eq_true, bne_self_eq_false, List.contains_cons, List.contains_nil, Nat.reduceBEq]) | (refine allI (fun b => ?_)) | (refine allT (fun τ => ?_)) | (refine brP (fun h => ?_) (fun h => ?_) <;> (try simp only [Bool.and_eq_true, Bool.and_eq_false_iff, Bool.or_eq_true, Bool.or_eq_false_iff, Bool.not_eq_true', Bool.not_eq_false', decide_eq_true_eq, decide_eq_false_iff_not, beq_iff_eq, beq_eq_false_iff_ne, ne_eq, bne_iff_ne, Int.not_lt, Int.not_le] at h)))
    refine loopI (ι := Nat × Tok) (fun x => x.1 ≤ b.op.length) (fun x => [(9, .int .i64 x.1), (8, .osl 48 x.2 1 ((b.op.take x.1).filter (fun y => y != r.se)).length (((b.op.take x.1).filter (fun y => y != r.se)).map (LV.int .i64))), (7, .ptr 7 p7 0), (6, .ptr 6 p6 0), (4, .ptr 4 p4 0)]) (fun x => (48, .tok x.2) :: _) (fun x => b.op.length - x.1) (0, ⟨0, 0, 0⟩) (by dsimp only; omega) (Ents.dummyE 48 (by simp [go_sem, envLe, leV.nil_osl])) ?_
    rintro ⟨i, τ⟩ hi
    dsimp only at hi ⊢
    have hfl : ((b.op.take i).filter (fun y => y != r.se)).length ≤ b.op.length := Nat.le_trans (List.length_filter_le _ _) (by rw [List.length_take]; omega)
    repeat' (first | (simp (disch := first | omega | (simp only [List.length_cons, List.length_nil]; first | done | omega)) only [go_sem, Nat.reduceAdd, Nat.reduceMul, Nat.reduceSub, Nat.reduceEqDiff, Nat.reduceLeDiff, Nat.reduceMod, Nat.reduceLT, Int.reduceToNat, Int.reduceAdd, Int.reduceSub, Int.reduceMul, Int.reduceNeg, Int.reduceLE, Int.reduceLT, Int.toNat_natCast, Int.cast_ofNat_Int, Int.reduceNe, Int.reduceEq, Int.reduceBEq, Int.reduceBNe, not_false_eq_true, ne_eq, Int.reduceTMod, Int.reduceTDiv, beq_self_eq_true, bne_self_eq_false, List.contains_cons, List.contains_nil, Nat.reduceBEq, getD_int, Nat.mul_one, List.length_map]) | (refine allI (fun b => ?_)) | (refine allT (fun τ => ?_)) | (refine brP (fun h => ?_) (fun h => ?_) <;> (try simp only [Bool.and_eq_true, Bool.and_eq_false_iff, Bool.or_eq_true, Bool.or_eq_false_iff, Bool.not_eq_true', Bool.not_eq_false', decide_eq_true_eq, decide_eq_false_iff_not, beq_iff_eq, beq_eq_false_iff_ne, ne_eq, bne_iff_ne, Int.not_lt, Int.not_le] at h)))
    · have hlt : i < b.op.length := by omega
      have hts := take_succ_getD 0 b.op hlt
      refine ⟨by omega, by omega, ?_⟩
      repeat' (first | (simp (disch := first | omega | (simp only [List.length_cons, List.length_nil]; first | done | omega)) only [go_sem, Nat.reduceAdd, Nat.reduceMul, Nat.reduceSub, Nat.reduceEqDiff, Nat.reduceLeDiff, Nat.reduceMod, Nat.reduceLT, Int.reduceToNat, Int.reduceAdd, Int.reduceSub, Int.reduceMul, Int.reduceNeg, Int.reduceLE, Int.reduceLT, Int.toNat_natCast, Int.cast_ofNat_Int, Int.reduceNe, Int.reduceEq, Int.reduceBEq, Int.reduceBNe, not_false_eq_true, ne_eq, Int.reduceTMod, Int.reduceTDiv, beq_self_eq_true, bne_self_eq_false, List.contains_cons, List.contains_nil, Nat.reduceBEq, getD_int, Nat.mul_one, List.length_map]) | (refine allI (fun b => ?_)) | (refine allT (fun τ => ?_)) | (refine brP (fun h => ?_) (fun h => ?_) <;> (try simp only [Bool.and_eq_true, Bool.and_eq_false_iff, Bool.or_eq_true, Bool.or_eq_false_iff, Bool.not_eq_true', Bool.not_eq_false', decide_eq_true_eq, decide_eq_false_iff_not, beq_iff_eq, beq_eq_false_iff_ne, ne_eq, bne_iff_ne, Int.not_lt, Int.not_le] at h)))
      · have h' : (b.op.getD i 0 != r.se) = true := by simpa using h
        have hfs : (b.op.take (i + 1)).filter (fun y => y != r.se) = (b.op.take i).filter (fun y => y != r.se) ++ [b.op.getD i 0] := by
          rw [hts, List.filter_append, List.filter_cons, h']; rfl
        refine ⟨by omega, by omega, by simp only [roomy]; omega, fun t4 => ⟨⟨(i + 1, t4), by dsimp only; omega⟩, by dsimp only; omega, Ents.envH ?_ rfl⟩⟩
        exact ⟨leV.refl _, leV.of_eq (by dsimp only; rw [hfs, List.length_append, List.map_append]; rfl), leV.refl _, leV.refl _, leV.refl _, trivial⟩
      · have h' : (b.op.getD i 0 != r.se) = false := by simpa using h
        have hfs : (b.op.take (i + 1)).filter (fun y => y != r.se) = (b.op.take i).filter (fun y => y != r.se) := by
          rw [hts, List.filter_append, List.filter_cons, h']; simp
        refine ⟨⟨(i + 1, τ), by dsimp only; omega⟩, by dsimp only; omega, Ents.envH ?_ rfl⟩
        exact ⟨leV.refl _, leV.of_eq (by dsimp only; rw [hfs]; rfl), leV.refl _, leV.refl _, leV.refl _, trivial⟩
    · obtain rfl : i = b.op.length := by omega
      subst hX
      subst hB
      have hd : ((b.op.take b.op.length).filter (fun y => y != r.se)) = (putB b r true).op := by
        rw [List.take_length, ← del1_filter _ _ hop]; rfl
      rw [hd]
      exact view_sub (leV.agg ⟨leV.refl _, leV.refl _, leV.refl _, leV.refl _, leV.refl _, leV.osl_sl _ _ _ _ _, leV.osl_sl _ _ _ _ _, leV.refl _, leV.refl _, leV.refl _, leV.refl _, leV.refl _, leV.refl _, leV.refl _, leV.refl _, leV.refl _, leV.osl_sl _ _ _ _ _, trivial⟩) (List.nil_sublist _)
theorem rtake (b : Bl) (k : Nat) (hk : okK k b) (t n : Int) : Pure Try.prog gl 54 [BlL b, .int .i64 t, .int .i64 n] (.tup [BlL (takeB b t n), RcS (b.qu.take (takeN b n))]) := by
  refine fn_viewT Try.func54 t54 Try.ntmps54 (by simp) ?_
  have hc := rcopy b hk.okB
  have hpd := fun o q n' => rpend (restB b n) o q n'
  have hkr := hk.rest n
  have hrt := fun p t2 o n' => rtell8 (restB b n) k hkr p t2 o n' t
  have hk' := hk
  obtain ⟨k0, k1_, k2, k3, k4, k5, k6, k7, k8, k9, k10, k11, k12, k13, k14⟩ := hk'
  generalize hB : takeB b t n = B
  rw [show BlL B = .agg (BlC B (InS B.op) (RcS B.qu) (NoS B.no)) from rfl]
  generalize hX : LV.agg (BlC B (InS B.op) (RcS B.qu) (NoS B.no)) = X
  generalize hT : b.qu.take (takeN b n) = T
  unfold BlL BlC InS RcS NoS at hc
  unfold BlC at hpd hrt
  unfold c54 r54 BlL BlC InS RcS NoS
  have hm : (if 0 < if (b.qu.length : Int) < n then (b.qu.length : Int) else n then if (b.qu.length : Int) < n then (b.qu.length : Int) else n else 0) = (takeN b n : Int) := by
    simp only [takeN]
    split <;> split <;> omega
  have hml : takeN b n ≤ b.qu.length := by simp only [takeN]; omega
  have hlen := len_rc b.qu
  simp (disch := first | omega | (simp only [List.length_cons, List.length_nil]; first | done | omega)) only [go_sem, Nat.reduceAdd, Nat.reduceMul, Nat.reduceSub, Nat.reduceEqDiff, Nat.reduceLeDiff, Nat.reduceMod, Nat.reduceLT, Int.reduceToNat, Int.reduceAdd, Int.reduceSub, Int.reduceMul, Int.reduceNeg, Int.reduceLE, Int.reduceLT, Int.toNat_natCast, Int.cast_ofNat_Int, Int.reduceNe, Int.reduceEq, Int.reduceBEq, Int.reduceBNe, not_false_eq_true, ne_eq, Int.reduceTMod, Int.reduceTDiv, beq_self_eq_true, bne_self_eq_false, List.contains_cons, List.contains_nil, Nat.reduceBEq]
  intro p3 p6
  first | refine newsQ_U (hc) ?_ | refine newsQ_T (hc) ?_ | refine newsQ_of (hc) ?_
  rintro _ _ ⟨t1, t2, t3, rfl, rfl⟩
  unfold BlT BlTH BlC
  simp (disch := first | omega | (simp only [List.length_cons, List.length_nil]; first | done | omega)) only [go_sem, Nat.reduceAdd, Nat.reduceMul, Nat.reduceSub, Nat.reduceEqDiff, Nat.reduceLeDiff, Nat.reduceMod, Nat.reduceLT, Int.reduceToNat, Int.reduceAdd, Int.reduceSub, Int.reduceMul, Int.reduceNeg, Int.reduceLE, Int.reduceLT, Int.toNat_natCast, Int.cast_ofNat_Int, Int.reduceNe, Int.reduceEq, Int.reduceBEq, Int.reduceBNe, not_false_eq_true, ne_eq, Int.reduceTMod, Int.reduceTDiv, beq_self_eq_true, bne_self_eq_false, List.contains_cons, List.contains_nil, Nat.reduceBEq]
  intro p8
  simp (disch := first | omega | (simp only [List.length_cons, List.length_nil]; first | done | omega)) only [go_sem, Nat.reduceAdd, Nat.reduceMul, Nat.reduceSub, Nat.reduceEqDiff, Nat.reduceLeDiff, Nat.reduceMod, Nat.reduceLT, Int.reduceToNat, Int.reduceAdd, Int.reduceSub, Int.reduceMul, Int.reduceNeg, Int.reduceLE, Int.reduceLT, Int.toNat_natCast, Int.cast_ofNat_Int, Int.reduceNe, Int.reduceEq, Int.reduceBEq, Int.reduceBNe, not_false_eq_true, ne_eq, Int.reduceTMod, Int.reduceTDiv, beq_self_eq_true, bne_self_eq_false, List.contains_cons, List.contains_nil, Nat.reduceBEq, hm]
  refine ⟨by omega, by omega, by simp only [roomy]; omega, fun τ => ?_⟩
  have hdr : (b.qu.flatMap RcC).drop (takeN b n * 4) = (restB b n).qu.flatMap RcC := by rw [drop_rc]; rfl
  have htk : (b.qu.flatMap RcC).take (takeN b n * 4) = T.flatMap RcC := by rw [taken_rows (f := RcC) (w := 4) (fun _ => rfl), hT]
  have hTl : takeN b n = T.length := by rw [← hT, List.length_take]; omega
  have hrl : b.qu.length - takeN b n = (restB b n).qu.length := by simp [restB]
  rw [hdr, hrl]
  first | refine call_U (hpd _ _ _) ?_ | refine call_T (hpd _ _ _) ?_ | refine call_N (hpd _ _ _) ?_ | refine call_of (hpd _ _ _) ?_
  have hcan : canTell (restB b n) t ↔ (((restB b n).qu.length : Int) + b.res < b.lim ∧ b.ser ≤ 1073741821 ∧ 0 ≤ t ∧ t ≤ 1099511627776 ∧ (b.op.length = 0 ∨ b.ser + 1 - b.op.getD 0 0 < 64)) := Iff.rfl
  have hrq : (restB b n).qu.length ≤ b.qu.length := by rw [← hrl]; omega
  have hno : (¬ (pend b.pd = true ∧ canTell (restB b n) t)) → restB b n = B := fun h => by rw [← hB, takeB, if_neg h]
  have hyes : (pend b.pd = true ∧ canTell (restB b n) t) → reportB (restB b n) t = B := fun h => by rw [← hB, takeB, if_pos h]
  rw [show (restB b n).pd = b.pd from rfl]
  have hd0 : ∃ g x : Bool, ((b.op.length : Int) == 0) = g ∧ (g = false → (0 < b.op.length ∧ (b.op.map (LV.int .i64)).getD 0 .any = .int .i64 (b.op.getD 0 0))) := by
    refine ⟨_, true, rfl, fun h => ?_⟩
    simp only [beq_eq_false_iff_ne, ne_eq] at h
    have h : 0 < b.op.length := by omega
    exact ⟨h, by rw [getD_int h]⟩
  obtain ⟨gg, _, hd0, hgd⟩ := hd0
  have hfin : ∀ (bb : Bl) (q : LV) (H : Heap), bb = B → leV q (RcS bb.qu) → ∃ r' H', leVH gl (.tup [.agg (BlC bb (.osl 2001 t1 1 bb.op.length (bb.op.map (LV.int .i64))) q (.osl 2003 t3 2 bb.no.length (bb.no.flatMap NoC))), .fsl 4 (takeN b n - 0) (List.take ((takeN b n - 0) * 4) (List.flatMap RcC b.qu))]) H r' H' ∧ r' = .tup [X, .sl 4 T.length (T.flatMap RcC)] ∧ H' = [] := by
    intro bb q H hb hq
    subst hX
    subst hb
    rw [Nat.sub_zero, htk, hTl]
    exact view_sub (leV.tup ⟨leV.agg ⟨leV.refl _, leV.refl _, leV.refl _, leV.refl _, leV.refl _, leV.osl_sl _ _ _ _ _, hq, leV.refl _, leV.refl _, leV.refl _, leV.refl _, leV.refl _, leV.refl _, leV.refl _, leV.refl _, leV.refl _, leV.osl_sl _ _ _ _ _, trivial⟩, leV.fsl_sl _ _ _, trivial⟩) (List.nil_sublist _)
  have hlast : b.op.length = 0 ∨ (0 < b.op.length ∧ (0 ≤ b.op.getD 0 0 ∧ b.op.getD 0 0 ≤ 2 * k)) := by
    rcases Nat.eq_zero_or_pos b.op.length with h | h
    · exact .inl h
    · exact .inr ⟨h, k7 _ (getD_mem h)⟩
  cases gg with
  | true =>
    have h0 : b.op = [] := List.length_eq_zero_iff.1 (by simp only [beq_iff_eq] at hd0; omega)
    have h1 : (b.op.map (LV.int .i64)).getD 0 .any = .any := by rw [h0]; rfl
    have hop0 : b.op.length = 0 := by rw [h0]; rfl
    cases hP : pend b.pd
    · repeat' (first | (simp (disch := first | omega | (simp only [List.length_cons, List.length_nil]; first | done | omega)) only [go_sem, Nat.reduceAdd, Nat.reduceMul, Nat.reduceSub, Nat.reduceEqDiff, Nat.reduceLeDiff, Nat.reduceMod, Nat.reduceLT, Int.reduceToNat, Int.reduceAdd, Int.reduceSub, Int.reduceMul, Int.reduceNeg, Int.reduceLE, Int.reduceLT, Int.toNat_natCast, Int.cast_ofNat_Int, Int.reduceNe, Int.reduceEq, Int.reduceBEq, Int.reduceBNe, not_false_eq_true, ne_eq, Int.reduceTMod, Int.reduceTDiv, beq_self_eq_true, bne_self_eq_false, List.contains_cons, List.contains_nil, Nat.reduceBEq, hd0, h1, bin_anyR, bin_anyL, pick_0a0, pick_o0a, Bool.false_eq_true, false_implies, true_and]) | (refine allI (fun b => ?_)) | (refine allT (fun τ => ?_)) | (refine brP (fun h => ?_) (fun h => ?_) <;> (try simp only [Bool.and_eq_true, Bool.and_eq_false_iff, Bool.or_eq_true, Bool.or_eq_false_iff, Bool.not_eq_true', Bool.not_eq_false', decide_eq_true_eq, decide_eq_false_iff_not, beq_iff_eq, beq_eq_false_iff_ne, ne_eq, bne_iff_ne, Int.not_lt, Int.not_le] at h)))
      exact hfin (restB b n) _ _ (hno (by simp [hP])) (leV.osl_sl _ _ _ _ _)
    · repeat' (first | (simp (disch := first | omega | (simp only [List.length_cons, List.length_nil]; first | done | omega)) only [go_sem, Nat.reduceAdd, Nat.reduceMul, Nat.reduceSub, Nat.reduceEqDiff, Nat.reduceLeDiff, Nat.reduceMod, Nat.reduceLT, Int.reduceToNat, Int.reduceAdd, Int.reduceSub, Int.reduceMul, Int.reduceNeg, Int.reduceLE, Int.reduceLT, Int.toNat_natCast, Int.cast_ofNat_Int, Int.reduceNe, Int.reduceEq, Int.reduceBEq, Int.reduceBNe, not_false_eq_true, ne_eq, Int.reduceTMod, Int.reduceTDiv, beq_self_eq_true, bne_self_eq_false, List.contains_cons, List.contains_nil, Nat.reduceBEq, hd0, h1, bin_anyR, bin_anyL, pick_0a0, pick_o0a, Bool.false_eq_true, false_implies, true_and, and_true, imp_self]) | (refine allI (fun b => ?_)) | (refine allT (fun τ => ?_)) | (refine brP (fun h => ?_) (fun h => ?_) <;> (try simp only [Bool.and_eq_true, Bool.and_eq_false_iff, Bool.or_eq_true, Bool.or_eq_false_iff, Bool.not_eq_true', Bool.not_eq_false', decide_eq_true_eq, decide_eq_false_iff_not, beq_iff_eq, beq_eq_false_iff_ne, ne_eq, bne_iff_ne, Int.not_lt, Int.not_le] at h)))
      · first | refine acts2_U (hrt _ _ _ _) (by omega) rfl rfl ?_ | refine acts2_T (hrt _ _ _ _) (by omega) rfl rfl ?_ | refine acts2_N (hrt _ _ _ _) (by omega) rfl rfl ?_ | refine acts2_of (hrt _ _ _ _) (by omega) rfl rfl ?_
        rintro _ _ _ ⟨t2', rfl, rfl⟩
        simp (disch := first | omega | (simp only [List.length_cons, List.length_nil]; first | done | omega)) only [go_sem, Nat.reduceAdd, Nat.reduceMul, Nat.reduceSub, Nat.reduceEqDiff, Nat.reduceLeDiff, Nat.reduceMod, Nat.reduceLT, Int.reduceToNat, Int.reduceAdd, Int.reduceSub, Int.reduceMul, Int.reduceNeg, Int.reduceLE, Int.reduceLT, Int.toNat_natCast, Int.cast_ofNat_Int, Int.reduceNe, Int.reduceEq, Int.reduceBEq, Int.reduceBNe, not_false_eq_true, ne_eq, Int.reduceTMod, Int.reduceTDiv, beq_self_eq_true, bne_self_eq_false, List.contains_cons, List.contains_nil, Nat.reduceBEq]
        exact hfin (reportB (restB b n) t) _ _ (hyes ⟨hP, by rw [hcan]; omega⟩) (leV.osl_sl _ _ _ _ _)
      · exact hfin (restB b n) _ _ (hno (by rw [hcan]; omega)) (leV.osl_sl _ _ _ _ _)
  | false =>
    obtain ⟨h0, h1⟩ := hgd rfl
    cases hP : pend b.pd
    · repeat' (first | (simp (disch := first | omega | (simp only [List.length_cons, List.length_nil]; first | done | omega)) only [go_sem, Nat.reduceAdd, Nat.reduceMul, Nat.reduceSub, Nat.reduceEqDiff, Nat.reduceLeDiff, Nat.reduceMod, Nat.reduceLT, Int.reduceToNat, Int.reduceAdd, Int.reduceSub, Int.reduceMul, Int.reduceNeg, Int.reduceLE, Int.reduceLT, Int.toNat_natCast, Int.cast_ofNat_Int, Int.reduceNe, Int.reduceEq, Int.reduceBEq, Int.reduceBNe, not_false_eq_true, ne_eq, Int.reduceTMod, Int.reduceTDiv, beq_self_eq_true, bne_self_eq_false, List.contains_cons, List.contains_nil, Nat.reduceBEq, hd0, h1]) | (refine allI (fun b => ?_)) | (refine allT (fun τ => ?_)) | (refine brP (fun h => ?_) (fun h => ?_) <;> (try simp only [Bool.and_eq_true, Bool.and_eq_false_iff, Bool.or_eq_true, Bool.or_eq_false_iff, Bool.not_eq_true', Bool.not_eq_false', decide_eq_true_eq, decide_eq_false_iff_not, beq_iff_eq, beq_eq_false_iff_ne, ne_eq, bne_iff_ne, Int.not_lt, Int.not_le] at h)))
      exact hfin (restB b n) _ _ (hno (by simp [hP])) (leV.osl_sl _ _ _ _ _)
    · repeat' (first | (simp (disch := first | omega | (simp only [List.length_cons, List.length_nil]; first | done | omega)) only [go_sem, Nat.reduceAdd, Nat.reduceMul, Nat.reduceSub, Nat.reduceEqDiff, Nat.reduceLeDiff, Nat.reduceMod, Nat.reduceLT, Int.reduceToNat, Int.reduceAdd, Int.reduceSub, Int.reduceMul, Int.reduceNeg, Int.reduceLE, Int.reduceLT, Int.toNat_natCast, Int.cast_ofNat_Int, Int.reduceNe, Int.reduceEq, Int.reduceBEq, Int.reduceBNe, not_false_eq_true, ne_eq, Int.reduceTMod, Int.reduceTDiv, beq_self_eq_true, bne_self_eq_false, List.contains_cons, List.contains_nil, Nat.reduceBEq, hd0, h1]) | (refine allI (fun b => ?_)) | (refine allT (fun τ => ?_)) | (refine brP (fun h => ?_) (fun h => ?_) <;> (try simp only [Bool.and_eq_true, Bool.and_eq_false_iff, Bool.or_eq_true, Bool.or_eq_false_iff, Bool.not_eq_true', Bool.not_eq_false', decide_eq_true_eq, decide_eq_false_iff_not, beq_iff_eq, beq_eq_false_iff_ne, ne_eq, bne_iff_ne, Int.not_lt, Int.not_le] at h)))
      refine ⟨fun h => ⟨h, by omega⟩, fun h => ⟨h, by simp; omega⟩, ?_⟩
      repeat' (first | (simp (disch := first | omega | (simp only [List.length_cons, List.length_nil]; first | done | omega)) only [go_sem, Nat.reduceAdd, Nat.reduceMul, Nat.reduceSub, Nat.reduceEqDiff, Nat.reduceLeDiff, Nat.reduceMod, Nat.reduceLT, Int.reduceToNat, Int.reduceAdd, Int.reduceSub, Int.reduceMul, Int.reduceNeg, Int.reduceLE, Int.reduceLT, Int.toNat_natCast, Int.cast_ofNat_Int, Int.reduceNe, Int.reduceEq, Int.reduceBEq, Int.reduceBNe, not_false_eq_true, ne_eq, Int.reduceTMod, Int.reduceTDiv, beq_self_eq_true, bne_self_eq_false, List.contains_cons, List.contains_nil, Nat.reduceBEq]) | (refine allI (fun b => ?_)) | (refine allT (fun τ => ?_)) | (refine brP (fun h => ?_) (fun h => ?_) <;> (try simp only [Bool.and_eq_true, Bool.and_eq_false_iff, Bool.or_eq_true, Bool.or_eq_false_iff, Bool.not_eq_true', Bool.not_eq_false', decide_eq_true_eq, decide_eq_false_iff_not, beq_iff_eq, beq_eq_false_iff_ne, ne_eq, bne_iff_ne, Int.not_lt, Int.not_le] at h)))
      · first | refine acts2_U (hrt _ _ _ _) (by omega) rfl rfl ?_ | refine acts2_T (hrt _ _ _ _) (by omega) rfl rfl ?_ | refine acts2_N (hrt _ _ _ _) (by omega) rfl rfl ?_ | refine acts2_of (hrt _ _ _ _) (by omega) rfl rfl ?_
        rintro _ _ _ ⟨t2', rfl, rfl⟩
        simp (disch := first | omega | (simp only [List.length_cons, List.length_nil]; first | done | omega)) only [go_sem, Nat.reduceAdd, Nat.reduceMul, Nat.reduceSub, Nat.reduceEqDiff, Nat.reduceLeDiff, Nat.reduceMod, Nat.reduceLT, Int.reduceToNat, Int.reduceAdd, Int.reduceSub, Int.reduceMul, Int.reduceNeg, Int.reduceLE, Int.reduceLT, Int.toNat_natCast, Int.cast_ofNat_Int, Int.reduceNe, Int.reduceEq, Int.reduceBEq, Int.reduceBNe, not_false_eq_true, ne_eq, Int.reduceTMod, Int.reduceTDiv, beq_self_eq_true, bne_self_eq_false, List.contains_cons, List.contains_nil, Nat.reduceBEq]
        exact hfin (reportB (restB b n) t) _ _ (hyes ⟨hP, by rw [hcan]; omega⟩) (leV.osl_sl _ _ _ _ _)
      · exact hfin (restB b n) _ _ (hno (by rw [hcan]; omega)) (leV.osl_sl _ _ _ _ _)
end Go.Proofs.Ytofpepjehiohcaa
