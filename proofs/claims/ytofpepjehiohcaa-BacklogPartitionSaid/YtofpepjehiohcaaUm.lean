/- Layer 20: the reference: settings, copies. -/
import Derived.Test.YtofpepjehiohcaaUk
namespace Go.Proofs.Ytofpepjehiohcaa
open Go Go.Lx
set_option linter.unusedSimpArgs false
set_option linter.unusedVariables false
set_option maxRecDepth 100000
set_option maxHeartbeats 1000000

theorem rset (l r f : Int) : Pure Try.prog gl 34 [.int .i64 l, .int .i64 r, .int .i64 f] (.bool (setOk l r f)) := by
  refine fn_pureT Try.func34 t34 Try.ntmps34 (by simp) ?_
  unfold c34 r34
  simp (disch := first | omega | (simp only [List.length_cons, List.length_nil]; first | done | omega)) only [go_sem, Nat.reduceAdd, Nat.reduceMul, Nat.reduceSub, Nat.reduceEqDiff, Nat.reduceLeDiff, Nat.reduceMod, Nat.reduceLT, Int.reduceToNat, Int.reduceAdd, Int.reduceSub, Int.reduceMul, Int.reduceNeg, Int.reduceLE, Int.reduceLT, Int.toNat_natCast, Int.cast_ofNat_Int, Int.reduceNe, Int.reduceEq, Int.reduceBEq, Int.reduceBNe, not_false_eq_true, ne_eq, Int.reduceTMod, Int.reduceTDiv, beq_self_eq_true, bne_self_eq_false, List.contains_cons, List.contains_nil, Nat.reduceBEq]
  simp only [setOk, Bool.decide_and, Bool.and_assoc, ge_iff_le]
theorem rpend (b : Bl) (o q n : LV) : Pure Try.prog gl 36 [.agg (BlC b o q n)] (.bool (pend b.pd)) := by
  refine fn_pureT Try.func36 t36 Try.ntmps36 (by simp) ?_
  unfold c36 r36 BlC
  simp (disch := first | omega | (simp only [List.length_cons, List.length_nil]; first | done | omega)) only [go_sem, Nat.reduceAdd, Nat.reduceMul, Nat.reduceSub, Nat.reduceEqDiff, Nat.reduceLeDiff, Nat.reduceMod, Nat.reduceLT, Int.reduceToNat, Int.reduceAdd, Int.reduceSub, Int.reduceMul, Int.reduceNeg, Int.reduceLE, Int.reduceLT, Int.toNat_natCast, Int.cast_ofNat_Int, Int.reduceNe, Int.reduceEq, Int.reduceBEq, Int.reduceBNe, not_false_eq_true, ne_eq, Int.reduceTMod, Int.reduceTDiv, beq_self_eq_true, bne_self_eq_false, List.contains_cons, List.contains_nil, Nat.reduceBEq]
  rfl
theorem rnew (l r f : Int) : Pure Try.prog gl 13 [.int .i64 l, .int .i64 r, .int .i64 f] (.tup [BlL (confB bl0 l r f), .int .i64 (confE l r f)]) := by
  refine fn_pureT Try.func13 t13 Try.ntmps13 (by simp) ?_
  have hs := rset l r f
  rw [show BlL (confB bl0 l r f) = .agg (BlC (confB bl0 l r f) (InS (confB bl0 l r f).op) (RcS (confB bl0 l r f).qu) (NoS (confB bl0 l r f).no)) from rfl]
  generalize hB : confB bl0 l r f = B
  unfold c13 r13
  simp (disch := first | omega | (simp only [List.length_cons, List.length_nil]; first | done | omega)) only [go_sem, Nat.reduceAdd, Nat.reduceMul, Nat.reduceSub, Nat.reduceEqDiff, Nat.reduceLeDiff, Nat.reduceMod, Nat.reduceLT, Int.reduceToNat, Int.reduceAdd, Int.reduceSub, Int.reduceMul, Int.reduceNeg, Int.reduceLE, Int.reduceLT, Int.toNat_natCast, Int.cast_ofNat_Int, Int.reduceNe, Int.reduceEq, Int.reduceBEq, Int.reduceBNe, not_false_eq_true, ne_eq, Int.reduceTMod, Int.reduceTDiv, beq_self_eq_true, bne_self_eq_false, List.contains_cons, List.contains_nil, Nat.reduceBEq]
  intro b6
  first | refine call_U (hs) ?_ | refine call_T (hs) ?_ | refine call_N (hs) ?_ | refine call_of (hs) ?_
  cases h0 : setOk l r f
  · repeat' (first | (simp (disch := first | omega | (simp only [List.length_cons, List.length_nil]; first | done | omega)) only [go_sem, Nat.reduceAdd, Nat.reduceMul, Nat.reduceSub, Nat.reduceEqDiff, Nat.reduceLeDiff, Nat.reduceMod, Nat.reduceLT, Int.reduceToNat, Int.reduceAdd, Int.reduceSub, Int.reduceMul, Int.reduceNeg, Int.reduceLE, Int.reduceLT, Int.toNat_natCast, Int.cast_ofNat_Int, Int.reduceNe, Int.reduceEq, Int.reduceBEq, Int.reduceBNe, not_false_eq_true, ne_eq, Int.reduceTMod, Int.reduceTDiv, beq_self_eq_true, bne_self_eq_false, List.contains_cons, List.contains_nil, Nat.reduceBEq, Bool.not_false]) | (refine allI (fun b => ?_)) | (refine allT (fun τ => ?_)) | (refine brP (fun h => ?_) (fun h => ?_) <;> (try simp only [Bool.and_eq_true, Bool.and_eq_false_iff, Bool.or_eq_true, Bool.or_eq_false_iff, Bool.not_eq_true', Bool.not_eq_false', decide_eq_true_eq, decide_eq_false_iff_not, beq_iff_eq, beq_eq_false_iff_ne, ne_eq, bne_iff_ne, Int.not_lt, Int.not_le] at h)))
    rw [confB, h0] at hB
    rw [confE, h0]
    subst hB
    exact leV.tup ⟨leV.agg bl0_le, leV.refl _, trivial⟩
  · repeat' (first | (simp (disch := first | omega | (simp only [List.length_cons, List.length_nil]; first | done | omega)) only [go_sem, Nat.reduceAdd, Nat.reduceMul, Nat.reduceSub, Nat.reduceEqDiff, Nat.reduceLeDiff, Nat.reduceMod, Nat.reduceLT, Int.reduceToNat, Int.reduceAdd, Int.reduceSub, Int.reduceMul, Int.reduceNeg, Int.reduceLE, Int.reduceLT, Int.toNat_natCast, Int.cast_ofNat_Int, Int.reduceNe, Int.reduceEq, Int.reduceBEq, Int.reduceBNe, not_false_eq_true, ne_eq, Int.reduceTMod, Int.reduceTDiv, beq_self_eq_true, bne_self_eq_false, List.contains_cons, List.contains_nil, Nat.reduceBEq, Bool.not_true]) | (refine allI (fun b => ?_)) | (refine allT (fun τ => ?_)) | (refine brP (fun h => ?_) (fun h => ?_) <;> (try simp only [Bool.and_eq_true, Bool.and_eq_false_iff, Bool.or_eq_true, Bool.or_eq_false_iff, Bool.not_eq_true', Bool.not_eq_false', decide_eq_true_eq, decide_eq_false_iff_not, beq_iff_eq, beq_eq_false_iff_ne, ne_eq, bne_iff_ne, Int.not_lt, Int.not_le] at h)))
    rw [confB, h0] at hB
    rw [confE, h0]
    subst hB
    exact leV.tup ⟨leV.agg ⟨leV.refl _, leV.refl _, leV.refl _, leV.refl _, leV.refl _, leV.nil_sl _ _, leV.nil_sl _ _, leV.refl _, leV.refl _, leV.refl _, leV.refl _, leV.refl _, leV.refl _, leV.refl _, leV.refl _, leV.refl _, leV.nil_sl _ _, trivial⟩, leV.refl _, trivial⟩
/-- a backlog, with its three lists as they may be appended to -/
def BlT (b : Bl) (t1 t2 t3 : Tok) : LV := .agg (BlC b (.osl 2001 t1 1 b.op.length (b.op.map (LV.int .i64))) (.osl 2002 t2 4 b.qu.length (b.qu.flatMap RcC)) (.osl 2003 t3 2 b.no.length (b.no.flatMap NoC)))
def BlTH (t1 t2 t3 : Tok) : Heap := [(2002, .tok t2), (2003, .tok t3), (2001, .tok t1)]
def Cr (b : Bl) (r : LV) (H : Heap) : Prop := ∃ t1 t2 t3, r = BlT b t1 t2 t3 ∧ H = BlTH t1 t2 t3
theorem leVH.named {x r : LV} {H H2 H' : Heap} (h : leV x r) (hs : H2.Sublist H) (hn : H2.map Prod.snd = H'.map Prod.snd) : leVH gl x H r H' := fun w0 M HF w v hI hv =>
  ⟨M, MLe.refl M, h M v hv, (hI.sub (hs.append_right HF)).names (by simp [hn])⟩
theorem rcopy (b : Bl) (hb : okB b) : LCalls Try.prog gl 35 [BlL b] [] (Cr b) := by
  refine fn_viewT Try.func35 t35 Try.ntmps35 (by simp) ?_
  obtain ⟨h1, ⟨h2, h2'⟩, h3⟩ := hb
  have hlen := len_rc b.qu
  unfold c35 r35 BlL BlC InS RcS NoS
  simp (disch := first | omega | (simp only [List.length_cons, List.length_nil]; first | done | omega)) only [go_sem, Nat.reduceAdd, Nat.reduceMul, Nat.reduceSub, Nat.reduceEqDiff, Nat.reduceLeDiff, Nat.reduceMod, Nat.reduceLT, Int.reduceToNat, Int.reduceAdd, Int.reduceSub, Int.reduceMul, Int.reduceNeg, Int.reduceLE, Int.reduceLT, Int.toNat_natCast, Int.cast_ofNat_Int, Int.reduceNe, Int.reduceEq, Int.reduceBEq, Int.reduceBNe, not_false_eq_true, ne_eq, Int.reduceTMod, Int.reduceTDiv, beq_self_eq_true, bne_self_eq_false, List.contains_cons, List.contains_nil, Nat.reduceBEq]
  intro p1 p2
  refine ⟨by simp only [roomy]; omega, fun t7 => ⟨by simp only [roomy]; omega, fun t11 => ?_⟩⟩
  refine loopI (ι := Nat × Tok) (fun x => x.1 ≤ b.qu.length) (fun x => [(4, .int .i64 x.1), (3, .osl 34 x.2 4 x.1 ((b.qu.take x.1).flatMap RcC)), (2, .ptr 2 p2 0), (1, .ptr 1 p1 0)]) (fun x => (34, .tok x.2) :: _) (fun x => b.qu.length - x.1) (0, ⟨0, 0, 0⟩) (by dsimp only; omega) (Ents.dummyE 34 (by simp [go_sem, envLe, leV.nil_osl])) ?_
  rintro ⟨i, τ⟩ hi
  dsimp only at hi ⊢
  repeat' (first | (simp (disch := first | omega | (simp only [List.length_cons, List.length_nil]; first | done | omega)) only [go_sem, Nat.reduceAdd, Nat.reduceMul, Nat.reduceSub, Nat.reduceEqDiff, Nat.reduceLeDiff, Nat.reduceMod, Nat.reduceLT, Int.reduceToNat, Int.reduceAdd, Int.reduceSub, Int.reduceMul, Int.reduceNeg, Int.reduceLE, Int.reduceLT, Int.toNat_natCast, Int.cast_ofNat_Int, Int.reduceNe, Int.reduceEq, Int.reduceBEq, Int.reduceBNe, not_false_eq_true, ne_eq, Int.reduceTMod, Int.reduceTDiv, beq_self_eq_true, bne_self_eq_false, List.contains_cons, List.contains_nil, Nat.reduceBEq]) | (refine allI (fun b => ?_)) | (refine allT (fun τ => ?_)) | (refine brP (fun h => ?_) (fun h => ?_) <;> (try simp only [Bool.and_eq_true, Bool.and_eq_false_iff, Bool.or_eq_true, Bool.or_eq_false_iff, Bool.not_eq_true', Bool.not_eq_false', decide_eq_true_eq, decide_eq_false_iff_not, beq_iff_eq, beq_eq_false_iff_ne, ne_eq, bne_iff_ne, Int.not_lt, Int.not_le] at h)))
  · have hlt : i < b.qu.length := by omega
    have hps := h2' _ (show b.qu.getD i rc0 ∈ b.qu from getD_memA rc0 hlt)
    have hst := stamp [b.qu.getD i rc0] ⟨by simp, by simpa using hps⟩ (b.qu.getD i rc0).se
    have e1 : [b.qu.getD i rc0].map (stampR (b.qu.getD i rc0).se) = [b.qu.getD i rc0] := rfl
    have e2 : ((i : Int) + 1).toNat - i = 1 := by omega
    have e3 := getD_rows (f := RcC) (w := 4) (fun _ => rfl) (j := 2) (by omega) rc0 b.qu i hlt
    rw [e1] at hst
    unfold RcS at hst
    rw [List.flatMap_singleton] at hst
    rw [e2, take_rc b.qu hlt, e3]
    refine ⟨by omega, by omega, by omega, trivial, ?_⟩
    first | refine call_U (hst) ?_ | refine call_T (hst) ?_ | refine call_N (hst) ?_ | refine call_of (hst) ?_
    simp (disch := first | omega | (simp only [List.length_cons, List.length_nil]; first | done | omega)) only [go_sem, Nat.reduceAdd, Nat.reduceMul, Nat.reduceSub, Nat.reduceEqDiff, Nat.reduceLeDiff, Nat.reduceMod, Nat.reduceLT, Int.reduceToNat, Int.reduceAdd, Int.reduceSub, Int.reduceMul, Int.reduceNeg, Int.reduceLE, Int.reduceLT, Int.toNat_natCast, Int.cast_ofNat_Int, Int.reduceNe, Int.reduceEq, Int.reduceBEq, Int.reduceBNe, not_false_eq_true, ne_eq, Int.reduceTMod, Int.reduceTDiv, beq_self_eq_true, bne_self_eq_false, List.contains_cons, List.contains_nil, Nat.reduceBEq]
    refine ⟨by simp only [roomy]; omega, fun t2 => ⟨⟨(i + 1, t2), by dsimp only; omega⟩, by dsimp only; omega, Ents.envH ?_ rfl⟩⟩
    refine ⟨leV.refl _, leV.of_eq ?_, leV.refl _, leV.refl _, trivial⟩
    show LV.osl 34 t2 4 (i + 1) _ = _
    rw [take_succ_rc b.qu hlt, List.flatMap_append, List.flatMap_singleton]
  · obtain rfl : i = b.qu.length := by omega
    rw [List.take_length]
    refine ⟨BlT b t7 τ t11, BlTH t7 τ t11, leVH.named (H2 := [(34, .tok τ), (11, .tok t11), (7, .tok t7)]) (leV.agg ?_) (List.Sublist.cons_cons _ (List.Sublist.cons_cons _ sub1)) rfl, t7, τ, t11, rfl, rfl⟩
    exact ⟨leV.refl _, leV.refl _, leV.refl _, leV.refl _, leV.refl _, leV.osl_name _ 2001 _ _ _ _, leV.osl_name _ 2002 _ _ _ _, leV.refl _, leV.refl _, leV.refl _, leV.refl _, leV.refl _, leV.refl _, leV.refl _, leV.refl _, leV.refl _, leV.osl_name _ 2003 _ _ _ _, trivial⟩
/-- seen as lists that do not change -/
theorem BlT_le (b : Bl) (t1 t2 t3 : Tok) : leVs (BlC b (.osl 2001 t1 1 b.op.length (b.op.map (LV.int .i64))) (.osl 2002 t2 4 b.qu.length (b.qu.flatMap RcC)) (.osl 2003 t3 2 b.no.length (b.no.flatMap NoC))) (BlC b (InS b.op) (RcS b.qu) (NoS b.no)) :=
  ⟨leV.refl _, leV.refl _, leV.refl _, leV.refl _, leV.refl _, leV.osl_sl _ _ _ _ _, leV.osl_sl _ _ _ _ _, leV.refl _, leV.refl _, leV.refl _, leV.refl _, leV.refl _, leV.refl _, leV.refl _, leV.refl _, leV.refl _, leV.osl_sl _ _ _ _ _, trivial⟩
theorem rconf (b : Bl) (hb : okB b) (l r f : Int) : Pure Try.prog gl 17 [BlL b, .int .i64 l, .int .i64 r, .int .i64 f] (.tup [BlL (confB b l r f), .int .i64 (confE l r f)]) := by
  refine fn_viewT Try.func17 t17 Try.ntmps17 (by simp) ?_
  have hs := rset l r f
  have hc := rcopy b hb
  rw [show BlL (confB b l r f) = .agg (BlC (confB b l r f) (InS (confB b l r f).op) (RcS (confB b l r f).qu) (NoS (confB b l r f).no)) from rfl]
  generalize hB : confB b l r f = B
  unfold BlL BlC InS RcS NoS at hc
  unfold c17 r17 BlL BlC InS RcS NoS
  simp (disch := first | omega | (simp only [List.length_cons, List.length_nil]; first | done | omega)) only [go_sem, Nat.reduceAdd, Nat.reduceMul, Nat.reduceSub, Nat.reduceEqDiff, Nat.reduceLeDiff, Nat.reduceMod, Nat.reduceLT, Int.reduceToNat, Int.reduceAdd, Int.reduceSub, Int.reduceMul, Int.reduceNeg, Int.reduceLE, Int.reduceLT, Int.toNat_natCast, Int.cast_ofNat_Int, Int.reduceNe, Int.reduceEq, Int.reduceBEq, Int.reduceBNe, not_false_eq_true, ne_eq, Int.reduceTMod, Int.reduceTDiv, beq_self_eq_true, bne_self_eq_false, List.contains_cons, List.contains_nil, Nat.reduceBEq]
  intro p4 p8
  first | refine call_U (hs) ?_ | refine call_T (hs) ?_ | refine call_N (hs) ?_ | refine call_of (hs) ?_
  cases h0 : setOk l r f
  · repeat' (first | (simp (disch := first | omega | (simp only [List.length_cons, List.length_nil]; first | done | omega)) only [go_sem, Nat.reduceAdd, Nat.reduceMul, Nat.reduceSub, Nat.reduceEqDiff, Nat.reduceLeDiff, Nat.reduceMod, Nat.reduceLT, Int.reduceToNat, Int.reduceAdd, Int.reduceSub, Int.reduceMul, Int.reduceNeg, Int.reduceLE, Int.reduceLT, Int.toNat_natCast, Int.cast_ofNat_Int, Int.reduceNe, Int.reduceEq, Int.reduceBEq, Int.reduceBNe, not_false_eq_true, ne_eq, Int.reduceTMod, Int.reduceTDiv, beq_self_eq_true, bne_self_eq_false, List.contains_cons, List.contains_nil, Nat.reduceBEq, Bool.not_false]) | (refine allI (fun b => ?_)) | (refine allT (fun τ => ?_)) | (refine brP (fun h => ?_) (fun h => ?_) <;> (try simp only [Bool.and_eq_true, Bool.and_eq_false_iff, Bool.or_eq_true, Bool.or_eq_false_iff, Bool.not_eq_true', Bool.not_eq_false', decide_eq_true_eq, decide_eq_false_iff_not, beq_iff_eq, beq_eq_false_iff_ne, ne_eq, bne_iff_ne, Int.not_lt, Int.not_le] at h)))
    rw [confB, h0] at hB
    rw [confE, h0]
    subst hB
    exact view_sub (leV.tup ⟨leV.agg bl0_le, leV.refl _, trivial⟩) (List.nil_sublist _)
  · repeat' (first | (simp (disch := first | omega | (simp only [List.length_cons, List.length_nil]; first | done | omega)) only [go_sem, Nat.reduceAdd, Nat.reduceMul, Nat.reduceSub, Nat.reduceEqDiff, Nat.reduceLeDiff, Nat.reduceMod, Nat.reduceLT, Int.reduceToNat, Int.reduceAdd, Int.reduceSub, Int.reduceMul, Int.reduceNeg, Int.reduceLE, Int.reduceLT, Int.toNat_natCast, Int.cast_ofNat_Int, Int.reduceNe, Int.reduceEq, Int.reduceBEq, Int.reduceBNe, not_false_eq_true, ne_eq, Int.reduceTMod, Int.reduceTDiv, beq_self_eq_true, bne_self_eq_false, List.contains_cons, List.contains_nil, Nat.reduceBEq, Bool.not_true]) | (refine allI (fun b => ?_)) | (refine allT (fun τ => ?_)) | (refine brP (fun h => ?_) (fun h => ?_) <;> (try simp only [Bool.and_eq_true, Bool.and_eq_false_iff, Bool.or_eq_true, Bool.or_eq_false_iff, Bool.not_eq_true', Bool.not_eq_false', decide_eq_true_eq, decide_eq_false_iff_not, beq_iff_eq, beq_eq_false_iff_ne, ne_eq, bne_iff_ne, Int.not_lt, Int.not_le] at h)))
    rw [confB, h0] at hB
    rw [confE, h0]
    subst hB
    first | refine newsQ_U (hc) ?_ | refine newsQ_T (hc) ?_ | refine newsQ_of (hc) ?_
    rintro _ _ ⟨t1, t2, t3, rfl, rfl⟩
    unfold BlT BlTH BlC
    simp (disch := first | omega | (simp only [List.length_cons, List.length_nil]; first | done | omega)) only [go_sem, Nat.reduceAdd, Nat.reduceMul, Nat.reduceSub, Nat.reduceEqDiff, Nat.reduceLeDiff, Nat.reduceMod, Nat.reduceLT, Int.reduceToNat, Int.reduceAdd, Int.reduceSub, Int.reduceMul, Int.reduceNeg, Int.reduceLE, Int.reduceLT, Int.toNat_natCast, Int.cast_ofNat_Int, Int.reduceNe, Int.reduceEq, Int.reduceBEq, Int.reduceBNe, not_false_eq_true, ne_eq, Int.reduceTMod, Int.reduceTDiv, beq_self_eq_true, bne_self_eq_false, List.contains_cons, List.contains_nil, Nat.reduceBEq]
    intro p10
    exact view_sub (leV.tup ⟨leV.agg (BlT_le { b with lim := l, rate := r, fail := f } t1 t2 t3), leV.refl _, trivial⟩) (List.nil_sublist _)
theorem sameB (b : Bl) (hb : okB b) : Pure Try.prog gl 18 [BlL b, BlL b] (.bool true) := by
  refine fn_pureT Try.func18 t18 Try.ntmps18 (by simp) ?_
  obtain ⟨h1, h2, h3⟩ := hb
  have k1 := sameIs b.op h1
  have k2 := sameRs b.qu h2
  have k3 := sameNs b.no h3
  unfold InS at k1
  unfold RcS at k2
  unfold NoS at k3
  unfold c18 r18 BlL BlC InS RcS NoS
  simp (disch := first | omega | (simp only [List.length_cons, List.length_nil]; first | done | omega)) only [go_sem, Nat.reduceAdd, Nat.reduceMul, Nat.reduceSub, Nat.reduceEqDiff, Nat.reduceLeDiff, Nat.reduceMod, Nat.reduceLT, Int.reduceToNat, Int.reduceAdd, Int.reduceSub, Int.reduceMul, Int.reduceNeg, Int.reduceLE, Int.reduceLT, Int.toNat_natCast, Int.cast_ofNat_Int, Int.reduceNe, Int.reduceEq, Int.reduceBEq, Int.reduceBNe, not_false_eq_true, ne_eq, Int.reduceTMod, Int.reduceTDiv, beq_self_eq_true, bne_self_eq_false, List.contains_cons, List.contains_nil, Nat.reduceBEq, beq_self_eq_true]
  intro p2 p3
  first | refine callG_U (fun hg => k1) ?_ | refine callG_T (fun hg => k1) ?_ | refine callG_of (fun hg => k1) ?_
  simp (disch := first | omega | (simp only [List.length_cons, List.length_nil]; first | done | omega)) only [go_sem, Nat.reduceAdd, Nat.reduceMul, Nat.reduceSub, Nat.reduceEqDiff, Nat.reduceLeDiff, Nat.reduceMod, Nat.reduceLT, Int.reduceToNat, Int.reduceAdd, Int.reduceSub, Int.reduceMul, Int.reduceNeg, Int.reduceLE, Int.reduceLT, Int.toNat_natCast, Int.cast_ofNat_Int, Int.reduceNe, Int.reduceEq, Int.reduceBEq, Int.reduceBNe, not_false_eq_true, ne_eq, Int.reduceTMod, Int.reduceTDiv, beq_self_eq_true, bne_self_eq_false, List.contains_cons, List.contains_nil, Nat.reduceBEq, beq_self_eq_true]
  first | refine callG_U (fun hg => k2) ?_ | refine callG_T (fun hg => k2) ?_ | refine callG_of (fun hg => k2) ?_
  simp (disch := first | omega | (simp only [List.length_cons, List.length_nil]; first | done | omega)) only [go_sem, Nat.reduceAdd, Nat.reduceMul, Nat.reduceSub, Nat.reduceEqDiff, Nat.reduceLeDiff, Nat.reduceMod, Nat.reduceLT, Int.reduceToNat, Int.reduceAdd, Int.reduceSub, Int.reduceMul, Int.reduceNeg, Int.reduceLE, Int.reduceLT, Int.toNat_natCast, Int.cast_ofNat_Int, Int.reduceNe, Int.reduceEq, Int.reduceBEq, Int.reduceBNe, not_false_eq_true, ne_eq, Int.reduceTMod, Int.reduceTDiv, beq_self_eq_true, bne_self_eq_false, List.contains_cons, List.contains_nil, Nat.reduceBEq, beq_self_eq_true, Bool.and_self]
  first | refine callG_U (fun hg => k3) ?_ | refine callG_T (fun hg => k3) ?_ | refine callG_of (fun hg => k3) ?_
  simp (disch := first | omega | (simp only [List.length_cons, List.length_nil]; first | done | omega)) only [go_sem, Nat.reduceAdd, Nat.reduceMul, Nat.reduceSub, Nat.reduceEqDiff, Nat.reduceLeDiff, Nat.reduceMod, Nat.reduceLT, Int.reduceToNat, Int.reduceAdd, Int.reduceSub, Int.reduceMul, Int.reduceNeg, Int.reduceLE, Int.reduceLT, Int.toNat_natCast, Int.cast_ofNat_Int, Int.reduceNe, Int.reduceEq, Int.reduceBEq, Int.reduceBNe, not_false_eq_true, ne_eq, Int.reduceTMod, Int.reduceTDiv, beq_self_eq_true, bne_self_eq_false, List.contains_cons, List.contains_nil, Nat.reduceBEq]
end Go.Proofs.Ytofpepjehiohcaa
