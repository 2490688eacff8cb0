/- Layer 20: backlog: rates. -/
import Derived.Test.YtofpepjehiohcaaUi
import Derived.Test.YtofpepjehiohcaaMake
namespace Go.Proofs.Ytofpepjehiohcaa
open Go Go.Lx
set_option linter.unusedSimpArgs false
set_option linter.unusedVariables false
set_option maxRecDepth 100000
set_option maxHeartbeats 1000000

/-- what holds at the head of the loop -/
structure RI (m tm us : Int) (b : Bl) : Prop where
  lim : b.lim = 64
  rate : b.rate = m
  fail : b.fail = 2
  op : b.op = []
  res : b.res = 0
  pd : b.pd = lo0
  qu : b.qu.length ≤ 1
  usn : 0 ≤ us
  win : (b.win = tm.tdiv 1000 ∧ b.used = us) ∨ (b.win < tm.tdiv 1000 ∧ us = 0)
theorem RI.pendF {m tm us : Int} {b : Bl} (h : RI m tm us b) : pend b.pd = false := by rw [h.pd]; rfl
theorem RI.refuseV {m tm us : Int} {b : Bl} (h : RI m tm us b) (hm : 1 ≤ m) : refuse b (b.ser + 1) tm 1 = if us < m then 0 else 1 := by
  obtain ⟨h1, h2, h3, h4, h5, h6, h7, h8, h9⟩ := h
  have e2 : ¬ (b.lim < b.qu.length + b.res + 1 + (if pend b.pd then 1 else 0)) := by
    rw [h6, show pend lo0 = false from rfl]; simp only [Bool.false_eq_true, if_false]; omega
  have e3 : ¬ (0 < b.op.length ∧ 64 ≤ b.ser + 1 - b.op.getD 0 0) := by rw [h4]; simp
  unfold refuse
  rw [if_neg e2, if_neg e3]
  by_cases hu : us < m
  · rw [if_pos hu, if_neg]; omega
  · rw [if_neg hu, if_pos]; omega
/-- one round: an offer, the record that is put, what is taken -/
def roundB (b : Bl) (t : Int) : Bl :=
  let o := offB b t 1
  takeB (if o.2.2 then putB o.1 ⟨1005, t, o.2.1, []⟩ true else o.1) t 64
theorem RI.off {m tm us : Int} {b : Bl} (h : RI m tm us b) (hm : 1 ≤ m) (ht : 0 ≤ tm ∧ tm ≤ 1000000) (hs : b.ser ≤ 1000000) : offB b tm 1 = if us < m then (accB b (b.ser + 1) tm 1, b.ser + 1, true) else (loseB b 1 tm, b.ser + 1, false) := by
  unfold offB
  rw [if_neg (by omega)]
  simp only [h.pendF, Bool.false_eq_true, if_false, Int.add_zero]
  rw [h.refuseV hm]
  by_cases hu : us < m
  · rw [if_pos hu, if_pos hu, if_neg (by simp)]
  · rw [if_neg hu, if_neg hu, if_pos (by simp)]
theorem RI.round {m tm us : Int} {b : Bl} (h : RI m tm us b) (hm : 1 ≤ m) (ht : 0 ≤ tm ∧ tm ≤ 1000000) (hs : b.ser ≤ 1000000) : RI m tm (if us < m then us + 1 else us) (roundB b tm) := by
  have ho := h.off hm ht hs
  obtain ⟨h1, h2, h3, h4, h5, h6, h7, h8, h9⟩ := h
  unfold roundB
  by_cases hu : us < m
  · rw [ho, if_pos hu, if_pos hu]
    simp only [if_true]
    have hn : takeN (putB (accB b (b.ser + 1) tm 1) ⟨1005, tm, b.ser + 1, []⟩ true) 64 = b.qu.length + 1 := by
      simp only [takeN, putB, accB, List.length_append, List.length_cons, List.length_nil]; omega
    have hP : pend (putB (accB b (b.ser + 1) tm 1) ⟨1005, tm, b.ser + 1, []⟩ true).pd = false := by
      show pend b.pd = false
      rw [h6]; rfl
    rw [takeB, if_neg (by rw [hP]; simp), restB, hn]
    refine ⟨h1, h2, h3, ?_, ?_, h6, ?_, by omega, ?_⟩
    · simp [putB, accB, h4, del1, idxF]
    · simp only [putB, accB, h5]; omega
    · simp [putB, accB]
    · left
      simp only [putB, accB]
      rcases h9 with ⟨e1, e2⟩ | ⟨e1, e2⟩
      · rw [if_pos e1.symm, if_pos e1.symm]; exact ⟨e1, by omega⟩
      · rw [if_neg (by omega), if_neg (by omega)]; exact ⟨rfl, by omega⟩
  · rw [ho, if_neg hu, if_neg hu]
    simp only [Bool.false_eq_true, if_false]
    have hn : takeN (loseB b 1 tm) 64 = b.qu.length := by
      simp only [takeN, loseB]; omega
    have hP : pend (loseB b 1 tm).pd = true := by
      simp only [loseB, losePd, h6, pend, lo0, bump]; simp
    have hq : (restB (loseB b 1 tm) 64).qu = [] := by rw [restB, hn]; simp [loseB]
    have hc : canTell (restB (loseB b 1 tm) 64) tm := by
      unfold canTell
      rw [hq]
      simp only [restB, loseB, h4, h1, h5]
      simp; omega
    rw [takeB, if_pos ⟨hP, hc⟩]
    refine ⟨h1, h2, h3, h4, h5, rfl, ?_, h8, h9⟩
    simp [reportB, hq]
theorem ratesL (l : List Int) (hl : okS l 0) (rate : Int) (hr : 0 ≤ rate ∧ rate ≤ 255) : Pure Try.prog gl 8 [Ms l, .int .u8 rate] (.bool true) := by
  refine fn_pureT Try.func8 t8 Try.ntmps8 (by simp) ?_
  have hs := new_ l
  unfold Ms at hs
  unfold c8 r8 Ms
  simp (disch := first | omega | (simp only [List.length_cons, List.length_nil]; first | done | omega)) only [go_sem, Nat.reduceAdd, Nat.reduceMul, Nat.reduceSub, Nat.reduceEqDiff, Nat.reduceLeDiff, Nat.reduceMod, Nat.reduceLT, Int.reduceToNat, Int.reduceAdd, Int.reduceSub, Int.reduceMul, Int.reduceNeg, Int.reduceLE, Int.reduceLT, Int.toNat_natCast, Int.cast_ofNat_Int, Int.reduceNe, Int.reduceEq, Int.reduceBEq, Int.reduceBNe, not_false_eq_true, ne_eq, Int.reduceTMod, Int.reduceTDiv, beq_self_eq_true, bne_self_eq_false, List.contains_cons, List.contains_nil, Nat.reduceBEq]
  first | refine newsE_U (hs) ?_ | refine newsE_T (hs) ?_ | refine newsE_of (hs) ?_
  rintro _ _ ⟨sb, rfl, rfl⟩
  have hmod : rate.tmod 6 = rate % 6 := Int.tmod_eq_emod_of_nonneg hr.1
  have hw : IntKind.i64.wrap (rate % 6) = rate % 6 := wrap_i64 (by omega) (by omega)
  have hn := new 64 (1 + rate % 6) 2
  have hB0 : confB bl0 64 (1 + rate % 6) 2 = { bl0 with lim := 64, rate := 1 + rate % 6, fail := 2 } := by
    rw [confB, if_pos]; simp only [setOk, decide_eq_true_eq]; omega
  have hk0 := (okK.zero 0 (by omega)).conf 64 (1 + rate % 6) 2
  have hRI : RI (1 + rate % 6) 0 0 (confB bl0 64 (1 + rate % 6) 2) := by
    rw [hB0]; exact ⟨rfl, rfl, rfl, rfl, rfl, rfl, by simp [bl0], by omega, .inl ⟨rfl, rfl⟩⟩
  generalize confB bl0 64 (1 + rate % 6) 2 = B0 at hn hk0 hRI
  generalize hm : 1 + rate % 6 = m at hn hRI
  have hm1 : 1 ≤ m ∧ m ≤ 6 := by omega
  unfold BlL BlC InS RcS NoS at hn
  simp (disch := first | omega | (simp only [List.length_cons, List.length_nil]; first | done | omega)) only [go_sem, Nat.reduceAdd, Nat.reduceMul, Nat.reduceSub, Nat.reduceEqDiff, Nat.reduceLeDiff, Nat.reduceMod, Nat.reduceLT, Int.reduceToNat, Int.reduceAdd, Int.reduceSub, Int.reduceMul, Int.reduceNeg, Int.reduceLE, Int.reduceLT, Int.toNat_natCast, Int.cast_ofNat_Int, Int.reduceNe, Int.reduceEq, Int.reduceBEq, Int.reduceBNe, not_false_eq_true, ne_eq, Int.reduceTMod, Int.reduceTDiv, beq_self_eq_true, bne_self_eq_false, List.contains_cons, List.contains_nil, Nat.reduceBEq, hmod, hm]
  first | refine call_U (hn) ?_ | refine call_T (hn) ?_ | refine call_N (hn) ?_ | refine call_of (hn) ?_
  simp (disch := first | omega | (simp only [List.length_cons, List.length_nil]; first | done | omega)) only [go_sem, Nat.reduceAdd, Nat.reduceMul, Nat.reduceSub, Nat.reduceEqDiff, Nat.reduceLeDiff, Nat.reduceMod, Nat.reduceLT, Int.reduceToNat, Int.reduceAdd, Int.reduceSub, Int.reduceMul, Int.reduceNeg, Int.reduceLE, Int.reduceLT, Int.toNat_natCast, Int.cast_ofNat_Int, Int.reduceNe, Int.reduceEq, Int.reduceBEq, Int.reduceBNe, not_false_eq_true, ne_eq, Int.reduceTMod, Int.reduceTDiv, beq_self_eq_true, bne_self_eq_false, List.contains_cons, List.contains_nil, Nat.reduceBEq]
  intro p7
  refine loopI (ι := Nat × Int × Int × Bl) (fun x => x.1 ≤ 30 ∧ RI m x.2.1 x.2.2.1 x.2.2.2 ∧ (0 ≤ x.2.1 ∧ x.2.1 ≤ 1000 * x.1) ∧ okK (3 * x.1) x.2.2.2) (fun x => [(11, .int .i64 x.1), (10, .int .i64 x.2.2.1), (9, .int .i64 x.2.1), (7, .ptr 7 p7 0), (6, .int .i64 m), (5, .ptr 3000 sb 0), (4, .bool false)])
    (fun x => [(7, .blk p7 (BlC x.2.2.2 (InS x.2.2.2.op) (RcS x.2.2.2.qu) (NoS x.2.2.2.no))), (3000, SB sb l x.1)]) (fun x => 30 - x.1) (0, 0, 0, B0) ⟨by omega, hRI, by dsimp only; omega, hk0⟩ (Ents.envH (by simp [go_sem]) rfl) ?_
  rintro ⟨i, tm, us, b⟩ ⟨h30, hI, htm, hk⟩
  dsimp only at h30 hI htm hk ⊢
  simp only [BlC, InS, RcS, NoS]
  repeat' (first | (simp (disch := first | omega | (simp only [List.length_cons, List.length_nil]; first | done | omega)) only [go_sem, Nat.reduceAdd, Nat.reduceMul, Nat.reduceSub, Nat.reduceEqDiff, Nat.reduceLeDiff, Nat.reduceMod, Nat.reduceLT, Int.reduceToNat, Int.reduceAdd, Int.reduceSub, Int.reduceMul, Int.reduceNeg, Int.reduceLE, Int.reduceLT, Int.toNat_natCast, Int.cast_ofNat_Int, Int.reduceNe, Int.reduceEq, Int.reduceBEq, Int.reduceBNe, not_false_eq_true, ne_eq, Int.reduceTMod, Int.reduceTDiv, beq_self_eq_true, bne_self_eq_false, List.contains_cons, List.contains_nil, Nat.reduceBEq]) | (refine allI (fun b => ?_)) | (refine allT (fun τ => ?_)) | (refine brP (fun h => ?_) (fun h => ?_) <;> (try simp only [Bool.and_eq_true, Bool.and_eq_false_iff, Bool.or_eq_true, Bool.or_eq_false_iff, Bool.not_eq_true', Bool.not_eq_false', decide_eq_true_eq, decide_eq_false_iff_not, beq_iff_eq, beq_eq_false_iff_ne, ne_eq, bne_iff_ne, Int.not_lt, Int.not_le] at h)))
  · have hpk := pick_ 3000 sb l i [0, 0, 1, 300, 999, 1000] ⟨hl.1, hl.2.1, by omega, by omega⟩ (by simp) (by simp)
    have hmem := pickV_mem l i [0, 0, 1, 300, 999, 1000] (by simp)
    generalize pickV l i [0, 0, 1, 300, 999, 1000] = st at hpk hmem
    have hst : 0 ≤ st ∧ st ≤ 1000 := by simp at hmem; omega
    first | refine actsE_U (hpk) (by simp (disch := first | omega | (simp only [List.length_cons, List.length_nil]; first | done | omega)) only [go_sem, Nat.reduceAdd, Nat.reduceMul, Nat.reduceSub, Nat.reduceEqDiff, Nat.reduceLeDiff, Nat.reduceMod, Nat.reduceLT, Int.reduceToNat, Int.reduceAdd, Int.reduceSub, Int.reduceMul, Int.reduceNeg, Int.reduceLE, Int.reduceLT, Int.toNat_natCast, Int.cast_ofNat_Int, Int.reduceNe, Int.reduceEq, Int.reduceBEq, Int.reduceBNe, not_false_eq_true, ne_eq, Int.reduceTMod, Int.reduceTDiv, beq_self_eq_true, bne_self_eq_false, List.contains_cons, List.contains_nil, Nat.reduceBEq]; try rfl) ?_ | refine actsE_T (hpk) (by simp (disch := first | omega | (simp only [List.length_cons, List.length_nil]; first | done | omega)) only [go_sem, Nat.reduceAdd, Nat.reduceMul, Nat.reduceSub, Nat.reduceEqDiff, Nat.reduceLeDiff, Nat.reduceMod, Nat.reduceLT, Int.reduceToNat, Int.reduceAdd, Int.reduceSub, Int.reduceMul, Int.reduceNeg, Int.reduceLE, Int.reduceLT, Int.toNat_natCast, Int.cast_ofNat_Int, Int.reduceNe, Int.reduceEq, Int.reduceBEq, Int.reduceBNe, not_false_eq_true, ne_eq, Int.reduceTMod, Int.reduceTDiv, beq_self_eq_true, bne_self_eq_false, List.contains_cons, List.contains_nil, Nat.reduceBEq]; try rfl) ?_ | refine actsE_N (hpk) (by simp (disch := first | omega | (simp only [List.length_cons, List.length_nil]; first | done | omega)) only [go_sem, Nat.reduceAdd, Nat.reduceMul, Nat.reduceSub, Nat.reduceEqDiff, Nat.reduceLeDiff, Nat.reduceMod, Nat.reduceLT, Int.reduceToNat, Int.reduceAdd, Int.reduceSub, Int.reduceMul, Int.reduceNeg, Int.reduceLE, Int.reduceLT, Int.toNat_natCast, Int.cast_ofNat_Int, Int.reduceNe, Int.reduceEq, Int.reduceBEq, Int.reduceBNe, not_false_eq_true, ne_eq, Int.reduceTMod, Int.reduceTDiv, beq_self_eq_true, bne_self_eq_false, List.contains_cons, List.contains_nil, Nat.reduceBEq]; try rfl) ?_ | refine actsE_of (hpk) (by simp (disch := first | omega | (simp only [List.length_cons, List.length_nil]; first | done | omega)) only [go_sem, Nat.reduceAdd, Nat.reduceMul, Nat.reduceSub, Nat.reduceEqDiff, Nat.reduceLeDiff, Nat.reduceMod, Nat.reduceLT, Int.reduceToNat, Int.reduceAdd, Int.reduceSub, Int.reduceMul, Int.reduceNeg, Int.reduceLE, Int.reduceLT, Int.toNat_natCast, Int.cast_ofNat_Int, Int.reduceNe, Int.reduceEq, Int.reduceBEq, Int.reduceBNe, not_false_eq_true, ne_eq, Int.reduceTMod, Int.reduceTDiv, beq_self_eq_true, bne_self_eq_false, List.contains_cons, List.contains_nil, Nat.reduceBEq]; try rfl) ?_
    rintro _ _ ⟨rfl, rfl⟩
    have e1 : IntKind.i64.wrap ((tm + st).tdiv 1000) = (tm + st).tdiv 1000 := by
      rw [Int.tdiv_eq_ediv_of_nonneg (by omega)]; exact wrap_i64 (by omega) (by omega)
    have e2 : IntKind.i64.wrap (tm.tdiv 1000) = tm.tdiv 1000 := by
      rw [Int.tdiv_eq_ediv_of_nonneg (by omega)]; exact wrap_i64 (by omega) (by omega)
    have hle : tm.tdiv 1000 ≤ (tm + st).tdiv 1000 := by
      rw [Int.tdiv_eq_ediv_of_nonneg (by omega), Int.tdiv_eq_ediv_of_nonneg (by omega)]; omega
    have hser := hk.ser
    have husn := hI.usn
    have ho := offer b (3 * i) hk (tm + st) 1
    have ho1 := hk.offer (by omega) (tm + st) 1
    repeat' (first | (simp (disch := first | omega | (simp only [List.length_cons, List.length_nil]; first | done | omega)) only [go_sem, Nat.reduceAdd, Nat.reduceMul, Nat.reduceSub, Nat.reduceEqDiff, Nat.reduceLeDiff, Nat.reduceMod, Nat.reduceLT, Int.reduceToNat, Int.reduceAdd, Int.reduceSub, Int.reduceMul, Int.reduceNeg, Int.reduceLE, Int.reduceLT, Int.toNat_natCast, Int.cast_ofNat_Int, Int.reduceNe, Int.reduceEq, Int.reduceBEq, Int.reduceBNe, not_false_eq_true, ne_eq, Int.reduceTMod, Int.reduceTDiv, beq_self_eq_true, bne_self_eq_false, List.contains_cons, List.contains_nil, Nat.reduceBEq, e1, e2]) | (refine allI (fun b => ?_)) | (refine allT (fun τ => ?_)) | (refine brP (fun h => ?_) (fun h => ?_) <;> (try simp only [Bool.and_eq_true, Bool.and_eq_false_iff, Bool.or_eq_true, Bool.or_eq_false_iff, Bool.not_eq_true', Bool.not_eq_false', decide_eq_true_eq, decide_eq_false_iff_not, beq_iff_eq, beq_eq_false_iff_ne, ne_eq, bne_iff_ne, Int.not_lt, Int.not_le] at h)))
    · have hI' : RI m (tm + st) 0 b := by
        obtain ⟨h1, h2, h3, h4, h5, h6, h7, h8, h9⟩ := hI
        refine ⟨h1, h2, h3, h4, h5, h6, h7, by omega, ?_⟩
        first
          | (have h' : ¬ (tm + st).tdiv 1000 = tm.tdiv 1000 := by simpa using h
             right; omega)
          | (have h' : (tm + st).tdiv 1000 = tm.tdiv 1000 := by simpa using h
             omega)
      have hof := hI'.off hm1.1 ⟨by omega, by omega⟩ (by omega)
      have hrd := hI'.round hm1.1 ⟨by omega, by omega⟩ (by omega)
      by_cases hu : 0 < m
      · have hd : decide (0 < m) = true := decide_eq_true hu
        rw [if_pos hu] at hof
        rw [hof] at ho ho1
        dsimp only at ho ho1
        have hpt := put _ _ ho1 ⟨1005, tm + st, b.ser + 1, []⟩ (by simp) true
        have hp1 := ho1.put (by omega) ⟨1005, tm + st, b.ser + 1, []⟩ (by simp) true
        have htk := takeR _ _ hp1 (tm + st) 64
        have ht1 := hp1.take (by omega) (tm + st) 64
        have er : roundB b (tm + st) = takeB (putB (accB b (b.ser + 1) (tm + st) 1) ⟨1005, tm + st, b.ser + 1, []⟩ true) (tm + st) 64 := by
          unfold roundB; rw [hof]; rfl
        rw [er] at hrd
        generalize takeB (putB (accB b (b.ser + 1) (tm + st) 1) ⟨1005, tm + st, b.ser + 1, []⟩ true) (tm + st) 64 = B3 at hrd htk ht1
        generalize putB (accB b (b.ser + 1) (tm + st) 1) ⟨1005, tm + st, b.ser + 1, []⟩ true = B2 at hpt htk
        generalize accB b (b.ser + 1) (tm + st) 1 = B1 at ho hpt
        unfold BlL BlC InS RcS NoS at ho hpt htk
        first | refine call_U (ho) ?_ | refine call_T (ho) ?_ | refine call_N (ho) ?_ | refine call_of (ho) ?_
        simp (disch := first | omega | (simp only [List.length_cons, List.length_nil]; first | done | omega)) only [go_sem, Nat.reduceAdd, Nat.reduceMul, Nat.reduceSub, Nat.reduceEqDiff, Nat.reduceLeDiff, Nat.reduceMod, Nat.reduceLT, Int.reduceToNat, Int.reduceAdd, Int.reduceSub, Int.reduceMul, Int.reduceNeg, Int.reduceLE, Int.reduceLT, Int.toNat_natCast, Int.cast_ofNat_Int, Int.reduceNe, Int.reduceEq, Int.reduceBEq, Int.reduceBNe, not_false_eq_true, ne_eq, Int.reduceTMod, Int.reduceTDiv, beq_self_eq_true, bne_self_eq_false, List.contains_cons, List.contains_nil, Nat.reduceBEq]
        intro p13
        repeat' (first | (simp (disch := first | omega | (simp only [List.length_cons, List.length_nil]; first | done | omega)) only [go_sem, Nat.reduceAdd, Nat.reduceMul, Nat.reduceSub, Nat.reduceEqDiff, Nat.reduceLeDiff, Nat.reduceMod, Nat.reduceLT, Int.reduceToNat, Int.reduceAdd, Int.reduceSub, Int.reduceMul, Int.reduceNeg, Int.reduceLE, Int.reduceLT, Int.toNat_natCast, Int.cast_ofNat_Int, Int.reduceNe, Int.reduceEq, Int.reduceBEq, Int.reduceBNe, not_false_eq_true, ne_eq, Int.reduceTMod, Int.reduceTDiv, beq_self_eq_true, bne_self_eq_false, List.contains_cons, List.contains_nil, Nat.reduceBEq, hd]) | (refine allI (fun b => ?_)) | (refine allT (fun τ => ?_)) | (refine brP (fun h => ?_) (fun h => ?_) <;> (try simp only [Bool.and_eq_true, Bool.and_eq_false_iff, Bool.or_eq_true, Bool.or_eq_false_iff, Bool.not_eq_true', Bool.not_eq_false', decide_eq_true_eq, decide_eq_false_iff_not, beq_iff_eq, beq_eq_false_iff_ne, ne_eq, bne_iff_ne, Int.not_lt, Int.not_le] at h)))
        have hpt' := LCalls.args hpt (args' := [_, .agg [.int .i64 1005, .int .i64 (tm + st), .int .i64 (b.ser + 1), .fsl 1 0 []], .bool true]) ⟨leV.refl _, leV.agg ⟨leV.refl _, leV.refl _, leV.refl _, leV.nil_sl _ _, trivial⟩, leV.refl _, trivial⟩
        first | refine call_U (hpt') ?_ | refine call_T (hpt') ?_ | refine call_N (hpt') ?_ | refine call_of (hpt') ?_
        simp (disch := first | omega | (simp only [List.length_cons, List.length_nil]; first | done | omega)) only [go_sem, Nat.reduceAdd, Nat.reduceMul, Nat.reduceSub, Nat.reduceEqDiff, Nat.reduceLeDiff, Nat.reduceMod, Nat.reduceLT, Int.reduceToNat, Int.reduceAdd, Int.reduceSub, Int.reduceMul, Int.reduceNeg, Int.reduceLE, Int.reduceLT, Int.toNat_natCast, Int.cast_ofNat_Int, Int.reduceNe, Int.reduceEq, Int.reduceBEq, Int.reduceBNe, not_false_eq_true, ne_eq, Int.reduceTMod, Int.reduceTDiv, beq_self_eq_true, bne_self_eq_false, List.contains_cons, List.contains_nil, Nat.reduceBEq]
        first | refine call_U (htk) ?_ | refine call_T (htk) ?_ | refine call_N (htk) ?_ | refine call_of (htk) ?_
        simp (disch := first | omega | (simp only [List.length_cons, List.length_nil]; first | done | omega)) only [go_sem, Nat.reduceAdd, Nat.reduceMul, Nat.reduceSub, Nat.reduceEqDiff, Nat.reduceLeDiff, Nat.reduceMod, Nat.reduceLT, Int.reduceToNat, Int.reduceAdd, Int.reduceSub, Int.reduceMul, Int.reduceNeg, Int.reduceLE, Int.reduceLT, Int.toNat_natCast, Int.cast_ofNat_Int, Int.reduceNe, Int.reduceEq, Int.reduceBEq, Int.reduceBNe, not_false_eq_true, ne_eq, Int.reduceTMod, Int.reduceTDiv, beq_self_eq_true, bne_self_eq_false, List.contains_cons, List.contains_nil, Nat.reduceBEq]
        rw [if_pos hu] at hrd
        exact ⟨⟨(i + 1, tm + st, 0 + 1, B3), by omega, hrd, by dsimp only; omega, by rw [show 3 * (i + 1) = 3 * i + 1 + 1 + 1 by omega]; exact ht1⟩, by dsimp only; omega, Ents.sub (by simp [go_sem]) ⟨_, List.Sublist.cons _ (List.Sublist.refl _), List.Perm.refl _⟩⟩
      · first
          | (exfalso; omega)
          | (have hd : decide (0 < m) = false := decide_eq_false hu
             rw [if_neg hu] at hof
             rw [hof] at ho ho1
             dsimp only at ho ho1
             have htk := takeR _ _ ho1 (tm + st) 64
             have ht1 := ho1.take (by omega) (tm + st) 64
             have er : roundB b (tm + st) = takeB (loseB b 1 (tm + st)) (tm + st) 64 := by (unfold roundB; rw [hof]; rfl)
             rw [er] at hrd
             generalize takeB (loseB b 1 (tm + st)) (tm + st) 64 = B3 at hrd htk ht1
             generalize loseB b 1 (tm + st) = B2 at ho htk
             unfold BlL BlC InS RcS NoS at ho htk
             first | refine call_U (ho) ?_ | refine call_T (ho) ?_ | refine call_N (ho) ?_ | refine call_of (ho) ?_
             simp (disch := first | omega | (simp only [List.length_cons, List.length_nil]; first | done | omega)) only [go_sem, Nat.reduceAdd, Nat.reduceMul, Nat.reduceSub, Nat.reduceEqDiff, Nat.reduceLeDiff, Nat.reduceMod, Nat.reduceLT, Int.reduceToNat, Int.reduceAdd, Int.reduceSub, Int.reduceMul, Int.reduceNeg, Int.reduceLE, Int.reduceLT, Int.toNat_natCast, Int.cast_ofNat_Int, Int.reduceNe, Int.reduceEq, Int.reduceBEq, Int.reduceBNe, not_false_eq_true, ne_eq, Int.reduceTMod, Int.reduceTDiv, beq_self_eq_true, bne_self_eq_false, List.contains_cons, List.contains_nil, Nat.reduceBEq]
             intro p13
             repeat' (first | (simp (disch := first | omega | (simp only [List.length_cons, List.length_nil]; first | done | omega)) only [go_sem, Nat.reduceAdd, Nat.reduceMul, Nat.reduceSub, Nat.reduceEqDiff, Nat.reduceLeDiff, Nat.reduceMod, Nat.reduceLT, Int.reduceToNat, Int.reduceAdd, Int.reduceSub, Int.reduceMul, Int.reduceNeg, Int.reduceLE, Int.reduceLT, Int.toNat_natCast, Int.cast_ofNat_Int, Int.reduceNe, Int.reduceEq, Int.reduceBEq, Int.reduceBNe, not_false_eq_true, ne_eq, Int.reduceTMod, Int.reduceTDiv, beq_self_eq_true, bne_self_eq_false, List.contains_cons, List.contains_nil, Nat.reduceBEq, hd]) | (refine allI (fun b => ?_)) | (refine allT (fun τ => ?_)) | (refine brP (fun h => ?_) (fun h => ?_) <;> (try simp only [Bool.and_eq_true, Bool.and_eq_false_iff, Bool.or_eq_true, Bool.or_eq_false_iff, Bool.not_eq_true', Bool.not_eq_false', decide_eq_true_eq, decide_eq_false_iff_not, beq_iff_eq, beq_eq_false_iff_ne, ne_eq, bne_iff_ne, Int.not_lt, Int.not_le] at h)))
             first | refine call_U (htk) ?_ | refine call_T (htk) ?_ | refine call_N (htk) ?_ | refine call_of (htk) ?_
             simp (disch := first | omega | (simp only [List.length_cons, List.length_nil]; first | done | omega)) only [go_sem, Nat.reduceAdd, Nat.reduceMul, Nat.reduceSub, Nat.reduceEqDiff, Nat.reduceLeDiff, Nat.reduceMod, Nat.reduceLT, Int.reduceToNat, Int.reduceAdd, Int.reduceSub, Int.reduceMul, Int.reduceNeg, Int.reduceLE, Int.reduceLT, Int.toNat_natCast, Int.cast_ofNat_Int, Int.reduceNe, Int.reduceEq, Int.reduceBEq, Int.reduceBNe, not_false_eq_true, ne_eq, Int.reduceTMod, Int.reduceTDiv, beq_self_eq_true, bne_self_eq_false, List.contains_cons, List.contains_nil, Nat.reduceBEq]
             rw [if_neg hu] at hrd
             exact ⟨⟨(i + 1, tm + st, 0, B3), by omega, hrd, by dsimp only; omega, (ht1.mono (by omega) (by omega))⟩, by dsimp only; omega, Ents.sub (by simp [go_sem]) ⟨_, List.Sublist.cons _ (List.Sublist.refl _), List.Perm.refl _⟩⟩)
    · have hI' : RI m (tm + st) us b := by
        obtain ⟨h1, h2, h3, h4, h5, h6, h7, h8, h9⟩ := hI
        refine ⟨h1, h2, h3, h4, h5, h6, h7, by omega, ?_⟩
        first
          | (have h' : ¬ (tm + st).tdiv 1000 = tm.tdiv 1000 := by simpa using h
             right; omega)
          | (have h' : (tm + st).tdiv 1000 = tm.tdiv 1000 := by simpa using h
             omega)
      have hof := hI'.off hm1.1 ⟨by omega, by omega⟩ (by omega)
      have hrd := hI'.round hm1.1 ⟨by omega, by omega⟩ (by omega)
      by_cases hu : us < m
      · have hd : decide (us < m) = true := decide_eq_true hu
        rw [if_pos hu] at hof
        rw [hof] at ho ho1
        dsimp only at ho ho1
        have hpt := put _ _ ho1 ⟨1005, tm + st, b.ser + 1, []⟩ (by simp) true
        have hp1 := ho1.put (by omega) ⟨1005, tm + st, b.ser + 1, []⟩ (by simp) true
        have htk := takeR _ _ hp1 (tm + st) 64
        have ht1 := hp1.take (by omega) (tm + st) 64
        have er : roundB b (tm + st) = takeB (putB (accB b (b.ser + 1) (tm + st) 1) ⟨1005, tm + st, b.ser + 1, []⟩ true) (tm + st) 64 := by
          unfold roundB; rw [hof]; rfl
        rw [er] at hrd
        generalize takeB (putB (accB b (b.ser + 1) (tm + st) 1) ⟨1005, tm + st, b.ser + 1, []⟩ true) (tm + st) 64 = B3 at hrd htk ht1
        generalize putB (accB b (b.ser + 1) (tm + st) 1) ⟨1005, tm + st, b.ser + 1, []⟩ true = B2 at hpt htk
        generalize accB b (b.ser + 1) (tm + st) 1 = B1 at ho hpt
        unfold BlL BlC InS RcS NoS at ho hpt htk
        first | refine call_U (ho) ?_ | refine call_T (ho) ?_ | refine call_N (ho) ?_ | refine call_of (ho) ?_
        simp (disch := first | omega | (simp only [List.length_cons, List.length_nil]; first | done | omega)) only [go_sem, Nat.reduceAdd, Nat.reduceMul, Nat.reduceSub, Nat.reduceEqDiff, Nat.reduceLeDiff, Nat.reduceMod, Nat.reduceLT, Int.reduceToNat, Int.reduceAdd, Int.reduceSub, Int.reduceMul, Int.reduceNeg, Int.reduceLE, Int.reduceLT, Int.toNat_natCast, Int.cast_ofNat_Int, Int.reduceNe, Int.reduceEq, Int.reduceBEq, Int.reduceBNe, not_false_eq_true, ne_eq, Int.reduceTMod, Int.reduceTDiv, beq_self_eq_true, bne_self_eq_false, List.contains_cons, List.contains_nil, Nat.reduceBEq]
        intro p13
        repeat' (first | (simp (disch := first | omega | (simp only [List.length_cons, List.length_nil]; first | done | omega)) only [go_sem, Nat.reduceAdd, Nat.reduceMul, Nat.reduceSub, Nat.reduceEqDiff, Nat.reduceLeDiff, Nat.reduceMod, Nat.reduceLT, Int.reduceToNat, Int.reduceAdd, Int.reduceSub, Int.reduceMul, Int.reduceNeg, Int.reduceLE, Int.reduceLT, Int.toNat_natCast, Int.cast_ofNat_Int, Int.reduceNe, Int.reduceEq, Int.reduceBEq, Int.reduceBNe, not_false_eq_true, ne_eq, Int.reduceTMod, Int.reduceTDiv, beq_self_eq_true, bne_self_eq_false, List.contains_cons, List.contains_nil, Nat.reduceBEq, hd]) | (refine allI (fun b => ?_)) | (refine allT (fun τ => ?_)) | (refine brP (fun h => ?_) (fun h => ?_) <;> (try simp only [Bool.and_eq_true, Bool.and_eq_false_iff, Bool.or_eq_true, Bool.or_eq_false_iff, Bool.not_eq_true', Bool.not_eq_false', decide_eq_true_eq, decide_eq_false_iff_not, beq_iff_eq, beq_eq_false_iff_ne, ne_eq, bne_iff_ne, Int.not_lt, Int.not_le] at h)))
        have hpt' := LCalls.args hpt (args' := [_, .agg [.int .i64 1005, .int .i64 (tm + st), .int .i64 (b.ser + 1), .fsl 1 0 []], .bool true]) ⟨leV.refl _, leV.agg ⟨leV.refl _, leV.refl _, leV.refl _, leV.nil_sl _ _, trivial⟩, leV.refl _, trivial⟩
        first | refine call_U (hpt') ?_ | refine call_T (hpt') ?_ | refine call_N (hpt') ?_ | refine call_of (hpt') ?_
        simp (disch := first | omega | (simp only [List.length_cons, List.length_nil]; first | done | omega)) only [go_sem, Nat.reduceAdd, Nat.reduceMul, Nat.reduceSub, Nat.reduceEqDiff, Nat.reduceLeDiff, Nat.reduceMod, Nat.reduceLT, Int.reduceToNat, Int.reduceAdd, Int.reduceSub, Int.reduceMul, Int.reduceNeg, Int.reduceLE, Int.reduceLT, Int.toNat_natCast, Int.cast_ofNat_Int, Int.reduceNe, Int.reduceEq, Int.reduceBEq, Int.reduceBNe, not_false_eq_true, ne_eq, Int.reduceTMod, Int.reduceTDiv, beq_self_eq_true, bne_self_eq_false, List.contains_cons, List.contains_nil, Nat.reduceBEq]
        first | refine call_U (htk) ?_ | refine call_T (htk) ?_ | refine call_N (htk) ?_ | refine call_of (htk) ?_
        simp (disch := first | omega | (simp only [List.length_cons, List.length_nil]; first | done | omega)) only [go_sem, Nat.reduceAdd, Nat.reduceMul, Nat.reduceSub, Nat.reduceEqDiff, Nat.reduceLeDiff, Nat.reduceMod, Nat.reduceLT, Int.reduceToNat, Int.reduceAdd, Int.reduceSub, Int.reduceMul, Int.reduceNeg, Int.reduceLE, Int.reduceLT, Int.toNat_natCast, Int.cast_ofNat_Int, Int.reduceNe, Int.reduceEq, Int.reduceBEq, Int.reduceBNe, not_false_eq_true, ne_eq, Int.reduceTMod, Int.reduceTDiv, beq_self_eq_true, bne_self_eq_false, List.contains_cons, List.contains_nil, Nat.reduceBEq]
        rw [if_pos hu] at hrd
        exact ⟨⟨(i + 1, tm + st, us + 1, B3), by omega, hrd, by dsimp only; omega, by rw [show 3 * (i + 1) = 3 * i + 1 + 1 + 1 by omega]; exact ht1⟩, by dsimp only; omega, Ents.sub (by simp [go_sem]) ⟨_, List.Sublist.cons _ (List.Sublist.refl _), List.Perm.refl _⟩⟩
      · first
          | (exfalso; omega)
          | (have hd : decide (us < m) = false := decide_eq_false hu
             rw [if_neg hu] at hof
             rw [hof] at ho ho1
             dsimp only at ho ho1
             have htk := takeR _ _ ho1 (tm + st) 64
             have ht1 := ho1.take (by omega) (tm + st) 64
             have er : roundB b (tm + st) = takeB (loseB b 1 (tm + st)) (tm + st) 64 := by (unfold roundB; rw [hof]; rfl)
             rw [er] at hrd
             generalize takeB (loseB b 1 (tm + st)) (tm + st) 64 = B3 at hrd htk ht1
             generalize loseB b 1 (tm + st) = B2 at ho htk
             unfold BlL BlC InS RcS NoS at ho htk
             first | refine call_U (ho) ?_ | refine call_T (ho) ?_ | refine call_N (ho) ?_ | refine call_of (ho) ?_
             simp (disch := first | omega | (simp only [List.length_cons, List.length_nil]; first | done | omega)) only [go_sem, Nat.reduceAdd, Nat.reduceMul, Nat.reduceSub, Nat.reduceEqDiff, Nat.reduceLeDiff, Nat.reduceMod, Nat.reduceLT, Int.reduceToNat, Int.reduceAdd, Int.reduceSub, Int.reduceMul, Int.reduceNeg, Int.reduceLE, Int.reduceLT, Int.toNat_natCast, Int.cast_ofNat_Int, Int.reduceNe, Int.reduceEq, Int.reduceBEq, Int.reduceBNe, not_false_eq_true, ne_eq, Int.reduceTMod, Int.reduceTDiv, beq_self_eq_true, bne_self_eq_false, List.contains_cons, List.contains_nil, Nat.reduceBEq]
             intro p13
             repeat' (first | (simp (disch := first | omega | (simp only [List.length_cons, List.length_nil]; first | done | omega)) only [go_sem, Nat.reduceAdd, Nat.reduceMul, Nat.reduceSub, Nat.reduceEqDiff, Nat.reduceLeDiff, Nat.reduceMod, Nat.reduceLT, Int.reduceToNat, Int.reduceAdd, Int.reduceSub, Int.reduceMul, Int.reduceNeg, Int.reduceLE, Int.reduceLT, Int.toNat_natCast, Int.cast_ofNat_Int, Int.reduceNe, Int.reduceEq, Int.reduceBEq, Int.reduceBNe, not_false_eq_true, ne_eq, Int.reduceTMod, Int.reduceTDiv, beq_self_eq_true, bne_self_eq_false, List.contains_cons, List.contains_nil, Nat.reduceBEq, hd]) | (refine allI (fun b => ?_)) | (refine allT (fun τ => ?_)) | (refine brP (fun h => ?_) (fun h => ?_) <;> (try simp only [Bool.and_eq_true, Bool.and_eq_false_iff, Bool.or_eq_true, Bool.or_eq_false_iff, Bool.not_eq_true', Bool.not_eq_false', decide_eq_true_eq, decide_eq_false_iff_not, beq_iff_eq, beq_eq_false_iff_ne, ne_eq, bne_iff_ne, Int.not_lt, Int.not_le] at h)))
             first | refine call_U (htk) ?_ | refine call_T (htk) ?_ | refine call_N (htk) ?_ | refine call_of (htk) ?_
             simp (disch := first | omega | (simp only [List.length_cons, List.length_nil]; first | done | omega)) only [go_sem, Nat.reduceAdd, Nat.reduceMul, Nat.reduceSub, Nat.reduceEqDiff, Nat.reduceLeDiff, Nat.reduceMod, Nat.reduceLT, Int.reduceToNat, Int.reduceAdd, Int.reduceSub, Int.reduceMul, Int.reduceNeg, Int.reduceLE, Int.reduceLT, Int.toNat_natCast, Int.cast_ofNat_Int, Int.reduceNe, Int.reduceEq, Int.reduceBEq, Int.reduceBNe, not_false_eq_true, ne_eq, Int.reduceTMod, Int.reduceTDiv, beq_self_eq_true, bne_self_eq_false, List.contains_cons, List.contains_nil, Nat.reduceBEq]
             rw [if_neg hu] at hrd
             exact ⟨⟨(i + 1, tm + st, us, B3), by omega, hrd, by dsimp only; omega, (ht1.mono (by omega) (by omega))⟩, by dsimp only; omega, Ents.sub (by simp [go_sem]) ⟨_, List.Sublist.cons _ (List.Sublist.refl _), List.Perm.refl _⟩⟩)
  · have hno := hk.no
    have hpd := hI.pd
    have hc : decide ((b.no.length : Int) ≤ 16) = true := decide_eq_true (by omega)
    simp (disch := first | omega | (simp only [List.length_cons, List.length_nil]; first | done | omega)) only [go_sem, Nat.reduceAdd, Nat.reduceMul, Nat.reduceSub, Nat.reduceEqDiff, Nat.reduceLeDiff, Nat.reduceMod, Nat.reduceLT, Int.reduceToNat, Int.reduceAdd, Int.reduceSub, Int.reduceMul, Int.reduceNeg, Int.reduceLE, Int.reduceLT, Int.toNat_natCast, Int.cast_ofNat_Int, Int.reduceNe, Int.reduceEq, Int.reduceBEq, Int.reduceBNe, not_false_eq_true, ne_eq, Int.reduceTMod, Int.reduceTDiv, beq_self_eq_true, bne_self_eq_false, List.contains_cons, List.contains_nil, Nat.reduceBEq, hpd, lo0, hc, beq_self_eq_true, Bool.and_self]
    first | refine callG_U (fun hg => awake) ?_ | refine callG_T (fun hg => awake) ?_ | refine callG_of (fun hg => awake) ?_
    simp (disch := first | omega | (simp only [List.length_cons, List.length_nil]; first | done | omega)) only [go_sem, Nat.reduceAdd, Nat.reduceMul, Nat.reduceSub, Nat.reduceEqDiff, Nat.reduceLeDiff, Nat.reduceMod, Nat.reduceLT, Int.reduceToNat, Int.reduceAdd, Int.reduceSub, Int.reduceMul, Int.reduceNeg, Int.reduceLE, Int.reduceLT, Int.toNat_natCast, Int.cast_ofNat_Int, Int.reduceNe, Int.reduceEq, Int.reduceBEq, Int.reduceBNe, not_false_eq_true, ne_eq, Int.reduceTMod, Int.reduceTDiv, beq_self_eq_true, bne_self_eq_false, List.contains_cons, List.contains_nil, Nat.reduceBEq]
end Go.Proofs.Ytofpepjehiohcaa
