/- Layer 16: the law of raw rules. -/
import Derived.Test.YtcngkeeknlloaaaDo
import Derived.Test.YtcngkeeknlloaaaCl4
import Derived.Test.YtcngkeeknlloaaaLxP
namespace Go.Proofs.Ytcngkeeknlloaaa
open Go Go.Lx
set_option linter.unusedSimpArgs false
set_option linter.unusedVariables false
set_option maxRecDepth 100000
set_option maxHeartbeats 4000000

def nsum (l : List Rl) : Nat := (l.map fun r => r.ts.length + 1).sum
theorem nsum_le {l : List Rl} {B : Nat} (h : ∀ r ∈ l, r.ts.length ≤ B) : nsum l ≤ l.length * (B + 1) := by
  induction l with
  | nil => simp [nsum]
  | cons r l ih =>
    have h1 := ih fun x hx => h x (List.mem_cons_of_mem _ hx)
    have h2 := h r (by simp)
    simp only [nsum, List.map_cons, List.sum_cons, List.length_cons] at h1 ⊢
    rw [Nat.add_mul]
    omega
theorem nsum_bd {l : List Rl} : l.length ≤ nsum l ∧ ∀ r ∈ l, r.ts.length ≤ nsum l := by
  induction l with
  | nil => simp [nsum]
  | cons r l ih =>
    simp only [nsum, List.map_cons, List.sum_cons, List.length_cons] at ih ⊢
    refine ⟨by omega, fun x hx => ?_⟩
    rcases List.mem_cons.1 hx with rfl | hx
    · omega
    · have := ih.2 x hx; omega
theorem rawL (l : List Rl) (wh : List Int) (hl : l.length ≤ 1048576) (hw : wh.length ≤ 1048576) (ht : ∀ r ∈ l, r.ts.length ≤ 1048576) : Pure Try.prog gl 4 [RlS l, WhS wh] (.bool true) := by
  refine fn_pureT Try.func4 t4 Try.ntmps4 (by simp) ?_
  have hlr := len_rl l
  have hlm : (wh.map (LV.int .i64)).length = wh.length := List.length_map _
  have hag := fun wh' hs => agrees l wh' hs
  unfold c4 r4
  simp only [RlS_eq, WhS_eq] at *
  repeat' (first | (simp (disch := first | omega | (simp only [List.length_cons, List.length_nil]; first | done | omega)) only [go_sem, Nat.reduceAdd, Nat.reduceMul, Nat.reduceSub, Nat.reduceEqDiff, Nat.reduceLeDiff, Nat.reduceMod, Nat.reduceLT, Int.reduceToNat, Int.reduceAdd, Int.reduceSub, Int.reduceMul, Int.reduceNeg, Int.reduceLE, Int.reduceLT, Int.toNat_natCast, Int.cast_ofNat_Int, Int.reduceNe, Int.reduceEq, Int.reduceBEq, Int.reduceBNe, not_false_eq_true, ne_eq, Int.reduceTMod, Int.reduceTDiv, beq_self_eq_true, bne_self_eq_false, List.contains_cons, List.contains_nil, Nat.reduceBEq]) | (refine allI (fun b => ?_)) | (refine allT (fun τ => ?_)) | (refine brP (fun h => ?_) (fun h => ?_) <;> (try simp only [Bool.and_eq_true, Bool.and_eq_false_iff, Bool.or_eq_true, Bool.or_eq_false_iff, Bool.not_eq_true', Bool.not_eq_false', decide_eq_true_eq, decide_eq_false_iff_not, beq_iff_eq, beq_eq_false_iff_ne, ne_eq, bne_iff_ne, Int.not_lt, Int.not_le] at h)) | (apply And.intro; focus (first | omega | (simp; done) | (simp +contextual; done) | (intros; and_intros <;> first | assumption | omega) | (intros; simp_all; done) | (intro hgd; refine ⟨hgd, ?_⟩; simp [hgd]; done) | (intro hgd; simp only [beq_eq_false_iff_ne, beq_iff_eq, decide_eq_true_eq, decide_eq_false_iff_not, bne_iff_ne, ne_eq, Bool.and_eq_true, Bool.or_eq_false_iff, Bool.or_eq_true, Bool.and_eq_false_iff] at hgd ⊢; omega))) | fail)
  refine loopI (ι := Nat) (fun i => i ≤ l.length) (fun i => [(6, .int .i64 i), (5, .int .i64 (nsum (l.take i))), (0, .sl 8 l.length (l.flatMap RlC)), (1, .sl 1 wh.length (wh.map (LV.int .i64)))]) (fun _ => []) (fun i => l.length - i) 0 (by omega) (Ents.envH (by simp [go_sem, nsum]) rfl) ?_
  intro i hi
  simp (disch := first | omega | (simp only [List.length_cons, List.length_nil]; first | done | omega)) only [go_sem, Nat.reduceAdd, Nat.reduceMul, Nat.reduceSub, Nat.reduceEqDiff, Nat.reduceLeDiff, Nat.reduceMod, Nat.reduceLT, Int.reduceToNat, Int.reduceAdd, Int.reduceSub, Int.reduceMul, Int.reduceNeg, Int.reduceLE, Int.reduceLT, Int.toNat_natCast, Int.cast_ofNat_Int, Int.reduceNe, Int.reduceEq, Int.reduceBEq, Int.reduceBNe, not_false_eq_true, ne_eq, Int.reduceTMod, Int.reduceTDiv, beq_self_eq_true, bne_self_eq_false, List.contains_cons, List.contains_nil, Nat.reduceBEq]
  refine brP (fun hb => ?_) (fun hb => ?_)
  · have hlt : i < l.length := by simpa using hb
    have e2 : ((l.flatMap RlC).drop (i * 8)).take 8 = RlC (l.getD i rl0) := take_rows (f := RlC) (fun _ => rfl) rl0 _ hlt
    have g3 : (l.flatMap RlC).getD (i * 8 + 3) .any = TsS (l.getD i rl0).ts := by
      have : (RlC (l.getD i rl0)).getD 3 .any = TsS (l.getD i rl0).ts := rfl
      rw [← this, ← e2]
      simp [List.getD, List.getElem?_take]
    have hs : nsum (l.take (i + 1)) = nsum (l.take i) + ((l.getD i rl0).ts.length + 1) := by
      rw [nsum, nsum, take_succ_getD rl0 l hlt, List.map_append, List.sum_append]
      simp
    have hn := nsum_le (l := l.take i) (B := 1048576) fun r hr => ht r (List.mem_of_mem_take hr)
    rw [List.length_take, Nat.min_eq_left hi] at hn
    have hr := ht _ (getD_memA rl0 hlt)
    have hle := len_te (l.getD i rl0).ts
    generalize l.getD i rl0 = r at *
    rw [TsS_eq] at g3
    repeat' (first | (simp (disch := first | omega | (simp only [List.length_cons, List.length_nil]; first | done | omega)) only [go_sem, Nat.reduceAdd, Nat.reduceMul, Nat.reduceSub, Nat.reduceEqDiff, Nat.reduceLeDiff, Nat.reduceMod, Nat.reduceLT, Int.reduceToNat, Int.reduceAdd, Int.reduceSub, Int.reduceMul, Int.reduceNeg, Int.reduceLE, Int.reduceLT, Int.toNat_natCast, Int.cast_ofNat_Int, Int.reduceNe, Int.reduceEq, Int.reduceBEq, Int.reduceBNe, not_false_eq_true, ne_eq, Int.reduceTMod, Int.reduceTDiv, beq_self_eq_true, bne_self_eq_false, List.contains_cons, List.contains_nil, Nat.reduceBEq, g3]) | (refine allI (fun b => ?_)) | (refine allT (fun τ => ?_)) | (refine brP (fun h => ?_) (fun h => ?_) <;> (try simp only [Bool.and_eq_true, Bool.and_eq_false_iff, Bool.or_eq_true, Bool.or_eq_false_iff, Bool.not_eq_true', Bool.not_eq_false', decide_eq_true_eq, decide_eq_false_iff_not, beq_iff_eq, beq_eq_false_iff_ne, ne_eq, bne_iff_ne, Int.not_lt, Int.not_le] at h)) | (apply And.intro; focus (first | omega | (simp; done) | (simp +contextual; done) | (intros; and_intros <;> first | assumption | omega) | (intros; simp_all; done) | (intro hgd; refine ⟨hgd, ?_⟩; simp [hgd]; done) | (intro hgd; simp only [beq_eq_false_iff_ne, beq_iff_eq, decide_eq_true_eq, decide_eq_false_iff_not, bne_iff_ne, ne_eq, Bool.and_eq_true, Bool.or_eq_false_iff, Bool.or_eq_true, Bool.and_eq_false_iff] at hgd ⊢; omega))) | fail)
    exact ⟨⟨i + 1, by omega⟩, by dsimp only; omega, Ents.envH (by simp [go_sem, hs]) rfl⟩
  · have hie : i = l.length := by simp only [decide_eq_false_iff_not] at hb; omega
    subst hie
    rw [List.take_length]
    have hbd := nsum_bd (l := l)
    generalize nsum l = n at *
    repeat' (first | (simp (disch := first | omega | (simp only [List.length_cons, List.length_nil]; first | done | omega)) only [go_sem, Nat.reduceAdd, Nat.reduceMul, Nat.reduceSub, Nat.reduceEqDiff, Nat.reduceLeDiff, Nat.reduceMod, Nat.reduceLT, Int.reduceToNat, Int.reduceAdd, Int.reduceSub, Int.reduceMul, Int.reduceNeg, Int.reduceLE, Int.reduceLT, Int.toNat_natCast, Int.cast_ofNat_Int, Int.reduceNe, Int.reduceEq, Int.reduceBEq, Int.reduceBNe, not_false_eq_true, ne_eq, Int.reduceTMod, Int.reduceTDiv, beq_self_eq_true, bne_self_eq_false, List.contains_cons, List.contains_nil, Nat.reduceBEq]) | (refine allI (fun b => ?_)) | (refine allT (fun τ => ?_)) | (refine brP (fun h => ?_) (fun h => ?_) <;> (try simp only [Bool.and_eq_true, Bool.and_eq_false_iff, Bool.or_eq_true, Bool.or_eq_false_iff, Bool.not_eq_true', Bool.not_eq_false', decide_eq_true_eq, decide_eq_false_iff_not, beq_iff_eq, beq_eq_false_iff_ne, ne_eq, bne_iff_ne, Int.not_lt, Int.not_le] at h)) | refine call_U (awake) ?_ | refine callG_U (fun _ => awake) ?_ | refine call_T (awake) ?_ | refine callG_T (fun _ => awake) ?_ | refine call_N (awake) ?_ | refine call_of (awake) ?_ | refine callG_of (fun _ => awake) ?_ | (apply And.intro; focus (first | omega | (simp; done) | (simp +contextual; done) | (intros; and_intros <;> first | assumption | omega) | (intros; simp_all; done) | (intro hgd; refine ⟨hgd, ?_⟩; simp [hgd]; done) | (intro hgd; simp only [beq_eq_false_iff_ne, beq_iff_eq, decide_eq_true_eq, decide_eq_false_iff_not, bne_iff_ne, ne_eq, Bool.and_eq_true, Bool.or_eq_false_iff, Bool.or_eq_true, Bool.and_eq_false_iff] at hgd ⊢; omega))) | fail)
    have hn7 : n ≤ 7 := by omega
    have hw6 : wh.length ≤ 6 := by omega
    have hs1 : SmR l wh := ⟨by omega, by omega, fun r hr => by have := hbd.2 r hr; omega⟩
    have ha1 := hag wh hs1
    have hs2 : SmR l ((List.range l.length).map Int.ofNat) := ⟨by omega, by simp; omega, fun r hr => by have := hbd.2 r hr; omega⟩
    have ha2 := hag _ hs2
    rw [show ((List.range l.length).map Int.ofNat).length = l.length by simp] at ha2
    refine loopI (ι := Nat × Tok) (fun y => y.1 ≤ l.length) (fun y => [(8, .int .i64 y.1), (7, .osl 41 y.2 1 y.1 (((List.range y.1).map Int.ofNat).map (LV.int .i64))), (0, .sl 8 l.length (l.flatMap RlC)), (1, .sl 1 wh.length (wh.map (LV.int .i64)))]) (fun y => [(41, .tok y.2)]) (fun y => l.length - y.1) (0, ⟨0, 0, 0⟩) (by dsimp only; omega) (Ents.dummyE 41 (by simp [go_sem, leV.nil_osl])) ?_
    rintro ⟨i, τ⟩ hi
    dsimp only at hi ⊢
    have hwi : (((List.range i).map Int.ofNat).map (LV.int .i64)).length = i := by simp
    simp (disch := first | omega | (simp only [List.length_cons, List.length_nil]; first | done | omega)) only [go_sem, Nat.reduceAdd, Nat.reduceMul, Nat.reduceSub, Nat.reduceEqDiff, Nat.reduceLeDiff, Nat.reduceMod, Nat.reduceLT, Int.reduceToNat, Int.reduceAdd, Int.reduceSub, Int.reduceMul, Int.reduceNeg, Int.reduceLE, Int.reduceLT, Int.toNat_natCast, Int.cast_ofNat_Int, Int.reduceNe, Int.reduceEq, Int.reduceBEq, Int.reduceBNe, not_false_eq_true, ne_eq, Int.reduceTMod, Int.reduceTDiv, beq_self_eq_true, bne_self_eq_false, List.contains_cons, List.contains_nil, Nat.reduceBEq]
    refine brP (fun hb => ?_) (fun hb => ?_)
    · have hlt : i < l.length := by simpa using hb
      repeat' (first | (simp (disch := first | omega | (simp only [List.length_cons, List.length_nil]; first | done | omega)) only [go_sem, Nat.reduceAdd, Nat.reduceMul, Nat.reduceSub, Nat.reduceEqDiff, Nat.reduceLeDiff, Nat.reduceMod, Nat.reduceLT, Int.reduceToNat, Int.reduceAdd, Int.reduceSub, Int.reduceMul, Int.reduceNeg, Int.reduceLE, Int.reduceLT, Int.toNat_natCast, Int.cast_ofNat_Int, Int.reduceNe, Int.reduceEq, Int.reduceBEq, Int.reduceBNe, not_false_eq_true, ne_eq, Int.reduceTMod, Int.reduceTDiv, beq_self_eq_true, bne_self_eq_false, List.contains_cons, List.contains_nil, Nat.reduceBEq]) | (refine allI (fun b => ?_)) | (refine allT (fun τ => ?_)) | (refine brP (fun h => ?_) (fun h => ?_) <;> (try simp only [Bool.and_eq_true, Bool.and_eq_false_iff, Bool.or_eq_true, Bool.or_eq_false_iff, Bool.not_eq_true', Bool.not_eq_false', decide_eq_true_eq, decide_eq_false_iff_not, beq_iff_eq, beq_eq_false_iff_ne, ne_eq, bne_iff_ne, Int.not_lt, Int.not_le] at h)) | (apply And.intro; focus (first | omega | (simp; done) | (simp +contextual; done) | (intros; and_intros <;> first | assumption | omega) | (intros; simp_all; done) | (intro hgd; refine ⟨hgd, ?_⟩; simp [hgd]; done) | (intro hgd; simp only [beq_eq_false_iff_ne, beq_iff_eq, decide_eq_true_eq, decide_eq_false_iff_not, bne_iff_ne, ne_eq, Bool.and_eq_true, Bool.or_eq_false_iff, Bool.or_eq_true, Bool.and_eq_false_iff] at hgd ⊢; omega))) | fail)
      refine ⟨by simp only [roomy]; omega, fun τ' => ⟨⟨(i + 1, τ'), by dsimp only; omega⟩, by dsimp only; omega, Ents.envH ?_ rfl⟩⟩
      simp [go_sem, List.range_succ]
    · have hie : i = l.length := by simp only [decide_eq_false_iff_not] at hb; omega
      subst hie
      have ha3 : Pure Try.prog gl _ [.sl 8 l.length (l.flatMap RlC), .osl 41 τ 1 l.length (((List.range l.length).map Int.ofNat).map (LV.int .i64))] _ := LCalls.args ha2 ⟨leV.refl _, leV.osl_sl _ _ _ _ _, trivial⟩
      repeat' (first | (simp (disch := first | omega | (simp only [List.length_cons, List.length_nil]; first | done | omega)) only [go_sem, Nat.reduceAdd, Nat.reduceMul, Nat.reduceSub, Nat.reduceEqDiff, Nat.reduceLeDiff, Nat.reduceMod, Nat.reduceLT, Int.reduceToNat, Int.reduceAdd, Int.reduceSub, Int.reduceMul, Int.reduceNeg, Int.reduceLE, Int.reduceLT, Int.toNat_natCast, Int.cast_ofNat_Int, Int.reduceNe, Int.reduceEq, Int.reduceBEq, Int.reduceBNe, not_false_eq_true, ne_eq, Int.reduceTMod, Int.reduceTDiv, beq_self_eq_true, bne_self_eq_false, List.contains_cons, List.contains_nil, Nat.reduceBEq]) | (refine allI (fun b => ?_)) | (refine allT (fun τ => ?_)) | (refine brP (fun h => ?_) (fun h => ?_) <;> (try simp only [Bool.and_eq_true, Bool.and_eq_false_iff, Bool.or_eq_true, Bool.or_eq_false_iff, Bool.not_eq_true', Bool.not_eq_false', decide_eq_true_eq, decide_eq_false_iff_not, beq_iff_eq, beq_eq_false_iff_ne, ne_eq, bne_iff_ne, Int.not_lt, Int.not_le] at h)) | refine call_U (ha1) ?_ | refine callG_U (fun _ => ha1) ?_ | refine call_T (ha1) ?_ | refine callG_T (fun _ => ha1) ?_ | refine call_U (ha3) ?_ | refine callG_U (fun _ => ha3) ?_ | refine call_T (ha3) ?_ | refine callG_T (fun _ => ha3) ?_ | refine call_U (awake) ?_ | refine callG_U (fun _ => awake) ?_ | refine call_T (awake) ?_ | refine callG_T (fun _ => awake) ?_ | refine call_N (ha1) ?_ | refine call_of (ha1) ?_ | refine callG_of (fun _ => ha1) ?_ | refine call_N (ha3) ?_ | refine call_of (ha3) ?_ | refine callG_of (fun _ => ha3) ?_ | refine call_N (awake) ?_ | refine call_of (awake) ?_ | refine callG_of (fun _ => awake) ?_ | (apply And.intro; focus (first | omega | (simp; done) | (simp +contextual; done) | (intros; and_intros <;> first | assumption | omega) | (intros; simp_all; done) | (intro hgd; refine ⟨hgd, ?_⟩; simp [hgd]; done) | (intro hgd; simp only [beq_eq_false_iff_ne, beq_iff_eq, decide_eq_true_eq, decide_eq_false_iff_not, bne_iff_ne, ne_eq, Bool.and_eq_true, Bool.or_eq_false_iff, Bool.or_eq_true, Bool.and_eq_false_iff] at hgd ⊢; omega))) | fail)
      all_goals skip
theorem rows_te {B : Nat} {rows : List (List LV)} (h : ∀ r ∈ rows, FitsL B [.int .i64, .int .i64, .int .i64, .str, .int .i64] r) : ∃ ts : List Te, rows.flatten = ts.flatMap TeC ∧ ts.length = rows.length := by
  obtain ⟨l, h1, _⟩ := rows_map (f := TeC) (Q := fun _ => True) (rows := rows) fun r hr => by
    have := h r hr
    simp only [FitsL] at this
    obtain ⟨x0, _, rfl, h0, x1, _, rfl, h1, x2, _, rfl, h2, x3, _, rfl, h3, x4, _, rfl, h4, rfl⟩ := this
    simp only [Fits] at h0 h1 h2 h3 h4
    obtain ⟨n0, rfl, _⟩ := h0
    obtain ⟨n1, rfl, _⟩ := h1
    obtain ⟨n2, rfl, _⟩ := h2
    obtain ⟨s3, rfl, _⟩ := h3
    obtain ⟨n4, rfl, _⟩ := h4
    exact ⟨⟨n0, n1, n2, s3, n4⟩, trivial, rfl⟩
  subst h1
  exact ⟨l, by simp [List.flatMap], by simp⟩
theorem rows_rl {B : Nat} {rows : List (List LV)} (h : ∀ r ∈ rows, FitsL B [.int .i64, .int .i64, .int .u64, .sl 48 [.int .i64, .int .i64, .int .i64, .str, .int .i64], .int .i64, .str, .int .i64, .str] r) : ∃ rs : List Rl, rows.flatten = rs.flatMap RlC ∧ rs.length = rows.length ∧ ∀ r ∈ rs, r.ts.length ≤ B := by
  obtain ⟨l, h1, h2⟩ := rows_map (f := RlC) (Q := fun r => r.ts.length ≤ B) (rows := rows) fun r hr => by
    have := h r hr
    simp only [FitsL] at this
    obtain ⟨x0, _, rfl, h0, x1, _, rfl, h1, x2, _, rfl, h2, x3, _, rfl, h3, x4, _, rfl, h4, x5, _, rfl, h5, x6, _, rfl, h6, x7, _, rfl, h7, rfl⟩ := this
    simp only [Fits] at h0 h1 h2 h3 h4 h5 h6 h7
    obtain ⟨n0, rfl, _⟩ := h0
    obtain ⟨n1, rfl, _⟩ := h1
    obtain ⟨n2, rfl, _⟩ := h2
    obtain ⟨rr, rfl, hb, _, hx⟩ := h3
    obtain ⟨n4, rfl, _⟩ := h4
    obtain ⟨s5, rfl, _⟩ := h5
    obtain ⟨n6, rfl, _⟩ := h6
    obtain ⟨s7, rfl, _⟩ := h7
    obtain ⟨ts, e1, e2⟩ := rows_te hx
    refine ⟨⟨n0, n1, n2, ts, n4, s5, n6, s7⟩, by dsimp only; omega, ?_⟩
    rw [RlC_eq, TsS_eq, e1, ← e2]
    rfl
  subst h1
  exact ⟨l, by simp [List.flatMap], by simp, h2⟩
end Go.Proofs.Ytcngkeeknlloaaa
