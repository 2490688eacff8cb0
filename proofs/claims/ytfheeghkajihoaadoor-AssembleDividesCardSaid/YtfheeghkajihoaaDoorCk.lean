/- Layer 22: records in several calls (the law). -/
import Derived.Test.YtfheeghkajihoaaDoorCg
import Derived.Test.YtfheeghkajihoaaDoorCf
import Derived.Test.YtfheeghkajihoaaDoorCj
import Derived.Test.YtfheeghkajihoaaDoorCl4
namespace Go.Proofs.YtfheeghkajihoaaDoor
open Go Go.Lx
set_option linter.unusedSimpArgs false
set_option linter.unusedVariables false
set_option maxRecDepth 100000
set_option maxHeartbeats 4000000

theorem len_cntE : ∀ {l : List Ev}, (∀ e ∈ l, evG e) → l.length ≤ cnt l
  | [], _ => Nat.le_refl _
  | e :: l, h => by
    have h1 := len_cntE (l := l) fun x hx => h x (by simp [hx])
    have h2 : 0 < e.rs.length := List.length_pos_iff.2 (h e (by simp)).1
    simp [cnt] at h1 ⊢
    omega
theorem take_fm {α : Type} {f : α → List LV} {w : Nat} (hw : ∀ x, (f x).length = w) : ∀ (l : List α) (i : Nat), (l.take i).flatMap f = List.take (i * w) (l.flatMap f)
  | [], i => by simp
  | x :: l, 0 => by simp
  | x :: l, i + 1 => by
    rw [List.take_succ_cons, List.flatMap_cons, List.flatMap_cons, take_fm hw l i, List.take_append, hw, Nat.succ_mul, List.take_of_length_le (l := f x) (by rw [hw]; omega), Nat.add_sub_cancel]
theorem drop_fm {α : Type} {f : α → List LV} {w : Nat} (hw : ∀ x, (f x).length = w) : ∀ (l : List α) (i : Nat), (l.drop i).flatMap f = List.drop (i * w) (l.flatMap f)
  | [], i => by simp
  | x :: l, 0 => by simp
  | x :: l, i + 1 => by
    rw [List.drop_succ_cons, List.flatMap_cons, drop_fm hw l i, List.drop_append, hw, Nat.succ_mul, List.drop_of_length_le (l := f x) (by rw [hw]; omega), Nat.add_sub_cancel, List.nil_append]
/-- no more events than records -/
theorem out_len (bo : Int) (l : List Rc) (hl : ∀ r ∈ l, r.ps.length ≤ 1000000) : (feedS (as0 bo) l).2.length ≤ l.length := by
  have a := asc_fold l _ _ (asc0 bo)
  rw [Nat.zero_add] at a
  change Asc (feedS (as0 bo) l) l.length at a
  have ok := (okA_feedS (okA0 bo) l hl).st
  have h1 := len_cntE a.eo
  have h2 := a.n
  omega
/-- what is given out is within a computer's reach, too -/
theorem okO_step {edge : Int} {s s' : St} {m : Nat} (h : stepS edge s = some s') (ok : okA s.1 m) (ho : ∀ e ∈ s.2, e.rs.length ≤ m ∧ ∀ r ∈ e.rs, r.ps.length ≤ 1000000) : ∀ e ∈ s'.2, e.rs.length ≤ m ∧ ∀ r ∈ e.rs, r.ps.length ≤ 1000000 := by
  rcases stepS_cases h with ⟨j, h1, _, rfl⟩ | ⟨_, z, _, _, h4⟩
  · intro e he
    rcases List.mem_append.1 he with he | he
    · exact ho e he
    · simp only [List.mem_singleton] at he
      subst he
      exact (ok.ev _ (getD_memA ev0 h1)).2
  · rcases h4 with rfl | rfl <;> exact ho
theorem okO_runs {edge : Int} {s r : St} {m : Nat} (hed : edge ≤ 1073741824) (h : Runs edge s r) : okA s.1 m → (∀ e ∈ s.2, e.rs.length ≤ m ∧ ∀ r ∈ e.rs, r.ps.length ≤ 1000000) → ∀ e ∈ r.2, e.rs.length ≤ m ∧ ∀ r ∈ e.rs, r.ps.length ≤ 1000000 := by
  induction h with
  | stop _ => exact fun _ => id
  | step h _ ih => exact fun ok ho => ih (okA_step hed h ok) (okO_step h ok ho)
theorem okO_settle {edge : Int} {s : St} {m : Nat} (hed : edge ≤ 1073741824) (ok : okA s.1 m) (ho : ∀ e ∈ s.2, e.rs.length ≤ m ∧ ∀ r ∈ e.rs, r.ps.length ≤ 1000000) : ∀ e ∈ (settleS edge s).2, e.rs.length ≤ m ∧ ∀ r ∈ e.rs, r.ps.length ≤ 1000000 := by
  unfold settleS
  exact okO_runs (r := runS edge (1073741825 - s.1.nx).toNat s) hed (runs_ex edge _ s (Int.self_le_toNat _)) ok ho
theorem okO_fold : ∀ (l : List Rc) (s : St) (m : Nat), okA s.1 m → (∀ r ∈ l, r.ps.length ≤ 1000000) → (∀ e ∈ s.2, e.rs.length ≤ m ∧ ∀ r ∈ e.rs, r.ps.length ≤ 1000000) → ∀ e ∈ (l.foldl feedR s).2, e.rs.length ≤ m + l.length ∧ ∀ r ∈ e.rs, r.ps.length ≤ 1000000
  | [], _, _, _, _, ho => ho
  | r :: l, s, m, ok, hl, ho => by
    rw [List.foldl_cons, List.length_cons, show m + (l.length + 1) = m + 1 + l.length by omega]
    refine okO_fold l (feedR s r) (m + 1) (okA_feedR ok (hl r (by simp))) (fun q hq => hl q (by simp [hq])) ?_
    have h := okA_take ok (hl r (by simp))
    have ho2 : ∀ e ∈ s.2, e.rs.length ≤ m + 1 ∧ ∀ r ∈ e.rs, r.ps.length ≤ 1000000 := fun e he => ⟨by have := (ho e he).1; omega, (ho e he).2⟩
    unfold feedR
    split
    · exact okO_settle (by have := h.la; omega) h ho2
    · exact ho2
theorem okO_feedS {a : As} {m : Nat} (ok : okA a m) (l : List Rc) (hl : ∀ r ∈ l, r.ps.length ≤ 1000000) (hm : m + l.length ≤ 1000000000) : ∀ e ∈ (feedS a l).2, okE e := fun e he => by
  have h := okO_fold l (a, []) m ok hl (fun e he => absurd he List.not_mem_nil) e he
  exact ⟨by omega, h.2⟩
theorem dividesL (l : List Int) (hl : l.length ≤ 200000000000000 ∧ ∀ n ∈ l, -9223372036854775808 ≤ n ∧ n ≤ 9223372036854775807) : Pure Tryd.prog gl 4 [Ms l] (.bool true) := by
  refine fn_viewT Tryd.func4 t4 Tryd.ntmps4 (by simp) ?_
  have hnw := new_ l
  have hok : ∀ k : Int, 0 ≤ k → k ≤ 1000 → okS l k := fun k h0 h1 => ⟨hl.1, hl.2, by omega, by omega⟩
  have h0 := new 1
  unfold c4 r4
  rw [Ms] at hnw ⊢
  repeat' (first | (simp (disch := first | omega | (simp only [List.length_cons, List.length_nil]; first | done | omega)) only [go_sem, Nat.reduceAdd, Nat.reduceMul, Nat.reduceSub, Nat.reduceEqDiff, Nat.reduceLeDiff, Nat.reduceMod, Nat.reduceLT, Int.reduceToNat, Int.reduceAdd, Int.reduceSub, Int.reduceMul, Int.reduceNeg, Int.reduceLE, Int.reduceLT, Int.reduceNe, Int.reduceEq, Int.reduceBEq, Int.reduceBNe, Int.reduceTMod, Int.reduceTDiv, Nat.reduceBEq]) | (refine allI (fun b => ?_)) | (refine allT (fun τ => ?_)) | (refine brP (fun h => ?_) (fun h => ?_) <;> (try simp only [zgx, zbx] at h)) | (apply And.intro; focus (first | omega | (simp; done) | (simp +contextual; done) | (intros; and_intros <;> first | assumption | omega) | (intros; simp_all; done) | (intro hgd; refine ⟨hgd, ?_⟩; simp [hgd]; done) | (intro hgd; simp only [zgx] at hgd ⊢; omega))) | fail)
  first | refine newsE_U (hnw) ?_ | refine newsE_T (hnw) ?_ | refine newsE_of (hnw) ?_
  rintro _ _ ⟨BS, rfl, rfl⟩
  repeat' (first | (simp (disch := first | omega | (simp only [List.length_cons, List.length_nil]; first | done | omega)) only [go_sem, Nat.reduceAdd, Nat.reduceMul, Nat.reduceSub, Nat.reduceEqDiff, Nat.reduceLeDiff, Nat.reduceMod, Nat.reduceLT, Int.reduceToNat, Int.reduceAdd, Int.reduceSub, Int.reduceMul, Int.reduceNeg, Int.reduceLE, Int.reduceLT, Int.reduceNe, Int.reduceEq, Int.reduceBEq, Int.reduceBNe, Int.reduceTMod, Int.reduceTDiv, Nat.reduceBEq]) | (refine allI (fun b => ?_)) | (refine allT (fun τ => ?_)) | (refine brP (fun h => ?_) (fun h => ?_) <;> (try simp only [zgx, zbx] at h)) | (apply And.intro; focus (first | omega | (simp; done) | (simp +contextual; done) | (intros; and_intros <;> first | assumption | omega) | (intros; simp_all; done) | (intro hgd; refine ⟨hgd, ?_⟩; simp [hgd]; done) | (intro hgd; simp only [zgx] at hgd ⊢; omega))) | fail)
  first | refine actsE_U (records BS l 0 20 (hok 0 (by omega) (by omega)) (by omega) (by omega)) (by first | rfl | simp only [getH, if_true]) ?_ | refine actsE_T (records BS l 0 20 (hok 0 (by omega) (by omega)) (by omega) (by omega)) (by first | rfl | simp only [getH, if_true]) ?_ | refine actsE_N (records BS l 0 20 (hok 0 (by omega) (by omega)) (by omega) (by omega)) (by first | rfl | simp only [getH, if_true]) ?_ | refine actsE_of (records BS l 0 20 (hok 0 (by omega) (by omega)) (by omega) (by omega)) (by first | rfl | simp only [getH, if_true]) ?_
  rintro _ _ ⟨rs, a1, rfl, hn, hps, ha, rfl⟩
  have hps2 : ∀ r ∈ rs, r.ps.length ≤ 1000000 := fun r hr => by have := hps r hr; omega
  obtain ⟨A0, hA0⟩ : ∃ A, A = as0 1 := ⟨_, rfl⟩
  have okA1 : okA A0 0 := by rw [hA0]; exact okA0 1
  have hlen := out_len 1 rs hps2
  change Pure _ _ _ _ (.agg (AsC (as0 1))) at h0
  rw [← hA0] at h0 hlen
  have hf := feed A0 0 okA1 rs (by omega) hps2
  have ok1 := okA_feedS okA1 rs hps2
  have hoE := okO_feedS okA1 rs hps2 (by omega)
  have hsa := sameA _ _ ok1 (by omega)
  have hse := sameEs _ (by omega) hoE
  rw [AsC_eq] at h0
  rw [AsC_eq A0] at hf
  rw [AsC_eq] at hf hsa
  repeat' (first | (simp (disch := first | omega | (simp only [List.length_cons, List.length_nil]; first | done | omega)) only [go_sem, Nat.reduceAdd, Nat.reduceMul, Nat.reduceSub, Nat.reduceEqDiff, Nat.reduceLeDiff, Nat.reduceMod, Nat.reduceLT, Int.reduceToNat, Int.reduceAdd, Int.reduceSub, Int.reduceMul, Int.reduceNeg, Int.reduceLE, Int.reduceLT, Int.reduceNe, Int.reduceEq, Int.reduceBEq, Int.reduceBNe, Int.reduceTMod, Int.reduceTDiv, Nat.reduceBEq]) | (refine allI (fun b => ?_)) | (refine allT (fun τ => ?_)) | (refine brP (fun h => ?_) (fun h => ?_) <;> (try simp only [zgx, zbx] at h)) | refine call_U (h0) ?_ | refine callG_U (fun _ => h0) ?_ | refine call_T (h0) ?_ | refine callG_T (fun _ => h0) ?_ | refine call_U (hf) ?_ | refine callG_U (fun _ => hf) ?_ | refine call_T (hf) ?_ | refine callG_T (fun _ => hf) ?_ | refine call_N (h0) ?_ | refine call_of (h0) ?_ | refine callG_of (fun _ => h0) ?_ | refine call_N (hf) ?_ | refine call_of (hf) ?_ | refine callG_of (fun _ => hf) ?_ | (apply And.intro; focus (first | omega | (simp; done) | (simp +contextual; done) | (intros; and_intros <;> first | assumption | omega) | (intros; simp_all; done) | (intro hgd; refine ⟨hgd, ?_⟩; simp [hgd]; done) | (intro hgd; simp only [zgx] at hgd ⊢; omega))) | fail)
  rename_i b5
  generalize b = b7 at *
  refine loopI (ι := Nat × Int × Tok) (fun y => y.1 ≤ rs.length ∧ (0 ≤ y.2.1 ∧ y.2.1 ≤ 500 + y.1)) (fun y => [(9, .int .i64 y.1), (8, .osl 49 y.2.2 5 (feedS A0 (rs.take y.1)).2.length ((feedS A0 (rs.take y.1)).2.flatMap EvC)), (7, .ptr 7 b7 0), (6, .sl 5 (feedS A0 rs).2.length ((feedS A0 rs).2.flatMap EvC)), (5, .ptr 5 b5 0), (4, .sl 4 rs.length (rs.flatMap RcC)), (3, .ptr 3000 BS 0)]) (fun y => [(49, .tok y.2.2), (7, .blk b7 (AsC (feedS A0 (rs.take y.1)).1)), (5, .blk b5 (AsC (feedS A0 rs).1)), (3000, SB BS l y.2.1)]) (fun y => rs.length - y.1) (0, a1, ⟨0, 0, 0⟩) ⟨Nat.zero_le _, by dsimp only; omega⟩ ?_ ?_
  · refine Ents.dum 49 ?_
    rw [List.take_zero, show feedS A0 [] = (A0, []) from rfl, AsC_eq, AsC_eq]
    refine Ents.le ?_ ⟨rfl, ⟨rfl, leVs.refl _⟩, ⟨rfl, leVs.refl _⟩, ⟨rfl, leVs.refl _⟩, trivial⟩
    simp only [envLe, Lx.get, if_true, Nat.reduceEqDiff, if_false]
    exact ⟨leV.refl _, leV.nil_osl _ _ _ _, leV.refl _, leV.refl _, leV.refl _, leV.refl _, leV.refl _, trivial⟩
  rintro ⟨k, a, τ⟩ ⟨hk, ha1, ha2⟩
  dsimp only at hk ha1 ha2 ⊢
  have hlr := len_rc rs
  simp (disch := first | omega | (simp only [List.length_cons, List.length_nil]; first | done | omega)) only [go_sem, Nat.reduceAdd, Nat.reduceMul, Nat.reduceSub, Nat.reduceEqDiff, Nat.reduceLeDiff, Nat.reduceMod, Nat.reduceLT, Int.reduceToNat, Int.reduceAdd, Int.reduceSub, Int.reduceMul, Int.reduceNeg, Int.reduceLE, Int.reduceLT, Int.reduceNe, Int.reduceEq, Int.reduceBEq, Int.reduceBNe, Int.reduceTMod, Int.reduceTDiv, Nat.reduceBEq]
  refine brP (fun hb => ?_) (fun hb => ?_)
  · have hlt : k < rs.length := by simpa using hb
    have hfs := fun j => feedS_app A0 (rs.take k) ((rs.drop k).take j)
    have okk := okA_feedS okA1 (rs.take k) fun r hr => hps2 r (List.mem_of_mem_take hr)
    have hl1 := out_len 1 (rs.take k) fun r hr => hps2 r (List.mem_of_mem_take hr)
    rw [← hA0] at hl1
    generalize hS : feedS A0 (rs.take k) = S at *
    obtain ⟨A, o⟩ := S
    rw [AsC_eq A]
    dsimp only at *
    repeat' (first | (simp (disch := first | omega | (simp only [List.length_cons, List.length_nil]; first | done | omega)) only [go_sem, Nat.reduceAdd, Nat.reduceMul, Nat.reduceSub, Nat.reduceEqDiff, Nat.reduceLeDiff, Nat.reduceMod, Nat.reduceLT, Int.reduceToNat, Int.reduceAdd, Int.reduceSub, Int.reduceMul, Int.reduceNeg, Int.reduceLE, Int.reduceLT, Int.reduceNe, Int.reduceEq, Int.reduceBEq, Int.reduceBNe, Int.reduceTMod, Int.reduceTDiv, Nat.reduceBEq]) | (refine allI (fun b => ?_)) | (refine allT (fun τ => ?_)) | (refine brP (fun h => ?_) (fun h => ?_) <;> (try simp only [zgx, zbx] at h)) | (apply And.intro; focus (first | omega | (simp; done) | (simp +contextual; done) | (intros; and_intros <;> first | assumption | omega) | (intros; simp_all; done) | (intro hgd; refine ⟨hgd, ?_⟩; simp [hgd]; done) | (intro hgd; simp only [zgx] at hgd ⊢; omega))) | fail)
    first | refine actsE_U (range_ 3000 _ l _ 1 5 (hok a (by omega) (by omega)) (by omega) (by omega)) (by first | rfl | simp only [getH, if_true]) ?_ | refine actsE_T (range_ 3000 _ l _ 1 5 (hok a (by omega) (by omega)) (by omega) (by omega)) (by first | rfl | simp only [getH, if_true]) ?_ | refine actsE_N (range_ 3000 _ l _ 1 5 (hok a (by omega) (by omega)) (by omega) (by omega)) (by first | rfl | simp only [getH, if_true]) ?_ | refine actsE_of (range_ 3000 _ l _ 1 5 (hok a (by omega) (by omega)) (by omega) (by omega)) (by first | rfl | simp only [getH, if_true]) ?_
    rintro _ _ ⟨rfl, rfl⟩
    have hv := nV_range l a (n := 5 - 1 + 1) (by omega)
    generalize nV l a (5 - 1 + 1) = v0 at *
    obtain ⟨j, hj, hj1⟩ : ∃ j : Nat, (if 1 + v0 < (rs.length : Int) - k then 1 + v0 else (rs.length : Int) - k) = j ∧ 1 ≤ j ∧ k + j ≤ rs.length := by
      by_cases hc : 1 + v0 < (rs.length : Int) - k
      · exact ⟨(1 + v0).toNat, by rw [if_pos hc]; omega, by omega⟩
      · exact ⟨rs.length - k, by rw [if_neg hc]; omega, by omega⟩
    have hfj := hfs j
    rw [← List.take_add] at hfj
    have hPl : ((rs.drop k).take j).length = j := by rw [List.length_take, List.length_drop]; omega
    have hcut : List.take (j * 4) (List.drop (k * 4) (rs.flatMap RcC)) = ((rs.drop k).take j).flatMap RcC := by
      rw [take_fm (f := RcC) (w := 4) (fun _ => rfl), drop_fm (f := RcC) (w := 4) (fun _ => rfl)]
    have hpP : ∀ r ∈ (rs.drop k).take j, r.ps.length ≤ 1000000 := fun r hr => hps2 r (List.mem_of_mem_drop (List.mem_of_mem_take hr))
    have hl2 := out_len 1 (rs.take (k + j)) fun r hr => hps2 r (List.mem_of_mem_take hr)
    rw [← hA0, hfj] at hl2
    have hff := feed A _ okk ((rs.drop k).take j) (by rw [hPl, List.length_take]; omega) hpP
    rw [AsC_eq A, hPl] at hff
    generalize (rs.drop k).take j = P at *
    have hkj : ((k : Int) + (j : Int)).toNat - k = j := by omega
    generalize hT : feedS A P = T at *
    obtain ⟨A2, o2⟩ := T
    dsimp only [pre] at hl2 hff hfj
    rw [AsC_eq A2] at hff
    have hl3 : o.length + o2.length ≤ rs.length := by rw [List.length_append, List.length_take] at hl2; omega
    repeat' (first | (simp (disch := first | omega | (simp only [List.length_cons, List.length_nil]; first | done | omega)) only [go_sem, Nat.reduceAdd, Nat.reduceMul, Nat.reduceSub, Nat.reduceEqDiff, Nat.reduceLeDiff, Nat.reduceMod, Nat.reduceLT, Int.reduceToNat, Int.reduceAdd, Int.reduceSub, Int.reduceMul, Int.reduceNeg, Int.reduceLE, Int.reduceLT, Int.reduceNe, Int.reduceEq, Int.reduceBEq, Int.reduceBNe, Int.reduceTMod, Int.reduceTDiv, Nat.reduceBEq, hj, hkj, hcut]) | (refine allI (fun b => ?_)) | (refine allT (fun τ => ?_)) | (refine brP (fun h => ?_) (fun h => ?_) <;> (try simp only [zgx, zbx] at h)) | refine call_U (hff) ?_ | refine callG_U (fun _ => hff) ?_ | refine call_T (hff) ?_ | refine callG_T (fun _ => hff) ?_ | refine call_N (hff) ?_ | refine call_of (hff) ?_ | refine callG_of (fun _ => hff) ?_ | (apply And.intro; focus (first | omega | (simp; done) | (simp +contextual; done) | (intros; and_intros <;> first | assumption | omega) | (intros; simp_all; done) | (intro hgd; refine ⟨hgd, ?_⟩; simp [hgd]; done) | (intro hgd; simp only [zgx] at hgd ⊢; omega))) | fail)
    refine ⟨by simp only [roomy]; omega, fun τ1 => ?_⟩
    refine ⟨⟨(k + j, a + 1, τ1), ⟨by dsimp only; omega, by dsimp only; omega⟩⟩, by dsimp only; omega, ?_⟩
    dsimp only
    rw [hfj]
    dsimp only
    rw [List.flatMap_append, List.length_append, AsC_eq A2, show ((k + j : Nat) : Int) = (k : Int) + j by omega]
    exact Ents.sub (by simp [go_sem]) ⟨_, .cons_cons _ (.cons _ (.cons_cons _ (.cons_cons _ (.cons_cons _ (List.nil_sublist _))))), List.Perm.refl _⟩
  · have hke : k = rs.length := by simp only [decide_eq_false_iff_not] at hb; omega
    subst hke
    rw [List.take_length]
    have hse2 := LCalls.args (args' := [.sl 5 (feedS A0 rs).2.length ((feedS A0 rs).2.flatMap EvC), .osl 49 τ 5 (feedS A0 rs).2.length ((feedS A0 rs).2.flatMap EvC)]) hse ⟨leV.refl _, leV.osl_sl _ _ _ _ _, trivial⟩
    generalize feedS A0 rs = S at *
    rw [AsC_eq]
    repeat' (first | (simp (disch := first | omega | (simp only [List.length_cons, List.length_nil]; first | done | omega)) only [go_sem, Nat.reduceAdd, Nat.reduceMul, Nat.reduceSub, Nat.reduceEqDiff, Nat.reduceLeDiff, Nat.reduceMod, Nat.reduceLT, Int.reduceToNat, Int.reduceAdd, Int.reduceSub, Int.reduceMul, Int.reduceNeg, Int.reduceLE, Int.reduceLT, Int.reduceNe, Int.reduceEq, Int.reduceBEq, Int.reduceBNe, Int.reduceTMod, Int.reduceTDiv, Nat.reduceBEq]) | (refine allI (fun b => ?_)) | (refine allT (fun τ => ?_)) | (refine brP (fun h => ?_) (fun h => ?_) <;> (try simp only [zgx, zbx] at h)) | refine call_U (hsa) ?_ | refine callG_U (fun _ => hsa) ?_ | refine call_T (hsa) ?_ | refine callG_T (fun _ => hsa) ?_ | refine call_U (hse2) ?_ | refine callG_U (fun _ => hse2) ?_ | refine call_T (hse2) ?_ | refine callG_T (fun _ => hse2) ?_ | refine call_U (awake) ?_ | refine callG_U (fun _ => awake) ?_ | refine call_T (awake) ?_ | refine callG_T (fun _ => awake) ?_ | refine call_N (hsa) ?_ | refine call_of (hsa) ?_ | refine callG_of (fun _ => hsa) ?_ | refine call_N (hse2) ?_ | refine call_of (hse2) ?_ | refine callG_of (fun _ => hse2) ?_ | refine call_N (awake) ?_ | refine call_of (awake) ?_ | refine callG_of (fun _ => awake) ?_ | (apply And.intro; focus (first | omega | (simp; done) | (simp +contextual; done) | (intros; and_intros <;> first | assumption | omega) | (intros; simp_all; done) | (intro hgd; refine ⟨hgd, ?_⟩; simp [hgd]; done) | (intro hgd; simp only [zgx] at hgd ⊢; omega))) | fail)
    exact view_sub (leV.refl _) (List.nil_sublist _)
end Go.Proofs.YtfheeghkajihoaaDoor
