/- Layer 20: backlog: what a backlog looks like; copies of its parts. -/
import Derived.Test.YtofpepjehiohcaaGl
import Derived.Test.YtofpepjehiohcaaLxS
namespace Go.Proofs.Ytofpepjehiohcaa
open Go Go.Lx
set_option linter.unusedSimpArgs false
set_option linter.unusedVariables false
set_option maxRecDepth 100000
set_option maxHeartbeats 1000000

structure Pa where
  n : List UInt8
  k : Int
  m : Int
  t : List UInt8
structure Rc where
  ty : Int
  ti : Int
  se : Int
  ps : List Pa
structure Lo where
  f : Int
  l : Int
  r : Int
  u : Int
  s : Int
structure Bl where
  lim : Int
  rate : Int
  fail : Int
  ser : Int
  res : Int
  op : List Int
  qu : List Rc
  pd : Lo
  win : Int
  used : Int
  lost : Int
  hal : Bool
  no : List (Int × Int)
def PaC (p : Pa) : List LV := [.str p.n, .int .i64 p.k, .int .i64 p.m, .str p.t]
def PaS (ps : List Pa) : LV := .sl 4 ps.length (ps.flatMap PaC)
def RcC (r : Rc) : List LV := [.int .i64 r.ty, .int .i64 r.ti, .int .i64 r.se, PaS r.ps]
def NoC (p : Int × Int) : List LV := [.int .i64 p.1, .int .i64 p.2]
def InS (l : List Int) : LV := .sl 1 l.length (l.map (LV.int .i64))
def RcS (l : List Rc) : LV := .sl 4 l.length (l.flatMap RcC)
def NoS (l : List (Int × Int)) : LV := .sl 2 l.length (l.flatMap NoC)
def LoC (p : Lo) : List LV := [.int .i64 p.f, .int .i64 p.l, .int .i64 p.r, .int .i64 p.u, .int .i64 p.s]
def BlC (b : Bl) (o q n : LV) : List LV :=
  [.int .i64 b.lim, .int .i64 b.rate, .int .i64 b.fail, .int .i64 b.ser, .int .i64 b.res, o, q, .int .i64 b.pd.f, .int .i64 b.pd.l, .int .i64 b.pd.r, .int .i64 b.pd.u, .int .i64 b.pd.s, .int .i64 b.win, .int .i64 b.used, .int .i64 b.lost, .bool b.hal, n]
def BlL (b : Bl) : LV := .agg (BlC b (InS b.op) (RcS b.qu) (NoS b.no))
/-- a list is copied into a block of one's own -/
def Copies (f : Nat) (sz id : Nat) (arg : LV) (n : Nat) (cs : List LV) : Prop :=
  NewsE Try.prog gl f [arg] id fun r e => ∃ b c, n ≤ c ∧ r = .msl id sz b 0 n c ∧ e = .blk b (Sp cs ((c - n) * sz))
theorem Copies.name {f sz id i : Nat} {arg : LV} {n : Nat} {cs : List LV} (h : Copies f sz i arg n cs) : Copies f sz id arg n cs :=
  NewsE.name h fun r e ⟨b, c, h1, h2, h3⟩ => ⟨_, by subst h2; exact leV.msl_name _ id _ _ _ _ _, b, c, h1, rfl, h3⟩
theorem clonei (n : Nat) (cs : List LV) (hn : n ≤ 1000000000) (hc : cs.length = n * 1) : Copies 55 1 7 (.sl 1 n cs) n cs := by
  refine fn_viewT Try.func55 t55 Try.ntmps55 (by simp) ?_
  unfold c55 r55
  simp (disch := first | omega | (simp only [List.length_cons, List.length_nil]; first | done | omega)) only [go_sem, Nat.reduceAdd, Nat.reduceMul, Nat.reduceSub, Nat.reduceEqDiff, Nat.reduceLeDiff, Nat.reduceMod, Nat.reduceLT, Int.reduceToNat, Int.reduceAdd, Int.reduceSub, Int.reduceMul, Int.reduceNeg, Int.reduceLE, Int.reduceLT, Int.toNat_natCast, Int.cast_ofNat_Int, Int.reduceNe, Int.reduceEq, Int.reduceBEq, Int.reduceBNe, not_false_eq_true, ne_eq, Int.reduceTMod, Int.reduceTDiv, beq_self_eq_true, bne_self_eq_false, List.contains_cons, List.contains_nil, Nat.reduceBEq]
  intro r hr
  repeat' (first | (simp (disch := first | omega | (simp only [List.length_cons, List.length_nil]; first | done | omega)) only [go_sem, Nat.reduceAdd, Nat.reduceMul, Nat.reduceSub, Nat.reduceEqDiff, Nat.reduceLeDiff, Nat.reduceMod, Nat.reduceLT, Int.reduceToNat, Int.reduceAdd, Int.reduceSub, Int.reduceMul, Int.reduceNeg, Int.reduceLE, Int.reduceLT, Int.toNat_natCast, Int.cast_ofNat_Int, Int.reduceNe, Int.reduceEq, Int.reduceBEq, Int.reduceBNe, not_false_eq_true, ne_eq, Int.reduceTMod, Int.reduceTDiv, beq_self_eq_true, bne_self_eq_false, List.contains_cons, List.contains_nil, Nat.reduceBEq]) | (refine allI (fun b => ?_)) | (refine allT (fun τ => ?_)) | (refine brP (fun h => ?_) (fun h => ?_) <;> (try simp only [Bool.and_eq_true, Bool.and_eq_false_iff, Bool.or_eq_true, Bool.or_eq_false_iff, Bool.not_eq_true', Bool.not_eq_false', decide_eq_true_eq, decide_eq_false_iff_not, beq_iff_eq, beq_eq_false_iff_ne, ne_eq, bne_iff_ne, Int.not_lt, Int.not_le] at h)))
  · have h0 : r = true := by simpa using h
    obtain rfl : n = 0 := hr h0
    obtain rfl : cs = [] := List.length_eq_zero_iff.1 (by simpa using hc)
    exact ⟨_, _, leVH.ofNil 7 _ 1, _, rfl, 0, 0, by omega, rfl, by simp [Sp]⟩
  · exact ⟨by simp only [roomy]; omega, fun b2 c2 h2 => ⟨_, _, leVH.self _ _, _, rfl, b2, c2, h2, rfl, rfl⟩⟩
theorem clonen (n : Nat) (cs : List LV) (hn : n ≤ 1000000000) (hc : cs.length = n * 2) : Copies 56 2 7 (.sl 2 n cs) n cs := by
  refine fn_viewT Try.func56 t56 Try.ntmps56 (by simp) ?_
  unfold c56 r56
  simp (disch := first | omega | (simp only [List.length_cons, List.length_nil]; first | done | omega)) only [go_sem, Nat.reduceAdd, Nat.reduceMul, Nat.reduceSub, Nat.reduceEqDiff, Nat.reduceLeDiff, Nat.reduceMod, Nat.reduceLT, Int.reduceToNat, Int.reduceAdd, Int.reduceSub, Int.reduceMul, Int.reduceNeg, Int.reduceLE, Int.reduceLT, Int.toNat_natCast, Int.cast_ofNat_Int, Int.reduceNe, Int.reduceEq, Int.reduceBEq, Int.reduceBNe, not_false_eq_true, ne_eq, Int.reduceTMod, Int.reduceTDiv, beq_self_eq_true, bne_self_eq_false, List.contains_cons, List.contains_nil, Nat.reduceBEq]
  intro r hr
  repeat' (first | (simp (disch := first | omega | (simp only [List.length_cons, List.length_nil]; first | done | omega)) only [go_sem, Nat.reduceAdd, Nat.reduceMul, Nat.reduceSub, Nat.reduceEqDiff, Nat.reduceLeDiff, Nat.reduceMod, Nat.reduceLT, Int.reduceToNat, Int.reduceAdd, Int.reduceSub, Int.reduceMul, Int.reduceNeg, Int.reduceLE, Int.reduceLT, Int.toNat_natCast, Int.cast_ofNat_Int, Int.reduceNe, Int.reduceEq, Int.reduceBEq, Int.reduceBNe, not_false_eq_true, ne_eq, Int.reduceTMod, Int.reduceTDiv, beq_self_eq_true, bne_self_eq_false, List.contains_cons, List.contains_nil, Nat.reduceBEq]) | (refine allI (fun b => ?_)) | (refine allT (fun τ => ?_)) | (refine brP (fun h => ?_) (fun h => ?_) <;> (try simp only [Bool.and_eq_true, Bool.and_eq_false_iff, Bool.or_eq_true, Bool.or_eq_false_iff, Bool.not_eq_true', Bool.not_eq_false', decide_eq_true_eq, decide_eq_false_iff_not, beq_iff_eq, beq_eq_false_iff_ne, ne_eq, bne_iff_ne, Int.not_lt, Int.not_le] at h)))
  · have h0 : r = true := by simpa using h
    obtain rfl : n = 0 := hr h0
    obtain rfl : cs = [] := List.length_eq_zero_iff.1 (by simpa using hc)
    exact ⟨_, _, leVH.ofNil 7 _ 2, _, rfl, 0, 0, by omega, rfl, by simp [Sp]⟩
  · exact ⟨by simp only [roomy]; omega, fun b2 c2 h2 => ⟨_, _, leVH.self _ _, _, rfl, b2, c2, h2, rfl, rfl⟩⟩
theorem clonep (n : Nat) (cs : List LV) (hn : n ≤ 1000000000) (hc : cs.length = n * 4) : Pure Try.prog gl 59 [.sl 4 n cs] (.sl 4 n cs) := by
  refine fn_viewT Try.func59 t59 Try.ntmps59 (by simp) ?_
  unfold c59 r59
  simp (disch := first | omega | (simp only [List.length_cons, List.length_nil]; first | done | omega)) only [go_sem, Nat.reduceAdd, Nat.reduceMul, Nat.reduceSub, Nat.reduceEqDiff, Nat.reduceLeDiff, Nat.reduceMod, Nat.reduceLT, Int.reduceToNat, Int.reduceAdd, Int.reduceSub, Int.reduceMul, Int.reduceNeg, Int.reduceLE, Int.reduceLT, Int.toNat_natCast, Int.cast_ofNat_Int, Int.reduceNe, Int.reduceEq, Int.reduceBEq, Int.reduceBNe, not_false_eq_true, ne_eq, Int.reduceTMod, Int.reduceTDiv, beq_self_eq_true, bne_self_eq_false, List.contains_cons, List.contains_nil, Nat.reduceBEq]
  intro r hr
  repeat' (first | (simp (disch := first | omega | (simp only [List.length_cons, List.length_nil]; first | done | omega)) only [go_sem, Nat.reduceAdd, Nat.reduceMul, Nat.reduceSub, Nat.reduceEqDiff, Nat.reduceLeDiff, Nat.reduceMod, Nat.reduceLT, Int.reduceToNat, Int.reduceAdd, Int.reduceSub, Int.reduceMul, Int.reduceNeg, Int.reduceLE, Int.reduceLT, Int.toNat_natCast, Int.cast_ofNat_Int, Int.reduceNe, Int.reduceEq, Int.reduceBEq, Int.reduceBNe, not_false_eq_true, ne_eq, Int.reduceTMod, Int.reduceTDiv, beq_self_eq_true, bne_self_eq_false, List.contains_cons, List.contains_nil, Nat.reduceBEq]) | (refine allI (fun b => ?_)) | (refine allT (fun τ => ?_)) | (refine brP (fun h => ?_) (fun h => ?_) <;> (try simp only [Bool.and_eq_true, Bool.and_eq_false_iff, Bool.or_eq_true, Bool.or_eq_false_iff, Bool.not_eq_true', Bool.not_eq_false', decide_eq_true_eq, decide_eq_false_iff_not, beq_iff_eq, beq_eq_false_iff_ne, ne_eq, bne_iff_ne, Int.not_lt, Int.not_le] at h)))
  · have h0 : r = true := by simpa using h
    obtain rfl : n = 0 := hr h0
    obtain rfl : cs = [] := List.length_eq_zero_iff.1 (by simpa using hc)
    exact view_sub (leV.nil_sl _ _) (List.Sublist.refl _)
  · refine ⟨by simp only [roomy]; omega, fun τ_ => view_sub (leV.osl_sl _ _ _ _ _) (List.nil_sublist _)⟩
theorem len_ps (ps : List Pa) : (ps.flatMap PaC).length = ps.length * 4 := length_rows (f := PaC) (w := 4) (fun _ => rfl) ps
theorem crec (r : Rc) (hn : r.ps.length ≤ 1000000000) : Pure Try.prog gl 46 [.agg (RcC r)] (.agg (RcC r)) := by
  refine fn_pureT Try.func46 t46 Try.ntmps46 (by simp) ?_
  have hp := clonep r.ps.length (r.ps.flatMap PaC) hn (len_ps r.ps)
  unfold c46 r46 RcC PaS
  simp (disch := first | omega | (simp only [List.length_cons, List.length_nil]; first | done | omega)) only [go_sem, Nat.reduceAdd, Nat.reduceMul, Nat.reduceSub, Nat.reduceEqDiff, Nat.reduceLeDiff, Nat.reduceMod, Nat.reduceLT, Int.reduceToNat, Int.reduceAdd, Int.reduceSub, Int.reduceMul, Int.reduceNeg, Int.reduceLE, Int.reduceLT, Int.toNat_natCast, Int.cast_ofNat_Int, Int.reduceNe, Int.reduceEq, Int.reduceBEq, Int.reduceBNe, not_false_eq_true, ne_eq, Int.reduceTMod, Int.reduceTDiv, beq_self_eq_true, bne_self_eq_false, List.contains_cons, List.contains_nil, Nat.reduceBEq]
  intro b1 b2
  first | refine call_U (hp) ?_ | refine call_T (hp) ?_ | refine call_N (hp) ?_ | refine call_of (hp) ?_
  simp (disch := first | omega | (simp only [List.length_cons, List.length_nil]; first | done | omega)) only [go_sem, Nat.reduceAdd, Nat.reduceMul, Nat.reduceSub, Nat.reduceEqDiff, Nat.reduceLeDiff, Nat.reduceMod, Nat.reduceLT, Int.reduceToNat, Int.reduceAdd, Int.reduceSub, Int.reduceMul, Int.reduceNeg, Int.reduceLE, Int.reduceLT, Int.toNat_natCast, Int.cast_ofNat_Int, Int.reduceNe, Int.reduceEq, Int.reduceBEq, Int.reduceBNe, not_false_eq_true, ne_eq, Int.reduceTMod, Int.reduceTDiv, beq_self_eq_true, bne_self_eq_false, List.contains_cons, List.contains_nil, Nat.reduceBEq]
def okR (l : List Rc) : Prop := l.length ≤ 1000000000 ∧ ∀ r ∈ l, r.ps.length ≤ 1000000000
theorem len_rc (l : List Rc) : (l.flatMap RcC).length = l.length * 4 := length_rows (f := RcC) (w := 4) (fun _ => rfl) l
def rc0 : Rc := ⟨0, 0, 0, []⟩
theorem take_rc (l : List Rc) {i : Nat} (h : i < l.length) : ((l.flatMap RcC).drop (i * 4)).take 4 = RcC (l.getD i rc0) := by
  induction l generalizing i with
  | nil => simp at h
  | cons r l ih =>
    cases i with
    | zero => simp [List.flatMap_cons, RcC]
    | succ i =>
      have := ih (i := i) (by simpa using h)
      simp only [List.flatMap_cons, List.getD_cons_succ]
      rw [← this, show (i + 1) * 4 = (RcC r).length + i * 4 by simp [RcC]; omega, List.drop_append, List.drop_eq_nil_of_le (by omega), List.nil_append, Nat.add_sub_cancel_left]
theorem take_succ_rc (l : List Rc) {i : Nat} (h : i < l.length) : l.take (i + 1) = l.take i ++ [l.getD i rc0] := by
  rw [List.take_add_one]
  simp [List.getD, h]
theorem RcC_eq (r : Rc) : RcC r = [.int .i64 r.ty, .int .i64 r.ti, .int .i64 r.se, PaS r.ps] := Eq.trans rfl rfl
theorem PaS_eq (ps : List Pa) : PaS ps = .sl 4 ps.length (ps.flatMap PaC) := Eq.trans rfl rfl
theorem zR : zeros ([.int .i64 0, .int .i64 0, .int .i64 0, .fsl 1 0 []] : List LV) 4 = [.int .i64 0, .int .i64 0, .int .i64 0, .fsl 1 0 []] := Eq.trans rfl rfl
theorem crecs (l : List Rc) (hl : okR l) : Copies 49 4 8 (RcS l) l.length (l.flatMap RcC) := by
  refine fn_viewT Try.func49 t49 Try.ntmps49 (by simp) ?_
  obtain ⟨hn, hp⟩ := hl
  have hlen := len_rc l
  unfold c49 r49 RcS
  simp (disch := first | omega | (simp only [List.length_cons, List.length_nil]; first | done | omega)) only [go_sem, Nat.reduceAdd, Nat.reduceMul, Nat.reduceSub, Nat.reduceEqDiff, Nat.reduceLeDiff, Nat.reduceMod, Nat.reduceLT, Int.reduceToNat, Int.reduceAdd, Int.reduceSub, Int.reduceMul, Int.reduceNeg, Int.reduceLE, Int.reduceLT, Int.toNat_natCast, Int.cast_ofNat_Int, Int.reduceNe, Int.reduceEq, Int.reduceBEq, Int.reduceBNe, not_false_eq_true, ne_eq, Int.reduceTMod, Int.reduceTDiv, beq_self_eq_true, bne_self_eq_false, List.contains_cons, List.contains_nil, Nat.reduceBEq]
  refine ⟨by omega, rfl, .inr fun b => ?_⟩
  refine loopI (ι := Nat × Nat × Nat) (fun x => x.1 ≤ l.length ∧ x.1 ≤ x.2.2) (fun x => [(11, .int .i64 x.1), (10, .int .i64 l.length), (9, .sl 4 l.length (l.flatMap RcC)), (3, .msl 8 4 x.2.1 0 x.1 x.2.2), (2, .fsl 1 0 []), (0, .sl 4 l.length (l.flatMap RcC))]) (fun x => [(8, .blk x.2.1 (Sp ((l.take x.1).flatMap RcC) ((x.2.2 - x.1) * 4)))]) (fun x => l.length - x.1) (0, b, l.length) (by simp) (Ents.le (by simp [go_sem]) ⟨⟨rfl, leVs_any (by simp [zeros, Sp])⟩, trivial⟩) ?_
  rintro ⟨i, b', c⟩ ⟨h1, h2⟩
  dsimp only at h1 h2 ⊢
  have htl : ((l.take i).flatMap RcC).length = i * 4 := by rw [len_rc, List.length_take, Nat.min_eq_left h1]
  repeat' (first | (simp (disch := first | omega | (simp only [List.length_cons, List.length_nil]; first | done | omega)) only [go_sem, Nat.reduceAdd, Nat.reduceMul, Nat.reduceSub, Nat.reduceEqDiff, Nat.reduceLeDiff, Nat.reduceMod, Nat.reduceLT, Int.reduceToNat, Int.reduceAdd, Int.reduceSub, Int.reduceMul, Int.reduceNeg, Int.reduceLE, Int.reduceLT, Int.toNat_natCast, Int.cast_ofNat_Int, Int.reduceNe, Int.reduceEq, Int.reduceBEq, Int.reduceBNe, not_false_eq_true, ne_eq, Int.reduceTMod, Int.reduceTDiv, beq_self_eq_true, bne_self_eq_false, List.contains_cons, List.contains_nil, Nat.reduceBEq]) | (refine allI (fun b => ?_)) | (refine allT (fun τ => ?_)) | (refine brP (fun h => ?_) (fun h => ?_) <;> (try simp only [Bool.and_eq_true, Bool.and_eq_false_iff, Bool.or_eq_true, Bool.or_eq_false_iff, Bool.not_eq_true', Bool.not_eq_false', decide_eq_true_eq, decide_eq_false_iff_not, beq_iff_eq, beq_eq_false_iff_ne, ne_eq, bne_iff_ne, Int.not_lt, Int.not_le] at h)))
  · have hlt : i < l.length := by omega
    have hc := crec (l.getD i rc0) (hp _ (by simp [List.getD, hlt]))
    rw [take_rc l hlt]
    refine ⟨by omega, by omega, fun b5 => ?_⟩
    rw [RcC_eq] at hc
    simp (disch := first | omega | (simp only [List.length_cons, List.length_nil]; first | done | omega)) only [go_sem, Nat.reduceAdd, Nat.reduceMul, Nat.reduceSub, Nat.reduceEqDiff, Nat.reduceLeDiff, Nat.reduceMod, Nat.reduceLT, Int.reduceToNat, Int.reduceAdd, Int.reduceSub, Int.reduceMul, Int.reduceNeg, Int.reduceLE, Int.reduceLT, Int.toNat_natCast, Int.cast_ofNat_Int, Int.reduceNe, Int.reduceEq, Int.reduceBEq, Int.reduceBNe, not_false_eq_true, ne_eq, Int.reduceTMod, Int.reduceTDiv, beq_self_eq_true, bne_self_eq_false, List.contains_cons, List.contains_nil, Nat.reduceBEq, RcC_eq, PaS_eq]
    rw [PaS_eq] at hc
    first | refine call_U (hc) ?_ | refine call_T (hc) ?_ | refine call_N (hc) ?_ | refine call_of (hc) ?_
    simp (disch := first | omega | (simp only [List.length_cons, List.length_nil]; first | done | omega)) only [go_sem, Nat.reduceAdd, Nat.reduceMul, Nat.reduceSub, Nat.reduceEqDiff, Nat.reduceLeDiff, Nat.reduceMod, Nat.reduceLT, Int.reduceToNat, Int.reduceAdd, Int.reduceSub, Int.reduceMul, Int.reduceNeg, Int.reduceLE, Int.reduceLT, Int.toNat_natCast, Int.cast_ofNat_Int, Int.reduceNe, Int.reduceEq, Int.reduceBEq, Int.reduceBNe, not_false_eq_true, ne_eq, Int.reduceTMod, Int.reduceTDiv, beq_self_eq_true, bne_self_eq_false, List.contains_cons, List.contains_nil, Nat.reduceBEq, zR]
    refine ⟨rfl, .inl ⟨by rw [length_Sp, htl]; omega, by rw [length_Sp, htl]; omega, by simp only [roomy]; omega, fun b2 c2 h3 => ?_⟩⟩
    rw [take_Sp _ htl, ← PaS_eq, ← RcC_eq]
    refine ⟨⟨(i + 1, b2, c2), by dsimp only; omega⟩, by dsimp only; omega, Ents.sub (by simp [go_sem]) ⟨_, sub1, ?_⟩⟩
    dsimp only
    rw [take_succ_rc l hlt, List.flatMap_append, List.flatMap_singleton, Sp]
  · obtain rfl : i = l.length := by omega
    rw [List.take_length]
    exact ⟨_, _, leVH.self _ _, _, rfl, b', c, h2, rfl, rfl⟩
end Go.Proofs.Ytofpepjehiohcaa
