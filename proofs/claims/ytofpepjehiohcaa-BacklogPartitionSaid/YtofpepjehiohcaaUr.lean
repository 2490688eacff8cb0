/- Layer 20: plays: an offer. -/
import Derived.Test.YtofpepjehiohcaaUq
namespace Go.Proofs.Ytofpepjehiohcaa
open Go Go.Lx
set_option linter.unusedSimpArgs false
set_option linter.unusedVariables false
set_option maxRecDepth 100000
set_option maxHeartbeats 2000000

/-- a play: the backlog of the program, which is that of the reference; the events that are open; the time; what was taken and given -/
structure Pl where
  b : Bl
  op : List (List Rc)
  ti : Int
  tk : List Rc
  gv : List Int
def PlC (x : Pl) (o t g : LV) : List LV :=
  BlC x.b (InS x.b.op) (RcS x.b.qu) (NoS x.b.no) ++ (BlC x.b (InS x.b.op) (RcS x.b.qu) (NoS x.b.no) ++ [o, .int .i64 x.ti, t, g])
def PlH (x : Pl) (p b1 c1 b2 c2 b3 c3 : Nat) : Heap :=
  [(5000, .blk p (PlC x (.msl 5001 1 b1 0 x.op.length c1) (.msl 5002 4 b2 0 x.tk.length c2) (.msl 5003 1 b3 0 x.gv.length c3))),
   (5001, .blk b1 (Sp (x.op.map RcS) ((c1 - x.op.length) * 1))), (5002, .blk b2 (Sp (x.tk.flatMap RcC) ((c2 - x.tk.length) * 4))), (5003, .blk b3 (Sp (x.gv.map (LV.int .i64)) ((c3 - x.gv.length) * 1)))]
def PlQ (x : Pl) (p : Nat) (r0 : LV) (r : LV) (H : Heap) : Prop := ∃ b1 c1 b2 c2 b3 c3, (x.op.length ≤ c1 ∧ x.tk.length ≤ c2 ∧ x.gv.length ≤ c3) ∧ r = r0 ∧ H = PlH x p b1 c1 b2 c2 b3 c3
/-- the sizes after k steps -/
structure okP (k : Nat) (x : Pl) : Prop where
  kk : k ≤ 1000
  b : okK k x.b
  g : Gd x.b
  ti : 0 ≤ x.ti ∧ x.ti ≤ 1000 * k
  ol : x.op.length ≤ k
  on : ∀ l ∈ x.op, l ≠ [] ∧ l.length ≤ 64 ∧ ∀ r ∈ l, r.ps.length ≤ 1000
  tl : x.tk.length ≤ 1000 * k
  gl : x.gv.length ≤ k
/-- the records of an event -/
def itR (t s : Int) (i : Nat) : Rc := ⟨1302, t, s, [⟨[105, 116, 101, 109], 1, i, []⟩]⟩
def evR (t s n : Int) : List Rc := (List.range n.toNat).map (itR t s)
def offP (x : Pl) (n : Int) : Pl :=
  let o := offB x.b x.ti n
  if o.2.2 then { x with b := o.1, op := x.op ++ [evR x.ti o.2.1 n], gv := x.gv ++ [o.2.1] } else { x with b := o.1 }
theorem offB_n {b : Bl} {t n : Int} (h : (offB b t n).2.2 = true) : 1 ≤ n ∧ n ≤ 64 := by
  unfold offB at h
  split at h
  · simp at h
  · omega
theorem RcS_eq (l : List Rc) : RcS l = .sl 4 l.length (l.flatMap RcC) := Eq.trans rfl rfl
theorem zPa : zeros ([.str [], .int .i64 0, .int .i64 0, .str []] : List LV) 4 = [.str [], .int .i64 0, .int .i64 0, .str []] := Eq.trans rfl rfl
theorem poffer (x : Pl) (k : Nat) (hx : okP k x) (hk : k + 1 ≤ 1000) (p b1 c1 b2 c2 b3 c3 : Nat) (hc : x.op.length ≤ c1 ∧ x.tk.length ≤ c2 ∧ x.gv.length ≤ c3) (n : Int) :
    LCalls Try.prog gl 31 [.ptr 5000 p 0, .int .i64 n] (PlH x p b1 c1 b2 c2 b3 c3) (PlQ (offP x n) p (.bool true)) := by
  refine fn_viewT Try.func31 t31 Try.ntmps31 (by simp) ?_
  obtain ⟨h0, h1, h2, h3, h4, h5, h6, h7⟩ := hx
  have ho := offer x.b k h1 x.ti n
  have hr := roffer x.b k h1 h2.pf' x.ti n
  have hn := offB_n (b := x.b) (t := x.ti) (n := n)
  have hP : offP x n = if (offB x.b x.ti n).2.2 then { x with b := (offB x.b x.ti n).1, op := x.op ++ [evR x.ti (offB x.b x.ti n).2.1 n], gv := x.gv ++ [(offB x.b x.ti n).2.1] } else { x with b := (offB x.b x.ti n).1 } := rfl
  generalize offB x.b x.ti n = B at *
  obtain ⟨B, S, A⟩ := B
  dsimp only at ho hr hn hP
  rw [hP]
  unfold BlL BlC InS RcS NoS at ho hr
  unfold c31 r31 PlH PlC
  simp only [BlC, InS, RcS, NoS, List.cons_append, List.nil_append]
  simp (disch := first | omega | (simp only [List.length_cons, List.length_nil]; first | done | omega)) only [go_sem, Nat.reduceAdd, Nat.reduceMul, Nat.reduceSub, Nat.reduceEqDiff, Nat.reduceLeDiff, Nat.reduceMod, Nat.reduceLT, Int.reduceToNat, Int.reduceAdd, Int.reduceSub, Int.reduceMul, Int.reduceNeg, Int.reduceLE, Int.reduceLT, Int.toNat_natCast, Int.cast_ofNat_Int, Int.reduceNe, Int.reduceEq, Int.reduceBEq, Int.reduceBNe, not_false_eq_true, ne_eq, Int.reduceTMod, Int.reduceTDiv, beq_self_eq_true, bne_self_eq_false, List.contains_cons, List.contains_nil, Nat.reduceBEq]
  first | refine call_U (ho) ?_ | refine call_T (ho) ?_ | refine call_N (ho) ?_ | refine call_of (ho) ?_
  simp (disch := first | omega | (simp only [List.length_cons, List.length_nil]; first | done | omega)) only [go_sem, Nat.reduceAdd, Nat.reduceMul, Nat.reduceSub, Nat.reduceEqDiff, Nat.reduceLeDiff, Nat.reduceMod, Nat.reduceLT, Int.reduceToNat, Int.reduceAdd, Int.reduceSub, Int.reduceMul, Int.reduceNeg, Int.reduceLE, Int.reduceLT, Int.toNat_natCast, Int.cast_ofNat_Int, Int.reduceNe, Int.reduceEq, Int.reduceBEq, Int.reduceBNe, not_false_eq_true, ne_eq, Int.reduceTMod, Int.reduceTDiv, beq_self_eq_true, bne_self_eq_false, List.contains_cons, List.contains_nil, Nat.reduceBEq]
  intro p5
  first | refine call_U (hr) ?_ | refine call_T (hr) ?_ | refine call_N (hr) ?_ | refine call_of (hr) ?_
  simp (disch := first | omega | (simp only [List.length_cons, List.length_nil]; first | done | omega)) only [go_sem, Nat.reduceAdd, Nat.reduceMul, Nat.reduceSub, Nat.reduceEqDiff, Nat.reduceLeDiff, Nat.reduceMod, Nat.reduceLT, Int.reduceToNat, Int.reduceAdd, Int.reduceSub, Int.reduceMul, Int.reduceNeg, Int.reduceLE, Int.reduceLT, Int.toNat_natCast, Int.cast_ofNat_Int, Int.reduceNe, Int.reduceEq, Int.reduceBEq, Int.reduceBNe, not_false_eq_true, ne_eq, Int.reduceTMod, Int.reduceTDiv, beq_self_eq_true, bne_self_eq_false, List.contains_cons, List.contains_nil, Nat.reduceBEq]
  intro p8
  repeat' (first | (simp (disch := first | omega | (simp only [List.length_cons, List.length_nil]; first | done | omega)) only [go_sem, Nat.reduceAdd, Nat.reduceMul, Nat.reduceSub, Nat.reduceEqDiff, Nat.reduceLeDiff, Nat.reduceMod, Nat.reduceLT, Int.reduceToNat, Int.reduceAdd, Int.reduceSub, Int.reduceMul, Int.reduceNeg, Int.reduceLE, Int.reduceLT, Int.toNat_natCast, Int.cast_ofNat_Int, Int.reduceNe, Int.reduceEq, Int.reduceBEq, Int.reduceBNe, not_false_eq_true, ne_eq, Int.reduceTMod, Int.reduceTDiv, beq_self_eq_true, bne_self_eq_false, List.contains_cons, List.contains_nil, Nat.reduceBEq, bne_self_eq_false, beq_self_eq_true, Bool.not_true]) | (refine allI (fun b => ?_)) | (refine allT (fun τ => ?_)) | (refine brP (fun h => ?_) (fun h => ?_) <;> (try simp only [Bool.and_eq_true, Bool.and_eq_false_iff, Bool.or_eq_true, Bool.or_eq_false_iff, Bool.not_eq_true', Bool.not_eq_false', decide_eq_true_eq, decide_eq_false_iff_not, beq_iff_eq, beq_eq_false_iff_ne, ne_eq, bne_iff_ne, Int.not_lt, Int.not_le] at h)))
  · subst h
    obtain ⟨hn1, hn2⟩ := hn rfl
    refine loopI (ι := Nat × Tok) (fun y => y.1 ≤ n) (fun y => [(12, .int .i64 y.1), (11, .osl 74 y.2 4 y.1 (((List.range y.1).map (itR x.ti S)).flatMap RcC)), (9, .int .i64 S), (4, .bool false), (0, .ptr 5000 p 0), (1, .int .i64 n)]) (fun y => (74, .tok y.2) :: _) (fun y => n.toNat - y.1) (0, ⟨0, 0, 0⟩) (by dsimp only; omega) (Ents.dummyE 74 (by simp [go_sem, envLe, leV.nil_osl])) ?_
    rintro ⟨i, τ⟩ hi
    dsimp only at hi ⊢
    repeat' (first | (simp (disch := first | omega | (simp only [List.length_cons, List.length_nil]; first | done | omega)) only [go_sem, Nat.reduceAdd, Nat.reduceMul, Nat.reduceSub, Nat.reduceEqDiff, Nat.reduceLeDiff, Nat.reduceMod, Nat.reduceLT, Int.reduceToNat, Int.reduceAdd, Int.reduceSub, Int.reduceMul, Int.reduceNeg, Int.reduceLE, Int.reduceLT, Int.toNat_natCast, Int.cast_ofNat_Int, Int.reduceNe, Int.reduceEq, Int.reduceBEq, Int.reduceBNe, not_false_eq_true, ne_eq, Int.reduceTMod, Int.reduceTDiv, beq_self_eq_true, bne_self_eq_false, List.contains_cons, List.contains_nil, Nat.reduceBEq, zR, zPa]) | (refine allI (fun b => ?_)) | (refine allT (fun τ => ?_)) | (refine brP (fun h => ?_) (fun h => ?_) <;> (try simp only [Bool.and_eq_true, Bool.and_eq_false_iff, Bool.or_eq_true, Bool.or_eq_false_iff, Bool.not_eq_true', Bool.not_eq_false', decide_eq_true_eq, decide_eq_false_iff_not, beq_iff_eq, beq_eq_false_iff_ne, ne_eq, bne_iff_ne, Int.not_lt, Int.not_le] at h)))
    · refine ⟨by simp only [roomy]; omega, fun t2 => ⟨⟨(i + 1, t2), by dsimp only; omega⟩, by dsimp only; omega, Ents.envH ?_ rfl⟩⟩
      refine ⟨leV.refl _, ?_, leV.refl _, leV.refl _, leV.refl _, leV.refl _, trivial⟩
      show leV (.osl 74 t2 4 (i + 1) _) (.osl 74 t2 4 (i + 1) _)
      rw [List.range_succ, List.map_append, List.flatMap_append, List.map_singleton, List.flatMap_singleton]
      exact leV.osl (leVs.app (leVs.refl _) ⟨leV.refl _, leV.refl _, leV.refl _, leV.fsl_sl _ _ _, trivial⟩)
    · have hin : i = n.toNat := by omega
      have hol : (x.op.map RcS).length = x.op.length := by simp
      have hgl : (x.gv.map (LV.int .i64)).length = x.gv.length := by simp
      refine ⟨rfl, .inl ⟨by rw [length_Sp, hol]; omega, by rw [length_Sp, hol]; omega, by simp only [roomy]; omega, fun b1' c1' g1 => ⟨rfl, .inl ⟨by rw [length_Sp, hgl]; omega, by rw [length_Sp, hgl]; omega, by simp only [roomy]; omega, fun b3' c3' g3 => ?_⟩⟩⟩⟩
      rw [take_Sp _ (by rw [hgl, Nat.mul_one]), take_Sp _ (by rw [hol, Nat.mul_one])]
      subst hin
      refine ⟨.bool true, PlH { x with b := B, op := x.op ++ [evR x.ti S n], gv := x.gv ++ [S] } p b1' c1' b2 c2 b3' c3', leVH.pickd (H2 := [(5000, _), (5001, _), (5002, _), (5003, _)]) (leV.refl _) (pick_perm rfl (pick_perm rfl (pick_perm rfl (pick_perm rfl (List.Perm.refl _))))) ?_, b1', c1', b2, c2, b3', c3', ⟨by simpa using g1, hc.2.1, by simpa using g3⟩, rfl, rfl⟩
      have e1 : x.op.length + 1 = (x.op ++ [evR x.ti S n]).length := by simp
      have e2 : x.gv.length + 1 = (x.gv ++ [S]).length := by simp
      rw [e1, e2, ← Sp]
      refine ⟨⟨rfl, leVs.refl _⟩, ⟨rfl, ?_⟩, ⟨rfl, leVs.refl _⟩, ⟨rfl, ?_⟩, trivial⟩
      · rw [List.map_append]
        refine leVs.app (leVs.app (leVs.refl _) ⟨?_, trivial⟩) (leVs.refl _)
        rw [show RcS (evR x.ti S n) = .sl 4 n.toNat (((List.range n.toNat).map (itR x.ti S)).flatMap RcC) by simp [RcS, evR]]
        exact leV.osl_sl _ _ _ _ _
      · rw [List.map_append]
        exact leVs.refl _
  · subst h
    exact ⟨_, _, leVH.of (leV.refl _) ⟨_, List.Sublist.cons _ (List.Sublist.cons _ (List.Sublist.refl _)), List.Perm.refl _⟩, b1, c1, b2, c2, b3, c3, hc, rfl, rfl⟩
end Go.Proofs.Ytofpepjehiohcaa
