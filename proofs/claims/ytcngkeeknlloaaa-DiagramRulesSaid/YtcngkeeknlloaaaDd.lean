/- Layer 16: nodes as keys of a map; the diagram that is built. -/
import Derived.Test.YtcngkeeknlloaaaDc
import Derived.DeepKeys4
import Derived.ThirdReader
namespace Go.Proofs.Ytcngkeeknlloaaa
open Go Go.Lx
set_option linter.unusedSimpArgs false
set_option linter.unusedVariables false
set_option maxRecDepth 100000
set_option maxHeartbeats 4000000

/-- a node -/
structure Br where
  a : Int
  n : Int
  y : Int
  deriving DecidableEq
def br0 : Br := ⟨0, 0, 0⟩
def BrC (b : Br) : List LV := [.int .i64 b.a, .int .i64 b.n, .int .i64 b.y]
theorem BrC_eq (b : Br) : BrC b = [.int .i64 b.a, .int .i64 b.n, .int .i64 b.y] := Eq.trans rfl rfl
def BrS (l : List Br) : LV := .sl 3 l.length (l.flatMap BrC)
theorem BrS_eq (l : List Br) : BrS l = .sl 3 l.length (l.flatMap BrC) := Eq.trans rfl rfl
theorem len_br (l : List Br) : (l.flatMap BrC).length = l.length * 3 := length_rows (f := BrC) (w := 3) (fun _ => rfl) l
theorem zBr : zeros ([.int .i64 0, .int .i64 0, .int .i64 0] : List LV) 3 = [.int .i64 0, .int .i64 0, .int .i64 0] := Eq.trans rfl rfl
theorem laidOut16 : laidOutB Try.prog = true := by kernel_rfl
theorem row54 : (54 : TypeId) < Try.prog.types.size := of_decide_eq_true (by kernel_rfl)
theorem wide54 : (match Try.prog.underlying 54 with | some (.array _ _) | some (.struct _) => true | _ => false) = true := by rw [Try.underlying54]
theorem keyed54 : Maps.Keyed Try.prog 54 := Maps.Keyed.of_law (deep_law_laid laidOut16 (m := 2) (by omega) row54 (by kernel_rfl) wide54)
def brOk (b : Br) : Prop := (-2 ≤ b.a ∧ b.a ≤ 100) ∧ (-2000000 ≤ b.n ∧ b.n ≤ 10000) ∧ (-2000000 ≤ b.y ∧ b.y ≤ 10000)
theorem cells54 : Try.prog.cellsOf 54 = 3 := by kernel_rfl
theorem cells3 : Try.prog.cellsOf 3 = 1 := by kernel_rfl
theorem keyT54 : Try.prog.keyType 54 = true := keyType_of_third (Nat.exists_eq_add_one_of_ne_zero (Nat.ne_of_gt (Nat.lt_of_le_of_lt (Nat.zero_le _) row54))) (by kernel_rfl) Try.stoodInHeld54
/-- a node of numbers of a word -/
def brW (b : Br) : Prop := (Lit.int .i64 b.a).wf = true ∧ (Lit.int .i64 b.n).wf = true ∧ (Lit.int .i64 b.y).wf = true
theorem wf_sm {n : Int} (h : -2000000 ≤ n ∧ n ≤ 10000) : (Lit.int .i64 n).wf = true := by simp [Lit.wf, IntKind.min, IntKind.max, IntKind.signed, IntKind.bits]; omega
theorem brOk.w {b : Br} (h : brOk b) : brW b := ⟨wf_sm ⟨by have := h.1.1; omega, by have := h.1.2; omega⟩, wf_sm h.2.1, wf_sm h.2.2⟩
theorem lits3 {d : Nat} {n : Int} (hw : (Lit.int .i64 n).wf = true) : Try.prog.keyLits (d + 1) 3 [.int .i64 n] = some [.int .i64 n] := by
  unfold Program.keyLits
  rw [Try.underlying3]
  exact if_pos ⟨rfl, hw⟩
theorem lits54 {d : Nat} {b : Br} (h : brW b) : Try.prog.keyLits (d + 2) 54 [.int .i64 b.a, .int .i64 b.n, .int .i64 b.y] = some [.int .i64 b.a, .int .i64 b.n, .int .i64 b.y] := by
  obtain ⟨h1, h2, h3⟩ := h
  unfold Program.keyLits
  rw [Try.underlying54]
  dsimp only
  rw [if_pos ⟨by rw [cells54]; rfl, by kernel_rfl⟩]
  simp only [List.mapM_cons, List.mapM_nil, cells3, List.drop_zero, List.drop_succ_cons, List.take_succ_cons, List.take_zero, lits3 (d := d) h1, lits3 (d := d) h2, lits3 (d := d) h3]
  rfl
theorem keyB {b : Br} (h : brW b) : KeyOK Try.prog 54 (.agg (BrC b)) := by
  obtain ⟨m, hm⟩ : ∃ m, Try.prog.types.size = m + 1 := Nat.exists_eq_add_one_of_ne_zero (Nat.ne_of_gt (Nat.lt_of_le_of_lt (Nat.zero_le _) row54))
  have hf : (Value.agg #[.int .i64 b.a, .int .i64 b.n, .int .i64 b.y]).formed Try.prog 54 = true := by rw [Value.formed, Try.underlying54, cells54]; rfl
  refine ⟨.agg #[.int .i64 b.a, .int .i64 b.n, .int .i64 b.y], .string (keyBytes [.int .i64 b.a, .int .i64 b.n, .int .i64 b.y]), rfl, ?_⟩
  unfold keyOf
  rw [Try.underlying54]
  dsimp only
  rw [hf, keyT54, hm]
  show Option.map _ (Try.prog.keyLits (m + 2) 54 [.int .i64 b.a, .int .i64 b.n, .int .i64 b.y]) = _
  rw [lits54 h]
  rfl
/-- the map of the numbers of the nodes -/
def numF (ns : List Br) (j : Nat) : List (LV × LV) := (ns.zipIdx j).map fun p => (.agg (BrC p.1), .int .i64 (p.2 : Int))
def numE (ns : List Br) : List (LV × LV) := numF ns 0
def idxB (ns : List Br) (b : Br) : Option Nat := ns.findIdx? (· == b)
theorem eqK_br (b c : Br) : eqK (.agg (BrC b)) (.agg (BrC c)) = decide (b = c) := by
  obtain ⟨a, n, y⟩ := b
  obtain ⟨a', n', y'⟩ := c
  rw [Bool.eq_iff_iff]
  simp [eqK, eqKs, eqK1, BrC]
theorem numF_look (ns : List Br) (b : Br) (j : Nat) : lookL (numF ns j) (.agg (BrC b)) = (idxB ns b).map fun i => .int .i64 ((i + j : Nat) : Int) := by
  induction ns generalizing j with
  | nil => rfl
  | cons c r ih =>
    have := ih (j + 1)
    simp only [numF, idxB, lookL, List.zipIdx_cons, List.map_cons, List.find?_cons, List.findIdx?_cons, eqK_br] at this ⊢
    by_cases h : c = b
    · subst h; simp
    · have h2 : ¬ b = c := fun e => h e.symm
      simp only [h2, decide_false, beq_eq_false_iff_ne.2 h, Bool.false_eq_true, if_false]
      rw [this, Option.map_map]
      cases List.findIdx? (fun x => x == b) r with
      | none => rfl
      | some i =>
        simp; omega
theorem numE_look (ns : List Br) (b : Br) : lookL (numE ns) (.agg (BrC b)) = (idxB ns b).map fun i => .int .i64 (i : Int) := numF_look ns b 0
theorem numF_upd (ns : List Br) (b : Br) (j : Nat) (h : idxB ns b = none) : updL (numF ns j) (.agg (BrC b)) (.int .i64 ((ns.length + j : Nat) : Int)) = numF (ns ++ [b]) j := by
  induction ns generalizing j with
  | nil => simp [numF, updL]
  | cons c r ih =>
    simp only [idxB, List.findIdx?_cons] at h ih
    by_cases hc : c = b
    · subst hc; simp at h
    · have h2 : ¬ b = c := fun e => hc e.symm
      simp only [beq_eq_false_iff_ne.2 hc, Bool.false_eq_true, if_false, Option.map_eq_none_iff] at h
      have := ih (j + 1) h
      have he : r.length + (j + 1) = (c :: r).length + j := by simp; omega
      rw [he] at this
      simp only [numF, List.zipIdx_cons, List.map_cons, updL, eqK_br, List.cons_append] at this ⊢
      rw [if_neg (by simp [h2]), this]
theorem numE_upd (ns : List Br) (b : Br) (h : idxB ns b = none) : updL (numE ns) (.agg (BrC b)) (.int .i64 (ns.length : Int)) = numE (ns ++ [b]) := numF_upd ns b 0 h
theorem keysB {b : Br} {ns : List Br} (h : brW b) (hn : ∀ c ∈ ns, brW c) : KeysOK Try.prog 54 (.agg (BrC b)) (numE ns) := by
  refine ⟨keyed54, keyB h, fun p hp => ?_⟩
  obtain ⟨⟨c, j⟩, hc, rfl⟩ := List.mem_map.1 hp
  exact keyB (hn c (List.mem_zipIdx_iff_getElem?.1 hc |> List.mem_of_getElem?))
/-- the diagram of a function of answers: the reference and the nodes -/
def bld (lf : Nat → Int) : Nat → Nat → Nat → List Br → Int × List Br
  | 0, _, ans, ns => (lf ans, ns)
  | k + 1, i, ans, ns =>
    let r1 := bld lf k (i + 1) ans ns
    let r2 := bld lf k (i + 1) (ans ||| 2 ^ i) r1.2
    if r1.1 = r2.1 then (r1.1, r2.2)
    else match idxB r2.2 ⟨i, r1.1, r2.1⟩ with
      | some j => (j, r2.2)
      | none => (r2.2.length, r2.2 ++ [⟨i, r1.1, r2.1⟩])
theorem bld_succ (lf : Nat → Int) (k i ans : Nat) (ns : List Br) : bld lf (k + 1) i ans ns = if (bld lf k (i + 1) ans ns).1 = (bld lf k (i + 1) (ans ||| 2 ^ i) (bld lf k (i + 1) ans ns).2).1 then ((bld lf k (i + 1) ans ns).1, (bld lf k (i + 1) (ans ||| 2 ^ i) (bld lf k (i + 1) ans ns).2).2)
    else match idxB (bld lf k (i + 1) (ans ||| 2 ^ i) (bld lf k (i + 1) ans ns).2).2 ⟨i, (bld lf k (i + 1) ans ns).1, (bld lf k (i + 1) (ans ||| 2 ^ i) (bld lf k (i + 1) ans ns).2).1⟩ with
      | some j => (j, (bld lf k (i + 1) (ans ||| 2 ^ i) (bld lf k (i + 1) ans ns).2).2)
      | none => ((bld lf k (i + 1) (ans ||| 2 ^ i) (bld lf k (i + 1) ans ns).2).2.length, (bld lf k (i + 1) (ans ||| 2 ^ i) (bld lf k (i + 1) ans ns).2).2 ++ [⟨i, (bld lf k (i + 1) ans ns).1, (bld lf k (i + 1) (ans ||| 2 ^ i) (bld lf k (i + 1) ans ns).2).1⟩]) := rfl
theorem idxB_lt {ns : List Br} {b : Br} {j : Nat} (h : idxB ns b = some j) : j < ns.length := (List.findIdx?_eq_some_iff_getElem.1 h).1
theorem bld_ok {lf : Nat → Int} (hl : ∀ m, -2000000 ≤ lf m ∧ lf m ≤ 0) : ∀ (k i ans : Nat) (ns : List Br), i + k ≤ 12 → ns.length + 2 ^ k ≤ 5000 → (∀ b ∈ ns, brOk b) →
    (∀ b ∈ (bld lf k i ans ns).2, brOk b) ∧ (bld lf k i ans ns).2.length + 1 ≤ ns.length + 2 ^ k ∧ -2000000 ≤ (bld lf k i ans ns).1 ∧ (bld lf k i ans ns).1 ≤ (bld lf k i ans ns).2.length
  | 0, i, ans, ns, h1, h2, h3 => ⟨h3, by simp [bld], (hl ans).1, by have := (hl ans).2; exact Int.le_trans this (Int.natCast_nonneg _)⟩
  | k + 1, i, ans, ns, h1, h2, h3 => by
    have e2 : 2 ^ (k + 1) = 2 ^ k + 2 ^ k := by rw [Nat.pow_succ]; omega
    have hp : 0 < 2 ^ k := Nat.pos_of_ne_zero (by simp)
    obtain ⟨a1, a2, a3, a4⟩ := bld_ok hl k (i + 1) ans ns (by omega) (by omega) h3
    rw [bld_succ]
    generalize bld lf k (i + 1) ans ns = r1 at *
    obtain ⟨c1, c2, c3, c4⟩ := bld_ok hl k (i + 1) (ans ||| 2 ^ i) r1.2 (by omega) (by omega) a1
    generalize bld lf k (i + 1) (ans ||| 2 ^ i) r1.2 = r2 at *
    split
    · exact ⟨c1, by dsimp only; omega, a3, by dsimp only; omega⟩
    · split
      · rename_i j hj
        have := idxB_lt hj
        exact ⟨c1, by dsimp only; omega, by dsimp only; omega, by dsimp only; omega⟩
      · refine ⟨fun b hb => ?_, by simp; omega, by dsimp only; omega, by simp; omega⟩
        rcases List.mem_append.1 hb with hb | hb
        · exact c1 b hb
        · rw [List.mem_singleton.1 hb]
          exact ⟨by dsimp only; omega, by dsimp only; omega, by dsimp only; omega⟩
theorem leafS_bd {all : List (Int × Nat)} (hn : ∀ n ∈ all, n.2 < 4096 ∧ 0 ≤ n.1 ∧ n.1 ≤ 1000000) (m : Nat) : -2000000 ≤ leafS all m ∧ leafS all m ≤ 0 := by
  unfold leafS
  split
  · rename_i n h
    have := hn n (List.mem_of_find?_eq_some h)
    omega
  · omega
/-- what the building owns -/
def Hd (b6 b8 b9 b10 b11 bm : Nat) (tb : List At) (all : List (Int × Nat)) (ns : List Br) (τ : Tok) : Heap :=
  [(6, .blk b6 [.sl 8 tb.length (tb.flatMap AtC)]), (8, .blk b8 [.sl 2 all.length (all.flatMap NdC)]), (11, .blk b11 [.clo 43 [.ptr 6 b6 0, .ptr 8 b8 0, .ptr 11 b11 0, .ptr 10 b10 0, .ptr 9 b9 0]]), (10, .blk b10 [.raw (.map (some bm))]), (27, .map bm (numE ns)), (9, .blk b9 [.osl 56 τ 3 ns.length (ns.flatMap BrC)]), (56, .tok τ)]
theorem bldC (b6 b8 b9 b10 b11 bm : Nat) (tb : List At) (all : List (Int × Nat)) (ht : tb.length ≤ 12) (hal : all.length ≤ 1000000) (hn : ∀ n ∈ all, n.2 < 4096 ∧ 0 ≤ n.1 ∧ n.1 ≤ 1000000) : ∀ (k i ans : Nat) (ns : List Br) (τ : Tok), i + k = tb.length → ans < 4096 → ns.length + 2 ^ k ≤ 5000 → (∀ b ∈ ns, brOk b) →
    LCalls Try.prog gl 43 [.int .i64 i, .int .i64 ans, .ptr 6 b6 0, .ptr 8 b8 0, .ptr 11 b11 0, .ptr 10 b10 0, .ptr 9 b9 0] (Hd b6 b8 b9 b10 b11 bm tb all ns τ) fun r H => ∃ τ', r = .int .i64 (bld (leafS all) k i ans ns).1 ∧ H = Hd b6 b8 b9 b10 b11 bm tb all (bld (leafS all) k i ans ns).2 τ'
  | 0, i, ans, ns, τ, h1, h2, h3, h4 => by
    refine fn_viewT Try.func43 t43 Try.ntmps43 (by simp) ?_
    have hle := len_at tb
    have hln := len_nd all
    have hlf := leaf all ans hal (by omega) hn
    have hc : ((i : Int) == (tb.length : Int)) = true := by simp; omega
    unfold c43 r43
    simp only [Hd]
    repeat' (first | (simp (disch := first | omega | (simp only [List.length_cons, List.length_nil]; first | done | omega)) only [go_sem, Nat.reduceAdd, Nat.reduceMul, Nat.reduceSub, Nat.reduceEqDiff, Nat.reduceLeDiff, Nat.reduceMod, Nat.reduceLT, Int.reduceToNat, Int.reduceAdd, Int.reduceSub, Int.reduceMul, Int.reduceNeg, Int.reduceLE, Int.reduceLT, Int.reduceNe, Int.reduceEq, Int.reduceBEq, Int.reduceBNe, Int.reduceTMod, Int.reduceTDiv, Nat.reduceBEq, hc]) | (refine allI (fun b => ?_)) | (refine allT (fun τ => ?_)) | (refine brP (fun h => ?_) (fun h => ?_) <;> (try simp only [zgx, zbx] at h)) | refine call_U (hlf) ?_ | refine callG_U (fun _ => hlf) ?_ | refine call_T (hlf) ?_ | refine callG_T (fun _ => hlf) ?_ | refine call_N (hlf) ?_ | refine call_of (hlf) ?_ | refine callG_of (fun _ => hlf) ?_ | (apply And.intro; focus (first | omega | (simp; done) | (simp +contextual; done) | (intros; and_intros <;> first | assumption | omega) | (intros; simp_all; done) | (intro hgd; refine ⟨hgd, ?_⟩; simp [hgd]; done) | (intro hgd; simp only [zgx] at hgd ⊢; omega))) | fail)
    exact ⟨_, _, leVH.of (leV.refl _) ⟨_, List.Sublist.refl _, List.Perm.refl _⟩, τ, rfl, rfl⟩
  | k + 1, i, ans, ns, τ, h1, h2, h3, h4 => by
    refine fn_viewT Try.func43 t43 Try.ntmps43 (by simp) ?_
    have hle := len_at tb
    have hln := len_nd all
    have hc : ((i : Int) == (tb.length : Int)) = false := by simp; omega
    have e2 : 2 ^ (k + 1) = 2 ^ k + 2 ^ k := by rw [Nat.pow_succ]; omega
    have hp : 0 < 2 ^ k := Nat.pos_of_ne_zero (by simp)
    obtain ⟨a1, a2, a3, a4⟩ := bld_ok (leafS_bd hn) k (i + 1) ans ns (by omega) (by omega) h4
    have c1 := bldC b6 b8 b9 b10 b11 bm tb all ht hal hn k (i + 1) ans ns τ (by omega) h2 (by omega) h4
    have s1 := shl_one (k := i) (by omega)
    have s2 := or_i64 (a := ans) (b := 2 ^ i) (by omega) (pow_lt62 (by omega))
    have hor : ans ||| 2 ^ i < 4096 := Nat.or_lt_two_pow (n := 12) h2 (Nat.pow_lt_pow_right (by omega) (by omega))
    generalize hR : bld (leafS all) (k + 1) i ans ns = R at *
    rw [bld_succ] at hR
    generalize hr1 : bld (leafS all) k (i + 1) ans ns = r1 at *
    obtain ⟨d1, d2, d3, d4⟩ := bld_ok (leafS_bd hn) k (i + 1) (ans ||| 2 ^ i) r1.2 (by omega) (by omega) a1
    have c2 := fun τ => bldC b6 b8 b9 b10 b11 bm tb all ht hal hn k (i + 1) (ans ||| 2 ^ i) r1.2 τ (by omega) hor (by omega) a1
    generalize hr2 : bld (leafS all) k (i + 1) (ans ||| 2 ^ i) r1.2 = r2 at *
    have hlb := len_br r2.2
    unfold c43 r43
    simp only [Hd] at *
    rw [Int.natCast_add, Int.natCast_one] at c1 c2
    repeat' (first | (simp (disch := first | omega | (simp only [List.length_cons, List.length_nil]; first | done | omega)) only [go_sem, Nat.reduceAdd, Nat.reduceMul, Nat.reduceSub, Nat.reduceEqDiff, Nat.reduceLeDiff, Nat.reduceMod, Nat.reduceLT, Int.reduceToNat, Int.reduceAdd, Int.reduceSub, Int.reduceMul, Int.reduceNeg, Int.reduceLE, Int.reduceLT, Int.reduceNe, Int.reduceEq, Int.reduceBEq, Int.reduceBNe, Int.reduceTMod, Int.reduceTDiv, Nat.reduceBEq, hc]) | (refine allI (fun b => ?_)) | (refine allT (fun τ => ?_)) | (refine brP (fun h => ?_) (fun h => ?_) <;> (try simp only [zgx, zbx] at h)) | (apply And.intro; focus (first | omega | (simp; done) | (simp +contextual; done) | (intros; and_intros <;> first | assumption | omega) | (intros; simp_all; done) | (intro hgd; refine ⟨hgd, ?_⟩; simp [hgd]; done) | (intro hgd; simp only [zgx] at hgd ⊢; omega))) | fail)
    refine ⟨by kernel_rfl, ?_⟩
    first | refine actsQ_U (c1) (pick_perm rfl (pick_perm rfl (pick_perm rfl (pick_perm rfl (pick_perm rfl (pick_perm rfl (pick_perm rfl (List.Perm.refl _)))))))) ?_ | refine actsQ_T (c1) (pick_perm rfl (pick_perm rfl (pick_perm rfl (pick_perm rfl (pick_perm rfl (pick_perm rfl (pick_perm rfl (List.Perm.refl _)))))))) ?_ | refine actsQ_N (c1) (pick_perm rfl (pick_perm rfl (pick_perm rfl (pick_perm rfl (pick_perm rfl (pick_perm rfl (pick_perm rfl (List.Perm.refl _)))))))) ?_ | refine actsQ_of (c1) (pick_perm rfl (pick_perm rfl (pick_perm rfl (pick_perm rfl (pick_perm rfl (pick_perm rfl (pick_perm rfl (List.Perm.refl _)))))))) ?_
    rintro _ _ ⟨τ1, rfl, rfl⟩
    repeat' (first | (simp (disch := first | omega | (simp only [List.length_cons, List.length_nil]; first | done | omega)) only [go_sem, Nat.reduceAdd, Nat.reduceMul, Nat.reduceSub, Nat.reduceEqDiff, Nat.reduceLeDiff, Nat.reduceMod, Nat.reduceLT, Int.reduceToNat, Int.reduceAdd, Int.reduceSub, Int.reduceMul, Int.reduceNeg, Int.reduceLE, Int.reduceLT, Int.reduceNe, Int.reduceEq, Int.reduceBEq, Int.reduceBNe, Int.reduceTMod, Int.reduceTDiv, Nat.reduceBEq, s1, s2]) | (refine allI (fun b => ?_)) | (refine allT (fun τ => ?_)) | (refine brP (fun h => ?_) (fun h => ?_) <;> (try simp only [zgx, zbx] at h)) | (apply And.intro; focus (first | omega | (simp; done) | (simp +contextual; done) | (intros; and_intros <;> first | assumption | omega) | (intros; simp_all; done) | (intro hgd; refine ⟨hgd, ?_⟩; simp [hgd]; done) | (intro hgd; simp only [zgx] at hgd ⊢; omega))) | fail)
    refine ⟨by kernel_rfl, ?_⟩
    first | refine actsQ_U (c2 τ1) (pick_perm rfl (pick_perm rfl (pick_perm rfl (pick_perm rfl (pick_perm rfl (pick_perm rfl (pick_perm rfl (List.Perm.refl _)))))))) ?_ | refine actsQ_T (c2 τ1) (pick_perm rfl (pick_perm rfl (pick_perm rfl (pick_perm rfl (pick_perm rfl (pick_perm rfl (pick_perm rfl (List.Perm.refl _)))))))) ?_ | refine actsQ_N (c2 τ1) (pick_perm rfl (pick_perm rfl (pick_perm rfl (pick_perm rfl (pick_perm rfl (pick_perm rfl (pick_perm rfl (List.Perm.refl _)))))))) ?_ | refine actsQ_of (c2 τ1) (pick_perm rfl (pick_perm rfl (pick_perm rfl (pick_perm rfl (pick_perm rfl (pick_perm rfl (pick_perm rfl (List.Perm.refl _)))))))) ?_
    rintro _ _ ⟨τ2, rfl, rfl⟩
    have hbk : r1.1 ≠ r2.1 → brOk ⟨i, r1.1, r2.1⟩ := fun _ => ⟨by dsimp only; omega, by dsimp only; omega, by dsimp only; omega⟩
    have hlk := numE_look r2.2 ⟨i, r1.1, r2.1⟩
    have hks := fun h => keysB (hbk h).w fun c hc => (d1 c hc).w
    rw [BrC_eq] at hlk hks
    dsimp only at hlk hks
    repeat' (first | (simp (disch := first | omega | (simp only [List.length_cons, List.length_nil]; first | done | omega)) only [go_sem, Nat.reduceAdd, Nat.reduceMul, Nat.reduceSub, Nat.reduceEqDiff, Nat.reduceLeDiff, Nat.reduceMod, Nat.reduceLT, Int.reduceToNat, Int.reduceAdd, Int.reduceSub, Int.reduceMul, Int.reduceNeg, Int.reduceLE, Int.reduceLT, Int.reduceNe, Int.reduceEq, Int.reduceBEq, Int.reduceBNe, Int.reduceTMod, Int.reduceTDiv, Nat.reduceBEq]) | (refine allI (fun b => ?_)) | (refine allT (fun τ => ?_)) | (refine brP (fun h => ?_) (fun h => ?_) <;> (try simp only [zgx, zbx] at h)) | (apply And.intro; focus (first | omega | (simp; done) | (simp +contextual; done) | (intros; and_intros <;> first | assumption | omega) | (intros; simp_all; done) | (intro hgd; refine ⟨hgd, ?_⟩; simp [hgd]; done) | (intro hgd; simp only [zgx] at hgd ⊢; omega))) | fail)
    · rw [if_pos ‹_›] at hR
      subst hR
      exact ⟨_, _, leVH.of (leV.refl _) ⟨_, List.Sublist.refl _, List.Perm.refl _⟩, τ2, rfl, rfl⟩
    · rw [if_neg ‹_›] at hR
      have hup := numE_upd r2.2 ⟨i, r1.1, r2.1⟩
      rw [BrC_eq] at hup
      dsimp only at hup
      rw [hlk]
      cases hx : idxB r2.2 ⟨i, r1.1, r2.1⟩ with
      | some j =>
        rw [hx] at hR
        dsimp only at hR
        subst hR
        repeat' (first | (simp (disch := first | omega | (simp only [List.length_cons, List.length_nil]; first | done | omega)) only [go_sem, Nat.reduceAdd, Nat.reduceMul, Nat.reduceSub, Nat.reduceEqDiff, Nat.reduceLeDiff, Nat.reduceMod, Nat.reduceLT, Int.reduceToNat, Int.reduceAdd, Int.reduceSub, Int.reduceMul, Int.reduceNeg, Int.reduceLE, Int.reduceLT, Int.reduceNe, Int.reduceEq, Int.reduceBEq, Int.reduceBNe, Int.reduceTMod, Int.reduceTDiv, Nat.reduceBEq, Option.map_some, Option.getD_some, Option.isSome_some, Bool.not_true]) | (refine allI (fun b => ?_)) | (refine allT (fun τ => ?_)) | (refine brP (fun h => ?_) (fun h => ?_) <;> (try simp only [zgx, zbx] at h)) | (apply And.intro; focus (first | omega | (simp; done) | (simp +contextual; done) | (intros; and_intros <;> first | assumption | omega) | (intros; simp_all; done) | (intro hgd; refine ⟨hgd, ?_⟩; simp [hgd]; done) | (intro hgd; simp only [zgx] at hgd ⊢; omega))) | fail)
        exact ⟨_, _, leVH.of (leV.refl _) ⟨_, List.Sublist.cons _ (List.Sublist.refl _), List.Perm.refl _⟩, τ2, rfl, rfl⟩
      | none =>
        rw [hx] at hR
        dsimp only at hR
        subst hR
        repeat' (first | (simp (disch := first | omega | (simp only [List.length_cons, List.length_nil]; first | done | omega)) only [go_sem, Nat.reduceAdd, Nat.reduceMul, Nat.reduceSub, Nat.reduceEqDiff, Nat.reduceLeDiff, Nat.reduceMod, Nat.reduceLT, Int.reduceToNat, Int.reduceAdd, Int.reduceSub, Int.reduceMul, Int.reduceNeg, Int.reduceLE, Int.reduceLT, Int.reduceNe, Int.reduceEq, Int.reduceBEq, Int.reduceBNe, Int.reduceTMod, Int.reduceTDiv, Nat.reduceBEq, Option.map_none, Option.getD_none, Option.isSome_none, Bool.not_false, zBr]) | (refine allI (fun b => ?_)) | (refine allT (fun τ => ?_)) | (refine brP (fun h => ?_) (fun h => ?_) <;> (try simp only [zgx, zbx] at h)) | (apply And.intro; focus (first | omega | (simp; done) | (simp +contextual; done) | (intros; and_intros <;> first | assumption | omega) | (intros; simp_all; done) | (intro hgd; refine ⟨hgd, ?_⟩; simp [hgd]; done) | (intro hgd; simp only [zgx] at hgd ⊢; omega))) | fail)
        refine ⟨by simp only [roomy]; omega, fun τ3 => ⟨⟨hks ‹_›, rfl⟩, _, _, leVH.of (leV.refl _) ⟨_, List.Sublist.cons_cons _ (List.Sublist.cons _ (List.Sublist.refl _)), (List.perm_append_singleton _ _).symm⟩, τ3, rfl, ?_⟩⟩
        rw [hup hx]
        simp [BrC_eq]
end Go.Proofs.Ytcngkeeknlloaaa
