/- kauditmake: calls. -/
import Derived.Test.YtcngkeeknlloaaaMkF
import Derived.Test.YtcngkeeknlloaaaMkN
namespace Go.Proofs.Ytcngkeeknlloaaa
open Go Go.Lx
set_option linter.unusedSimpArgs false
set_option linter.unusedVariables false
set_option maxRecDepth 100000
set_option maxHeartbeats 16000000

structure Rw where
  n : List UInt8
  a : Int
  b : Int
  c : Int
  d : Int
def RwC (r : Rw) : List LV := [.str r.n, .int .i64 r.a, .int .i64 r.b, .int .i64 r.c, .int .i64 r.d]
theorem RwC_eq (r : Rw) : RwC r = [.str r.n, .int .i64 r.a, .int .i64 r.b, .int .i64 r.c, .int .i64 r.d] := Eq.trans rfl rfl
def rw0 : Rw := ⟨[], 0, 0, 0, 0⟩
def rws : List Rw := [⟨[102, 111, 114, 107], 0, 0, 0, 0⟩, ⟨[101, 120, 101, 99, 118, 101], 0, 1, 0, 4⟩, ⟨[101, 120, 105, 116], 1, 0, 0, 0⟩, ⟨[115, 101, 116, 117, 105, 100], 1, 0, 0, 0⟩, ⟨[115, 101, 116, 103, 105, 100], 1, 0, 0, 0⟩, ⟨[108, 111, 103, 105, 110], 1, 0, 0, 0⟩, ⟨[111, 112, 101, 110], 2, 1, 0, 0⟩, ⟨[99, 108, 111, 115, 101], 1, 0, 0, 0⟩, ⟨[108, 105, 110, 107], 0, 2, 0, 0⟩, ⟨[115, 121, 109, 108, 105, 110, 107], 0, 1, 1, 1⟩, ⟨[117, 110, 108, 105, 110, 107], 0, 1, 0, 0⟩, ⟨[109, 107, 100, 105, 114], 1, 1, 0, 0⟩, ⟨[114, 109, 100, 105, 114], 0, 1, 0, 0⟩, ⟨[114, 101, 110, 97, 109, 101], 0, 2, 0, 0⟩, ⟨[99, 104, 109, 111, 100], 1, 1, 0, 0⟩, ⟨[99, 104, 111, 119, 110], 2, 1, 0, 0⟩, ⟨[99, 104, 100, 105, 114], 0, 1, 0, 0⟩, ⟨[109, 111, 117, 110, 116], 1, 1, 0, 0⟩, ⟨[117, 109, 111, 117, 110, 116], 1, 0, 0, 0⟩, ⟨[99, 111, 110, 110, 101, 99, 116], 1, 0, 1, 1⟩, ⟨[107, 105, 108, 108], 2, 0, 0, 0⟩, ⟨[116, 114, 117, 110, 99, 97, 116, 101], 1, 1, 0, 0⟩]
def shOk (r : Rw) : Prop := (0 ≤ r.a ∧ r.a ≤ 4) ∧ (0 ≤ r.b ∧ r.b ≤ 2) ∧ (0 ≤ r.c ∧ r.c ≤ r.d ∧ r.d ≤ 20)
instance (r : Rw) : Decidable (shOk r) := by unfold shOk; infer_instance
theorem rws_ok : ∀ r ∈ rws, shOk r := by decide +kernel
theorem tab10 : Pure Try.prog gl 100 [] (.fsl 5 22 (rws.flatMap RwC)) := by
  refine fn_pureT Try.func100 t100 Try.ntmps100 (by simp) ?_
  unfold c100 r100
  repeat' (first | (simp (disch := first | omega | (simp only [List.length_cons, List.length_nil]; first | done | omega)) only [go_sem, Nat.reduceAdd, Nat.reduceMul, Nat.reduceSub, Nat.reduceEqDiff, Nat.reduceLeDiff, Nat.reduceMod, Nat.reduceLT, Int.reduceToNat, Int.reduceAdd, Int.reduceSub, Int.reduceMul, Int.reduceNeg, Int.reduceLE, Int.reduceLT, Int.reduceNe, Int.reduceEq, Int.reduceBEq, Int.reduceBNe, Int.reduceTMod, Int.reduceTDiv, Nat.reduceBEq]) | (refine allI (fun b => ?_)) | (refine allT (fun τ => ?_)) | (refine brP (fun h => ?_) (fun h => ?_) <;> (try simp only [zgx, zbx] at h)) | (apply And.intro; focus (first | omega | (simp; done) | (simp +contextual; done) | (intros; and_intros <;> first | assumption | omega) | (intros; simp_all; done) | (intro hgd; refine ⟨hgd, ?_⟩; simp [hgd]; done) | (intro hgd; simp only [zgx] at hgd ⊢; omega))) | fail)
  exact ⟨trivial, leV.of_eq rfl⟩
theorem cnt10 : Pure Try.prog gl 99 [] (.int .i64 22) := by
  refine fn_pureT Try.func99 t99 Try.ntmps99 (by simp) ?_
  unfold c99 r99
  repeat' (first | (simp (disch := first | omega | (simp only [List.length_cons, List.length_nil]; first | done | omega)) only [go_sem, Nat.reduceAdd, Nat.reduceMul, Nat.reduceSub, Nat.reduceEqDiff, Nat.reduceLeDiff, Nat.reduceMod, Nat.reduceLT, Int.reduceToNat, Int.reduceAdd, Int.reduceSub, Int.reduceMul, Int.reduceNeg, Int.reduceLE, Int.reduceLT, Int.reduceNe, Int.reduceEq, Int.reduceBEq, Int.reduceBNe, Int.reduceTMod, Int.reduceTDiv, Nat.reduceBEq]) | (refine allI (fun b => ?_)) | (refine allT (fun τ => ?_)) | (refine brP (fun h => ?_) (fun h => ?_) <;> (try simp only [zgx, zbx] at h)) | refine call_U (tab10) ?_ | refine callG_U (fun _ => tab10) ?_ | refine call_T (tab10) ?_ | refine callG_T (fun _ => tab10) ?_ | refine call_N (tab10) ?_ | refine call_of (tab10) ?_ | refine callG_of (fun _ => tab10) ?_ | (apply And.intro; focus (first | omega | (simp; done) | (simp +contextual; done) | (intros; and_intros <;> first | assumption | omega) | (intros; simp_all; done) | (intro hgd; refine ⟨hgd, ?_⟩; simp [hgd]; done) | (intro hgd; simp only [zgx] at hgd ⊢; omega))) | fail)
theorem get10 (n : Int) : PureE Try.prog gl 89 [.int .i64 n] fun v => ∃ r, shOk r ∧ v = .agg (RwC r) := by
  refine fn_viewT Try.func89 t89 Try.ntmps89 (by simp) ?_
  unfold c89 r89
  have hlen : rws.length = 22 := rfl
  have hl110 : (rws.flatMap RwC).length = 110 := rfl
  by_cases hn : 0 ≤ n ∧ n < 22
  · have hi : n.toNat < rws.length := by omega
    have e2 : ((rws.flatMap RwC).drop (n.toNat * 5)).take 5 = RwC (rws.getD n.toNat rw0) := take_rows (f := RwC) (fun _ => rfl) rw0 _ hi
    have hok := rws_ok _ (getD_memA rw0 hi)
    generalize rws.getD n.toNat rw0 = r at *
    rw [RwC_eq] at e2
    repeat' (first | (simp (disch := first | omega | (simp only [List.length_cons, List.length_nil]; first | done | omega)) only [go_sem, Nat.reduceAdd, Nat.reduceMul, Nat.reduceSub, Nat.reduceEqDiff, Nat.reduceLeDiff, Nat.reduceMod, Nat.reduceLT, Int.reduceToNat, Int.reduceAdd, Int.reduceSub, Int.reduceMul, Int.reduceNeg, Int.reduceLE, Int.reduceLT, Int.reduceNe, Int.reduceEq, Int.reduceBEq, Int.reduceBNe, Int.reduceTMod, Int.reduceTDiv, Nat.reduceBEq, e2]) | (refine allI (fun b => ?_)) | (refine allT (fun τ => ?_)) | (refine brP (fun h => ?_) (fun h => ?_) <;> (try simp only [zgx, zbx] at h)) | refine call_U (cnt10) ?_ | refine callG_U (fun _ => cnt10) ?_ | refine call_T (cnt10) ?_ | refine callG_T (fun _ => cnt10) ?_ | refine call_U (tab10) ?_ | refine callG_U (fun _ => tab10) ?_ | refine call_T (tab10) ?_ | refine callG_T (fun _ => tab10) ?_ | refine call_N (cnt10) ?_ | refine call_of (cnt10) ?_ | refine callG_of (fun _ => cnt10) ?_ | refine call_N (tab10) ?_ | refine call_of (tab10) ?_ | refine callG_of (fun _ => tab10) ?_ | (apply And.intro; focus (first | omega | (simp; done) | (simp +contextual; done) | (intros; and_intros <;> first | assumption | omega) | (intros; simp_all; done) | (intro hgd; refine ⟨hgd, ?_⟩; simp [hgd]; done) | (intro hgd; simp only [zgx] at hgd ⊢; omega))) | fail)
    · omega
    · exact pureE_end (leV.refl _) ⟨r, hok, rfl⟩
  · repeat' (first | (simp (disch := first | omega | (simp only [List.length_cons, List.length_nil]; first | done | omega)) only [go_sem, Nat.reduceAdd, Nat.reduceMul, Nat.reduceSub, Nat.reduceEqDiff, Nat.reduceLeDiff, Nat.reduceMod, Nat.reduceLT, Int.reduceToNat, Int.reduceAdd, Int.reduceSub, Int.reduceMul, Int.reduceNeg, Int.reduceLE, Int.reduceLT, Int.reduceNe, Int.reduceEq, Int.reduceBEq, Int.reduceBNe, Int.reduceTMod, Int.reduceTDiv, Nat.reduceBEq]) | (refine allI (fun b => ?_)) | (refine allT (fun τ => ?_)) | (refine brP (fun h => ?_) (fun h => ?_) <;> (try simp only [zgx, zbx] at h)) | refine call_U (cnt10) ?_ | refine callG_U (fun _ => cnt10) ?_ | refine call_T (cnt10) ?_ | refine callG_T (fun _ => cnt10) ?_ | refine call_U (tab10) ?_ | refine callG_U (fun _ => tab10) ?_ | refine call_T (tab10) ?_ | refine callG_T (fun _ => tab10) ?_ | refine call_N (cnt10) ?_ | refine call_of (cnt10) ?_ | refine callG_of (fun _ => cnt10) ?_ | refine call_N (tab10) ?_ | refine call_of (tab10) ?_ | refine callG_of (fun _ => tab10) ?_ | (apply And.intro; focus (first | omega | (simp; done) | (simp +contextual; done) | (intros; and_intros <;> first | assumption | omega) | (intros; simp_all; done) | (intro hgd; refine ⟨hgd, ?_⟩; simp [hgd]; done) | (intro hgd; simp only [zgx] at hgd ⊢; omega))) | fail)
    · exact pureE_end (leV.refl _) ⟨rw0, by decide, rfl⟩
    · omega
structure Sh where
  a : Int
  b : Int
  c : Int
  d : Int
def shOk4 (r : Sh) : Prop := (0 ≤ r.a ∧ r.a ≤ 4) ∧ (0 ≤ r.b ∧ r.b ≤ 2) ∧ (0 ≤ r.c ∧ r.c ≤ r.d ∧ r.d ≤ 20)
theorem shape (n : Int) : PureE Try.prog gl 75 [.int .i64 n] fun v => ∃ r, shOk4 r ∧ v = .tup [.int .i64 r.a, .int .i64 r.b, .int .i64 r.c, .int .i64 r.d] := by
  refine fn_viewT Try.func75 t75 Try.ntmps75 (by simp) ?_
  unfold c75 r75
  simp (disch := first | omega | (simp only [List.length_cons, List.length_nil]; first | done | omega)) only [go_sem, Nat.reduceAdd, Nat.reduceMul, Nat.reduceSub, Nat.reduceEqDiff, Nat.reduceLeDiff, Nat.reduceMod, Nat.reduceLT, Int.reduceToNat, Int.reduceAdd, Int.reduceSub, Int.reduceMul, Int.reduceNeg, Int.reduceLE, Int.reduceLT, Int.reduceNe, Int.reduceEq, Int.reduceBEq, Int.reduceBNe, Int.reduceTMod, Int.reduceTDiv, Nat.reduceBEq]
  first | refine pureE_U (get10 n) ?_ | refine pureE_T (get10 n) ?_ | refine pureE_of (get10 n) ?_
  rintro _ ⟨r, hr, rfl⟩
  rw [RwC_eq]
  repeat' (first | (simp (disch := first | omega | (simp only [List.length_cons, List.length_nil]; first | done | omega)) only [go_sem, Nat.reduceAdd, Nat.reduceMul, Nat.reduceSub, Nat.reduceEqDiff, Nat.reduceLeDiff, Nat.reduceMod, Nat.reduceLT, Int.reduceToNat, Int.reduceAdd, Int.reduceSub, Int.reduceMul, Int.reduceNeg, Int.reduceLE, Int.reduceLT, Int.reduceNe, Int.reduceEq, Int.reduceBEq, Int.reduceBNe, Int.reduceTMod, Int.reduceTDiv, Nat.reduceBEq]) | (refine allI (fun b => ?_)) | (refine allT (fun τ => ?_)) | (refine brP (fun h => ?_) (fun h => ?_) <;> (try simp only [zgx, zbx] at h)) | (apply And.intro; focus (first | omega | (simp; done) | (simp +contextual; done) | (intros; and_intros <;> first | assumption | omega) | (intros; simp_all; done) | (intro hgd; refine ⟨hgd, ?_⟩; simp [hgd]; done) | (intro hgd; simp only [zgx] at hgd ⊢; omega))) | fail)
  exact pureE_end (leV.refl _) ⟨⟨_, _, _, _⟩, hr, rfl⟩
/-- a call -/
structure Ca where
  n : Int
  a0 : Int
  a1 : Int
  a2 : Int
  a3 : Int
  ps : List (List UInt8)
  xs : List (List UInt8)
def StS' (ws : List (List UInt8)) : LV := .sl 1 ws.length (ws.map LV.str)
def CaC (c : Ca) : List LV := [.int .i64 c.n, .int .i64 c.a0, .int .i64 c.a1, .int .i64 c.a2, .int .i64 c.a3, StS' c.ps, StS' c.xs]
end Go.Proofs.Ytcngkeeknlloaaa
