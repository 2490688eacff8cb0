/- kauditmake: generators of numbers and words. -/
import Derived.Test.YtcngkeeknlloaaaMake
import Derived.Test.YtcngkeeknlloaaaLxW
namespace Go.Proofs.Ytcngkeeknlloaaa
open Go Go.Lx
set_option linter.unusedSimpArgs false
set_option linter.unusedVariables false
set_option maxRecDepth 100000
set_option maxHeartbeats 4000000

theorem okS.at {l : List Int} {a a' : Int} (h : okS l a) (h1 : 0 ≤ a') (h2 : a' ≤ 1000000000000) : okS l a' := ⟨h.1, h.2.1, h1, h2⟩
/-- a method of a source that takes at most c numbers and yields a value of some kind -/
def Gen (f : Nat) (args : List LV) (c : Int) (Q : LV → Prop) : Prop :=
  ∀ (id b : Nat) (l : List Int) (a : Int), okS l a → a + c ≤ 1000000000000 → ActsE Try.prog gl f (.ptr id b 0 :: args) id (SB b l a) fun r e => ∃ a', (a ≤ a' ∧ a' ≤ a + c) ∧ Q r ∧ e = SB b l a'
theorem Gen.mk {f : Nat} {args : List LV} {c : Int} {Q : LV → Prop} (h : ∀ (b : Nat) (l : List Int) (a : Int), okS l a → a + c ≤ 1000000000000 → LCalls Try.prog gl f (.ptr 1000 b 0 :: args) [(1000, SB b l a)] fun r H' => ∃ e, H' = [(1000, e)] ∧ ∃ a', (a ≤ a' ∧ a' ≤ a + c) ∧ Q r ∧ e = SB b l a') : Gen f args c Q :=
  fun id b l a hl ha => ActsE.name (i := 1000) (h b l a hl ha) ⟨leV.ptr_name _ _ _ _, leVs.refl _⟩
theorem gend {x r : LV} {H : Heap} {b : Nat} {l : List Int} {a a' c : Int} {Q : LV → Prop} (h : leV x r) (hs : [(1000, SB b l a')].Sublist H) (ha : a ≤ a' ∧ a' ≤ a + c) (hq : Q r) : ∃ r' H', leVH gl x H r' H' ∧ ∃ e, H' = [(1000, e)] ∧ ∃ a'', (a ≤ a'' ∧ a'' ≤ a + c) ∧ Q r' ∧ e = SB b l a'' :=
  ⟨r, _, leVH.of h ⟨_, hs, List.Perm.refl _⟩, _, rfl, a', ha, hq, rfl⟩
theorem gn (n : Int) (hn : 1 ≤ n ∧ n ≤ 1000000000) : Gen 21 [.int .i64 n] 1 fun r => ∃ v, (0 ≤ v ∧ v < n) ∧ r = .int .i64 v := fun id b l a hl _ =>
  (n_ id b l a n hl hn).mono fun r H ⟨e, h1, h2, h3⟩ => ⟨e, h1, a + 1, by omega, ⟨_, nV_range l a (by omega), h2⟩, h3⟩
theorem gr (x y : Int) (hx : -1000000000 ≤ x ∧ x ≤ y ∧ y ≤ 100000000 ∧ y - x < 1000000000) : Gen 22 [.int .i64 x, .int .i64 y] 1 fun r => ∃ v, (x ≤ v ∧ v ≤ y) ∧ r = .int .i64 v := fun id b l a hl _ =>
  (range_ id b l a x y hl (by omega) (by omega)).mono fun r H ⟨e, h1, h2, h3⟩ => ⟨e, h1, a + 1, by omega, ⟨_, by have := nV_range l a (n := y - x + 1) (by omega); omega, h2⟩, h3⟩
def isI : LV → Bool
  | .int .i64 _ => true
  | _ => false
def isS (k : Nat) : LV → Bool
  | .str s => decide (s.length ≤ k)
  | _ => false
theorem isI_get {cs : List LV} (h : cs.all isI = true) : ∃ ns : List Int, cs = ns.map (LV.int .i64) := by
  induction cs with
  | nil => exact ⟨[], rfl⟩
  | cons c cs ih =>
    simp only [List.all_cons, Bool.and_eq_true] at h
    obtain ⟨ns, rfl⟩ := ih h.2
    cases c <;> simp only [isI, Bool.false_eq_true, false_and] at h
    rename_i k n
    cases k <;> simp only [Bool.false_eq_true, false_and] at h
    exact ⟨n :: ns, rfl⟩
theorem gp (cs : List LV) (k : Nat) (h0 : 0 < k ∧ k ≤ 1000) (hk : cs.length = k) (hc : cs.all isI = true) : Gen 39 [.fsl 1 k cs] 1 fun r => ∃ v, LV.int .i64 v ∈ cs ∧ r = .int .i64 v := fun id b l a hl _ => by
  obtain ⟨ns, rfl⟩ := isI_get hc
  rw [List.length_map] at hk
  subst hk
  exact (pick_ id b l a ns hl h0.1 h0.2).mono fun r H ⟨e, h1, h2, h3⟩ => ⟨e, h1, a + 1, by omega, ⟨_, List.mem_map.2 ⟨_, pickV_mem l a ns h0.1, rfl⟩, h2⟩, h3⟩
theorem isS_get {k : Nat} {cs : List LV} (h : cs.all (isS k) = true) {i : Nat} (hi : i < cs.length) : ∃ s, s.length ≤ k ∧ LV.str s ∈ cs ∧ cs.getD i .any = .str s := by
  have hm : cs.getD i .any ∈ cs := getD_memA _ hi
  have := List.all_eq_true.1 h _ hm
  generalize cs.getD i .any = c at *
  cases c <;> simp only [isS, Bool.false_eq_true] at this
  exact ⟨_, by simpa using this, hm, rfl⟩
theorem gw (m : Nat) (cs : List LV) (k : Nat) (h0 : 0 < k ∧ k ≤ 1000) (hk : cs.length = k) (hc : cs.all (isS m) = true) : Gen 38 [.fsl 1 k cs] 1 fun r => ∃ s, (s.length ≤ m ∧ LV.str s ∈ cs) ∧ r = .str s := by
  refine Gen.mk fun b l a hl ha => ?_
  refine fn_viewT Try.func38 t38 Try.ntmps38 (by simp) ?_
  unfold c38 r38
  simp (disch := first | omega | (simp only [List.length_cons, List.length_nil]; first | done | omega)) only [go_sem, Nat.reduceAdd, Nat.reduceMul, Nat.reduceSub, Nat.reduceEqDiff, Nat.reduceLeDiff, Nat.reduceMod, Nat.reduceLT, Int.reduceToNat, Int.reduceAdd, Int.reduceSub, Int.reduceMul, Int.reduceNeg, Int.reduceLE, Int.reduceLT, Int.reduceNe, Int.reduceEq, Int.reduceBEq, Int.reduceBNe, Int.reduceTMod, Int.reduceTDiv, Nat.reduceBEq]
  first | refine actsE_U (gn k (by omega) 1000 b l a hl (by omega)) (by first | rfl | simp only [getH, if_true]) ?_ | refine actsE_T (gn k (by omega) 1000 b l a hl (by omega)) (by first | rfl | simp only [getH, if_true]) ?_ | refine actsE_N (gn k (by omega) 1000 b l a hl (by omega)) (by first | rfl | simp only [getH, if_true]) ?_ | refine actsE_of (gn k (by omega) 1000 b l a hl (by omega)) (by first | rfl | simp only [getH, if_true]) ?_
  rintro _ _ ⟨a', ha', ⟨v, hv, rfl⟩, rfl⟩
  obtain ⟨s, h1, h2, h3⟩ := isS_get hc (i := v.toNat) (by omega)
  simp (disch := first | omega | (simp only [List.length_cons, List.length_nil]; first | done | omega)) only [go_sem, Nat.reduceAdd, Nat.reduceMul, Nat.reduceSub, Nat.reduceEqDiff, Nat.reduceLeDiff, Nat.reduceMod, Nat.reduceLT, Int.reduceToNat, Int.reduceAdd, Int.reduceSub, Int.reduceMul, Int.reduceNeg, Int.reduceLE, Int.reduceLT, Int.reduceNe, Int.reduceEq, Int.reduceBEq, Int.reduceBNe, Int.reduceTMod, Int.reduceTDiv, Nat.reduceBEq, Nat.mul_one, h3]
  exact ⟨by omega, by omega, viewE_end (leV.refl _) (List.Sublist.refl _) ⟨a', ha', ⟨s, ⟨h1, h2⟩, rfl⟩, rfl⟩⟩
theorem memI {v : Int} {ns : List Int} (h : LV.int .i64 v ∈ ns.map (LV.int .i64)) : v ∈ ns := by simpa using h
end Go.Proofs.Ytcngkeeknlloaaa
