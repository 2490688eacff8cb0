/- Layer 16: sets of atoms tb numbers; the leaf. -/
import Derived.Test.YtcngkeeknlloaaaDa
namespace Go.Proofs.Ytcngkeeknlloaaa
open Go Go.Lx
set_option linter.unusedSimpArgs false
set_option linter.unusedVariables false
set_option maxRecDepth 100000
set_option maxHeartbeats 4000000

theorem wrap_nat {p : Nat} (h : p < 2 ^ 62) : IntKind.wrap .i64 (p : Int) = p := wrap_i64 (by omega) (by omega)
theorem ofInt_nat {a : Nat} (h : a < 4611686018427387904) : (BitVec.ofInt (IntKind.bits .i64) (a : Int)).toNat = a := by
  show (BitVec.ofInt 64 (a : Int)).toNat = a
  simp only [BitVec.toNat_ofInt]
  omega
theorem or_i64 {a b : Nat} (ha : a < 4611686018427387904) (hb : b < 4611686018427387904) : bitop .or .i64 a b = ((a ||| b : Nat) : Int) := by
  simp only [bitop, BitVec.toNat_or]
  rw [ofInt_nat ha, ofInt_nat hb]
  have h1 : a ||| b < 2 ^ 62 := Nat.or_lt_two_pow (by omega) (by omega)
  exact wrap_i64 (by omega) (by omega)
theorem and_i64 {a b : Nat} (ha : a < 4611686018427387904) (hb : b < 4611686018427387904) : bitop .and .i64 a b = ((a &&& b : Nat) : Int) := by
  simp only [bitop, BitVec.toNat_and]
  rw [ofInt_nat ha, ofInt_nat hb]
  have h1 : a &&& b ≤ a := Nat.and_le_left
  exact wrap_i64 (by omega) (by omega)
theorem andNot_zero {a b : Nat} (ha : a < 4611686018427387904) (hb : b < 4611686018427387904) : (bitop .andNot .i64 a b == 0) = decide (a &&& b = a) := by
  have e1 : BitVec.ofInt (IntKind.bits .i64) (a : Int) = BitVec.ofNat 64 a := by
    apply BitVec.eq_of_toNat_eq
    rw [ofInt_nat ha]
    show a = a % 2 ^ 64
    omega
  have e2 : BitVec.ofInt (IntKind.bits .i64) (b : Int) = BitVec.ofNat 64 b := by
    apply BitVec.eq_of_toNat_eq
    rw [ofInt_nat hb]
    show b = b % 2 ^ 64
    omega
  have h0 : (BitVec.ofNat 64 a &&& ~~~ BitVec.ofNat 64 b).toNat ≤ a := by
    rw [BitVec.toNat_and, BitVec.toNat_ofNat]
    exact Nat.le_trans Nat.and_le_left (Nat.mod_le _ _)
  have hv : bitop .andNot .i64 a b = ((BitVec.ofNat 64 a &&& ~~~ BitVec.ofNat 64 b).toNat : Int) := by
    show IntKind.wrap .i64 ((BitVec.ofInt (IntKind.bits .i64) (a : Int) &&& ~~~ BitVec.ofInt (IntKind.bits .i64) (b : Int)).toNat : Int) = _
    rw [e1, e2]
    exact wrap_nat (p := (BitVec.ofNat 64 a &&& ~~~ BitVec.ofNat 64 b).toNat) (by omega)
  rw [hv, Bool.eq_iff_iff]
  simp only [beq_iff_eq, decide_eq_true_eq]
  have h1 : ((BitVec.ofNat 64 a &&& ~~~ BitVec.ofNat 64 b).toNat : Int) = 0 ↔ BitVec.ofNat 64 a &&& ~~~ BitVec.ofNat 64 b = 0#64 := by
    rw [← BitVec.toNat_inj]
    simp
  have h2 : a &&& b = a ↔ BitVec.ofNat 64 a &&& BitVec.ofNat 64 b = BitVec.ofNat 64 a := by
    rw [← BitVec.toNat_inj, BitVec.toNat_and, BitVec.toNat_ofNat, BitVec.toNat_ofNat, Nat.mod_eq_of_lt (by omega), Nat.mod_eq_of_lt (by omega)]
  rw [h1, h2]
  constructor
  · intro h
    apply BitVec.eq_of_getLsbD_eq
    intro i hi
    have := congrArg (fun x => x.getLsbD i) h
    simp only [BitVec.getLsbD_and, BitVec.getLsbD_not, BitVec.getLsbD_zero] at this ⊢
    revert this
    cases (BitVec.ofNat 64 a).getLsbD i <;> cases (BitVec.ofNat 64 b).getLsbD i <;> simp [hi]
  · intro h
    apply BitVec.eq_of_getLsbD_eq
    intro i hi
    have := congrArg (fun x => x.getLsbD i) h
    simp only [BitVec.getLsbD_and, BitVec.getLsbD_not, BitVec.getLsbD_zero] at this ⊢
    revert this
    cases (BitVec.ofNat 64 a).getLsbD i <;> cases (BitVec.ofNat 64 b).getLsbD i <;> simp
theorem shl_one {k : Nat} (h : k < 62) : shl .i64 1 k = ((2 ^ k : Nat) : Int) := by
  simp only [shl, IntKind.bits, Int.toNat_natCast]
  rw [Nat.min_eq_left (by omega), Int.one_mul]
  have h1 : 2 ^ k < 2 ^ 62 := Nat.pow_lt_pow_right (by omega) h
  have h2 : ((2 : Int) ^ k) = ((2 ^ k : Nat) : Int) := by simp
  rw [h2]
  exact wrap_nat h1
theorem pow_lt62 {k : Nat} (h : k < 62) : 2 ^ k < 4611686018427387904 := by
  have : 2 ^ k < 2 ^ 62 := Nat.pow_lt_pow_right (by omega) h
  omega
theorem bit_i64 {a k : Nat} (ha : a < 4611686018427387904) (hk : k < 62) : (bitop .and .i64 (shr .i64 a k) 1 == 1) = a.testBit k := by
  have h1 : shr .i64 a k = ((a / 2 ^ k : Nat) : Int) := by
    simp only [shr, IntKind.bits, Int.toNat_natCast]
    rw [Nat.min_eq_left (by omega)]
    have h2 : ((2 : Int) ^ k) = ((2 ^ k : Nat) : Int) := by simp
    rw [h2, Int.fdiv_eq_ediv_of_nonneg _ (Int.natCast_nonneg _)]
    exact_mod_cast rfl
  have h3 : a / 2 ^ k ≤ a := Nat.div_le_self _ _
  rw [h1, show (1 : Int) = ((1 : Nat) : Int) from rfl, and_i64 (by omega) (by omega), Nat.and_one_is_mod, Nat.testBit_eq_decide_div_mod_eq, Bool.eq_iff_iff]
  simp only [beq_iff_eq, decide_eq_true_eq]
  omega
/-- the set of some atoms -/
def maskA (tb : List At) (own : List At) : Nat := own.foldl (fun m a => m ||| 2 ^ (idxA tb a).toNat) 0
theorem foldl_or_testBit (f : At → Nat) : ∀ (own : List At) (m i : Nat), (own.foldl (fun m a => m ||| 2 ^ f a) m).testBit i = (m.testBit i || own.any fun a => f a == i)
  | [], m, i => by simp
  | a :: own, m, i => by
    rw [List.foldl_cons, foldl_or_testBit f own, Nat.testBit_or, Nat.testBit_two_pow, List.any_cons, Bool.or_assoc]
    congr 1
theorem maskA_testBit (tb own : List At) (i : Nat) : (maskA tb own).testBit i = own.any fun a => (idxA tb a).toNat == i := by
  rw [maskA, foldl_or_testBit (fun a => (idxA tb a).toNat)]
  simp
theorem maskA_all (tb own : List At) (ans : Nat) : (maskA tb own &&& ans = maskA tb own) ↔ ∀ a ∈ own, ans.testBit (idxA tb a).toNat = true := by
  constructor
  · intro h a ha
    have h1 : (maskA tb own).testBit (idxA tb a).toNat = true := by
      rw [maskA_testBit]
      exact List.any_eq_true.2 ⟨a, ha, by simp⟩
    rw [← h, Nat.testBit_and, Bool.and_eq_true] at h1
    exact h1.2
  · intro h
    apply Nat.eq_of_testBit_eq
    intro i
    rw [Nat.testBit_and, maskA_testBit]
    cases hb : own.any fun a => (idxA tb a).toNat == i with
    | false => rfl
    | true =>
      obtain ⟨a, ha, hi⟩ := List.any_eq_true.1 hb
      have := h a ha
      rw [beq_iff_eq] at hi
      rw [← hi, this]
      rfl
theorem idxA_lt (tb : List At) (a : At) : idxA tb a < tb.length := by
  unfold idxA
  split
  · rename_i i h
    obtain ⟨h1, _⟩ := List.findIdx?_eq_some_iff_getElem.1 h
    omega
  · omega
theorem maskA_lt (tb : List At) : ∀ (own : List At) (m : Nat), tb.length ≤ 12 → m < 4096 → own.foldl (fun m a => m ||| 2 ^ (idxA tb a).toNat) m < 4096
  | [], m, _, h => h
  | a :: own, m, hl, h => by
    rw [List.foldl_cons]
    refine maskA_lt tb own _ hl ?_
    have h1 := idxA_lt tb a
    have h2 : 2 ^ (idxA tb a).toNat < 2 ^ 12 := by
      refine Nat.pow_lt_pow_right (by omega) ?_
      omega
    exact Nat.or_lt_two_pow (n := 12) h h2
/-- the leaf of some needs -/
def leafS (all : List (Int × Nat)) (ans : Nat) : Int := match all.find? fun n => decide (n.2 &&& ans = n.2) with
  | some n => -2 - n.1
  | none => -1
def NdC (n : Int × Nat) : List LV := [.int .i64 n.1, .int .i64 (n.2 : Int)]
theorem NdC_eq (n : Int × Nat) : NdC n = [.int .i64 n.1, .int .i64 (n.2 : Int)] := Eq.trans rfl rfl
theorem len_nd (l : List (Int × Nat)) : (l.flatMap NdC).length = l.length * 2 := length_rows (f := NdC) (w := 2) (fun _ => rfl) l
theorem zNd : zeros ([.int .i64 0, .int .i64 0] : List LV) 2 = [.int .i64 0, .int .i64 0] := Eq.trans rfl rfl
theorem leaf (all : List (Int × Nat)) (ans : Nat) (hl : all.length ≤ 1000000) (ha : ans < 4611686018427387904) (hn : ∀ n ∈ all, n.2 < 4096 ∧ 0 ≤ n.1 ∧ n.1 ≤ 1000000) : Pure Try.prog gl 44 [.sl 2 all.length (all.flatMap NdC), .int .i64 ans] (.int .i64 (leafS all ans)) := by
  refine fn_pureT Try.func44 t44 Try.ntmps44 (by simp) ?_
  have hle := len_nd all
  unfold c44 r44
  repeat' (first | (simp (disch := first | omega | (simp only [List.length_cons, List.length_nil]; first | done | omega)) only [go_sem, Nat.reduceAdd, Nat.reduceMul, Nat.reduceSub, Nat.reduceEqDiff, Nat.reduceLeDiff, Nat.reduceMod, Nat.reduceLT, Int.reduceToNat, Int.reduceAdd, Int.reduceSub, Int.reduceMul, Int.reduceNeg, Int.reduceLE, Int.reduceLT, Int.reduceNe, Int.reduceEq, Int.reduceBEq, Int.reduceBNe, Int.reduceTMod, Int.reduceTDiv, Nat.reduceBEq]) | (refine allI (fun b => ?_)) | (refine allT (fun τ => ?_)) | (refine brP (fun h => ?_) (fun h => ?_) <;> (try simp only [zgx, zbx] at h)) | (apply And.intro; focus (first | omega | (simp; done) | (simp +contextual; done) | (intros; and_intros <;> first | assumption | omega) | (intros; simp_all; done) | (intro hgd; refine ⟨hgd, ?_⟩; simp [hgd]; done) | (intro hgd; simp only [zgx] at hgd ⊢; omega))) | fail)
  refine loopI (ι := Nat) (fun i => i ≤ all.length ∧ leafS all ans = leafS (all.drop i) ans) (fun i => (9, .int .i64 i) :: _) (fun _ => _) (fun i => all.length - i) 0 ⟨by omega, by simp⟩ Ents.same ?_
  rintro i ⟨hi, hs⟩
  simp (disch := first | omega | (simp only [List.length_cons, List.length_nil]; first | done | omega)) only [go_sem, Nat.reduceAdd, Nat.reduceMul, Nat.reduceSub, Nat.reduceEqDiff, Nat.reduceLeDiff, Nat.reduceMod, Nat.reduceLT, Int.reduceToNat, Int.reduceAdd, Int.reduceSub, Int.reduceMul, Int.reduceNeg, Int.reduceLE, Int.reduceLT, Int.reduceNe, Int.reduceEq, Int.reduceBEq, Int.reduceBNe, Int.reduceTMod, Int.reduceTDiv, Nat.reduceBEq]
  refine brP (fun hb => ?_) (fun hb => ?_)
  · have hlt : i < all.length := by simpa using hb
    have e2 : ((all.flatMap NdC).drop (i * 2)).take 2 = NdC (all.getD i (0, 0)) := take_rows (f := NdC) (fun _ => rfl) (0, 0) _ hlt
    have hq := hn _ (getD_memA (0, 0) hlt)
    have hst : leafS (all.drop i) ans = if (all.getD i (0, 0)).2 &&& ans = (all.getD i (0, 0)).2 then -2 - (all.getD i (0, 0)).1 else leafS (all.drop (i + 1)) ans := by
      rw [List.drop_eq_getElem_cons hlt]
      have : all.getD i (0, 0) = all[i] := by simp [List.getD, hlt]
      rw [this]
      simp only [leafS, List.find?_cons]
      by_cases hc : all[i].2 &&& ans = all[i].2
      · simp [hc]
      · simp [hc]
    have hz := andNot_zero (a := (all.getD i (0, 0)).2) (b := ans) (by omega) ha
    generalize all.getD i (0, 0) = q at *
    rw [NdC_eq] at e2
    repeat' (first | (simp (disch := first | omega | (simp only [List.length_cons, List.length_nil]; first | done | omega)) only [go_sem, Nat.reduceAdd, Nat.reduceMul, Nat.reduceSub, Nat.reduceEqDiff, Nat.reduceLeDiff, Nat.reduceMod, Nat.reduceLT, Int.reduceToNat, Int.reduceAdd, Int.reduceSub, Int.reduceMul, Int.reduceNeg, Int.reduceLE, Int.reduceLT, Int.reduceNe, Int.reduceEq, Int.reduceBEq, Int.reduceBNe, Int.reduceTMod, Int.reduceTDiv, Nat.reduceBEq, e2, zNd, hz]) | (refine allI (fun b => ?_)) | (refine allT (fun τ => ?_)) | (refine brP (fun h => ?_) (fun h => ?_) <;> (try simp only [zgx, zbx] at h)) | (apply And.intro; focus (first | omega | (simp; done) | (simp +contextual; done) | (intros; and_intros <;> first | assumption | omega) | (intros; simp_all; done) | (intro hgd; refine ⟨hgd, ?_⟩; simp [hgd]; done) | (intro hgd; simp only [zgx] at hgd ⊢; omega))) | fail)
    · rw [hs, hst, if_pos (by simpa using h)]
    · exact ⟨⟨i + 1, by omega, by rw [hs, hst, if_neg (by simpa using h)]⟩, by dsimp only; omega, Ents.sub (by simp [go_sem]) ⟨_, List.Sublist.cons _ (List.Sublist.refl _), List.Perm.refl _⟩⟩
  · have hlen : i = all.length := by simp only [decide_eq_false_iff_not] at hb; omega
    repeat' (first | (simp (disch := first | omega | (simp only [List.length_cons, List.length_nil]; first | done | omega)) only [go_sem, Nat.reduceAdd, Nat.reduceMul, Nat.reduceSub, Nat.reduceEqDiff, Nat.reduceLeDiff, Nat.reduceMod, Nat.reduceLT, Int.reduceToNat, Int.reduceAdd, Int.reduceSub, Int.reduceMul, Int.reduceNeg, Int.reduceLE, Int.reduceLT, Int.reduceNe, Int.reduceEq, Int.reduceBEq, Int.reduceBNe, Int.reduceTMod, Int.reduceTDiv, Nat.reduceBEq]) | (refine allI (fun b => ?_)) | (refine allT (fun τ => ?_)) | (refine brP (fun h => ?_) (fun h => ?_) <;> (try simp only [zgx, zbx] at h)) | (apply And.intro; focus (first | omega | (simp; done) | (simp +contextual; done) | (intros; and_intros <;> first | assumption | omega) | (intros; simp_all; done) | (intro hgd; refine ⟨hgd, ?_⟩; simp [hgd]; done) | (intro hgd; simp only [zgx] at hgd ⊢; omega))) | fail)
    rw [hs, hlen, List.drop_length]
    rfl
/-- the needs of some rules -/
def needS (l : List Rl) (wh : List Int) (tb : List At) : List (Int × Nat) := wh.map fun i => (i, maskA tb (ownA (l.getD i.toNat rl0)))
def WhS (wh : List Int) : LV := .sl 1 wh.length (wh.map (LV.int .i64))
theorem WhS_eq (wh : List Int) : WhS wh = .sl 1 wh.length (wh.map (LV.int .i64)) := Eq.trans rfl rfl
/-- indices that name rules of which all atoms are there -/
structure WhOk (l : List Rl) (wh : List Int) (tb : List At) : Prop where
  ll : l.length ≤ 1000000
  lw : wh.length ≤ 1000000
  lt : tb.length ≤ 12
  lr : ∀ r ∈ l, r.ts.length ≤ 1000000
  ix : ∀ i ∈ wh, 0 ≤ i ∧ i < l.length
  own : ∀ i ∈ wh, ∀ a ∈ ownA (l.getD i.toNat rl0), 0 ≤ idxA tb a
theorem needs (l : List Rl) (wh : List Int) (tb : List At) (h : WhOk l wh tb) : Pure Try.prog gl 42 [RlS l, WhS wh, AtS tb] (.sl 2 (needS l wh tb).length ((needS l wh tb).flatMap NdC)) := by
  refine fn_pureT Try.func42 t42 Try.ntmps42 (by simp) ?_
  obtain ⟨h1, h2, h3, h4, h5, h6⟩ := h
  have hlr := len_rl l
  have hla := len_at tb
  unfold c42 r42
  rw [RlS_eq, WhS_eq, AtS_eq]
  repeat' (first | (simp (disch := first | omega | (simp only [List.length_cons, List.length_nil]; first | done | omega)) only [go_sem, Nat.reduceAdd, Nat.reduceMul, Nat.reduceSub, Nat.reduceEqDiff, Nat.reduceLeDiff, Nat.reduceMod, Nat.reduceLT, Int.reduceToNat, Int.reduceAdd, Int.reduceSub, Int.reduceMul, Int.reduceNeg, Int.reduceLE, Int.reduceLT, Int.reduceNe, Int.reduceEq, Int.reduceBEq, Int.reduceBNe, Int.reduceTMod, Int.reduceTDiv, Nat.reduceBEq]) | (refine allI (fun b => ?_)) | (refine allT (fun τ => ?_)) | (refine brP (fun h => ?_) (fun h => ?_) <;> (try simp only [zgx, zbx] at h)) | (apply And.intro; focus (first | omega | (simp; done) | (simp +contextual; done) | (intros; and_intros <;> first | assumption | omega) | (intros; simp_all; done) | (intro hgd; refine ⟨hgd, ?_⟩; simp [hgd]; done) | (intro hgd; simp only [zgx] at hgd ⊢; omega))) | fail)
  refine loopI (ι := Nat × Tok) (fun y => y.1 ≤ wh.length) (fun y => [(15, .int .i64 y.1), (14, .int .i64 wh.length), (13, .sl 1 wh.length (wh.map (LV.int .i64))), (7, .osl 43 y.2 2 y.1 ((needS l (wh.take y.1) tb).flatMap NdC)), (0, .sl 8 l.length (l.flatMap RlC)), (2, .sl 8 tb.length (tb.flatMap AtC))]) (fun y => [(43, .tok y.2)]) (fun y => wh.length - y.1) (0, ⟨0, 0, 0⟩) (by simp) (Ents.dummyE 43 (by simp [go_sem, leV.nil_osl, needS])) ?_
  rintro ⟨i, τ⟩ hi
  dsimp only at hi ⊢
  simp (disch := first | omega | (simp only [List.length_cons, List.length_nil]; first | done | omega)) only [go_sem, Nat.reduceAdd, Nat.reduceMul, Nat.reduceSub, Nat.reduceEqDiff, Nat.reduceLeDiff, Nat.reduceMod, Nat.reduceLT, Int.reduceToNat, Int.reduceAdd, Int.reduceSub, Int.reduceMul, Int.reduceNeg, Int.reduceLE, Int.reduceLT, Int.reduceNe, Int.reduceEq, Int.reduceBEq, Int.reduceBNe, Int.reduceTMod, Int.reduceTDiv, Nat.reduceBEq]
  refine brP (fun hb => ?_) (fun hb => ?_)
  · have hlt : i < wh.length := by simpa using hb
    have hts := take_succ_getD (0 : Int) wh hlt
    have hm : wh.getD i 0 ∈ wh := getD_memA 0 hlt
    have hx := h5 _ hm
    have ho := h6 _ hm
    have g1 : (wh.map (LV.int .i64)).getD i .any = .int .i64 (wh.getD i 0) := by simp [List.getD, hlt]
    generalize wh.getD i 0 = w at *
    obtain ⟨n, rfl⟩ : ∃ n : Nat, w = (n : Int) := ⟨w.toNat, by omega⟩
    rw [Int.toNat_natCast] at ho
    have hn : n < l.length := by omega
    have e2 : ((l.flatMap RlC).drop (n * 8)).take 8 = RlC (l.getD n rl0) := take_rows (f := RlC) (fun _ => rfl) rl0 _ hn
    have ha := atomsOf_ (l.getD n rl0) (h4 _ (getD_memA rl0 hn))
    have hnd : needS l (wh.take (i + 1)) tb = needS l (wh.take i) tb ++ [((n : Int), maskA tb (ownA (l.getD n rl0)))] := by
      rw [needS, needS, hts, List.map_append]; simp
    have e1 : ((n : Int)).toNat = n := Int.toNat_natCast n
    have hlo := ownA_len (l.getD n rl0)
    have hlt2 := h4 _ (getD_memA rl0 hn)
    generalize hr : l.getD n rl0 = r at *
    rw [RlC_eq] at ha e2
    rw [AtS_eq] at ha
    have hlm : (wh.map (LV.int .i64)).length = wh.length := List.length_map _
    repeat' (first | (simp (disch := first | omega | (simp only [List.length_cons, List.length_nil]; first | done | omega)) only [go_sem, Nat.reduceAdd, Nat.reduceMul, Nat.reduceSub, Nat.reduceEqDiff, Nat.reduceLeDiff, Nat.reduceMod, Nat.reduceLT, Int.reduceToNat, Int.reduceAdd, Int.reduceSub, Int.reduceMul, Int.reduceNeg, Int.reduceLE, Int.reduceLT, Int.reduceNe, Int.reduceEq, Int.reduceBEq, Int.reduceBNe, Int.reduceTMod, Int.reduceTDiv, Nat.reduceBEq, e1, e2, g1, Nat.mul_one, zNd]) | (refine allI (fun b => ?_)) | (refine allT (fun τ => ?_)) | (refine brP (fun h => ?_) (fun h => ?_) <;> (try simp only [zgx, zbx] at h)) | refine call_U (ha) ?_ | refine callG_U (fun _ => ha) ?_ | refine call_T (ha) ?_ | refine callG_T (fun _ => ha) ?_ | refine call_N (ha) ?_ | refine call_of (ha) ?_ | refine callG_of (fun _ => ha) ?_ | (apply And.intro; focus (first | omega | (simp; done) | (simp +contextual; done) | (intros; and_intros <;> first | assumption | omega) | (intros; simp_all; done) | (intro hgd; refine ⟨hgd, ?_⟩; simp [hgd]; done) | (intro hgd; simp only [zgx] at hgd ⊢; omega))) | fail)
    have hlo2 := len_at (ownA r)
    generalize hown : ownA r = own at *
    refine loopI (ι := Nat) (fun j => j ≤ own.length) (fun j => [(27, .int .i64 j), (26, .int .i64 own.length), (25, .sl 8 own.length (own.flatMap AtC)), (10, .ptr 10 b 0), (15, .int .i64 i), (14, .int .i64 wh.length), (13, .sl 1 wh.length (wh.map (LV.int .i64))), (7, .osl 43 τ 2 i ((needS l (wh.take i) tb).flatMap NdC)), (0, .sl 8 l.length (l.flatMap RlC)), (2, .sl 8 tb.length (tb.flatMap AtC))])
      (fun j => [(10, .blk b [.int .i64 n, .int .i64 ((maskA tb (own.take j) : Nat) : Int)]), (43, .tok τ)]) (fun j => own.length - j) 0 (by omega) (Ents.envH (by simp [go_sem]) rfl) ?_
    intro j hj
    simp (disch := first | omega | (simp only [List.length_cons, List.length_nil]; first | done | omega)) only [go_sem, Nat.reduceAdd, Nat.reduceMul, Nat.reduceSub, Nat.reduceEqDiff, Nat.reduceLeDiff, Nat.reduceMod, Nat.reduceLT, Int.reduceToNat, Int.reduceAdd, Int.reduceSub, Int.reduceMul, Int.reduceNeg, Int.reduceLE, Int.reduceLT, Int.reduceNe, Int.reduceEq, Int.reduceBEq, Int.reduceBNe, Int.reduceTMod, Int.reduceTDiv, Nat.reduceBEq]
    refine brP (fun hb2 => ?_) (fun hb2 => ?_)
    · have hjl : j < own.length := by simp only [decide_eq_true_eq] at hb2; omega
      have e3 : ((own.flatMap AtC).drop (j * 8)).take 8 = AtC (own.getD j at0) := take_rows (f := AtC) (fun _ => rfl) at0 _ hjl
      have hoj := ho _ (getD_memA at0 hjl)
      have hij := idxA_lt tb (own.getD j at0)
      have hix := index tb (own.getD j at0) (by omega)
      have hms : maskA tb (own.take (j + 1)) = maskA tb (own.take j) ||| 2 ^ (idxA tb (own.getD j at0)).toNat := by
        rw [maskA, maskA, take_succ_getD at0 own hjl, List.foldl_append]; rfl
      have hml := maskA_lt tb (own.take j) 0 h3 (by omega)
      have hml2 : maskA tb (own.take j) < 4096 := hml
      generalize own.getD j at0 = a at *
      obtain ⟨k, hk⟩ : ∃ k : Nat, idxA tb a = (k : Int) := ⟨(idxA tb a).toNat, by omega⟩
      rw [hk] at hix hms hoj hij
      rw [Int.toNat_natCast] at hms
      have s1 := shl_one (k := k) (by omega)
      have s2 := or_i64 (a := maskA tb (own.take j)) (b := 2 ^ k) (by omega) (pow_lt62 (by omega))
      rw [AtC_eq] at e3 hix
      rw [AtS_eq] at hix
      repeat' (first | (simp (disch := first | omega | (simp only [List.length_cons, List.length_nil]; first | done | omega)) only [go_sem, Nat.reduceAdd, Nat.reduceMul, Nat.reduceSub, Nat.reduceEqDiff, Nat.reduceLeDiff, Nat.reduceMod, Nat.reduceLT, Int.reduceToNat, Int.reduceAdd, Int.reduceSub, Int.reduceMul, Int.reduceNeg, Int.reduceLE, Int.reduceLT, Int.reduceNe, Int.reduceEq, Int.reduceBEq, Int.reduceBNe, Int.reduceTMod, Int.reduceTDiv, Nat.reduceBEq, e3, zAt, s1, s2]) | (refine allI (fun b => ?_)) | (refine allT (fun τ => ?_)) | (refine brP (fun h => ?_) (fun h => ?_) <;> (try simp only [zgx, zbx] at h)) | refine call_U (hix) ?_ | refine callG_U (fun _ => hix) ?_ | refine call_T (hix) ?_ | refine callG_T (fun _ => hix) ?_ | refine call_N (hix) ?_ | refine call_of (hix) ?_ | refine callG_of (fun _ => hix) ?_ | (apply And.intro; focus (first | omega | (simp; done) | (simp +contextual; done) | (intros; and_intros <;> first | assumption | omega) | (intros; simp_all; done) | (intro hgd; refine ⟨hgd, ?_⟩; simp [hgd]; done) | (intro hgd; simp only [zgx] at hgd ⊢; omega))) | fail)
      refine ⟨⟨j + 1, by omega⟩, by dsimp only; omega, Ents.sub (by simp [go_sem]) ⟨_, List.Sublist.cons _ (List.Sublist.refl _), ?_⟩⟩
      dsimp only
      rw [hms]
    · have hje : j = own.length := by simp only [decide_eq_false_iff_not] at hb2; omega
      repeat' (first | (simp (disch := first | omega | (simp only [List.length_cons, List.length_nil]; first | done | omega)) only [go_sem, Nat.reduceAdd, Nat.reduceMul, Nat.reduceSub, Nat.reduceEqDiff, Nat.reduceLeDiff, Nat.reduceMod, Nat.reduceLT, Int.reduceToNat, Int.reduceAdd, Int.reduceSub, Int.reduceMul, Int.reduceNeg, Int.reduceLE, Int.reduceLT, Int.reduceNe, Int.reduceEq, Int.reduceBEq, Int.reduceBNe, Int.reduceTMod, Int.reduceTDiv, Nat.reduceBEq, zNd]) | (refine allI (fun b => ?_)) | (refine allT (fun τ => ?_)) | (refine brP (fun h => ?_) (fun h => ?_) <;> (try simp only [zgx, zbx] at h)) | (apply And.intro; focus (first | omega | (simp; done) | (simp +contextual; done) | (intros; and_intros <;> first | assumption | omega) | (intros; simp_all; done) | (intro hgd; refine ⟨hgd, ?_⟩; simp [hgd]; done) | (intro hgd; simp only [zgx] at hgd ⊢; omega))) | fail)
      refine ⟨by simp only [roomy]; omega, fun τ' => ⟨⟨(i + 1, τ'), by dsimp only; omega⟩, by dsimp only; omega, Ents.sub ⟨leV.refl _, leV.refl _, leV.refl _, leV.of_eq ?_, leV.refl _, leV.refl _, trivial⟩ ⟨_, List.Sublist.cons_cons _ (List.Sublist.cons _ (List.Sublist.refl _)), List.Perm.refl _⟩⟩⟩
      dsimp only
      rw [hnd, hje, List.take_length, List.flatMap_append, List.flatMap_singleton, NdC_eq]
      simp [go_sem]
  · have hlen : i = wh.length := by simp only [decide_eq_false_iff_not] at hb; omega
    repeat' (first | (simp (disch := first | omega | (simp only [List.length_cons, List.length_nil]; first | done | omega)) only [go_sem, Nat.reduceAdd, Nat.reduceMul, Nat.reduceSub, Nat.reduceEqDiff, Nat.reduceLeDiff, Nat.reduceMod, Nat.reduceLT, Int.reduceToNat, Int.reduceAdd, Int.reduceSub, Int.reduceMul, Int.reduceNeg, Int.reduceLE, Int.reduceLT, Int.reduceNe, Int.reduceEq, Int.reduceBEq, Int.reduceBNe, Int.reduceTMod, Int.reduceTDiv, Nat.reduceBEq]) | (refine allI (fun b => ?_)) | (refine allT (fun τ => ?_)) | (refine brP (fun h => ?_) (fun h => ?_) <;> (try simp only [zgx, zbx] at h)) | (apply And.intro; focus (first | omega | (simp; done) | (simp +contextual; done) | (intros; and_intros <;> first | assumption | omega) | (intros; simp_all; done) | (intro hgd; refine ⟨hgd, ?_⟩; simp [hgd]; done) | (intro hgd; simp only [zgx] at hgd ⊢; omega))) | fail)
    rw [hlen, List.take_length]
    refine (leV.osl_sl _ _ _ _ _).trans (leV.of_eq ?_)
    simp [needS]
/-- the leaf that the reference chooses -/
def chS (l : List Rl) (wh : List Int) (tb : List At) (ans : Nat) : Int := match wh.find? fun i => (ownA (l.getD i.toNat rl0)).all fun a => ans.testBit (idxA tb a).toNat with
  | some i => -2 - i
  | none => -1
theorem choose (l : List Rl) (wh : List Int) (tb : List At) (ans : Nat) (h : WhOk l wh tb) (ha : ans < 4611686018427387904) : Pure Try.prog gl 25 [RlS l, WhS wh, AtS tb, .int .i64 ans] (.int .i64 (chS l wh tb ans)) := by
  refine fn_pureT Try.func25 t25 Try.ntmps25 (by simp) ?_
  obtain ⟨h1, h2, h3, h4, h5, h6⟩ := h
  have hlr := len_rl l
  have hla := len_at tb
  have hlm : (wh.map (LV.int .i64)).length = wh.length := List.length_map _
  unfold c25 r25
  rw [RlS_eq, WhS_eq, AtS_eq]
  repeat' (first | (simp (disch := first | omega | (simp only [List.length_cons, List.length_nil]; first | done | omega)) only [go_sem, Nat.reduceAdd, Nat.reduceMul, Nat.reduceSub, Nat.reduceEqDiff, Nat.reduceLeDiff, Nat.reduceMod, Nat.reduceLT, Int.reduceToNat, Int.reduceAdd, Int.reduceSub, Int.reduceMul, Int.reduceNeg, Int.reduceLE, Int.reduceLT, Int.reduceNe, Int.reduceEq, Int.reduceBEq, Int.reduceBNe, Int.reduceTMod, Int.reduceTDiv, Nat.reduceBEq]) | (refine allI (fun b => ?_)) | (refine allT (fun τ => ?_)) | (refine brP (fun h => ?_) (fun h => ?_) <;> (try simp only [zgx, zbx] at h)) | (apply And.intro; focus (first | omega | (simp; done) | (simp +contextual; done) | (intros; and_intros <;> first | assumption | omega) | (intros; simp_all; done) | (intro hgd; refine ⟨hgd, ?_⟩; simp [hgd]; done) | (intro hgd; simp only [zgx] at hgd ⊢; omega))) | fail)
  refine loopI (ι := Nat) (fun i => i ≤ wh.length ∧ chS l wh tb ans = chS l (wh.drop i) tb ans) (fun i => [(9, .int .i64 i), (0, .sl 8 l.length (l.flatMap RlC)), (1, .sl 1 wh.length (wh.map (LV.int .i64))), (2, .sl 8 tb.length (tb.flatMap AtC)), (3, .int .i64 ans)]) (fun _ => []) (fun i => wh.length - i) 0 ⟨by omega, by simp⟩ (Ents.envH (by simp [go_sem]) rfl) ?_
  rintro i ⟨hi, hs⟩
  simp (disch := first | omega | (simp only [List.length_cons, List.length_nil]; first | done | omega)) only [go_sem, Nat.reduceAdd, Nat.reduceMul, Nat.reduceSub, Nat.reduceEqDiff, Nat.reduceLeDiff, Nat.reduceMod, Nat.reduceLT, Int.reduceToNat, Int.reduceAdd, Int.reduceSub, Int.reduceMul, Int.reduceNeg, Int.reduceLE, Int.reduceLT, Int.reduceNe, Int.reduceEq, Int.reduceBEq, Int.reduceBNe, Int.reduceTMod, Int.reduceTDiv, Nat.reduceBEq]
  refine brP (fun hb => ?_) (fun hb => ?_)
  · have hlt : i < wh.length := by simpa using hb
    have hm : wh.getD i 0 ∈ wh := getD_memA 0 hlt
    have hx := h5 _ hm
    have ho := h6 _ hm
    have g1 : (wh.map (LV.int .i64)).getD i .any = .int .i64 (wh.getD i 0) := by simp [List.getD, hlt]
    have hst : chS l (wh.drop i) tb ans = if ((ownA (l.getD (wh.getD i 0).toNat rl0)).all fun a => ans.testBit (idxA tb a).toNat) = true then -2 - wh.getD i 0 else chS l (wh.drop (i + 1)) tb ans := by
      rw [List.drop_eq_getElem_cons hlt]
      have : wh.getD i 0 = wh[i] := by simp [List.getD, hlt]
      rw [this]
      simp only [chS, List.find?_cons]
      cases (ownA (l.getD (wh[i]).toNat rl0)).all fun a => ans.testBit (idxA tb a).toNat <;> simp
    generalize wh.getD i 0 = w at *
    obtain ⟨n, rfl⟩ : ∃ n : Nat, w = (n : Int) := ⟨w.toNat, by omega⟩
    rw [Int.toNat_natCast] at ho hst
    have hn : n < l.length := by omega
    have e2 : ((l.flatMap RlC).drop (n * 8)).take 8 = RlC (l.getD n rl0) := take_rows (f := RlC) (fun _ => rfl) rl0 _ hn
    have ha2 := own_ (l.getD n rl0) (h4 _ (getD_memA rl0 hn))
    have e1 : ((n : Int)).toNat = n := Int.toNat_natCast n
    have hlo := ownA_len (l.getD n rl0)
    have hlt2 := h4 _ (getD_memA rl0 hn)
    generalize hr : l.getD n rl0 = r at *
    rw [RlC_eq] at ha2 e2
    rw [AtS_eq] at ha2
    repeat' (first | (simp (disch := first | omega | (simp only [List.length_cons, List.length_nil]; first | done | omega)) only [go_sem, Nat.reduceAdd, Nat.reduceMul, Nat.reduceSub, Nat.reduceEqDiff, Nat.reduceLeDiff, Nat.reduceMod, Nat.reduceLT, Int.reduceToNat, Int.reduceAdd, Int.reduceSub, Int.reduceMul, Int.reduceNeg, Int.reduceLE, Int.reduceLT, Int.reduceNe, Int.reduceEq, Int.reduceBEq, Int.reduceBNe, Int.reduceTMod, Int.reduceTDiv, Nat.reduceBEq, e1, e2, g1, Nat.mul_one]) | (refine allI (fun b => ?_)) | (refine allT (fun τ => ?_)) | (refine brP (fun h => ?_) (fun h => ?_) <;> (try simp only [zgx, zbx] at h)) | refine call_U (ha2) ?_ | refine callG_U (fun _ => ha2) ?_ | refine call_T (ha2) ?_ | refine callG_T (fun _ => ha2) ?_ | refine call_N (ha2) ?_ | refine call_of (ha2) ?_ | refine callG_of (fun _ => ha2) ?_ | (apply And.intro; focus (first | omega | (simp; done) | (simp +contextual; done) | (intros; and_intros <;> first | assumption | omega) | (intros; simp_all; done) | (intro hgd; refine ⟨hgd, ?_⟩; simp [hgd]; done) | (intro hgd; simp only [zgx] at hgd ⊢; omega))) | fail)
    have hlo2 := len_at (ownA r)
    generalize hown : ownA r = own at *
    refine loopI (ι := Nat × Bool) (fun j => j.1 ≤ own.length ∧ ((own.all fun a => ans.testBit (idxA tb a).toNat) = (j.2 && (own.drop j.1).all fun a => ans.testBit (idxA tb a).toNat))) (fun j => [(12, .int .i64 j.1), (11, .bool j.2), (10, .sl 8 own.length (own.flatMap AtC)), (9, .int .i64 i), (0, .sl 8 l.length (l.flatMap RlC)), (1, .sl 1 wh.length (wh.map (LV.int .i64))), (2, .sl 8 tb.length (tb.flatMap AtC)), (3, .int .i64 ans)]) (fun _ => []) (fun j => own.length - j.1) (0, true) ⟨by omega, by simp⟩ (Ents.envH (by simp [go_sem]) rfl) ?_
    rintro ⟨j, bl⟩ ⟨hj, hal⟩
    dsimp only at hj hal ⊢
    simp (disch := first | omega | (simp only [List.length_cons, List.length_nil]; first | done | omega)) only [go_sem, Nat.reduceAdd, Nat.reduceMul, Nat.reduceSub, Nat.reduceEqDiff, Nat.reduceLeDiff, Nat.reduceMod, Nat.reduceLT, Int.reduceToNat, Int.reduceAdd, Int.reduceSub, Int.reduceMul, Int.reduceNeg, Int.reduceLE, Int.reduceLT, Int.reduceNe, Int.reduceEq, Int.reduceBEq, Int.reduceBNe, Int.reduceTMod, Int.reduceTDiv, Nat.reduceBEq]
    refine brP (fun hb2 => ?_) (fun hb2 => ?_)
    · have hjl : j < own.length := by simp only [decide_eq_true_eq] at hb2; omega
      have e3 : ((own.flatMap AtC).drop (j * 8)).take 8 = AtC (own.getD j at0) := take_rows (f := AtC) (fun _ => rfl) at0 _ hjl
      have hoj := ho _ (getD_memA at0 hjl)
      have hij := idxA_lt tb (own.getD j at0)
      have hix := place tb (own.getD j at0) (by omega)
      have hdr : ((own.drop j).all fun a => ans.testBit (idxA tb a).toNat) = (ans.testBit (idxA tb (own.getD j at0)).toNat && (own.drop (j + 1)).all fun a => ans.testBit (idxA tb a).toNat) := by
        rw [List.drop_eq_getElem_cons hjl, List.all_cons]
        simp [List.getD, hjl]
      generalize own.getD j at0 = a at *
      obtain ⟨k, hk⟩ : ∃ k : Nat, idxA tb a = (k : Int) := ⟨(idxA tb a).toNat, by omega⟩
      rw [hk] at hix hoj hij hdr
      rw [Int.toNat_natCast] at hdr
      have s1 := bit_i64 (a := ans) (k := k) ha (by omega)
      rw [AtC_eq] at e3 hix
      rw [AtS_eq] at hix
      repeat' (first | (simp (disch := first | omega | (simp only [List.length_cons, List.length_nil]; first | done | omega)) only [go_sem, Nat.reduceAdd, Nat.reduceMul, Nat.reduceSub, Nat.reduceEqDiff, Nat.reduceLeDiff, Nat.reduceMod, Nat.reduceLT, Int.reduceToNat, Int.reduceAdd, Int.reduceSub, Int.reduceMul, Int.reduceNeg, Int.reduceLE, Int.reduceLT, Int.reduceNe, Int.reduceEq, Int.reduceBEq, Int.reduceBNe, Int.reduceTMod, Int.reduceTDiv, Nat.reduceBEq, e3, s1]) | (refine allI (fun b => ?_)) | (refine allT (fun τ => ?_)) | (refine brP (fun h => ?_) (fun h => ?_) <;> (try simp only [zgx, zbx] at h)) | refine call_U (hix) ?_ | refine callG_U (fun _ => hix) ?_ | refine call_T (hix) ?_ | refine callG_T (fun _ => hix) ?_ | refine call_N (hix) ?_ | refine call_of (hix) ?_ | refine callG_of (fun _ => hix) ?_ | (apply And.intro; focus (first | omega | (simp; done) | (simp +contextual; done) | (intros; and_intros <;> first | assumption | omega) | (intros; simp_all; done) | (intro hgd; refine ⟨hgd, ?_⟩; simp [hgd]; done) | (intro hgd; simp only [zgx] at hgd ⊢; omega))) | fail)
      exact ⟨⟨(j + 1, bl && ans.testBit k), by dsimp only; omega, by dsimp only; rw [hal, hdr, Bool.and_assoc]⟩, by dsimp only; omega, Ents.envH (by simp [go_sem]) rfl⟩
    · have hje : j = own.length := by simp only [decide_eq_false_iff_not] at hb2; omega
      rw [hje, List.drop_length, List.all_nil, Bool.and_true] at hal
      repeat' (first | (simp (disch := first | omega | (simp only [List.length_cons, List.length_nil]; first | done | omega)) only [go_sem, Nat.reduceAdd, Nat.reduceMul, Nat.reduceSub, Nat.reduceEqDiff, Nat.reduceLeDiff, Nat.reduceMod, Nat.reduceLT, Int.reduceToNat, Int.reduceAdd, Int.reduceSub, Int.reduceMul, Int.reduceNeg, Int.reduceLE, Int.reduceLT, Int.reduceNe, Int.reduceEq, Int.reduceBEq, Int.reduceBNe, Int.reduceTMod, Int.reduceTDiv, Nat.reduceBEq, g1, Nat.mul_one]) | (refine allI (fun b => ?_)) | (refine allT (fun τ => ?_)) | (refine brP (fun h => ?_) (fun h => ?_) <;> (try simp only [zgx, zbx] at h)) | (apply And.intro; focus (first | omega | (simp; done) | (simp +contextual; done) | (intros; and_intros <;> first | assumption | omega) | (intros; simp_all; done) | (intro hgd; refine ⟨hgd, ?_⟩; simp [hgd]; done) | (intro hgd; simp only [zgx] at hgd ⊢; omega))) | fail)
      · rw [hs, hst, if_pos (by rw [hal]; assumption)]
      · exact ⟨⟨i + 1, by omega, by rw [hs, hst, if_neg (by rw [hal, ‹bl = false›]; simp)]⟩, by dsimp only; omega, Ents.envH (by simp [go_sem]) rfl⟩
  · have hlen : i = wh.length := by simp only [decide_eq_false_iff_not] at hb; omega
    repeat' (first | (simp (disch := first | omega | (simp only [List.length_cons, List.length_nil]; first | done | omega)) only [go_sem, Nat.reduceAdd, Nat.reduceMul, Nat.reduceSub, Nat.reduceEqDiff, Nat.reduceLeDiff, Nat.reduceMod, Nat.reduceLT, Int.reduceToNat, Int.reduceAdd, Int.reduceSub, Int.reduceMul, Int.reduceNeg, Int.reduceLE, Int.reduceLT, Int.reduceNe, Int.reduceEq, Int.reduceBEq, Int.reduceBNe, Int.reduceTMod, Int.reduceTDiv, Nat.reduceBEq]) | (refine allI (fun b => ?_)) | (refine allT (fun τ => ?_)) | (refine brP (fun h => ?_) (fun h => ?_) <;> (try simp only [zgx, zbx] at h)) | (apply And.intro; focus (first | omega | (simp; done) | (simp +contextual; done) | (intros; and_intros <;> first | assumption | omega) | (intros; simp_all; done) | (intro hgd; refine ⟨hgd, ?_⟩; simp [hgd]; done) | (intro hgd; simp only [zgx] at hgd ⊢; omega))) | fail)
    rw [hs, hlen, List.drop_length]
    rfl
end Go.Proofs.Ytcngkeeknlloaaa
