/- Layer 23: digest: taking a digest of bytes. -/
import Derived.Test.YtaffhdelflhlfaaSl
namespace Go.Lx
open Go
set_option linter.unusedSimpArgs false
set_option linter.unusedVariables false
variable {P : Program} {gl : Glob}
/-- what was made is let go -/
theorem NewsE.drop {f : FuncId} {args : List LV} {id : Nat} {Q : LV → Ent → Prop} {r' : LV} (h : NewsE P gl f args id Q) (hq : ∀ r e, Q r e → leV r r') : Pure P gl f args r' :=
  fun w0 M HF w vs hI hv => (h w0 M HF w vs hI hv).mono fun _ _ ⟨M', v, r, H', h1, h2, h3, h4, e', h5, h6⟩ =>
    ⟨M', v, r', [], h1, h2, hq r e' h6 M' v h3, h4.sub (by subst h5; simp), rfl, rfl⟩
theorem ofInt_u64 {a : Int} (h : 0 ≤ a) (h' : a < 18446744073709551616) : (BitVec.ofInt (IntKind.bits .u64) a).toNat = a.toNat := by
  show (BitVec.ofInt 64 a).toNat = a.toNat
  simp only [BitVec.toNat_ofInt]
  omega
theorem or_u64 {a b : Int} (ha : 0 ≤ a) (ha' : a < 18446744073709551616) (hb : 0 ≤ b) (hb' : b < 18446744073709551616) : bitop .or .u64 a b = ((a.toNat ||| b.toNat : Nat) : Int) := by
  simp only [bitop, BitVec.toNat_or]
  rw [ofInt_u64 ha ha', ofInt_u64 hb hb']
  have h1 : a.toNat ||| b.toNat < 2 ^ 64 := Nat.or_lt_two_pow (by omega) (by omega)
  exact wrap_u64 (by omega) (by omega)
theorem shl_u64 {a : Int} {k : Nat} (ha : 0 ≤ a) (hk : k ≤ 64) (h : a * 2 ^ k < 18446744073709551616) : shl .u64 a k = a * 2 ^ k := by
  simp only [shl, IntKind.bits, Int.toNat_natCast]
  rw [Nat.min_eq_left hk]
  have : 0 ≤ a * 2 ^ k := Int.mul_nonneg ha (Int.le_of_lt (Int.pow_pos (by omega)))
  exact wrap_u64 (by omega) (by omega)
theorem or_shl {a c : Int} {k : Nat} (ha : 0 ≤ a) (hk : k ≤ 64) (h : a * 2 ^ k < 18446744073709551616) (hc : 0 ≤ c) (hc' : c < 2 ^ k) : bitop .or .u64 (shl .u64 a k) c = a * 2 ^ k + c := by
  rw [shl_u64 ha hk h]
  have h1 : 0 ≤ a * 2 ^ k := Int.mul_nonneg ha (Int.le_of_lt (Int.pow_pos (by omega)))
  have h2 : (2 : Int) ^ k ≤ 2 ^ 64 := by
    have : 2 ^ k ≤ 2 ^ 64 := Nat.pow_le_pow_right (by omega) hk
    exact_mod_cast this
  rw [or_u64 h1 h hc (by omega)]
  obtain ⟨n, rfl⟩ := Int.eq_ofNat_of_zero_le ha
  obtain ⟨m, rfl⟩ := Int.eq_ofNat_of_zero_le hc
  have hm : m < 2 ^ k := by exact_mod_cast hc'
  have e : ((n : Int) * 2 ^ k).toNat = n <<< k := by
    rw [Nat.shiftLeft_eq]
    have : ((n : Int) * 2 ^ k) = ((n * 2 ^ k : Nat) : Int) := by simp
    rw [this, Int.toNat_natCast]
  rw [e, Int.toNat_natCast, ← Nat.shiftLeft_add_eq_or_of_lt hm, Nat.shiftLeft_eq]
  simp
end Go.Lx
namespace Go.Proofs.Ytaffhdelflhlfaa
open Go Go.Lx
set_option linter.unusedSimpArgs false
set_option linter.unusedVariables false
set_option maxRecDepth 100000
set_option maxHeartbeats 1000000

theorem put19p (d : Int) : Pure Try.prog gl 19 [.int .u64 d] (.sl 1 8 ((by8 d).map (LV.int .u8))) :=
  (put19 d).drop fun r e ⟨τ, h1, _⟩ => by subst h1; exact leV.osl_sl _ _ _ _ _
def st8 (d c : Int) : Int := bitop .or .u64 (shl .u64 d 8) c
def tk (l : List Int) : Int := l.foldl st8 0
theorem tk_by8 (d : Int) (h : 0 ≤ d) (h' : d ≤ 18446744073709551615) : tk (by8 d) = d := by
  have hb : ∀ s : Nat, s ≤ 64 → byt d s = d / 2 ^ s % 256 := fun s hs => by
    unfold byt shr
    simp only [IntKind.bits, Int.toNat_natCast]
    rw [Nat.min_eq_left hs, Int.fdiv_eq_ediv_of_nonneg _ (by exact Int.le_of_lt (Int.pow_pos (by omega)))]
    simp only [IntKind.wrap, IntKind.bits, IntKind.signed]
    simp
  have hs : ∀ a c : Int, 0 ≤ a → a < 72057594037927936 → 0 ≤ c → c < 256 → st8 a c = a * 256 + c := fun a c h1 h2 h3 h4 =>
    or_shl (k := 8) h1 (by omega) (by omega) h3 (by omega)
  have b0 : byt d 0 = d / 1 % 256 := hb 0 (by omega)
  have b1 : byt d 8 = d / 256 % 256 := hb 8 (by omega)
  have b2 : byt d 16 = d / 65536 % 256 := hb 16 (by omega)
  have b3 : byt d 24 = d / 16777216 % 256 := hb 24 (by omega)
  have b4 : byt d 32 = d / 4294967296 % 256 := hb 32 (by omega)
  have b5 : byt d 40 = d / 1099511627776 % 256 := hb 40 (by omega)
  have b6 : byt d 48 = d / 281474976710656 % 256 := hb 48 (by omega)
  have b7 : byt d 56 = d / 72057594037927936 % 256 := hb 56 (by omega)
  unfold tk by8
  simp only [List.foldl]
  rw [b0, b1, b2, b3, b4, b5, b6, b7]
  rw [hs 0 _ (by omega) (by omega) (by omega) (by omega)]
  rw [hs _ (d / 281474976710656 % 256) (by omega) (by omega) (by omega) (by omega)]
  rw [hs _ (d / 1099511627776 % 256) (by omega) (by omega) (by omega) (by omega)]
  rw [hs _ (d / 4294967296 % 256) (by omega) (by omega) (by omega) (by omega)]
  rw [hs _ (d / 16777216 % 256) (by omega) (by omega) (by omega) (by omega)]
  rw [hs _ (d / 65536 % 256) (by omega) (by omega) (by omega) (by omega)]
  rw [hs _ (d / 256 % 256) (by omega) (by omega) (by omega) (by omega)]
  rw [hs _ (d / 1 % 256) (by omega) (by omega) (by omega) (by omega)]
  omega
def tkR (l : List Int) : LV := .tup [.int .u64 (if l.length < 8 then 0 else tk (l.take 8)), .bool (decide (8 ≤ l.length))]
theorem take17 (l : List Int) (hl : okB l) : Pure Try.prog gl 17 [Bs l] (tkR l) := by
  refine fn_pureT Try.func17 t17 Try.ntmps17 (by simp) ?_
  obtain ⟨hl, hn⟩ := hl
  unfold c17 r17 Bs
  repeat' (first | (simp (disch := first | omega | (simp only [List.length_cons, List.length_nil]; first | done | omega)) only [go_sem, Nat.reduceAdd, Nat.reduceMul, Nat.reduceSub, Nat.reduceEqDiff, Nat.reduceLeDiff, Nat.reduceMod, Nat.reduceLT, Int.reduceToNat, Int.reduceAdd, Int.reduceSub, Int.reduceMul, Int.reduceNeg, Int.reduceLE, Int.reduceLT, Int.toNat_natCast, Int.cast_ofNat_Int, Int.reduceNe, Int.reduceEq, Int.reduceBEq, Int.reduceBNe, not_false_eq_true, ne_eq, Int.reduceTMod, Int.reduceTDiv, beq_self_eq_true, bne_self_eq_false, List.contains_cons, List.contains_nil, Nat.reduceBEq]) | (refine allI (fun b => ?_)) | (refine allT (fun τ => ?_)) | (refine brP (fun h => ?_) (fun h => ?_) <;> (try simp only [Bool.and_eq_true, Bool.and_eq_false_iff, Bool.or_eq_true, Bool.or_eq_false_iff, Bool.not_eq_true', Bool.not_eq_false', decide_eq_true_eq, decide_eq_false_iff_not, beq_iff_eq, beq_eq_false_iff_ne, ne_eq, bne_iff_ne, Int.not_lt, Int.not_le] at h)))
  · refine leV.of_eq ?_
    have h1 : l.length < 8 := by omega
    have h2 : ¬ 8 ≤ l.length := by omega
    simp [tkR, h1, h2]
  · have h1 : ¬ l.length < 8 := by omega
    have h2 : 8 ≤ l.length := by omega
    refine ⟨by omega, ?_⟩
    rw [← List.map_take]
    have h8 : (l.take 8).length = 8 := by simp; omega
    have hc8 : ∀ c ∈ l.take 8, 0 ≤ c ∧ c ≤ 255 := fun c hc => hl c (List.mem_of_mem_take hc)
    have hR : tkR l = .tup [.int .u64 (tk (l.take 8)), .bool true] := by simp [tkR, h1, h2]
    rw [hR]
    generalize l.take 8 = m at h8 hc8
    refine loopI (ι := Int × Int) (fun x => (0 ≤ x.1 ∧ x.1 ≤ 8) ∧ (m.drop x.1.toNat).foldl st8 x.2 = tk m) (fun x => (13, .int .i64 x.1) :: (12, _) :: (11, _) :: (4, .int .u64 x.2) :: _) (fun x => _) (fun x => 8 - x.1.toNat) (0, 0) ⟨by dsimp only; omega, rfl⟩ Ents.same ?_
    rintro ⟨k, d⟩ ⟨hk, hu⟩
    dsimp only at hk hu ⊢
    repeat' (first | (simp (disch := first | omega | (simp only [List.length_cons, List.length_nil]; first | done | omega)) only [go_sem, Nat.reduceAdd, Nat.reduceMul, Nat.reduceSub, Nat.reduceEqDiff, Nat.reduceLeDiff, Nat.reduceMod, Nat.reduceLT, Int.reduceToNat, Int.reduceAdd, Int.reduceSub, Int.reduceMul, Int.reduceNeg, Int.reduceLE, Int.reduceLT, Int.toNat_natCast, Int.cast_ofNat_Int, Int.reduceNe, Int.reduceEq, Int.reduceBEq, Int.reduceBNe, not_false_eq_true, ne_eq, Int.reduceTMod, Int.reduceTDiv, beq_self_eq_true, bne_self_eq_false, List.contains_cons, List.contains_nil, Nat.reduceBEq, getD_int, Nat.mul_one, List.length_map]) | (refine allI (fun b => ?_)) | (refine allT (fun τ => ?_)) | (refine brP (fun h => ?_) (fun h => ?_) <;> (try simp only [Bool.and_eq_true, Bool.and_eq_false_iff, Bool.or_eq_true, Bool.or_eq_false_iff, Bool.not_eq_true', Bool.not_eq_false', decide_eq_true_eq, decide_eq_false_iff_not, beq_iff_eq, beq_eq_false_iff_ne, ne_eq, bne_iff_ne, Int.not_lt, Int.not_le] at h)))
    · have hc := hc8 _ (getD_mem (l := m) (i := k.toNat) (by omega))
      rw [drop_getD m (by omega) (by omega), List.foldl_cons] at hu
      rw [wrap_u64 (by omega) (by omega)]
      refine ⟨by omega, by omega, ⟨(k + 1, st8 d (m.getD k.toNat 0)), ⟨by dsimp only; omega, hu⟩⟩, by dsimp only; omega, Ents.envH (by simp [go_sem, st8]) rfl⟩
    · rw [List.drop_eq_nil_of_le (by omega)] at hu
      refine leV.of_eq ?_
      rw [← hu]
      rfl
theorem take18 (l : List Int) (hl : okB l) : Pure Try.prog gl 18 [Bs l] (tkR l) := by
  refine fn_pureT Try.func18 t18 Try.ntmps18 (by simp) ?_
  obtain ⟨hl, hn⟩ := hl
  unfold c18 r18 Bs
  repeat' (first | (simp (disch := first | omega | (simp only [List.length_cons, List.length_nil]; first | done | omega)) only [go_sem, Nat.reduceAdd, Nat.reduceMul, Nat.reduceSub, Nat.reduceEqDiff, Nat.reduceLeDiff, Nat.reduceMod, Nat.reduceLT, Int.reduceToNat, Int.reduceAdd, Int.reduceSub, Int.reduceMul, Int.reduceNeg, Int.reduceLE, Int.reduceLT, Int.toNat_natCast, Int.cast_ofNat_Int, Int.reduceNe, Int.reduceEq, Int.reduceBEq, Int.reduceBNe, not_false_eq_true, ne_eq, Int.reduceTMod, Int.reduceTDiv, beq_self_eq_true, bne_self_eq_false, List.contains_cons, List.contains_nil, Nat.reduceBEq]) | (refine allI (fun b => ?_)) | (refine allT (fun τ => ?_)) | (refine brP (fun h => ?_) (fun h => ?_) <;> (try simp only [Bool.and_eq_true, Bool.and_eq_false_iff, Bool.or_eq_true, Bool.or_eq_false_iff, Bool.not_eq_true', Bool.not_eq_false', decide_eq_true_eq, decide_eq_false_iff_not, beq_iff_eq, beq_eq_false_iff_ne, ne_eq, bne_iff_ne, Int.not_lt, Int.not_le] at h)))
  · refine leV.of_eq ?_
    have h1 : l.length < 8 := by omega
    have h2 : ¬ 8 ≤ l.length := by omega
    simp [tkR, h1, h2]
  · have h1 : ¬ l.length < 8 := by omega
    have h2 : 8 ≤ l.length := by omega
    refine ⟨by omega, ?_⟩
    rw [← List.map_take]
    have h8 : (l.take 8).length = 8 := by simp; omega
    have hc8 : ∀ c ∈ l.take 8, 0 ≤ c ∧ c ≤ 255 := fun c hc => hl c (List.mem_of_mem_take hc)
    have hR : tkR l = .tup [.int .u64 (tk (l.take 8)), .bool true] := by simp [tkR, h1, h2]
    rw [hR]
    generalize l.take 8 = m at h8 hc8
    refine loopI (ι := Int × Int) (fun x => (0 ≤ x.1 ∧ x.1 ≤ 8) ∧ (m.drop x.1.toNat).foldl st8 x.2 = tk m) (fun x => (13, .int .i64 x.1) :: (12, _) :: (11, _) :: (4, .int .u64 x.2) :: _) (fun x => _) (fun x => 8 - x.1.toNat) (0, 0) ⟨by dsimp only; omega, rfl⟩ Ents.same ?_
    rintro ⟨k, d⟩ ⟨hk, hu⟩
    dsimp only at hk hu ⊢
    repeat' (first | (simp (disch := first | omega | (simp only [List.length_cons, List.length_nil]; first | done | omega)) only [go_sem, Nat.reduceAdd, Nat.reduceMul, Nat.reduceSub, Nat.reduceEqDiff, Nat.reduceLeDiff, Nat.reduceMod, Nat.reduceLT, Int.reduceToNat, Int.reduceAdd, Int.reduceSub, Int.reduceMul, Int.reduceNeg, Int.reduceLE, Int.reduceLT, Int.toNat_natCast, Int.cast_ofNat_Int, Int.reduceNe, Int.reduceEq, Int.reduceBEq, Int.reduceBNe, not_false_eq_true, ne_eq, Int.reduceTMod, Int.reduceTDiv, beq_self_eq_true, bne_self_eq_false, List.contains_cons, List.contains_nil, Nat.reduceBEq, getD_int, Nat.mul_one, List.length_map]) | (refine allI (fun b => ?_)) | (refine allT (fun τ => ?_)) | (refine brP (fun h => ?_) (fun h => ?_) <;> (try simp only [Bool.and_eq_true, Bool.and_eq_false_iff, Bool.or_eq_true, Bool.or_eq_false_iff, Bool.not_eq_true', Bool.not_eq_false', decide_eq_true_eq, decide_eq_false_iff_not, beq_iff_eq, beq_eq_false_iff_ne, ne_eq, bne_iff_ne, Int.not_lt, Int.not_le] at h)))
    · have hc := hc8 _ (getD_mem (l := m) (i := k.toNat) (by omega))
      rw [drop_getD m (by omega) (by omega), List.foldl_cons] at hu
      rw [wrap_u64 (by omega) (by omega)]
      refine ⟨by omega, by omega, ⟨(k + 1, st8 d (m.getD k.toNat 0)), ⟨by dsimp only; omega, hu⟩⟩, by dsimp only; omega, Ents.envH (by simp [go_sem, st8]) rfl⟩
    · rw [List.drop_eq_nil_of_le (by omega)] at hu
      refine leV.of_eq ?_
      rw [← hu]
      rfl
end Go.Proofs.Ytaffhdelflhlfaa
