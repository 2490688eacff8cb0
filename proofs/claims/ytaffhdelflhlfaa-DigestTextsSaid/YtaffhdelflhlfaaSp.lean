/- Layer 23: digest: Format. -/
import Derived.Test.YtaffhdelflhlfaaSo
namespace Go.Proofs.Ytaffhdelflhlfaa
open Go Go.Lx
set_option linter.unusedSimpArgs false
set_option linter.unusedVariables false
set_option maxRecDepth 100000
set_option maxHeartbeats 2000000

theorem and15 (x : Int) : bitop .and .u64 x 15 = x % 16 := by
  simp only [bitop, BitVec.toNat_and]
  have h1 : (BitVec.ofInt (IntKind.bits .u64) x).toNat = (x % 18446744073709551616).toNat := by
    show (BitVec.ofInt 64 x).toNat = _
    simp only [BitVec.toNat_ofInt]
    rfl
  have h2 : (BitVec.ofInt (IntKind.bits .u64) 15).toNat = 15 := rfl
  rw [h1, h2, show (15 : Nat) = 2 ^ 4 - 1 from rfl, Nat.and_two_pow_sub_one_eq_mod]
  rw [wrap_u64 (by omega) (by omega)]
  omega
theorem shr_div (d : Int) (s : Nat) (hs : s ≤ 64) : shr .u64 d s = d / 2 ^ s := by
  unfold shr
  simp only [IntKind.bits, Int.toNat_natCast]
  rw [Nat.min_eq_left hs, Int.fdiv_eq_ediv_of_nonneg _ (by exact Int.le_of_lt (Int.pow_pos (by omega)))]
def F16 (d : Int) (x : Nat) : List LV := ((fm d).take x ++ List.replicate (16 - x) 0).map fun c : UInt8 => LV.int .u8 (c.toNat : Int)
theorem format25 (d : Int) : Pure Try.prog gl 25 [.int .u64 d] (.str (fm d)) := by
  refine fn_viewT Try.func25 t25 Try.ntmps25 (by simp) ?_
  unfold c25 r25
  have s0 : shr .u64 d 60 = d / 1152921504606846976 := shr_div d 60 (by omega)
  have s1 : shr .u64 d 56 = d / 72057594037927936 := shr_div d 56 (by omega)
  have s2 : shr .u64 d 52 = d / 4503599627370496 := shr_div d 52 (by omega)
  have s3 : shr .u64 d 48 = d / 281474976710656 := shr_div d 48 (by omega)
  have s4 : shr .u64 d 44 = d / 17592186044416 := shr_div d 44 (by omega)
  have s5 : shr .u64 d 40 = d / 1099511627776 := shr_div d 40 (by omega)
  have s6 : shr .u64 d 36 = d / 68719476736 := shr_div d 36 (by omega)
  have s7 : shr .u64 d 32 = d / 4294967296 := shr_div d 32 (by omega)
  have s8 : shr .u64 d 28 = d / 268435456 := shr_div d 28 (by omega)
  have s9 : shr .u64 d 24 = d / 16777216 := shr_div d 24 (by omega)
  have s10 : shr .u64 d 20 = d / 1048576 := shr_div d 20 (by omega)
  have s11 : shr .u64 d 16 = d / 65536 := shr_div d 16 (by omega)
  have s12 : shr .u64 d 12 = d / 4096 := shr_div d 12 (by omega)
  have s13 : shr .u64 d 8 = d / 256 := shr_div d 8 (by omega)
  have s14 : shr .u64 d 4 = d / 16 := shr_div d 4 (by omega)
  have s15 : shr .u64 d 0 = d / 1 := shr_div d 0 (by omega)
  simp (disch := first | omega | (simp only [List.length_cons, List.length_nil]; first | done | omega)) only [go_sem, Nat.reduceAdd, Nat.reduceMul, Nat.reduceSub, Nat.reduceEqDiff, Nat.reduceLeDiff, Nat.reduceMod, Nat.reduceLT, Int.reduceToNat, Int.reduceAdd, Int.reduceSub, Int.reduceMul, Int.reduceNeg, Int.reduceLE, Int.reduceLT, Int.toNat_natCast, Int.cast_ofNat_Int, Int.reduceNe, Int.reduceEq, Int.reduceBEq, Int.reduceBNe, not_false_eq_true, ne_eq, Int.reduceTMod, Int.reduceTDiv, beq_self_eq_true, bne_self_eq_false, List.contains_cons, List.contains_nil, Nat.reduceBEq]
  refine ⟨by omega, rfl, .inr fun b => ?_⟩
  refine loopI (ι := Nat) (fun x => x ≤ 16) (fun x => (8, .int .i64 x) :: _) (fun x => [(5, .blk b (F16 d x))]) (fun x => 16 - x) 0 (by omega) Ents.same ?_
  rintro k hk
  have hb := hk
  rcases (by omega : k = 0 ∨ k = 1 ∨ k = 2 ∨ k = 3 ∨ k = 4 ∨ k = 5 ∨ k = 6 ∨ k = 7 ∨ k = 8 ∨ k = 9 ∨ k = 10 ∨ k = 11 ∨ k = 12 ∨ k = 13 ∨ k = 14 ∨ k = 15 ∨ k = 16) with rfl | rfl | rfl | rfl | rfl | rfl | rfl | rfl | rfl | rfl | rfl | rfl | rfl | rfl | rfl | rfl | rfl
  · simp only [F16, fm, List.take, List.replicate, List.map, List.append, Nat.sub, List.cons_append, List.nil_append]
    simp (disch := first | omega | (simp only [List.length_cons, List.length_nil]; first | done | omega)) only [go_sem, Nat.reduceAdd, Nat.reduceMul, Nat.reduceSub, Nat.reduceEqDiff, Nat.reduceLeDiff, Nat.reduceMod, Nat.reduceLT, Int.reduceToNat, Int.reduceAdd, Int.reduceSub, Int.reduceMul, Int.reduceNeg, Int.reduceLE, Int.reduceLT, Int.toNat_natCast, Int.cast_ofNat_Int, Int.reduceNe, Int.reduceEq, Int.reduceBEq, Int.reduceBNe, not_false_eq_true, ne_eq, Int.reduceTMod, Int.reduceTDiv, beq_self_eq_true, bne_self_eq_false, List.contains_cons, List.contains_nil, Nat.reduceBEq, and15, s0]
    refine ⟨by omega, ⟨⟨1, by omega⟩, by dsimp only; omega, Ents.envH (by simp [go_sem]) (by simp [F16, fm, hx, HEX, List.replicate])⟩⟩
  · simp only [F16, fm, List.take, List.replicate, List.map, List.append, Nat.sub, List.cons_append, List.nil_append]
    simp (disch := first | omega | (simp only [List.length_cons, List.length_nil]; first | done | omega)) only [go_sem, Nat.reduceAdd, Nat.reduceMul, Nat.reduceSub, Nat.reduceEqDiff, Nat.reduceLeDiff, Nat.reduceMod, Nat.reduceLT, Int.reduceToNat, Int.reduceAdd, Int.reduceSub, Int.reduceMul, Int.reduceNeg, Int.reduceLE, Int.reduceLT, Int.toNat_natCast, Int.cast_ofNat_Int, Int.reduceNe, Int.reduceEq, Int.reduceBEq, Int.reduceBNe, not_false_eq_true, ne_eq, Int.reduceTMod, Int.reduceTDiv, beq_self_eq_true, bne_self_eq_false, List.contains_cons, List.contains_nil, Nat.reduceBEq, and15, s1]
    refine ⟨by omega, ⟨⟨2, by omega⟩, by dsimp only; omega, Ents.envH (by simp [go_sem]) (by simp [F16, fm, hx, HEX, List.replicate])⟩⟩
  · simp only [F16, fm, List.take, List.replicate, List.map, List.append, Nat.sub, List.cons_append, List.nil_append]
    simp (disch := first | omega | (simp only [List.length_cons, List.length_nil]; first | done | omega)) only [go_sem, Nat.reduceAdd, Nat.reduceMul, Nat.reduceSub, Nat.reduceEqDiff, Nat.reduceLeDiff, Nat.reduceMod, Nat.reduceLT, Int.reduceToNat, Int.reduceAdd, Int.reduceSub, Int.reduceMul, Int.reduceNeg, Int.reduceLE, Int.reduceLT, Int.toNat_natCast, Int.cast_ofNat_Int, Int.reduceNe, Int.reduceEq, Int.reduceBEq, Int.reduceBNe, not_false_eq_true, ne_eq, Int.reduceTMod, Int.reduceTDiv, beq_self_eq_true, bne_self_eq_false, List.contains_cons, List.contains_nil, Nat.reduceBEq, and15, s2]
    refine ⟨by omega, ⟨⟨3, by omega⟩, by dsimp only; omega, Ents.envH (by simp [go_sem]) (by simp [F16, fm, hx, HEX, List.replicate])⟩⟩
  · simp only [F16, fm, List.take, List.replicate, List.map, List.append, Nat.sub, List.cons_append, List.nil_append]
    simp (disch := first | omega | (simp only [List.length_cons, List.length_nil]; first | done | omega)) only [go_sem, Nat.reduceAdd, Nat.reduceMul, Nat.reduceSub, Nat.reduceEqDiff, Nat.reduceLeDiff, Nat.reduceMod, Nat.reduceLT, Int.reduceToNat, Int.reduceAdd, Int.reduceSub, Int.reduceMul, Int.reduceNeg, Int.reduceLE, Int.reduceLT, Int.toNat_natCast, Int.cast_ofNat_Int, Int.reduceNe, Int.reduceEq, Int.reduceBEq, Int.reduceBNe, not_false_eq_true, ne_eq, Int.reduceTMod, Int.reduceTDiv, beq_self_eq_true, bne_self_eq_false, List.contains_cons, List.contains_nil, Nat.reduceBEq, and15, s3]
    refine ⟨by omega, ⟨⟨4, by omega⟩, by dsimp only; omega, Ents.envH (by simp [go_sem]) (by simp [F16, fm, hx, HEX, List.replicate])⟩⟩
  · simp only [F16, fm, List.take, List.replicate, List.map, List.append, Nat.sub, List.cons_append, List.nil_append]
    simp (disch := first | omega | (simp only [List.length_cons, List.length_nil]; first | done | omega)) only [go_sem, Nat.reduceAdd, Nat.reduceMul, Nat.reduceSub, Nat.reduceEqDiff, Nat.reduceLeDiff, Nat.reduceMod, Nat.reduceLT, Int.reduceToNat, Int.reduceAdd, Int.reduceSub, Int.reduceMul, Int.reduceNeg, Int.reduceLE, Int.reduceLT, Int.toNat_natCast, Int.cast_ofNat_Int, Int.reduceNe, Int.reduceEq, Int.reduceBEq, Int.reduceBNe, not_false_eq_true, ne_eq, Int.reduceTMod, Int.reduceTDiv, beq_self_eq_true, bne_self_eq_false, List.contains_cons, List.contains_nil, Nat.reduceBEq, and15, s4]
    refine ⟨by omega, ⟨⟨5, by omega⟩, by dsimp only; omega, Ents.envH (by simp [go_sem]) (by simp [F16, fm, hx, HEX, List.replicate])⟩⟩
  · simp only [F16, fm, List.take, List.replicate, List.map, List.append, Nat.sub, List.cons_append, List.nil_append]
    simp (disch := first | omega | (simp only [List.length_cons, List.length_nil]; first | done | omega)) only [go_sem, Nat.reduceAdd, Nat.reduceMul, Nat.reduceSub, Nat.reduceEqDiff, Nat.reduceLeDiff, Nat.reduceMod, Nat.reduceLT, Int.reduceToNat, Int.reduceAdd, Int.reduceSub, Int.reduceMul, Int.reduceNeg, Int.reduceLE, Int.reduceLT, Int.toNat_natCast, Int.cast_ofNat_Int, Int.reduceNe, Int.reduceEq, Int.reduceBEq, Int.reduceBNe, not_false_eq_true, ne_eq, Int.reduceTMod, Int.reduceTDiv, beq_self_eq_true, bne_self_eq_false, List.contains_cons, List.contains_nil, Nat.reduceBEq, and15, s5]
    refine ⟨by omega, ⟨⟨6, by omega⟩, by dsimp only; omega, Ents.envH (by simp [go_sem]) (by simp [F16, fm, hx, HEX, List.replicate])⟩⟩
  · simp only [F16, fm, List.take, List.replicate, List.map, List.append, Nat.sub, List.cons_append, List.nil_append]
    simp (disch := first | omega | (simp only [List.length_cons, List.length_nil]; first | done | omega)) only [go_sem, Nat.reduceAdd, Nat.reduceMul, Nat.reduceSub, Nat.reduceEqDiff, Nat.reduceLeDiff, Nat.reduceMod, Nat.reduceLT, Int.reduceToNat, Int.reduceAdd, Int.reduceSub, Int.reduceMul, Int.reduceNeg, Int.reduceLE, Int.reduceLT, Int.toNat_natCast, Int.cast_ofNat_Int, Int.reduceNe, Int.reduceEq, Int.reduceBEq, Int.reduceBNe, not_false_eq_true, ne_eq, Int.reduceTMod, Int.reduceTDiv, beq_self_eq_true, bne_self_eq_false, List.contains_cons, List.contains_nil, Nat.reduceBEq, and15, s6]
    refine ⟨by omega, ⟨⟨7, by omega⟩, by dsimp only; omega, Ents.envH (by simp [go_sem]) (by simp [F16, fm, hx, HEX, List.replicate])⟩⟩
  · simp only [F16, fm, List.take, List.replicate, List.map, List.append, Nat.sub, List.cons_append, List.nil_append]
    simp (disch := first | omega | (simp only [List.length_cons, List.length_nil]; first | done | omega)) only [go_sem, Nat.reduceAdd, Nat.reduceMul, Nat.reduceSub, Nat.reduceEqDiff, Nat.reduceLeDiff, Nat.reduceMod, Nat.reduceLT, Int.reduceToNat, Int.reduceAdd, Int.reduceSub, Int.reduceMul, Int.reduceNeg, Int.reduceLE, Int.reduceLT, Int.toNat_natCast, Int.cast_ofNat_Int, Int.reduceNe, Int.reduceEq, Int.reduceBEq, Int.reduceBNe, not_false_eq_true, ne_eq, Int.reduceTMod, Int.reduceTDiv, beq_self_eq_true, bne_self_eq_false, List.contains_cons, List.contains_nil, Nat.reduceBEq, and15, s7]
    refine ⟨by omega, ⟨⟨8, by omega⟩, by dsimp only; omega, Ents.envH (by simp [go_sem]) (by simp [F16, fm, hx, HEX, List.replicate])⟩⟩
  · simp only [F16, fm, List.take, List.replicate, List.map, List.append, Nat.sub, List.cons_append, List.nil_append]
    simp (disch := first | omega | (simp only [List.length_cons, List.length_nil]; first | done | omega)) only [go_sem, Nat.reduceAdd, Nat.reduceMul, Nat.reduceSub, Nat.reduceEqDiff, Nat.reduceLeDiff, Nat.reduceMod, Nat.reduceLT, Int.reduceToNat, Int.reduceAdd, Int.reduceSub, Int.reduceMul, Int.reduceNeg, Int.reduceLE, Int.reduceLT, Int.toNat_natCast, Int.cast_ofNat_Int, Int.reduceNe, Int.reduceEq, Int.reduceBEq, Int.reduceBNe, not_false_eq_true, ne_eq, Int.reduceTMod, Int.reduceTDiv, beq_self_eq_true, bne_self_eq_false, List.contains_cons, List.contains_nil, Nat.reduceBEq, and15, s8]
    refine ⟨by omega, ⟨⟨9, by omega⟩, by dsimp only; omega, Ents.envH (by simp [go_sem]) (by simp [F16, fm, hx, HEX, List.replicate])⟩⟩
  · simp only [F16, fm, List.take, List.replicate, List.map, List.append, Nat.sub, List.cons_append, List.nil_append]
    simp (disch := first | omega | (simp only [List.length_cons, List.length_nil]; first | done | omega)) only [go_sem, Nat.reduceAdd, Nat.reduceMul, Nat.reduceSub, Nat.reduceEqDiff, Nat.reduceLeDiff, Nat.reduceMod, Nat.reduceLT, Int.reduceToNat, Int.reduceAdd, Int.reduceSub, Int.reduceMul, Int.reduceNeg, Int.reduceLE, Int.reduceLT, Int.toNat_natCast, Int.cast_ofNat_Int, Int.reduceNe, Int.reduceEq, Int.reduceBEq, Int.reduceBNe, not_false_eq_true, ne_eq, Int.reduceTMod, Int.reduceTDiv, beq_self_eq_true, bne_self_eq_false, List.contains_cons, List.contains_nil, Nat.reduceBEq, and15, s9]
    refine ⟨by omega, ⟨⟨10, by omega⟩, by dsimp only; omega, Ents.envH (by simp [go_sem]) (by simp [F16, fm, hx, HEX, List.replicate])⟩⟩
  · simp only [F16, fm, List.take, List.replicate, List.map, List.append, Nat.sub, List.cons_append, List.nil_append]
    simp (disch := first | omega | (simp only [List.length_cons, List.length_nil]; first | done | omega)) only [go_sem, Nat.reduceAdd, Nat.reduceMul, Nat.reduceSub, Nat.reduceEqDiff, Nat.reduceLeDiff, Nat.reduceMod, Nat.reduceLT, Int.reduceToNat, Int.reduceAdd, Int.reduceSub, Int.reduceMul, Int.reduceNeg, Int.reduceLE, Int.reduceLT, Int.toNat_natCast, Int.cast_ofNat_Int, Int.reduceNe, Int.reduceEq, Int.reduceBEq, Int.reduceBNe, not_false_eq_true, ne_eq, Int.reduceTMod, Int.reduceTDiv, beq_self_eq_true, bne_self_eq_false, List.contains_cons, List.contains_nil, Nat.reduceBEq, and15, s10]
    refine ⟨by omega, ⟨⟨11, by omega⟩, by dsimp only; omega, Ents.envH (by simp [go_sem]) (by simp [F16, fm, hx, HEX, List.replicate])⟩⟩
  · simp only [F16, fm, List.take, List.replicate, List.map, List.append, Nat.sub, List.cons_append, List.nil_append]
    simp (disch := first | omega | (simp only [List.length_cons, List.length_nil]; first | done | omega)) only [go_sem, Nat.reduceAdd, Nat.reduceMul, Nat.reduceSub, Nat.reduceEqDiff, Nat.reduceLeDiff, Nat.reduceMod, Nat.reduceLT, Int.reduceToNat, Int.reduceAdd, Int.reduceSub, Int.reduceMul, Int.reduceNeg, Int.reduceLE, Int.reduceLT, Int.toNat_natCast, Int.cast_ofNat_Int, Int.reduceNe, Int.reduceEq, Int.reduceBEq, Int.reduceBNe, not_false_eq_true, ne_eq, Int.reduceTMod, Int.reduceTDiv, beq_self_eq_true, bne_self_eq_false, List.contains_cons, List.contains_nil, Nat.reduceBEq, and15, s11]
    refine ⟨by omega, ⟨⟨12, by omega⟩, by dsimp only; omega, Ents.envH (by simp [go_sem]) (by simp [F16, fm, hx, HEX, List.replicate])⟩⟩
  · simp only [F16, fm, List.take, List.replicate, List.map, List.append, Nat.sub, List.cons_append, List.nil_append]
    simp (disch := first | omega | (simp only [List.length_cons, List.length_nil]; first | done | omega)) only [go_sem, Nat.reduceAdd, Nat.reduceMul, Nat.reduceSub, Nat.reduceEqDiff, Nat.reduceLeDiff, Nat.reduceMod, Nat.reduceLT, Int.reduceToNat, Int.reduceAdd, Int.reduceSub, Int.reduceMul, Int.reduceNeg, Int.reduceLE, Int.reduceLT, Int.toNat_natCast, Int.cast_ofNat_Int, Int.reduceNe, Int.reduceEq, Int.reduceBEq, Int.reduceBNe, not_false_eq_true, ne_eq, Int.reduceTMod, Int.reduceTDiv, beq_self_eq_true, bne_self_eq_false, List.contains_cons, List.contains_nil, Nat.reduceBEq, and15, s12]
    refine ⟨by omega, ⟨⟨13, by omega⟩, by dsimp only; omega, Ents.envH (by simp [go_sem]) (by simp [F16, fm, hx, HEX, List.replicate])⟩⟩
  · simp only [F16, fm, List.take, List.replicate, List.map, List.append, Nat.sub, List.cons_append, List.nil_append]
    simp (disch := first | omega | (simp only [List.length_cons, List.length_nil]; first | done | omega)) only [go_sem, Nat.reduceAdd, Nat.reduceMul, Nat.reduceSub, Nat.reduceEqDiff, Nat.reduceLeDiff, Nat.reduceMod, Nat.reduceLT, Int.reduceToNat, Int.reduceAdd, Int.reduceSub, Int.reduceMul, Int.reduceNeg, Int.reduceLE, Int.reduceLT, Int.toNat_natCast, Int.cast_ofNat_Int, Int.reduceNe, Int.reduceEq, Int.reduceBEq, Int.reduceBNe, not_false_eq_true, ne_eq, Int.reduceTMod, Int.reduceTDiv, beq_self_eq_true, bne_self_eq_false, List.contains_cons, List.contains_nil, Nat.reduceBEq, and15, s13]
    refine ⟨by omega, ⟨⟨14, by omega⟩, by dsimp only; omega, Ents.envH (by simp [go_sem]) (by simp [F16, fm, hx, HEX, List.replicate])⟩⟩
  · simp only [F16, fm, List.take, List.replicate, List.map, List.append, Nat.sub, List.cons_append, List.nil_append]
    simp (disch := first | omega | (simp only [List.length_cons, List.length_nil]; first | done | omega)) only [go_sem, Nat.reduceAdd, Nat.reduceMul, Nat.reduceSub, Nat.reduceEqDiff, Nat.reduceLeDiff, Nat.reduceMod, Nat.reduceLT, Int.reduceToNat, Int.reduceAdd, Int.reduceSub, Int.reduceMul, Int.reduceNeg, Int.reduceLE, Int.reduceLT, Int.toNat_natCast, Int.cast_ofNat_Int, Int.reduceNe, Int.reduceEq, Int.reduceBEq, Int.reduceBNe, not_false_eq_true, ne_eq, Int.reduceTMod, Int.reduceTDiv, beq_self_eq_true, bne_self_eq_false, List.contains_cons, List.contains_nil, Nat.reduceBEq, and15, s14]
    refine ⟨by omega, ⟨⟨15, by omega⟩, by dsimp only; omega, Ents.envH (by simp [go_sem]) (by simp [F16, fm, hx, HEX, List.replicate])⟩⟩
  · simp only [F16, fm, List.take, List.replicate, List.map, List.append, Nat.sub, List.cons_append, List.nil_append]
    simp (disch := first | omega | (simp only [List.length_cons, List.length_nil]; first | done | omega)) only [go_sem, Nat.reduceAdd, Nat.reduceMul, Nat.reduceSub, Nat.reduceEqDiff, Nat.reduceLeDiff, Nat.reduceMod, Nat.reduceLT, Int.reduceToNat, Int.reduceAdd, Int.reduceSub, Int.reduceMul, Int.reduceNeg, Int.reduceLE, Int.reduceLT, Int.toNat_natCast, Int.cast_ofNat_Int, Int.reduceNe, Int.reduceEq, Int.reduceBEq, Int.reduceBNe, not_false_eq_true, ne_eq, Int.reduceTMod, Int.reduceTDiv, beq_self_eq_true, bne_self_eq_false, List.contains_cons, List.contains_nil, Nat.reduceBEq, and15, s15]
    refine ⟨by omega, ⟨⟨16, by omega⟩, by dsimp only; omega, Ents.envH (by simp [go_sem]) (by simp [F16, fm, hx, HEX, List.replicate])⟩⟩
  · simp only [F16, fm, List.take, List.replicate, List.map, List.append, Nat.sub, List.cons_append, List.nil_append]
    simp (disch := first | omega | (simp only [List.length_cons, List.length_nil]; first | done | omega)) only [go_sem, Nat.reduceAdd, Nat.reduceMul, Nat.reduceSub, Nat.reduceEqDiff, Nat.reduceLeDiff, Nat.reduceMod, Nat.reduceLT, Int.reduceToNat, Int.reduceAdd, Int.reduceSub, Int.reduceMul, Int.reduceNeg, Int.reduceLE, Int.reduceLT, Int.toNat_natCast, Int.cast_ofNat_Int, Int.reduceNe, Int.reduceEq, Int.reduceBEq, Int.reduceBNe, not_false_eq_true, ne_eq, Int.reduceTMod, Int.reduceTDiv, beq_self_eq_true, bne_self_eq_false, List.contains_cons, List.contains_nil, Nat.reduceBEq]
    simp only [UInt8.ofNat_toNat]
    exact view_sub (leV.refl _) (List.nil_sublist _)
theorem and15b (x : Int) (h : 0 ≤ x ∧ x ≤ 255) : bitop .and .u8 x 15 = x % 16 := by
  have h1 : ∀ k : Fin 256, bitop .and .u8 (k.val : Int) 15 = (k.val : Int) % 16 := by decide
  have := h1 ⟨x.toNat, by omega⟩
  simp only at this
  rwa [Int.toNat_of_nonneg h.1] at this
theorem shr4b (x : Int) : shr .u8 x 4 = x / 16 := by
  show x.fdiv (2 ^ min (4 : Int).toNat 8) = _
  rw [Int.fdiv_eq_ediv_of_nonneg _ (by decide)]
  rfl
theorem byt_div (d : Int) (s : Nat) (hs : s ≤ 64) : byt d s = d / 2 ^ s % 256 := by
  unfold byt
  rw [shr_div d s hs]
  simp only [IntKind.wrap, IntKind.bits, IntKind.signed]
  simp
theorem hexAt (n : Int) (h : 0 ≤ n) (h' : n < 16) : ([48, 49, 50, 51, 52, 53, 54, 55, 56, 57, 97, 98, 99, 100, 101, 102].drop n.toNat).take ((n + 1).toNat - n.toNat) = [hx n] := by
  have h1 : ∀ k : Fin 16, (HEX.drop k.val).take 1 = [HEX.getD k.val 0] := by decide
  have := h1 ⟨n.toNat, by omega⟩
  rw [show (n + 1).toNat - n.toNat = 1 by omega]
  exact this
theorem format27 (d : Int) : Pure Try.prog gl 27 [.int .u64 d] (.str (fm d)) := by
  refine fn_pureT Try.func27 t27 Try.ntmps27 (by simp) ?_
  unfold c27 r27
  have b0 : byt d 56 = d / 72057594037927936 % 256 := byt_div d 56 (by omega)
  have p0 : d / 72057594037927936 % 256 / 16 = d / 1152921504606846976 % 16 := by omega
  have q0 : d / 72057594037927936 % 256 % 16 = d / 72057594037927936 % 16 := by omega
  have u0 := hexAt (d / 1152921504606846976 % 16) (by omega) (by omega)
  have v0 := hexAt (d / 72057594037927936 % 16) (by omega) (by omega)
  have b1 : byt d 48 = d / 281474976710656 % 256 := byt_div d 48 (by omega)
  have p1 : d / 281474976710656 % 256 / 16 = d / 4503599627370496 % 16 := by omega
  have q1 : d / 281474976710656 % 256 % 16 = d / 281474976710656 % 16 := by omega
  have u1 := hexAt (d / 4503599627370496 % 16) (by omega) (by omega)
  have v1 := hexAt (d / 281474976710656 % 16) (by omega) (by omega)
  have b2 : byt d 40 = d / 1099511627776 % 256 := byt_div d 40 (by omega)
  have p2 : d / 1099511627776 % 256 / 16 = d / 17592186044416 % 16 := by omega
  have q2 : d / 1099511627776 % 256 % 16 = d / 1099511627776 % 16 := by omega
  have u2 := hexAt (d / 17592186044416 % 16) (by omega) (by omega)
  have v2 := hexAt (d / 1099511627776 % 16) (by omega) (by omega)
  have b3 : byt d 32 = d / 4294967296 % 256 := byt_div d 32 (by omega)
  have p3 : d / 4294967296 % 256 / 16 = d / 68719476736 % 16 := by omega
  have q3 : d / 4294967296 % 256 % 16 = d / 4294967296 % 16 := by omega
  have u3 := hexAt (d / 68719476736 % 16) (by omega) (by omega)
  have v3 := hexAt (d / 4294967296 % 16) (by omega) (by omega)
  have b4 : byt d 24 = d / 16777216 % 256 := byt_div d 24 (by omega)
  have p4 : d / 16777216 % 256 / 16 = d / 268435456 % 16 := by omega
  have q4 : d / 16777216 % 256 % 16 = d / 16777216 % 16 := by omega
  have u4 := hexAt (d / 268435456 % 16) (by omega) (by omega)
  have v4 := hexAt (d / 16777216 % 16) (by omega) (by omega)
  have b5 : byt d 16 = d / 65536 % 256 := byt_div d 16 (by omega)
  have p5 : d / 65536 % 256 / 16 = d / 1048576 % 16 := by omega
  have q5 : d / 65536 % 256 % 16 = d / 65536 % 16 := by omega
  have u5 := hexAt (d / 1048576 % 16) (by omega) (by omega)
  have v5 := hexAt (d / 65536 % 16) (by omega) (by omega)
  have b6 : byt d 8 = d / 256 % 256 := byt_div d 8 (by omega)
  have p6 : d / 256 % 256 / 16 = d / 4096 % 16 := by omega
  have q6 : d / 256 % 256 % 16 = d / 256 % 16 := by omega
  have u6 := hexAt (d / 4096 % 16) (by omega) (by omega)
  have v6 := hexAt (d / 256 % 16) (by omega) (by omega)
  have b7 : byt d 0 = d / 1 % 256 := byt_div d 0 (by omega)
  have p7 : d / 1 % 256 / 16 = d / 16 % 16 := by omega
  have q7 : d / 1 % 256 % 16 = d / 1 % 16 := by omega
  have u7 := hexAt (d / 16 % 16) (by omega) (by omega)
  have v7 := hexAt (d / 1 % 16) (by omega) (by omega)
  simp (disch := first | omega | (simp only [List.length_cons, List.length_nil]; first | done | omega)) only [go_sem, Nat.reduceAdd, Nat.reduceMul, Nat.reduceSub, Nat.reduceEqDiff, Nat.reduceLeDiff, Nat.reduceMod, Nat.reduceLT, Int.reduceToNat, Int.reduceAdd, Int.reduceSub, Int.reduceMul, Int.reduceNeg, Int.reduceLE, Int.reduceLT, Int.toNat_natCast, Int.cast_ofNat_Int, Int.reduceNe, Int.reduceEq, Int.reduceBEq, Int.reduceBNe, not_false_eq_true, ne_eq, Int.reduceTMod, Int.reduceTDiv, beq_self_eq_true, bne_self_eq_false, List.contains_cons, List.contains_nil, Nat.reduceBEq]
  first | refine call_U (put19p d) ?_ | refine call_T (put19p d) ?_ | refine call_N (put19p d) ?_ | refine call_of (put19p d) ?_
  simp (disch := first | omega | (simp only [List.length_cons, List.length_nil]; first | done | omega)) only [go_sem, Nat.reduceAdd, Nat.reduceMul, Nat.reduceSub, Nat.reduceEqDiff, Nat.reduceLeDiff, Nat.reduceMod, Nat.reduceLT, Int.reduceToNat, Int.reduceAdd, Int.reduceSub, Int.reduceMul, Int.reduceNeg, Int.reduceLE, Int.reduceLT, Int.toNat_natCast, Int.cast_ofNat_Int, Int.reduceNe, Int.reduceEq, Int.reduceBEq, Int.reduceBNe, not_false_eq_true, ne_eq, Int.reduceTMod, Int.reduceTDiv, beq_self_eq_true, bne_self_eq_false, List.contains_cons, List.contains_nil, Nat.reduceBEq]
  refine loopI (ι := Nat) (fun x => x ≤ 8) (fun x => (9, .int .i64 x) :: (8, _) :: (7, _) :: (3, .str ((fm d).take (2 * x))) :: _) (fun x => _) (fun x => 8 - x) 0 (by omega) Ents.same ?_
  rintro k hk
  have hb := hk
  rcases (by omega : k = 0 ∨ k = 1 ∨ k = 2 ∨ k = 3 ∨ k = 4 ∨ k = 5 ∨ k = 6 ∨ k = 7 ∨ k = 8) with rfl | rfl | rfl | rfl | rfl | rfl | rfl | rfl | rfl
  · simp only [by8, fm, List.take, List.map, Nat.mul]
    simp (disch := first | omega | (simp only [List.length_cons, List.length_nil]; first | done | omega)) only [go_sem, Nat.reduceAdd, Nat.reduceMul, Nat.reduceSub, Nat.reduceEqDiff, Nat.reduceLeDiff, Nat.reduceMod, Nat.reduceLT, Int.reduceToNat, Int.reduceAdd, Int.reduceSub, Int.reduceMul, Int.reduceNeg, Int.reduceLE, Int.reduceLT, Int.toNat_natCast, Int.cast_ofNat_Int, Int.reduceNe, Int.reduceEq, Int.reduceBEq, Int.reduceBNe, not_false_eq_true, ne_eq, Int.reduceTMod, Int.reduceTDiv, beq_self_eq_true, bne_self_eq_false, List.contains_cons, List.contains_nil, Nat.reduceBEq, and15b, shr4b, b0, p0, q0, u0, v0]
    refine ⟨by omega, by omega, ⟨⟨1, by omega⟩, by dsimp only; omega, Ents.envH (by simp [go_sem, b0]) rfl⟩⟩
  · simp only [by8, fm, List.take, List.map, Nat.mul]
    simp (disch := first | omega | (simp only [List.length_cons, List.length_nil]; first | done | omega)) only [go_sem, Nat.reduceAdd, Nat.reduceMul, Nat.reduceSub, Nat.reduceEqDiff, Nat.reduceLeDiff, Nat.reduceMod, Nat.reduceLT, Int.reduceToNat, Int.reduceAdd, Int.reduceSub, Int.reduceMul, Int.reduceNeg, Int.reduceLE, Int.reduceLT, Int.toNat_natCast, Int.cast_ofNat_Int, Int.reduceNe, Int.reduceEq, Int.reduceBEq, Int.reduceBNe, not_false_eq_true, ne_eq, Int.reduceTMod, Int.reduceTDiv, beq_self_eq_true, bne_self_eq_false, List.contains_cons, List.contains_nil, Nat.reduceBEq, and15b, shr4b, b1, p1, q1, u1, v1]
    refine ⟨by omega, by omega, ⟨⟨2, by omega⟩, by dsimp only; omega, Ents.envH (by simp [go_sem, b1]) rfl⟩⟩
  · simp only [by8, fm, List.take, List.map, Nat.mul]
    simp (disch := first | omega | (simp only [List.length_cons, List.length_nil]; first | done | omega)) only [go_sem, Nat.reduceAdd, Nat.reduceMul, Nat.reduceSub, Nat.reduceEqDiff, Nat.reduceLeDiff, Nat.reduceMod, Nat.reduceLT, Int.reduceToNat, Int.reduceAdd, Int.reduceSub, Int.reduceMul, Int.reduceNeg, Int.reduceLE, Int.reduceLT, Int.toNat_natCast, Int.cast_ofNat_Int, Int.reduceNe, Int.reduceEq, Int.reduceBEq, Int.reduceBNe, not_false_eq_true, ne_eq, Int.reduceTMod, Int.reduceTDiv, beq_self_eq_true, bne_self_eq_false, List.contains_cons, List.contains_nil, Nat.reduceBEq, and15b, shr4b, b2, p2, q2, u2, v2]
    refine ⟨by omega, by omega, ⟨⟨3, by omega⟩, by dsimp only; omega, Ents.envH (by simp [go_sem, b2]) rfl⟩⟩
  · simp only [by8, fm, List.take, List.map, Nat.mul]
    simp (disch := first | omega | (simp only [List.length_cons, List.length_nil]; first | done | omega)) only [go_sem, Nat.reduceAdd, Nat.reduceMul, Nat.reduceSub, Nat.reduceEqDiff, Nat.reduceLeDiff, Nat.reduceMod, Nat.reduceLT, Int.reduceToNat, Int.reduceAdd, Int.reduceSub, Int.reduceMul, Int.reduceNeg, Int.reduceLE, Int.reduceLT, Int.toNat_natCast, Int.cast_ofNat_Int, Int.reduceNe, Int.reduceEq, Int.reduceBEq, Int.reduceBNe, not_false_eq_true, ne_eq, Int.reduceTMod, Int.reduceTDiv, beq_self_eq_true, bne_self_eq_false, List.contains_cons, List.contains_nil, Nat.reduceBEq, and15b, shr4b, b3, p3, q3, u3, v3]
    refine ⟨by omega, by omega, ⟨⟨4, by omega⟩, by dsimp only; omega, Ents.envH (by simp [go_sem, b3]) rfl⟩⟩
  · simp only [by8, fm, List.take, List.map, Nat.mul]
    simp (disch := first | omega | (simp only [List.length_cons, List.length_nil]; first | done | omega)) only [go_sem, Nat.reduceAdd, Nat.reduceMul, Nat.reduceSub, Nat.reduceEqDiff, Nat.reduceLeDiff, Nat.reduceMod, Nat.reduceLT, Int.reduceToNat, Int.reduceAdd, Int.reduceSub, Int.reduceMul, Int.reduceNeg, Int.reduceLE, Int.reduceLT, Int.toNat_natCast, Int.cast_ofNat_Int, Int.reduceNe, Int.reduceEq, Int.reduceBEq, Int.reduceBNe, not_false_eq_true, ne_eq, Int.reduceTMod, Int.reduceTDiv, beq_self_eq_true, bne_self_eq_false, List.contains_cons, List.contains_nil, Nat.reduceBEq, and15b, shr4b, b4, p4, q4, u4, v4]
    refine ⟨by omega, by omega, ⟨⟨5, by omega⟩, by dsimp only; omega, Ents.envH (by simp [go_sem, b4]) rfl⟩⟩
  · simp only [by8, fm, List.take, List.map, Nat.mul]
    simp (disch := first | omega | (simp only [List.length_cons, List.length_nil]; first | done | omega)) only [go_sem, Nat.reduceAdd, Nat.reduceMul, Nat.reduceSub, Nat.reduceEqDiff, Nat.reduceLeDiff, Nat.reduceMod, Nat.reduceLT, Int.reduceToNat, Int.reduceAdd, Int.reduceSub, Int.reduceMul, Int.reduceNeg, Int.reduceLE, Int.reduceLT, Int.toNat_natCast, Int.cast_ofNat_Int, Int.reduceNe, Int.reduceEq, Int.reduceBEq, Int.reduceBNe, not_false_eq_true, ne_eq, Int.reduceTMod, Int.reduceTDiv, beq_self_eq_true, bne_self_eq_false, List.contains_cons, List.contains_nil, Nat.reduceBEq, and15b, shr4b, b5, p5, q5, u5, v5]
    refine ⟨by omega, by omega, ⟨⟨6, by omega⟩, by dsimp only; omega, Ents.envH (by simp [go_sem, b5]) rfl⟩⟩
  · simp only [by8, fm, List.take, List.map, Nat.mul]
    simp (disch := first | omega | (simp only [List.length_cons, List.length_nil]; first | done | omega)) only [go_sem, Nat.reduceAdd, Nat.reduceMul, Nat.reduceSub, Nat.reduceEqDiff, Nat.reduceLeDiff, Nat.reduceMod, Nat.reduceLT, Int.reduceToNat, Int.reduceAdd, Int.reduceSub, Int.reduceMul, Int.reduceNeg, Int.reduceLE, Int.reduceLT, Int.toNat_natCast, Int.cast_ofNat_Int, Int.reduceNe, Int.reduceEq, Int.reduceBEq, Int.reduceBNe, not_false_eq_true, ne_eq, Int.reduceTMod, Int.reduceTDiv, beq_self_eq_true, bne_self_eq_false, List.contains_cons, List.contains_nil, Nat.reduceBEq, and15b, shr4b, b6, p6, q6, u6, v6]
    refine ⟨by omega, by omega, ⟨⟨7, by omega⟩, by dsimp only; omega, Ents.envH (by simp [go_sem, b6]) rfl⟩⟩
  · simp only [by8, fm, List.take, List.map, Nat.mul]
    simp (disch := first | omega | (simp only [List.length_cons, List.length_nil]; first | done | omega)) only [go_sem, Nat.reduceAdd, Nat.reduceMul, Nat.reduceSub, Nat.reduceEqDiff, Nat.reduceLeDiff, Nat.reduceMod, Nat.reduceLT, Int.reduceToNat, Int.reduceAdd, Int.reduceSub, Int.reduceMul, Int.reduceNeg, Int.reduceLE, Int.reduceLT, Int.toNat_natCast, Int.cast_ofNat_Int, Int.reduceNe, Int.reduceEq, Int.reduceBEq, Int.reduceBNe, not_false_eq_true, ne_eq, Int.reduceTMod, Int.reduceTDiv, beq_self_eq_true, bne_self_eq_false, List.contains_cons, List.contains_nil, Nat.reduceBEq, and15b, shr4b, b7, p7, q7, u7, v7]
    refine ⟨by omega, by omega, ⟨⟨8, by omega⟩, by dsimp only; omega, Ents.envH (by simp [go_sem, b7]) rfl⟩⟩
  · simp only [by8, fm, List.take, List.map, Nat.mul]
    simp (disch := first | omega | (simp only [List.length_cons, List.length_nil]; first | done | omega)) only [go_sem, Nat.reduceAdd, Nat.reduceMul, Nat.reduceSub, Nat.reduceEqDiff, Nat.reduceLeDiff, Nat.reduceMod, Nat.reduceLT, Int.reduceToNat, Int.reduceAdd, Int.reduceSub, Int.reduceMul, Int.reduceNeg, Int.reduceLE, Int.reduceLT, Int.toNat_natCast, Int.cast_ofNat_Int, Int.reduceNe, Int.reduceEq, Int.reduceBEq, Int.reduceBNe, not_false_eq_true, ne_eq, Int.reduceTMod, Int.reduceTDiv, beq_self_eq_true, bne_self_eq_false, List.contains_cons, List.contains_nil, Nat.reduceBEq]
end Go.Proofs.Ytaffhdelflhlfaa
