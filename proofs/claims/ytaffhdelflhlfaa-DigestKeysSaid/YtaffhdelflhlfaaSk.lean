/- Layer 23: digest: the bytes of a digest. -/
import Derived.Test.YtaffhdelflhlfaaSj
namespace Go.Lx
open Go
set_option linter.unusedSimpArgs false
set_option linter.unusedVariables false
variable {P : Program} {gl : Glob}
theorem Ents.dummyE {env env' : Env} {H : Heap} (id : Nat) (h : envLe env env') : Ents gl env H env' ((id, .tok ⟨0, 0, 0⟩) :: H) := Ents.mk h.get fun _ _ _ _ hI => hI.dummy id 0
theorem leVH.pubF {id sz b n : Nat} {cs : List LV} (hl : cs.length = n * sz) : leVH gl (.msl id sz b 0 n n) [(id, .blk b cs)] (.fsl sz n cs) [] := fun w0 M HF w v hI hv => by
  obtain ⟨M', hM, hI', hc⟩ := hI.publish
  simp only [RV] at hv
  exact ⟨M', hM, by simp only [RV]; exact ⟨hl, .inl ⟨b, 0, hv, hc⟩⟩, hI'⟩
end Go.Lx
namespace Go.Proofs.Ytaffhdelflhlfaa
open Go Go.Lx
set_option linter.unusedSimpArgs false
set_option linter.unusedVariables false
set_option maxRecDepth 100000
set_option maxHeartbeats 1000000

/-- the byte that stands at a place -/
def byt (d s : Int) : Int := IntKind.u8.wrap (shr .u64 d s)
def by8 (d : Int) : List Int := [byt d 56, byt d 48, byt d 40, byt d 32, byt d 24, byt d 16, byt d 8, byt d 0]
theorem put14 (d : Int) : Pure Try.prog gl 14 [.int .u64 d] (.fsl 1 8 ((by8 d).map (LV.int .u8))) := by
  refine fn_viewT Try.func14 t14 Try.ntmps14 (by simp) ?_
  unfold c14 r14
  simp (disch := first | omega | (simp only [List.length_cons, List.length_nil]; first | done | omega)) only [go_sem, Nat.reduceAdd, Nat.reduceMul, Nat.reduceSub, Nat.reduceEqDiff, Nat.reduceLeDiff, Nat.reduceMod, Nat.reduceLT, Int.reduceToNat, Int.reduceAdd, Int.reduceSub, Int.reduceMul, Int.reduceNeg, Int.reduceLE, Int.reduceLT, Int.toNat_natCast, Int.cast_ofNat_Int, Int.reduceNe, Int.reduceEq, Int.reduceBEq, Int.reduceBNe, not_false_eq_true, ne_eq, Int.reduceTMod, Int.reduceTDiv, beq_self_eq_true, bne_self_eq_false, List.contains_cons, List.contains_nil, Nat.reduceBEq]
  refine ⟨by omega, rfl, .inr fun b => ?_⟩
  refine loopI (ι := Nat) (fun x => x ≤ 8) (fun x => (8, .int .i64 x) :: _) (fun x => [(5, .blk b (((by8 d).take x ++ List.replicate (8 - x) 0).map (LV.int .u8)))]) (fun x => 8 - x) 0 (by omega) Ents.same ?_
  rintro k hk
  have hb := hk
  rcases (by omega : k = 0 ∨ k = 1 ∨ k = 2 ∨ k = 3 ∨ k = 4 ∨ k = 5 ∨ k = 6 ∨ k = 7 ∨ k = 8) with rfl | rfl | rfl | rfl | rfl | rfl | rfl | rfl | rfl
  · simp only [by8, List.take, List.replicate, List.map, List.append, Nat.sub, List.cons_append, List.nil_append]
    simp (disch := first | omega | (simp only [List.length_cons, List.length_nil]; first | done | omega)) only [go_sem, Nat.reduceAdd, Nat.reduceMul, Nat.reduceSub, Nat.reduceEqDiff, Nat.reduceLeDiff, Nat.reduceMod, Nat.reduceLT, Int.reduceToNat, Int.reduceAdd, Int.reduceSub, Int.reduceMul, Int.reduceNeg, Int.reduceLE, Int.reduceLT, Int.toNat_natCast, Int.cast_ofNat_Int, Int.reduceNe, Int.reduceEq, Int.reduceBEq, Int.reduceBNe, not_false_eq_true, ne_eq, Int.reduceTMod, Int.reduceTDiv, beq_self_eq_true, bne_self_eq_false, List.contains_cons, List.contains_nil, Nat.reduceBEq]
    exact ⟨⟨1, by omega⟩, by dsimp only; omega, Ents.envH (by simp [go_sem]) (by simp [byt, List.replicate])⟩
  · simp only [by8, List.take, List.replicate, List.map, List.append, Nat.sub, List.cons_append, List.nil_append]
    simp (disch := first | omega | (simp only [List.length_cons, List.length_nil]; first | done | omega)) only [go_sem, Nat.reduceAdd, Nat.reduceMul, Nat.reduceSub, Nat.reduceEqDiff, Nat.reduceLeDiff, Nat.reduceMod, Nat.reduceLT, Int.reduceToNat, Int.reduceAdd, Int.reduceSub, Int.reduceMul, Int.reduceNeg, Int.reduceLE, Int.reduceLT, Int.toNat_natCast, Int.cast_ofNat_Int, Int.reduceNe, Int.reduceEq, Int.reduceBEq, Int.reduceBNe, not_false_eq_true, ne_eq, Int.reduceTMod, Int.reduceTDiv, beq_self_eq_true, bne_self_eq_false, List.contains_cons, List.contains_nil, Nat.reduceBEq]
    exact ⟨⟨2, by omega⟩, by dsimp only; omega, Ents.envH (by simp [go_sem]) (by simp [byt, List.replicate])⟩
  · simp only [by8, List.take, List.replicate, List.map, List.append, Nat.sub, List.cons_append, List.nil_append]
    simp (disch := first | omega | (simp only [List.length_cons, List.length_nil]; first | done | omega)) only [go_sem, Nat.reduceAdd, Nat.reduceMul, Nat.reduceSub, Nat.reduceEqDiff, Nat.reduceLeDiff, Nat.reduceMod, Nat.reduceLT, Int.reduceToNat, Int.reduceAdd, Int.reduceSub, Int.reduceMul, Int.reduceNeg, Int.reduceLE, Int.reduceLT, Int.toNat_natCast, Int.cast_ofNat_Int, Int.reduceNe, Int.reduceEq, Int.reduceBEq, Int.reduceBNe, not_false_eq_true, ne_eq, Int.reduceTMod, Int.reduceTDiv, beq_self_eq_true, bne_self_eq_false, List.contains_cons, List.contains_nil, Nat.reduceBEq]
    exact ⟨⟨3, by omega⟩, by dsimp only; omega, Ents.envH (by simp [go_sem]) (by simp [byt, List.replicate])⟩
  · simp only [by8, List.take, List.replicate, List.map, List.append, Nat.sub, List.cons_append, List.nil_append]
    simp (disch := first | omega | (simp only [List.length_cons, List.length_nil]; first | done | omega)) only [go_sem, Nat.reduceAdd, Nat.reduceMul, Nat.reduceSub, Nat.reduceEqDiff, Nat.reduceLeDiff, Nat.reduceMod, Nat.reduceLT, Int.reduceToNat, Int.reduceAdd, Int.reduceSub, Int.reduceMul, Int.reduceNeg, Int.reduceLE, Int.reduceLT, Int.toNat_natCast, Int.cast_ofNat_Int, Int.reduceNe, Int.reduceEq, Int.reduceBEq, Int.reduceBNe, not_false_eq_true, ne_eq, Int.reduceTMod, Int.reduceTDiv, beq_self_eq_true, bne_self_eq_false, List.contains_cons, List.contains_nil, Nat.reduceBEq]
    exact ⟨⟨4, by omega⟩, by dsimp only; omega, Ents.envH (by simp [go_sem]) (by simp [byt, List.replicate])⟩
  · simp only [by8, List.take, List.replicate, List.map, List.append, Nat.sub, List.cons_append, List.nil_append]
    simp (disch := first | omega | (simp only [List.length_cons, List.length_nil]; first | done | omega)) only [go_sem, Nat.reduceAdd, Nat.reduceMul, Nat.reduceSub, Nat.reduceEqDiff, Nat.reduceLeDiff, Nat.reduceMod, Nat.reduceLT, Int.reduceToNat, Int.reduceAdd, Int.reduceSub, Int.reduceMul, Int.reduceNeg, Int.reduceLE, Int.reduceLT, Int.toNat_natCast, Int.cast_ofNat_Int, Int.reduceNe, Int.reduceEq, Int.reduceBEq, Int.reduceBNe, not_false_eq_true, ne_eq, Int.reduceTMod, Int.reduceTDiv, beq_self_eq_true, bne_self_eq_false, List.contains_cons, List.contains_nil, Nat.reduceBEq]
    exact ⟨⟨5, by omega⟩, by dsimp only; omega, Ents.envH (by simp [go_sem]) (by simp [byt, List.replicate])⟩
  · simp only [by8, List.take, List.replicate, List.map, List.append, Nat.sub, List.cons_append, List.nil_append]
    simp (disch := first | omega | (simp only [List.length_cons, List.length_nil]; first | done | omega)) only [go_sem, Nat.reduceAdd, Nat.reduceMul, Nat.reduceSub, Nat.reduceEqDiff, Nat.reduceLeDiff, Nat.reduceMod, Nat.reduceLT, Int.reduceToNat, Int.reduceAdd, Int.reduceSub, Int.reduceMul, Int.reduceNeg, Int.reduceLE, Int.reduceLT, Int.toNat_natCast, Int.cast_ofNat_Int, Int.reduceNe, Int.reduceEq, Int.reduceBEq, Int.reduceBNe, not_false_eq_true, ne_eq, Int.reduceTMod, Int.reduceTDiv, beq_self_eq_true, bne_self_eq_false, List.contains_cons, List.contains_nil, Nat.reduceBEq]
    exact ⟨⟨6, by omega⟩, by dsimp only; omega, Ents.envH (by simp [go_sem]) (by simp [byt, List.replicate])⟩
  · simp only [by8, List.take, List.replicate, List.map, List.append, Nat.sub, List.cons_append, List.nil_append]
    simp (disch := first | omega | (simp only [List.length_cons, List.length_nil]; first | done | omega)) only [go_sem, Nat.reduceAdd, Nat.reduceMul, Nat.reduceSub, Nat.reduceEqDiff, Nat.reduceLeDiff, Nat.reduceMod, Nat.reduceLT, Int.reduceToNat, Int.reduceAdd, Int.reduceSub, Int.reduceMul, Int.reduceNeg, Int.reduceLE, Int.reduceLT, Int.toNat_natCast, Int.cast_ofNat_Int, Int.reduceNe, Int.reduceEq, Int.reduceBEq, Int.reduceBNe, not_false_eq_true, ne_eq, Int.reduceTMod, Int.reduceTDiv, beq_self_eq_true, bne_self_eq_false, List.contains_cons, List.contains_nil, Nat.reduceBEq]
    exact ⟨⟨7, by omega⟩, by dsimp only; omega, Ents.envH (by simp [go_sem]) (by simp [byt, List.replicate])⟩
  · simp only [by8, List.take, List.replicate, List.map, List.append, Nat.sub, List.cons_append, List.nil_append]
    simp (disch := first | omega | (simp only [List.length_cons, List.length_nil]; first | done | omega)) only [go_sem, Nat.reduceAdd, Nat.reduceMul, Nat.reduceSub, Nat.reduceEqDiff, Nat.reduceLeDiff, Nat.reduceMod, Nat.reduceLT, Int.reduceToNat, Int.reduceAdd, Int.reduceSub, Int.reduceMul, Int.reduceNeg, Int.reduceLE, Int.reduceLT, Int.toNat_natCast, Int.cast_ofNat_Int, Int.reduceNe, Int.reduceEq, Int.reduceBEq, Int.reduceBNe, not_false_eq_true, ne_eq, Int.reduceTMod, Int.reduceTDiv, beq_self_eq_true, bne_self_eq_false, List.contains_cons, List.contains_nil, Nat.reduceBEq]
    exact ⟨⟨8, by omega⟩, by dsimp only; omega, Ents.envH (by simp [go_sem]) (by simp [byt, List.replicate])⟩
  · simp only [by8, List.take, List.replicate, List.map, List.append, Nat.sub, List.cons_append, List.nil_append]
    simp (disch := first | omega | (simp only [List.length_cons, List.length_nil]; first | done | omega)) only [go_sem, Nat.reduceAdd, Nat.reduceMul, Nat.reduceSub, Nat.reduceEqDiff, Nat.reduceLeDiff, Nat.reduceMod, Nat.reduceLT, Int.reduceToNat, Int.reduceAdd, Int.reduceSub, Int.reduceMul, Int.reduceNeg, Int.reduceLE, Int.reduceLT, Int.toNat_natCast, Int.cast_ofNat_Int, Int.reduceNe, Int.reduceEq, Int.reduceBEq, Int.reduceBNe, not_false_eq_true, ne_eq, Int.reduceTMod, Int.reduceTDiv, beq_self_eq_true, bne_self_eq_false, List.contains_cons, List.contains_nil, Nat.reduceBEq]
    exact view_end (leVH.pubF rfl)
theorem put19 (d : Int) : NewsE Try.prog gl 19 [.int .u64 d] 2000 fun r e => ∃ τ, r = .osl 2000 τ 1 8 ((by8 d).map (LV.int .u8)) ∧ e = .tok τ := by
  refine NewsE.name (i := 16) (Q := fun r e => ∃ τ, r = .osl 16 τ 1 8 ((by8 d).map (LV.int .u8)) ∧ e = .tok τ) ?_ fun r e ⟨τ, h1, h2⟩ => ⟨.osl 2000 τ 1 8 ((by8 d).map (LV.int .u8)), by subst h1; exact leV.osl_name _ _ _ _ _ _, τ, rfl, h2⟩
  refine fn_viewT Try.func19 t19 Try.ntmps19 (by simp) ?_
  unfold c19 r19
  simp (disch := first | omega | (simp only [List.length_cons, List.length_nil]; first | done | omega)) only [go_sem, Nat.reduceAdd, Nat.reduceMul, Nat.reduceSub, Nat.reduceEqDiff, Nat.reduceLeDiff, Nat.reduceMod, Nat.reduceLT, Int.reduceToNat, Int.reduceAdd, Int.reduceSub, Int.reduceMul, Int.reduceNeg, Int.reduceLE, Int.reduceLT, Int.toNat_natCast, Int.cast_ofNat_Int, Int.reduceNe, Int.reduceEq, Int.reduceBEq, Int.reduceBNe, not_false_eq_true, ne_eq, Int.reduceTMod, Int.reduceTDiv, beq_self_eq_true, bne_self_eq_false, List.contains_cons, List.contains_nil, Nat.reduceBEq]
  refine loopI (ι := Nat × Tok) (fun x => x.1 ≤ 8) (fun x => (4, .int .i64 (7 - x.1)) :: (3, .osl 16 x.2 1 x.1 (((by8 d).take x.1).map (LV.int .u8))) :: [(2, .fsl 1 0 []), (0, .int .u64 d)]) (fun x => (16, .tok x.2) :: []) (fun x => 8 - x.1) (0, ⟨0, 0, 0⟩) (by dsimp only; omega) (Ents.dummyE 16 (by simp [go_sem, envLe, leV.fsl_osl])) ?_
  rintro ⟨k, τ⟩ hk
  dsimp only at hk ⊢
  have hb := hk
  rcases (by omega : k = 0 ∨ k = 1 ∨ k = 2 ∨ k = 3 ∨ k = 4 ∨ k = 5 ∨ k = 6 ∨ k = 7 ∨ k = 8) with rfl | rfl | rfl | rfl | rfl | rfl | rfl | rfl | rfl
  · simp only [by8, List.take, List.map]
    simp (disch := first | omega | (simp only [List.length_cons, List.length_nil]; first | done | omega)) only [go_sem, Nat.reduceAdd, Nat.reduceMul, Nat.reduceSub, Nat.reduceEqDiff, Nat.reduceLeDiff, Nat.reduceMod, Nat.reduceLT, Int.reduceToNat, Int.reduceAdd, Int.reduceSub, Int.reduceMul, Int.reduceNeg, Int.reduceLE, Int.reduceLT, Int.toNat_natCast, Int.cast_ofNat_Int, Int.reduceNe, Int.reduceEq, Int.reduceBEq, Int.reduceBNe, not_false_eq_true, ne_eq, Int.reduceTMod, Int.reduceTDiv, beq_self_eq_true, bne_self_eq_false, List.contains_cons, List.contains_nil, Nat.reduceBEq]
    exact ⟨by simp [roomy], fun τ' => ⟨⟨(1, τ'), by dsimp only; omega⟩, by dsimp only; omega, Ents.envH (by simp [go_sem, byt]) rfl⟩⟩
  · simp only [by8, List.take, List.map]
    simp (disch := first | omega | (simp only [List.length_cons, List.length_nil]; first | done | omega)) only [go_sem, Nat.reduceAdd, Nat.reduceMul, Nat.reduceSub, Nat.reduceEqDiff, Nat.reduceLeDiff, Nat.reduceMod, Nat.reduceLT, Int.reduceToNat, Int.reduceAdd, Int.reduceSub, Int.reduceMul, Int.reduceNeg, Int.reduceLE, Int.reduceLT, Int.toNat_natCast, Int.cast_ofNat_Int, Int.reduceNe, Int.reduceEq, Int.reduceBEq, Int.reduceBNe, not_false_eq_true, ne_eq, Int.reduceTMod, Int.reduceTDiv, beq_self_eq_true, bne_self_eq_false, List.contains_cons, List.contains_nil, Nat.reduceBEq]
    exact ⟨by simp [roomy], fun τ' => ⟨⟨(2, τ'), by dsimp only; omega⟩, by dsimp only; omega, Ents.envH (by simp [go_sem, byt]) rfl⟩⟩
  · simp only [by8, List.take, List.map]
    simp (disch := first | omega | (simp only [List.length_cons, List.length_nil]; first | done | omega)) only [go_sem, Nat.reduceAdd, Nat.reduceMul, Nat.reduceSub, Nat.reduceEqDiff, Nat.reduceLeDiff, Nat.reduceMod, Nat.reduceLT, Int.reduceToNat, Int.reduceAdd, Int.reduceSub, Int.reduceMul, Int.reduceNeg, Int.reduceLE, Int.reduceLT, Int.toNat_natCast, Int.cast_ofNat_Int, Int.reduceNe, Int.reduceEq, Int.reduceBEq, Int.reduceBNe, not_false_eq_true, ne_eq, Int.reduceTMod, Int.reduceTDiv, beq_self_eq_true, bne_self_eq_false, List.contains_cons, List.contains_nil, Nat.reduceBEq]
    exact ⟨by simp [roomy], fun τ' => ⟨⟨(3, τ'), by dsimp only; omega⟩, by dsimp only; omega, Ents.envH (by simp [go_sem, byt]) rfl⟩⟩
  · simp only [by8, List.take, List.map]
    simp (disch := first | omega | (simp only [List.length_cons, List.length_nil]; first | done | omega)) only [go_sem, Nat.reduceAdd, Nat.reduceMul, Nat.reduceSub, Nat.reduceEqDiff, Nat.reduceLeDiff, Nat.reduceMod, Nat.reduceLT, Int.reduceToNat, Int.reduceAdd, Int.reduceSub, Int.reduceMul, Int.reduceNeg, Int.reduceLE, Int.reduceLT, Int.toNat_natCast, Int.cast_ofNat_Int, Int.reduceNe, Int.reduceEq, Int.reduceBEq, Int.reduceBNe, not_false_eq_true, ne_eq, Int.reduceTMod, Int.reduceTDiv, beq_self_eq_true, bne_self_eq_false, List.contains_cons, List.contains_nil, Nat.reduceBEq]
    exact ⟨by simp [roomy], fun τ' => ⟨⟨(4, τ'), by dsimp only; omega⟩, by dsimp only; omega, Ents.envH (by simp [go_sem, byt]) rfl⟩⟩
  · simp only [by8, List.take, List.map]
    simp (disch := first | omega | (simp only [List.length_cons, List.length_nil]; first | done | omega)) only [go_sem, Nat.reduceAdd, Nat.reduceMul, Nat.reduceSub, Nat.reduceEqDiff, Nat.reduceLeDiff, Nat.reduceMod, Nat.reduceLT, Int.reduceToNat, Int.reduceAdd, Int.reduceSub, Int.reduceMul, Int.reduceNeg, Int.reduceLE, Int.reduceLT, Int.toNat_natCast, Int.cast_ofNat_Int, Int.reduceNe, Int.reduceEq, Int.reduceBEq, Int.reduceBNe, not_false_eq_true, ne_eq, Int.reduceTMod, Int.reduceTDiv, beq_self_eq_true, bne_self_eq_false, List.contains_cons, List.contains_nil, Nat.reduceBEq]
    exact ⟨by simp [roomy], fun τ' => ⟨⟨(5, τ'), by dsimp only; omega⟩, by dsimp only; omega, Ents.envH (by simp [go_sem, byt]) rfl⟩⟩
  · simp only [by8, List.take, List.map]
    simp (disch := first | omega | (simp only [List.length_cons, List.length_nil]; first | done | omega)) only [go_sem, Nat.reduceAdd, Nat.reduceMul, Nat.reduceSub, Nat.reduceEqDiff, Nat.reduceLeDiff, Nat.reduceMod, Nat.reduceLT, Int.reduceToNat, Int.reduceAdd, Int.reduceSub, Int.reduceMul, Int.reduceNeg, Int.reduceLE, Int.reduceLT, Int.toNat_natCast, Int.cast_ofNat_Int, Int.reduceNe, Int.reduceEq, Int.reduceBEq, Int.reduceBNe, not_false_eq_true, ne_eq, Int.reduceTMod, Int.reduceTDiv, beq_self_eq_true, bne_self_eq_false, List.contains_cons, List.contains_nil, Nat.reduceBEq]
    exact ⟨by simp [roomy], fun τ' => ⟨⟨(6, τ'), by dsimp only; omega⟩, by dsimp only; omega, Ents.envH (by simp [go_sem, byt]) rfl⟩⟩
  · simp only [by8, List.take, List.map]
    simp (disch := first | omega | (simp only [List.length_cons, List.length_nil]; first | done | omega)) only [go_sem, Nat.reduceAdd, Nat.reduceMul, Nat.reduceSub, Nat.reduceEqDiff, Nat.reduceLeDiff, Nat.reduceMod, Nat.reduceLT, Int.reduceToNat, Int.reduceAdd, Int.reduceSub, Int.reduceMul, Int.reduceNeg, Int.reduceLE, Int.reduceLT, Int.toNat_natCast, Int.cast_ofNat_Int, Int.reduceNe, Int.reduceEq, Int.reduceBEq, Int.reduceBNe, not_false_eq_true, ne_eq, Int.reduceTMod, Int.reduceTDiv, beq_self_eq_true, bne_self_eq_false, List.contains_cons, List.contains_nil, Nat.reduceBEq]
    exact ⟨by simp [roomy], fun τ' => ⟨⟨(7, τ'), by dsimp only; omega⟩, by dsimp only; omega, Ents.envH (by simp [go_sem, byt]) rfl⟩⟩
  · simp only [by8, List.take, List.map]
    simp (disch := first | omega | (simp only [List.length_cons, List.length_nil]; first | done | omega)) only [go_sem, Nat.reduceAdd, Nat.reduceMul, Nat.reduceSub, Nat.reduceEqDiff, Nat.reduceLeDiff, Nat.reduceMod, Nat.reduceLT, Int.reduceToNat, Int.reduceAdd, Int.reduceSub, Int.reduceMul, Int.reduceNeg, Int.reduceLE, Int.reduceLT, Int.toNat_natCast, Int.cast_ofNat_Int, Int.reduceNe, Int.reduceEq, Int.reduceBEq, Int.reduceBNe, not_false_eq_true, ne_eq, Int.reduceTMod, Int.reduceTDiv, beq_self_eq_true, bne_self_eq_false, List.contains_cons, List.contains_nil, Nat.reduceBEq]
    exact ⟨by simp [roomy], fun τ' => ⟨⟨(8, τ'), by dsimp only; omega⟩, by dsimp only; omega, Ents.envH (by simp [go_sem, byt]) rfl⟩⟩
  · simp only [by8, List.take, List.map]
    simp (disch := first | omega | (simp only [List.length_cons, List.length_nil]; first | done | omega)) only [go_sem, Nat.reduceAdd, Nat.reduceMul, Nat.reduceSub, Nat.reduceEqDiff, Nat.reduceLeDiff, Nat.reduceMod, Nat.reduceLT, Int.reduceToNat, Int.reduceAdd, Int.reduceSub, Int.reduceMul, Int.reduceNeg, Int.reduceLE, Int.reduceLT, Int.toNat_natCast, Int.cast_ofNat_Int, Int.reduceNe, Int.reduceEq, Int.reduceBEq, Int.reduceBNe, not_false_eq_true, ne_eq, Int.reduceTMod, Int.reduceTDiv, beq_self_eq_true, bne_self_eq_false, List.contains_cons, List.contains_nil, Nat.reduceBEq]
    exact viewE_end (leV.refl _) (List.Sublist.refl _) ⟨_, rfl, rfl⟩
end Go.Proofs.Ytaffhdelflhlfaa
