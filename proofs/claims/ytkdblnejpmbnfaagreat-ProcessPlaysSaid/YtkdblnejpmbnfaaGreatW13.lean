/- Layer 9: Chdir, Audit and Kill of the program. -/
import Derived.Test.YtkdblnejpmbnfaaGreatW12
import Derived.Test.YtkdblnejpmbnfaaGreatProg
import Derived.Test.YtkdblnejpmbnfaaGreatW06
import Derived.KernelRfl
namespace Go.Proofs.YtkdblnejpmbnfaaGreat
open Go Go.Lx
set_option linter.unusedSimpArgs false
set_option linter.unusedVariables false
set_option maxRecDepth 100000
set_option maxHeartbeats 8000000
theorem put2 {cs : List LV} {o : Nat} {x y : LV} (h : o + 2 ≤ cs.length) : cs.take o ++ [x, y] ++ cs.drop (o + 2) = putC (putC cs o x) (o + 1) y := by
  have hA : (cs.take o ++ [x]).length = o + 1 := by rw [List.length_append, List.length_take, List.length_singleton]; omega
  have h2 : ((cs.take o ++ [x]) ++ cs.drop (o + 1)).drop (o + 1 + 1) = cs.drop (o + 2) := by
    rw [List.drop_append, (List.drop_eq_nil_of_le (by rw [hA]; omega) : (cs.take o ++ [x]).drop (o + 1 + 1) = []), hA, List.nil_append, List.drop_drop]
    congr 1
    omega
  rw [putC, putC, List.take_left' hA, h2]
  simp
theorem cd1 (d i : Int) (b5 : Nat) (t : Tb) (n : Nat) (hi : n < t.ps.length) : ClOk 87 [.ptr 5 b5 0] [(5, .blk b5 [.int .i64 d, .int .i64 i])] t n (cdG d i t n) := by
  intro bt b c hc
  refine fn_viewT Tryz.func87 t87 Tryz.ntmps87 (by simp) ?_
  have hle := len_ps t.ps
  have hs := length_Sp (t.ps.flatMap PsC) ((c - t.ps.length) * 14)
  unfold c87 r87 ChH
  simp only [List.cons_append, List.nil_append]
  repeat' (first | (simp (disch := first | exact dd | fail) only [go_sem, putC_eq, putC_len]) | (refine allI (fun b => ?_)) | (refine allT (fun τ => ?_)) | (refine brP (fun h => ?_) (fun h => ?_) <;> (try simp only [zgx, zbx] at h)) | (refine gd ?_) | fail)
  rw [put2 (by omega), show n * 14 + 8 + 1 = n * 14 + 9 from rfl, rowSet2 _ { pAt t n with cd := d, ci := i } hi (by omega) (by omega) (Eq.trans (b := PsC { pAt t n with cd := d }) rfl rfl) (Eq.trans rfl rfl)]
  refine ⟨_, _, leVH.of (leV.refl _) ⟨_, List.Sublist.refl _, List.Perm.refl _⟩, b, c, ?_, rfl, ?_⟩ <;> simp [cdG, setP]
  all_goals omega
theorem au1 (v : Bool) (b5 : Nat) (t : Tb) (n : Nat) (hi : n < t.ps.length) : ClOk 89 [.ptr 5 b5 0] [(5, .blk b5 [.bool v])] t n (auG v t n) := by
  intro bt b c hc
  refine fn_viewT Tryz.func89 t89 Tryz.ntmps89 (by simp) ?_
  have hle := len_ps t.ps
  have hs := length_Sp (t.ps.flatMap PsC) ((c - t.ps.length) * 14)
  unfold c89 r89 ChH
  simp only [List.cons_append, List.nil_append]
  repeat' (first | (simp (disch := first | exact dd | fail) only [go_sem, putC_eq, putC_len]) | (refine allI (fun b => ?_)) | (refine allT (fun τ => ?_)) | (refine brP (fun h => ?_) (fun h => ?_) <;> (try simp only [zgx, zbx] at h)) | (refine gd ?_) | fail)
  rw [rowSet { pAt t n with au := v } hi (by omega) (Eq.trans rfl rfl)]
  refine ⟨_, _, leVH.of (leV.refl _) ⟨_, List.Sublist.refl _, List.Perm.refl _⟩, b, c, ?_, rfl, ?_⟩ <;> simp [auG, setP]
  all_goals omega
theorem pcd (t : Tb) (pid : Int) (d i : Int) (ht : okT t) : Pure Tryz.prog gl 49 [TbL t, .int .i64 pid, .agg [.int .i64 d, .int .i64 i]] (.tup [TbL (cdR t pid d i).2, .int .i64 (cdR t pid d i).1]) := by
  refine fn_pureT Tryz.func49 t49 Tryz.ntmps49 (by simp) ?_
  have hF := findI_lt t pid
  unfold c49 r49
  rw [TbL_eq t]
  repeat' (first | (simp (disch := first | exact dd | fail) only [go_sem]) | (refine allI (fun b => ?_)) | (refine allT (fun τ => ?_)) | (refine brP (fun h => ?_) (fun h => ?_) <;> (try simp only [zgx, zbx] at h)) | (refine gd ?_) | fail)
  rename_i b1 b2
  refine actsP_U (change t pid ht 87 [.ptr 5 b2 0] [(5, _)] (cdG d i t) (by kernel_rfl) fun k hk => cd1 d i b2 t k (by omega)) (List.Perm.swap _ _ _) ?_
  rintro _ _ ⟨rfl, rfl⟩
  have hR : cdR t pid d i = chR t pid (cdG d i t) := rfl
  rw [← hR]
  generalize cdR t pid d i = R at *
  obtain ⟨e, t'⟩ := R
  dsimp only
  rw [TbL_eq t']
  repeat' (first | (simp (disch := first | exact dd | fail) only [go_sem]) | (refine allI (fun b => ?_)) | (refine allT (fun τ => ?_)) | (refine brP (fun h => ?_) (fun h => ?_) <;> (try simp only [zgx, zbx] at h)) | (refine gd ?_) | fail)
theorem pau (t : Tb) (pid : Int) (v : Bool) (ht : okT t) : Pure Tryz.prog gl 54 [TbL t, .int .i64 pid, .bool v] (.tup [TbL (auR t pid v).2, .int .i64 (auR t pid v).1]) := by
  refine fn_pureT Tryz.func54 t54 Tryz.ntmps54 (by simp) ?_
  have hF := findI_lt t pid
  unfold c54 r54
  rw [TbL_eq t]
  repeat' (first | (simp (disch := first | exact dd | fail) only [go_sem]) | (refine allI (fun b => ?_)) | (refine allT (fun τ => ?_)) | (refine brP (fun h => ?_) (fun h => ?_) <;> (try simp only [zgx, zbx] at h)) | (refine gd ?_) | fail)
  rename_i b1 b2
  refine actsP_U (change t pid ht 89 [.ptr 5 b2 0] [(5, _)] (auG v t) (by kernel_rfl) fun k hk => au1 v b2 t k (by omega)) (List.Perm.swap _ _ _) ?_
  rintro _ _ ⟨rfl, rfl⟩
  have hR : auR t pid v = chR t pid (auG v t) := rfl
  rw [← hR]
  generalize auR t pid v = R at *
  obtain ⟨e, t'⟩ := R
  dsimp only
  rw [TbL_eq t']
  repeat' (first | (simp (disch := first | exact dd | fail) only [go_sem]) | (refine allI (fun b => ?_)) | (refine allT (fun τ => ?_)) | (refine brP (fun h => ?_) (fun h => ?_) <;> (try simp only [zgx, zbx] at h)) | (refine gd ?_) | fail)
theorem ki1 (tg : Int) (en : Bool) (b6 b7 : Nat) (t : Tb) (n : Nat) (ht : t.ps.length ≤ 1000000) (hi : n < t.ps.length) : ClOk 90 [.ptr 6 b6 0, .ptr 7 b7 0] [(7, .blk b7 [.bool en]), (6, .blk b6 [.int .i64 tg])] t n (kiG tg en t n) := by
  intro bt b c hc
  refine fn_viewT Tryz.func90 t90 Tryz.ntmps90 (by simp) ?_
  have hle := len_ps t.ps
  have hs := length_Sp (t.ps.flatMap PsC) ((c - t.ps.length) * 14)
  have hF := find t tg ht
  have hlt := findI_lt t tg
  have hr := remove t tg bt b c ht hc
  have g1 : (Sp (t.ps.flatMap PsC) ((c - t.ps.length) * 14)).getD (n * 14 + 3) .any = .int .i64 (pAt t n).euid := by
    rw [gdSp hi (by omega)]; rfl
  have g2 : ∀ m, m < t.ps.length → (Sp (t.ps.flatMap PsC) ((c - t.ps.length) * 14)).getD (m * 14 + 2) .any = .int .i64 (pAt t m).uid := fun m hm => by
    rw [gdSp hm (by omega)]; rfl
  have hR : kiG tg en t n = if findI t tg < 0 then (3, t) else if tg = 1 ∨ ((pAt t n).euid ≠ 0 ∧ (pAt t n).euid ≠ (pAt t (findI t tg).toNat).uid) then (1, t) else if en = true then (0, rmT t tg) else (0, t) := rfl
  generalize findI t tg = k at *
  have hH : ∀ t b c, ChH bt t b c = [(3, .blk bt [.int .i64 t.nx, .int .i64 t.ns, .msl 6000 14 b 0 t.ps.length c]), (6000, .blk b (Sp (t.ps.flatMap PsC) ((c - t.ps.length) * 14)))] := fun _ _ _ => rfl
  unfold c90 r90
  rw [hH t b c]
  simp only [List.cons_append, List.nil_append]
  repeat' (first | (simp (disch := first | exact dd | fail) only [go_sem]) | (refine allI (fun b => ?_)) | (refine allT (fun τ => ?_)) | (refine brP (fun h => ?_) (fun h => ?_) <;> (try simp only [zgx, zbx] at h)) | (refine gd ?_) | fail)
  refine LCalls.lend gl0 (lentT hc (by rfl)) (noTb t tg) hF rfl ?_
  rcases Int.lt_or_le k 0 with h0 | h0
  · have dk : decide (k < 0) = true := decide_eq_true h0
    repeat' (first | (simp (disch := first | exact dd | fail) only [go_sem, dk]) | (refine allI (fun b => ?_)) | (refine allT (fun τ => ?_)) | (refine brP (fun h => ?_) (fun h => ?_) <;> (try simp only [zgx, zbx] at h)) | (refine gd ?_) | fail)
    rw [hR, if_pos h0]
    exact xtE hc
  · obtain ⟨m, rfl⟩ : ∃ m : Nat, k = (m : Int) := ⟨k.toNat, by omega⟩
    have dk : decide ((m : Int) < 0) = false := decide_eq_false (by omega)
    have g2 := g2 m (by omega)
    rw [Int.toNat_natCast, if_neg (by omega)] at hR
    generalize pAt t n = p at *
    generalize pAt t m = o at *
    repeat' (first | (simp (disch := first | exact dd | fail) only [go_sem, dk, g1, g2, hs, hle]) | (refine allI (fun b => ?_)) | (refine allT (fun τ => ?_)) | (refine brP (fun h => ?_) (fun h => ?_) <;> (try simp only [zgx, zbx] at h)) | (refine gd ?_) | fail)
    · rw [hR, if_pos h]
      exact xtE hc
    · have hn : ¬ (tg = 1 ∨ (p.euid ≠ 0 ∧ p.euid ≠ o.uid)) := by
        rename_i h9
        simp only [bne_eq_false_iff_eq] at h9
        omega
      refine actsP_U (H2 := [(7, _), (6, _)]) hr (List.Perm.refl _) ?_
      rintro _ _ ⟨b', c', h1, rfl⟩
      rw [hR, if_neg hn, if_pos h]
      generalize rmT t tg = t' at *
      rw [hH t' b' c']
      simp only [List.cons_append, List.nil_append]
      repeat' (first | (simp (disch := first | exact dd | fail) only [go_sem]) | (refine allI (fun b => ?_)) | (refine allT (fun τ => ?_)) | (refine brP (fun h => ?_) (fun h => ?_) <;> (try simp only [zgx, zbx] at h)) | (refine gd ?_) | fail)
      exact ⟨_, _, leVH.of (leV.refl _) ⟨_, List.Sublist.refl _, List.perm_append_comm (l₁ := [_, _]) (l₂ := [_, _])⟩, b', c', h1, rfl, rfl⟩
    · have hn : ¬ (tg = 1 ∨ (p.euid ≠ 0 ∧ p.euid ≠ o.uid)) := by
        rename_i h9
        simp only [bne_eq_false_iff_eq] at h9
        omega
      rw [hR, if_neg hn, if_neg (by simp [h])]
      exact xtE hc
theorem pki (t : Tb) (pid tg : Int) (en : Bool) (ht : okT t) : Pure Tryz.prog gl 56 [TbL t, .int .i64 pid, .int .i64 tg, .bool en] (.tup [TbL (kiR t pid tg en).2, .int .i64 (kiR t pid tg en).1]) := by
  refine fn_pureT Tryz.func56 t56 Tryz.ntmps56 (by simp) ?_
  have hF := findI_lt t pid
  unfold c56 r56
  rw [TbL_eq t]
  repeat' (first | (simp (disch := first | exact dd | fail) only [go_sem]) | (refine allI (fun b => ?_)) | (refine allT (fun τ => ?_)) | (refine brP (fun h => ?_) (fun h => ?_) <;> (try simp only [zgx, zbx] at h)) | (refine gd ?_) | fail)
  rename_i b0 b1 b2
  refine actsP_U (change t pid ht 90 [.ptr 6 b1 0, .ptr 7 b2 0] [(7, _), (6, _)] (kiG tg en t) (by kernel_rfl) fun k hk => ki1 tg en b1 b2 t k ht.1 (by omega)) (List.perm_middle (l₁ := [_, _]) (l₂ := [_])).symm ?_
  rintro _ _ ⟨rfl, rfl⟩
  have hR : kiR t pid tg en = chR t pid (kiG tg en t) := rfl
  rw [← hR]
  generalize kiR t pid tg en = R at *
  obtain ⟨e, t'⟩ := R
  dsimp only
  rw [TbL_eq t']
  repeat' (first | (simp (disch := first | exact dd | fail) only [go_sem]) | (refine allI (fun b => ?_)) | (refine allT (fun τ => ?_)) | (refine brP (fun h => ?_) (fun h => ?_) <;> (try simp only [zgx, zbx] at h)) | (refine gd ?_) | fail)
end Go.Proofs.YtkdblnejpmbnfaaGreat
namespace Go.Proofs.YtkdblnejpmbnfaaGreat
open Go Go.Lx
set_option linter.unusedSimpArgs false
set_option linter.unusedVariables false
set_option maxRecDepth 100000
set_option maxHeartbeats 8000000
theorem samepW (p : Ps) (hp : p.op.length ≤ 1000000) : Pure Tryz.prog gl 12 [.agg (PsC p), .agg (PsC p)] (.bool true) := by
  refine fn_pureT Tryz.func12 t12 Tryz.ntmps12 (by simp) ?_
  have hle := len_de p.op
  unfold c12 r12
  rw [PsC_eq, DeS_eq]
  repeat' (first | (simp (disch := first | exact dd | fail) only [go_sem]) | (refine allI (fun b => ?_)) | (refine allT (fun τ => ?_)) | (refine brP (fun h => ?_) (fun h => ?_) <;> (try simp only [zgx, zbx] at h)) | (refine gd ?_) | fail)
  refine loopI (ι := Nat) (fun k => k ≤ p.op.length) (fun k => (5, .int .i64 k) :: _) (fun _ => _) (fun k => p.op.length - k) 0 (by omega) Ents.same ?_
  intro k hk
  simp (disch := first | exact dd | fail) only [go_sem]
  refine brP (fun hb => ?_) (fun hb => ?_)
  · have hlt : k < p.op.length := by simpa using hb
    have e2 : ((p.op.flatMap DeC).drop (k * 4)).take 4 = DeC (p.op.getD k de0) := take_rows (f := DeC) (fun _ => rfl) de0 _ hlt
    generalize p.op.getD k de0 = q at *
    rw [DeC_eq] at e2
    repeat' (first | (simp (disch := first | exact dd | fail) only [go_sem, e2]) | (refine allI (fun b => ?_)) | (refine allT (fun τ => ?_)) | (refine brP (fun h => ?_) (fun h => ?_) <;> (try simp only [zgx, zbx] at h)) | (refine gd ?_) | fail)
    exact ⟨⟨k + 1, by omega⟩, by dsimp only; omega, Ents.envH (by simp [go_sem]) rfl⟩
  · repeat' (first | (simp (disch := first | exact dd | fail) only [go_sem]) | (refine allI (fun b => ?_)) | (refine allT (fun τ => ?_)) | (refine brP (fun h => ?_) (fun h => ?_) <;> (try simp only [zgx, zbx] at h)) | (refine gd ?_) | fail)
theorem sameW (t : Tb) (ht : okT t) : Pure Tryz.prog gl 53 [TbL t, TbL t] (.bool true) := by
  refine fn_pureT Tryz.func53 t53 Tryz.ntmps53 (by simp) ?_
  unfold c53 r53
  have hlt0 := ht.1
  have hs := fun j (hj : j < t.ps.length) => samepW (t.ps.getD j ps0) (by have := ht.2 _ (getD_memA ps0 hj); omega)
  have hle := len_ps t.ps
  rw [TbL_eq]
  repeat' (first | (simp (disch := first | exact dd | fail) only [go_sem]) | (refine allI (fun b => ?_)) | (refine allT (fun τ => ?_)) | (refine brP (fun h => ?_) (fun h => ?_) <;> (try simp only [zgx, zbx] at h)) | (refine gd ?_) | fail)
  refine loopI (ι := Nat) (fun i => i ≤ t.ps.length) (fun i => (5, .int .i64 i) :: _) (fun _ => _) (fun i => t.ps.length - i) 0 (by omega) Ents.same ?_
  intro n hn
  simp (disch := first | exact dd | fail) only [go_sem]
  refine brP (fun hb => ?_) (fun hb => ?_)
  · have hlt : n < t.ps.length := by simpa using hb
    have e2 := take_rows (f := PsC) (w := 14) (fun _ => rfl) ps0 t.ps hlt
    have hs := hs n hlt
    generalize t.ps.getD n ps0 = p at *
    rw [PsC_eq] at e2 hs
    repeat' (first | (simp (disch := first | exact dd | fail) only [go_sem, e2]) | (refine allI (fun b => ?_)) | (refine allT (fun τ => ?_)) | (refine brP (fun h => ?_) (fun h => ?_) <;> (try simp only [zgx, zbx] at h)) | refine call_U (hs) ?_ | refine callG_U (fun _ => hs) ?_ | refine call_T (hs) ?_ | refine callG_T (fun _ => hs) ?_ | refine call_N (hs) ?_ | refine call_of (hs) ?_ | refine callG_of (fun _ => hs) ?_ | (refine gd ?_) | fail)
    exact ⟨⟨n + 1, by omega⟩, by dsimp only; omega, Ents.envH (by simp [go_sem]) rfl⟩
  · repeat' (first | (simp (disch := first | exact dd | fail) only [go_sem]) | (refine allI (fun b => ?_)) | (refine allT (fun τ => ?_)) | (refine brP (fun h => ?_) (fun h => ?_) <;> (try simp only [zgx, zbx] at h)) | (refine gd ?_) | fail)
end Go.Proofs.YtkdblnejpmbnfaaGreat
namespace Go.Proofs.YtkdblnejpmbnfaaGreat
open Go Go.Lx
set_option maxRecDepth 100000
def c4 : LCode :=
 sR [oP 2 false]
 (sR [oM 7 0,
 oC 8 6 [.u 7],
 oV 3 8]
 (sR [oM 9 3,
 oC 10 7 [.u 9],
 oU 11 (.fld true 3 2 (.u 10)),
 oT 4 (.zero [zI, zI, .fsl 1 0 []]),
 oS 3 4 11]
 (sR [oM 12 3,
 oK 13 3 4,
 oC 14 13 [.u 12, .u 13],
 oT 5 (.zero [zI, zI, .fsl 1 0 []]),
 oS 3 5 14]
 (.seq (sR [oG 15 2 5,
 oL 16 1 15,
 oU 17 (.lenL (.u 16)),
 oT 18 (.bin .eql (.u 17) (xI 0))]
 (cT 18
 (sR [oK 19 3 4,
 oC 20 14 [.u 19],
 oW 21 20,
 oY 22 21 (.load true 3 (.t 5)),
 oY 23 21 (.call 14 [.u 22]),
 oY 24 21 (.un .not (.u 23)),
 oU 25 (.pick (.u 21) (.u 24) (.c (.bool false))),
 oW 26 25,
 oY 27 26 (.call 10 []),
 oU 28 (.pick (.u 26) (.u 27) (.c (.bool false))),
 oV 2 28]
 .ret)
 .skip))
 (sR [oM 29 3,
 oK 30 3 5,
 oC 31 13 [.u 29, .u 30],
 oT 6 (.zero [zI, zI, .fsl 1 0 []]),
 oS 3 6 31]
 (sD [dT 0 [4] (oK 32 3 4),
 dF 1 [32] (oC 33 14 [.u 32]),
 dF 2 [33] (oW 34 33),
 dT 3 [5, 34] (oY 35 34 (.load true 3 (.t 5))),
 dT 5 [5, 34] (oY 37 34 (.load true 3 (.t 5))),
 ⟨4, [35, 34], false, [5], oY 36 34 (.call 14 [.u 35])⟩,
 dF 6 [37, 34] (oY 38 34 (.call 15 [.u 37])),
 dF 7 [36, 38, 34] (oY 39 34 (.eqB false (.u 36) (.u 38))),
 dF 8 [34, 39] (oU 40 (.pick (.u 34) (.u 39) (.c (.bool false)))),
 dF 9 [40] (oW 41 40),
 dT 10 [6, 41] (oY 42 41 (.load true 3 (.t 6))),
 dT 12 [6, 41] (oY 44 41 (.load true 3 (.t 6))),
 ⟨11, [42, 41], false, [12], oY 43 41 (.call 14 [.u 42])⟩,
 dF 13 [44, 41] (oY 45 41 (.call 15 [.u 44])),
 dF 14 [43, 45, 41] (oY 46 41 (.eqB false (.u 43) (.u 45))),
 dF 15 [41, 46] (oU 47 (.pick (.u 41) (.u 46) (.c (.bool false)))),
 dF 16 [47] (oW 48 47),
 dF 17 [48] (oY 49 48 (.call 10 [])),
 dF 18 [48, 49] (oU 50 (.pick (.u 48) (.u 49) (.c (.bool false)))),
 dF 19 [50] (oV 2 50)]
 .ret))))))
def r4 : List LRes := [.slot 2]
end Go.Proofs.YtkdblnejpmbnfaaGreat
