/- Layer 9: the first table, processes that are looked up, the check. -/
import Derived.Test.YtkdblnejpmbnfaaGreatV11
namespace Go.Proofs.YtkdblnejpmbnfaaGreat
open Go Go.Lx
set_option linter.unusedSimpArgs false
set_option linter.unusedVariables false
set_option maxRecDepth 100000
set_option maxHeartbeats 4000000
def p1 (d i : Int) : Ps := ⟨1, 0, 0, 0, 0, 0, 4294967295, 4294967295, d, i, [105, 110, 105, 116], [47, 105, 110, 105, 116], [], true⟩
def tnew (d i : Int) : Tb := ⟨2, 1, [p1 d i]⟩
theorem p1le {d i : Int} : leVs [.int .i64 1, .int .i64 0, .int .i64 0, .int .i64 0, .int .i64 0, .int .i64 0, .int .i64 4294967295, .int .i64 4294967295, .int .i64 d, .int .i64 i, .str [105, 110, 105, 116], .str [47, 105, 110, 105, 116], .fsl 1 0 [], .bool true] ([p1 d i].flatMap PsC) := ⟨leV.refl _, leV.refl _, leV.refl _, leV.refl _, leV.refl _, leV.refl _, leV.refl _, leV.refl _, leV.refl _, leV.refl _, leV.refl _, leV.refl _, leV.nil_sl _ _, leV.refl _, trivial⟩
theorem ps0le : leVs [.int .i64 0, .int .i64 0, .int .i64 0, .int .i64 0, .int .i64 0, .int .i64 0, .int .i64 0, .int .i64 0, .int .i64 0, .int .i64 0, .str [], .str [], .fsl 1 0 [], .bool false] (PsC ps0) := ⟨leV.refl _, leV.refl _, leV.refl _, leV.refl _, leV.refl _, leV.refl _, leV.refl _, leV.refl _, leV.refl _, leV.refl _, leV.refl _, leV.refl _, leV.nil_sl _ _, leV.refl _, trivial⟩
theorem new9 (d i : Int) : Pure Tryz.prog gl 26 [.agg [.int .i64 d, .int .i64 i]] (TbL (tnew d i)) := by
  refine fn_pureT Tryz.func26 t26 Tryz.ntmps26 (by simp) ?_
  unfold c26 r26
  repeat' (first | (simp (disch := first | exact dd | fail) only [go_sem, zPs]) | (refine allI (fun b => ?_)) | (refine allT (fun τ => ?_)) | (refine brP (fun h => ?_) (fun h => ?_) <;> (try simp only [zgx, zbx] at h)) | (refine gd ?_) | fail)
  exact leV.agg ⟨leV.refl _, leV.refl _, (leV.fsl_sl _ _ _).trans (leV.sl p1le), trivial⟩
theorem rnew (d i : Int) : Pure Tryz.prog gl 61 [.agg [.int .i64 d, .int .i64 i]] (TbL (tnew d i)) := by
  refine fn_pureT Tryz.func61 t61 Tryz.ntmps61 (by simp) ?_
  unfold c61 r61
  repeat' (first | (simp (disch := first | exact dd | fail) only [go_sem, zPs]) | (refine allI (fun b => ?_)) | (refine allT (fun τ => ?_)) | (refine brP (fun h => ?_) (fun h => ?_) <;> (try simp only [zgx, zbx] at h)) | (refine gd ?_) | fail)
  exact leV.agg ⟨leV.refl _, leV.refl _, (leV.fsl_sl _ _ _).trans (leV.sl p1le), trivial⟩
def getR (t : Tb) (pid : Int) : Ps × Bool := if findI t pid < 0 then (ps0, false) else (pAt t (findI t pid).toNat, true)
theorem get_ (t : Tb) (pid : Int) (ht : okT t) : Pure Tryz.prog gl 17 [TbL t, .int .i64 pid] (.tup [.agg (PsC (getR t pid).1), .bool (getR t pid).2]) := by
  refine fn_pureT Tryz.func17 t17 Tryz.ntmps17 (by simp) ?_
  have hF := find t pid ht.1
  have hlt := findI_lt t pid
  have hR : getR t pid = if findI t pid < 0 then (ps0, false) else (pAt t (findI t pid).toNat, true) := rfl
  have hcp : ∀ i, i < t.ps.length → _ := fun i h => cpp (t.ps.getD i ps0) (ht.2 _ (getD_memA ps0 h))
  have e2 : ∀ i, i < t.ps.length → _ := fun i h => take_rows (f := PsC) (w := 14) (fun _ => rfl) ps0 t.ps h
  have hle := len_ps t.ps
  generalize findI t pid = k at *
  unfold c17 r17
  rw [TbL_eq t] at *
  repeat' (first | (simp (disch := first | exact dd | fail) only [go_sem]) | (refine allI (fun b => ?_)) | (refine allT (fun τ => ?_)) | (refine brP (fun h => ?_) (fun h => ?_) <;> (try simp only [zgx, zbx] at h)) | refine call_U (hF) ?_ | refine callG_U (fun _ => hF) ?_ | refine call_T (hF) ?_ | refine callG_T (fun _ => hF) ?_ | refine call_N (hF) ?_ | refine call_of (hF) ?_ | refine callG_of (fun _ => hF) ?_ | (refine gd ?_) | fail)
  · rw [hR, if_pos h]
    exact leV.tup ⟨leV.agg ps0le, leV.refl _, trivial⟩
  · obtain ⟨n, rfl⟩ : ∃ n : Nat, k = (n : Int) := ⟨k.toNat, by omega⟩
    have hn : n < t.ps.length := by omega
    rw [Int.toNat_natCast] at *
    rw [e2 n hn]
    first | refine call_U (hcp n hn) ?_ | refine call_T (hcp n hn) ?_ | refine call_N (hcp n hn) ?_ | refine call_of (hcp n hn) ?_
    rw [hR, if_neg (by omega), pAt]
    generalize t.ps.getD n ps0 = p at *
    rw [PsC_eq]
    repeat' (first | (simp (disch := first | exact dd | fail) only [go_sem, zPs]) | (refine allI (fun b => ?_)) | (refine allT (fun τ => ?_)) | (refine brP (fun h => ?_) (fun h => ?_) <;> (try simp only [zgx, zbx] at h)) | (refine gd ?_) | fail)
theorem rcp (p : Ps) (hp : p.op.length ≤ 1000000) : Pure Tryz.prog gl 29 [.agg (PsC p)] (.agg (PsC p)) := by
  refine fn_pureT Tryz.func29 t29 Tryz.ntmps29 (by simp) ?_
  unfold c29 r29
  rw [PsC_eq, DeS_eq]
  repeat' (first | (simp (disch := first | exact dd | fail) only [go_sem]) | (refine allI (fun b => ?_)) | (refine allT (fun τ => ?_)) | (refine brP (fun h => ?_) (fun h => ?_) <;> (try simp only [zgx, zbx] at h)) | (refine gd ?_) | fail)
  refine ⟨by simp only [roomy]; omega, fun τ => leV.agg ⟨leV.refl _, leV.refl _, leV.refl _, leV.refl _, leV.refl _, leV.refl _, leV.refl _, leV.refl _, leV.refl _, leV.refl _, leV.refl _, leV.refl _, leV.osl_sl _ _ _ _ _, leV.refl _, trivial⟩⟩
theorem Ents.emp {env env' : Env} {H H' : Heap} (id : Nat) (h : Ents gl env ((id, .blk 0 []) :: H) env' H') : Ents gl env H env' H' := fun vv n w0 M HF w a hI hF => h vv n w0 M HF w a (hI.empty id 0) hF
theorem rcopy (t : Tb) (ht : okT t) : NewsE Tryz.prog gl 30 [TbL t] 6000 (OwnT t) := by
  refine fn_viewT Tryz.func30 t30 Tryz.ntmps30 (by simp) ?_
  have hle := len_ps t.ps
  have hm := ht.1
  unfold c30 r30
  rw [TbL_eq]
  repeat' (first | (simp (disch := first | exact dd | fail) only [go_sem]) | (refine allI (fun b => ?_)) | (refine allT (fun τ => ?_)) | (refine brP (fun h => ?_) (fun h => ?_) <;> (try simp only [zgx, zbx] at h)) | (refine gd ?_) | fail)
  rename_i b1 b2
  refine loopI (ι := Nat × Nat × Nat) (fun y => y.1 ≤ t.ps.length ∧ y.1 ≤ y.2.2) (fun y => [(4, .int .i64 y.1), (3, .ptr 3 b 0), (2, .ptr 2 b2 0), (1, .ptr 1 b1 0), (0, .any)]) (fun y => [(3, .blk b [.int .i64 t.nx, .int .i64 t.ns, .msl 6000 14 y.2.1 0 y.1 y.2.2]), (6000, .blk y.2.1 (Sp ((t.ps.take y.1).flatMap PsC) ((y.2.2 - y.1) * 14))), (2, .blk b2 [.int .i64 0, .int .i64 0, .fsl 1 0 []]), (1, .blk b1 [.int .i64 t.nx, .int .i64 t.ns, .sl 14 t.ps.length (t.ps.flatMap PsC)])]) (fun y => t.ps.length - y.1) (0, 0, 0) (by simp) ?_ ?_
  · refine Ents.emp 6000 (Ents.heap ([(3, .blk b [.int .i64 t.nx, .int .i64 t.ns, .fsl 1 0 []]), (6000, .blk 0 []), (2, .blk b2 [.int .i64 0, .int .i64 0, .fsl 1 0 []]), (1, .blk b1 [.int .i64 t.nx, .int .i64 t.ns, .sl 14 t.ps.length (t.ps.flatMap PsC)])]) (by simp [go_sem]) ⟨_, List.Sublist.refl _, List.Perm.swap _ _ _⟩ ⟨⟨rfl, leV.refl _, leV.refl _, leV.nil_msl _ _ _, trivial⟩, ⟨rfl, by simp [Sp, leVs]⟩, ⟨rfl, leVs.refl _⟩, ⟨rfl, leVs.refl _⟩, trivial⟩)
  · rintro ⟨i, b', c⟩ ⟨h1, h2⟩
    dsimp only at h1 h2 ⊢
    have htl : ((t.ps.take i).flatMap PsC).length = i * 14 := by rw [len_ps, List.length_take, Nat.min_eq_left h1]
    simp (disch := first | exact dd | fail) only [go_sem]
    refine brP (fun hb => ?_) (fun hb => ?_)
    · have hlt : i < t.ps.length := by simpa using hb
      have e2 : ((t.ps.flatMap PsC).drop (i * 14)).take 14 = PsC (t.ps.getD i ps0) := take_rows (f := PsC) (fun _ => rfl) ps0 _ hlt
      have hts := take_succ_getD ps0 t.ps hlt
      have hcp := rcp (t.ps.getD i ps0) (ht.2 _ (getD_memA ps0 hlt))
      generalize t.ps.getD i ps0 = x at *
      rw [PsC_eq] at e2 hcp
      repeat' (first | (simp (disch := first | exact dd | fail) only [go_sem, e2, zPs]) | (refine allI (fun b => ?_)) | (refine allT (fun τ => ?_)) | (refine brP (fun h => ?_) (fun h => ?_) <;> (try simp only [zgx, zbx] at h)) | (refine gd ?_) | fail)
      first | refine call_U (hcp) ?_ | refine call_T (hcp) ?_ | refine call_N (hcp) ?_ | refine call_of (hcp) ?_
      repeat' (first | (simp (disch := first | exact dd | fail) only [go_sem, zPs]) | (refine allI (fun b => ?_)) | (refine allT (fun τ => ?_)) | (refine brP (fun h => ?_) (fun h => ?_) <;> (try simp only [zgx, zbx] at h)) | (refine gd ?_) | fail)
      refine .inl ⟨by rw [length_Sp, htl]; omega, by rw [length_Sp, htl]; omega, by simp only [roomy]; omega, fun b2 c2 h3 => ?_⟩
      rw [take_Sp _ htl]
      refine ⟨⟨(i + 1, b2, c2), by dsimp only; omega⟩, by dsimp only; omega, Ents.sub (by simp [go_sem]) ⟨_, List.Sublist.refl _, ?_⟩⟩
      dsimp only
      rw [hts, List.flatMap_append, List.flatMap_singleton, PsC_eq, Sp]
      exact List.Perm.swap _ _ _
    · have hlen : i = t.ps.length := by simp only [decide_eq_false_iff_not] at hb; omega
      subst hlen
      repeat' (first | (simp (disch := first | exact dd | fail) only [go_sem]) | (refine allI (fun b => ?_)) | (refine allT (fun τ => ?_)) | (refine brP (fun h => ?_) (fun h => ?_) <;> (try simp only [zgx, zbx] at h)) | (refine gd ?_) | fail)
      rw [List.take_length]
      exact viewE_end (leV.refl _) (List.Sublist.cons _ (List.Sublist.cons_cons _ (List.nil_sublist _))) ⟨b', c, h2, rfl, rfl⟩
end Go.Proofs.YtkdblnejpmbnfaaGreat
namespace Go.Proofs.YtkdblnejpmbnfaaGreat.F
open Go Go.Lx
set_option linter.unusedSimpArgs false
set_option linter.unusedVariables false
set_option maxRecDepth 100000
set_option maxHeartbeats 8000000
/-- the cells of devices, with one device's nodes seen in some way -/
def FoC (fs : List Dv) (dv : Nat) (v : LV) : List LV := putC (fs.flatMap DvC) (dv * 2 + 1) v
theorem putC_app {xs ys : List LV} {o : Nat} (v : LV) (h : o < xs.length) : putC (xs ++ ys) o v = putC xs o v ++ ys := by
  rw [putC_set v (by rw [List.length_append]; omega), putC_set v h, List.set_append_left _ _ h]
theorem FoC_len {fs : List Dv} {dv : Nat} (v : LV) (h : dv < fs.length) : (FoC fs dv v).length = fs.length * 2 := by
  rw [FoC, putC_len _ (by rw [len_dv]; omega), len_dv]
theorem FoC_app {fs : List Dv} {dv : Nat} {d : Dv} {v : LV} (h : dv < fs.length) : FoC (fs ++ [d]) dv v = FoC fs dv v ++ DvC d := by
  rw [FoC, List.flatMap_append, putC_app v (by rw [len_dv]; omega), List.flatMap_singleton]; rfl
theorem FoC_last {fs : List Dv} {d : Dv} {v : LV} : FoC (fs ++ [d]) fs.length v = fs.flatMap DvC ++ [.int .i64 d.nx, v] := by
  rw [FoC, List.flatMap_append, putC_set v (by rw [List.length_append, len_dv, len_dv]; simp), List.set_append_right _ _ (by rw [len_dv]; omega), len_dv, List.flatMap_singleton]
  congr 1
  rw [show fs.length * 2 + 1 - fs.length * 2 = 1 by omega]; rfl
theorem leVs_eq {xs ys : List LV} (h : xs = ys) : leVs xs ys := h ▸ leVs.refl _
/-- the copy while it is made -/
def cpC (fs : List Dv) (dv i b1 c1 : Nat) : List LV := if i ≤ dv then (fs.take i).flatMap DvC else FoC (fs.take i) dv (.msl 7001 8 b1 0 (fs.getD dv dv0).ns.length c1)
def cpB (fs : List Dv) (dv i c1 : Nat) : List LV := if i ≤ dv then [] else Sp ((fs.getD dv dv0).ns.flatMap NoC) ((c1 - (fs.getD dv dv0).ns.length) * 8)
theorem cpC_len {fs : List Dv} {dv i b1 c1 : Nat} (hi : i ≤ fs.length) : (cpC fs dv i b1 c1).length = i * 2 := by
  unfold cpC
  split
  · rw [len_dv, List.length_take, Nat.min_eq_left hi]
  · rw [FoC_len _ (by rw [List.length_take]; omega), List.length_take, Nat.min_eq_left hi]
theorem cpC_ne {fs : List Dv} {dv i b1 c1 : Nat} (hi : i < fs.length) (hne : i ≠ dv) : cpC fs dv (i + 1) b1 c1 = cpC fs dv i b1 c1 ++ DvC (fs.getD i dv0) := by
  unfold cpC
  rw [take_succ_getD dv0 fs hi]
  by_cases h : i < dv
  · rw [if_pos (by omega), if_pos (by omega), List.flatMap_append, List.flatMap_singleton]
  · rw [if_neg (by omega), if_neg (by omega), FoC_app (by rw [List.length_take]; omega)]
theorem cpB_ne {fs : List Dv} {dv i c1 : Nat} (hne : i ≠ dv) : cpB fs dv (i + 1) c1 = cpB fs dv i c1 := by
  unfold cpB
  by_cases h : i < dv
  · rw [if_pos (by omega), if_pos (by omega)]
  · rw [if_neg (by omega), if_neg (by omega)]
theorem cpC_eq {fs : List Dv} {dv b0 c0 b1 c1 : Nat} (hi : dv < fs.length) : cpC fs dv (dv + 1) b1 c1 = cpC fs dv dv b0 c0 ++ [.int .i64 (fs.getD dv dv0).nx, .msl 7001 8 b1 0 (fs.getD dv dv0).ns.length c1] := by
  unfold cpC
  rw [take_succ_getD dv0 fs hi, if_neg (by omega), if_pos (by omega)]
  have h := FoC_last (fs := fs.take dv) (d := fs.getD dv dv0) (v := .msl 7001 8 b1 0 (fs.getD dv dv0).ns.length c1)
  rw [List.length_take, Nat.min_eq_left (by omega)] at h
  exact h
theorem cpB_eq {fs : List Dv} {dv c1 : Nat} : cpB fs dv (dv + 1) c1 = Sp ((fs.getD dv dv0).ns.flatMap NoC) ((c1 - (fs.getD dv dv0).ns.length) * 8) := by
  unfold cpB
  rw [if_neg (by omega)]
/-- files of which one device is owned -/
def FoV (b m c : Nat) : LV := .agg [.msl 7000 2 b 0 m c]
theorem FoV_eq (b m c : Nat) : FoV b m c = .agg [.msl 7000 2 b 0 m c] := Eq.trans rfl rfl
def FoH (fs : List Dv) (dv b c b1 c1 : Nat) : Heap := [(7000, .blk b (Sp (FoC fs dv (.msl 7001 8 b1 0 (fs.getD dv dv0).ns.length c1)) ((c - fs.length) * 2))), (7001, .blk b1 (Sp ((fs.getD dv dv0).ns.flatMap NoC) ((c1 - (fs.getD dv dv0).ns.length) * 8)))]
theorem FoH_eq (fs : List Dv) (dv b c b1 c1 : Nat) : FoH fs dv b c b1 c1 = [(7000, .blk b (Sp (FoC fs dv (.msl 7001 8 b1 0 (fs.getD dv dv0).ns.length c1)) ((c - fs.length) * 2))), (7001, .blk b1 (Sp ((fs.getD dv dv0).ns.flatMap NoC) ((c1 - (fs.getD dv dv0).ns.length) * 8)))] := Eq.trans rfl rfl
theorem copyO (fs : List Dv) (dv : Nat) (hdv : dv < fs.length) (hf : okF fs) : LCalls Tryz.prog gl 114 [FiL fs] [] fun r H => ∃ b c b1 c1, fs.length ≤ c ∧ (fs.getD dv dv0).ns.length ≤ c1 ∧ r = FoV b fs.length c ∧ H = FoH fs dv b c b1 c1 := by
  refine fn_viewT Tryz.func114 t114 Tryz.ntmps114 (by simp) ?_
  have hl := hf.1
  have hld := len_dv fs
  unfold c114 r114
  rw [FiL_eq]
  repeat' (first | (simp (disch := first | exact dd | fail) only [go_sem]) | (refine allI (fun b => ?_)) | (refine allT (fun τ => ?_)) | (refine brP (fun h => ?_) (fun h => ?_) <;> (try simp only [zgx, zbx] at h)) | (refine gd ?_) | fail)
  rename_i b1 b2
  refine loopI (ι := Nat × Nat × Nat × Nat × Nat) (fun y => y.1 ≤ fs.length ∧ y.1 ≤ y.2.2.1 ∧ (y.1 ≤ dv → y.2.2.2.1 = 0) ∧ (dv < y.1 → (fs.getD dv dv0).ns.length ≤ y.2.2.2.2)) (fun y => [(4, .int .i64 y.1), (3, .ptr 3 b 0), (2, .ptr 2 b2 0), (1, .ptr 1 b1 0)]) (fun y => [(7000, .blk y.2.1 (Sp (cpC fs dv y.1 y.2.2.2.1 y.2.2.2.2) ((y.2.2.1 - y.1) * 2))), (7001, .blk y.2.2.2.1 (cpB fs dv y.1 y.2.2.2.2)), (3, .blk b [.msl 7000 2 y.2.1 0 y.1 y.2.2.1]), (2, .blk b2 [.fsl 1 0 []]), (1, .blk b1 [.sl 2 fs.length (fs.flatMap DvC)])]) (fun y => fs.length - y.1) (0, 0, 0, 0, 0) (by simp) ?_ ?_
  · refine Ents.emp 7001 (Ents.emp 7000 (Ents.le (by simp [go_sem]) ⟨⟨rfl, by simp [cpC, Sp, leVs]⟩, ⟨rfl, by simp [cpB, leVs]⟩, ⟨rfl, leV.nil_msl _ _ _, trivial⟩, ⟨rfl, leVs.refl _⟩, ⟨rfl, leVs.refl _⟩, trivial⟩))
  · rintro ⟨i, bo, co, bn, cn⟩ ⟨hi, hic, hz1, hz2⟩
    dsimp only at hi hic hz1 hz2 ⊢
    have hcl := cpC_len (dv := dv) (b1 := bn) (c1 := cn) hi
    simp (disch := first | exact dd | fail) only [go_sem]
    refine brP (fun hb => ?_) (fun hb => ?_)
    · have hlt : i < fs.length := by simpa using hb
      have e1 : (fs.flatMap DvC).getD (i * 2) .any = .int .i64 (fs.getD i dv0).nx := by rw [← Nat.add_zero (i * 2), getD_rows (f := DvC) (w := 2) (fun _ => rfl) (by omega) dv0 _ _ hlt]; rfl
      have e2 : (fs.flatMap DvC).getD (i * 2 + 1) .any = .sl 8 (fs.getD i dv0).ns.length ((fs.getD i dv0).ns.flatMap NoC) := by rw [getD_rows (f := DvC) (w := 2) (fun _ => rfl) (by omega) dv0 _ _ hlt]; rfl
      have hk := hf.2 _ (getD_memA dv0 hlt)
      have hC := fun h => cpC_ne (fs := fs) (dv := dv) (i := i) (b1 := bn) (c1 := cn) hlt h
      have hB := fun h => cpB_ne (fs := fs) (dv := dv) (i := i) (c1 := cn) h
      by_cases hne : i ≠ dv
      · replace hC := hC hne
        replace hB := hB hne
        generalize fs.getD i dv0 = D at *
        obtain ⟨hk1, hk2⟩ := hk
        have hln := len_no D.ns
        repeat' (first | (simp (disch := first | exact dd | fail) only [go_sem, e1, e2, zDv]) | (refine allI (fun b => ?_)) | (refine allT (fun τ => ?_)) | (refine brP (fun h => ?_) (fun h => ?_) <;> (try simp only [zgx, zbx] at h)) | (refine gd ?_) | fail)
        rename_i b3
        generalize hCC : cpC fs dv i bn cn = CC at *
        generalize hBB : cpB fs dv i cn = BB at *
        refine loopI (ι := Nat × Tok) (fun y => y.1 ≤ D.ns.length) (fun y => [(6, .int .i64 y.1), (5, .ptr 5 b 0), (4, .int .i64 i), (3, .ptr 3 b3 0), (2, .ptr 2 b2 0), (1, .ptr 1 b1 0)]) (fun y => [(50, .tok y.2), (5, .blk b [.int .i64 D.nx, .osl 50 y.2 8 y.1 ((D.ns.take y.1).flatMap NoC)]), (7000, .blk bo (Sp CC ((co - i) * 2))), (7001, .blk bn BB), (3, .blk b3 [.msl 7000 2 bo 0 i co]), (2, .blk b2 [.fsl 1 0 []]), (1, .blk b1 [.sl 2 fs.length (fs.flatMap DvC)])]) (fun y => D.ns.length - y.1) (0, ⟨0, 0, 0⟩) (by simp) ?_ ?_
        · refine Ents.dum 50 (Ents.le (by simp [go_sem]) ⟨rfl, ⟨rfl, leV.refl _, leV.nil_osl _ _ _ _, trivial⟩, ⟨rfl, leVs.refl _⟩, ⟨rfl, leVs.refl _⟩, ⟨rfl, leVs.refl _⟩, ⟨rfl, leVs.refl _⟩, ⟨rfl, leVs.refl _⟩, trivial⟩)
        · rintro ⟨k, τ2⟩ hkk
          dsimp only at hkk ⊢
          simp (disch := first | exact dd | fail) only [go_sem, e1, e2]
          refine ⟨by omega, by omega, ?_⟩
          refine brP (fun hb => ?_) (fun hb => ?_)
          · have hlt2 : k < D.ns.length := by simpa using hb
            have e3 := tNo hlt2
            have hts2 := take_succ_getD no0 D.ns hlt2
            rw [← nAt] at hts2
            have hes := hk2 _ (getD_memA no0 hlt2)
            rw [← nAt] at hes
            generalize nAt D.ns k = n at *
            have hle := len_en n.es
            rw [NoC_eq] at e3
            repeat' (first | (simp (disch := first | exact dd | fail) only [go_sem, e1, e2, e3, zNo]) | (refine allI (fun b => ?_)) | (refine allT (fun τ => ?_)) | (refine brP (fun h => ?_) (fun h => ?_) <;> (try simp only [zgx, zbx] at h)) | (refine gd ?_) | fail)
            refine ⟨by simp only [roomy]; omega, fun τ3 => ?_⟩
            repeat' (first | (simp (disch := first | exact dd | fail) only [go_sem, zNo]) | (refine allI (fun b => ?_)) | (refine allT (fun τ => ?_)) | (refine brP (fun h => ?_) (fun h => ?_) <;> (try simp only [zgx, zbx] at h)) | (refine gd ?_) | fail)
            refine ⟨by simp only [roomy]; omega, fun τ4 => ⟨⟨(k + 1, τ4), by dsimp only; omega⟩, by dsimp only; omega, ?_⟩⟩
            refine Ents.heap _ (by simp [go_sem]) ⟨_, List.Sublist.cons_cons _ (List.Sublist.cons _ (List.Sublist.cons _ (List.Sublist.refl _))), List.Perm.refl _⟩ ⟨rfl, ⟨rfl, leV.refl _, leV.osl ?_, trivial⟩, ⟨rfl, leVs.refl _⟩, ⟨rfl, leVs.refl _⟩, ⟨rfl, leVs.refl _⟩, ⟨rfl, leVs.refl _⟩, ⟨rfl, leVs.refl _⟩, trivial⟩
            dsimp only
            rw [hts2, List.flatMap_append, List.flatMap_singleton]
            exact leVs.app (leVs.refl _) (NoO_le n 44 τ3)
          · have hlen : k = D.ns.length := by simp only [decide_eq_false_iff_not] at hb; omega
            subst hlen
            rw [List.take_length]
            repeat' (first | (simp (disch := first | exact dd | fail) only [go_sem, zDv]) | (refine allI (fun b => ?_)) | (refine allT (fun τ => ?_)) | (refine brP (fun h => ?_) (fun h => ?_) <;> (try simp only [zgx, zbx] at h)) | (refine gd ?_) | fail)
            refine .inl ⟨by rw [length_Sp, hcl]; omega, by rw [length_Sp, hcl]; omega, by simp only [roomy]; omega, fun b4 c4 h4 => ?_⟩
            rw [take_Sp _ hcl]
            refine ⟨⟨(i + 1, b4, c4, bn, cn), by dsimp only; omega⟩, by dsimp only; omega, ?_⟩
            refine Ents.heap _ (by simp [go_sem]) ⟨_, List.Sublist.cons_cons _ (List.Sublist.cons _ (List.Sublist.cons _ (List.Sublist.refl _))), List.Perm.refl _⟩ ⟨⟨rfl, ?_⟩, ⟨rfl, leVs_eq hB.symm⟩, ⟨rfl, leVs.refl _⟩, ⟨rfl, leVs.refl _⟩, ⟨rfl, leVs.refl _⟩, trivial⟩
            dsimp only
            rw [hC, Sp]
            exact leVs.app (leVs.app (leVs.refl _) ⟨leV.refl _, leV.osl_sl _ _ _ _ _, trivial⟩) (leVs.refl _)
      · obtain rfl : i = dv := by omega
        clear hC hB
        have hC := fun bx cx => cpC_eq (fs := fs) (dv := i) (b0 := bn) (c0 := cn) (b1 := bx) (c1 := cx) hlt
        have hB := fun cx => cpB_eq (fs := fs) (dv := i) (c1 := cx)
        have hBi : cpB fs i i cn = [] := by rw [cpB, if_pos (by omega)]
        obtain rfl : bn = 0 := hz1 (by omega)
        rw [hBi]
        generalize hDD : fs.getD i dv0 = D at *
        obtain ⟨hk1, hk2⟩ := hk
        have hln := len_no D.ns
        repeat' (first | (simp (disch := first | exact dd | fail) only [go_sem, e1, e2, zDv]) | (refine allI (fun b => ?_)) | (refine allT (fun τ => ?_)) | (refine brP (fun h => ?_) (fun h => ?_) <;> (try simp only [zgx, zbx] at h)) | (refine gd ?_) | fail)
        rename_i b3
        generalize hCC : cpC fs i i 0 cn = CC at *
        refine loopI (ι := Nat × Nat × Nat) (fun y => y.1 ≤ D.ns.length ∧ y.1 ≤ y.2.2) (fun y => [(6, .int .i64 y.1), (5, .ptr 5 b 0), (4, .int .i64 i), (3, .ptr 3 b3 0), (2, .ptr 2 b2 0), (1, .ptr 1 b1 0)]) (fun y => [(7001, .blk y.2.1 (Sp ((D.ns.take y.1).flatMap NoC) ((y.2.2 - y.1) * 8))), (5, .blk b [.int .i64 D.nx, .msl 7001 8 y.2.1 0 y.1 y.2.2]), (7000, .blk bo (Sp CC ((co - i) * 2))), (3, .blk b3 [.msl 7000 2 bo 0 i co]), (2, .blk b2 [.fsl 1 0 []]), (1, .blk b1 [.sl 2 fs.length (fs.flatMap DvC)])]) (fun y => D.ns.length - y.1) (0, 0, 0) (by simp) ?_ ?_
        · refine Ents.heap [(7001, .blk 0 []), (5, .blk b [.int .i64 D.nx, .fsl 1 0 []]), (7000, .blk bo (Sp CC ((co - i) * 2))), (3, .blk b3 [.msl 7000 2 bo 0 i co]), (2, .blk b2 [.fsl 1 0 []]), (1, .blk b1 [.sl 2 fs.length (fs.flatMap DvC)])] (by simp [go_sem]) ⟨_, List.Sublist.refl _, pick_perm rfl (List.Perm.refl _)⟩ ⟨⟨rfl, by simp [Sp, leVs]⟩, ⟨rfl, leV.refl _, leV.nil_msl _ _ _, trivial⟩, ⟨rfl, leVs.refl _⟩, ⟨rfl, leVs.refl _⟩, ⟨rfl, leVs.refl _⟩, ⟨rfl, leVs.refl _⟩, trivial⟩
        · rintro ⟨k, bm, cm⟩ ⟨hkk, hkc⟩
          dsimp only at hkk hkc ⊢
          have htl : ((D.ns.take k).flatMap NoC).length = k * 8 := by rw [len_no, List.length_take, Nat.min_eq_left hkk]
          simp (disch := first | exact dd | fail) only [go_sem, e1, e2]
          refine ⟨by omega, by omega, ?_⟩
          refine brP (fun hb => ?_) (fun hb => ?_)
          · have hlt2 : k < D.ns.length := by simpa using hb
            have e3 := tNo hlt2
            have hts2 := take_succ_getD no0 D.ns hlt2
            rw [← nAt] at hts2
            have hes := hk2 _ (getD_memA no0 hlt2)
            rw [← nAt] at hes
            generalize nAt D.ns k = n at *
            have hle := len_en n.es
            rw [NoC_eq] at e3
            repeat' (first | (simp (disch := first | exact dd | fail) only [go_sem, e1, e2, e3, zNo]) | (refine allI (fun b => ?_)) | (refine allT (fun τ => ?_)) | (refine brP (fun h => ?_) (fun h => ?_) <;> (try simp only [zgx, zbx] at h)) | (refine gd ?_) | fail)
            refine ⟨by simp only [roomy]; omega, fun τ3 => ?_⟩
            repeat' (first | (simp (disch := first | exact dd | fail) only [go_sem, zNo]) | (refine allI (fun b => ?_)) | (refine allT (fun τ => ?_)) | (refine brP (fun h => ?_) (fun h => ?_) <;> (try simp only [zgx, zbx] at h)) | (refine gd ?_) | fail)
            refine .inl ⟨by rw [length_Sp, htl]; omega, by rw [length_Sp, htl]; omega, by simp only [roomy]; omega, fun b4 c4 h4 => ?_⟩
            rw [take_Sp _ htl]
            refine ⟨⟨(k + 1, b4, c4), by dsimp only; omega⟩, by dsimp only; omega, ?_⟩
            refine Ents.heap _ (by simp [go_sem]) ⟨_, List.Sublist.cons_cons _ (List.Sublist.cons _ (List.Sublist.cons _ (List.Sublist.refl _))), List.Perm.refl _⟩ ⟨⟨rfl, ?_⟩, ⟨rfl, leVs.refl _⟩, ⟨rfl, leVs.refl _⟩, ⟨rfl, leVs.refl _⟩, ⟨rfl, leVs.refl _⟩, ⟨rfl, leVs.refl _⟩, trivial⟩
            dsimp only
            rw [hts2, List.flatMap_append, List.flatMap_singleton, Sp]
            exact leVs.app (leVs.app (leVs.refl _) (NoO_le n 44 τ3)) (leVs.refl _)
          · have hlen : k = D.ns.length := by simp only [decide_eq_false_iff_not] at hb; omega
            subst hlen
            rw [List.take_length]
            repeat' (first | (simp (disch := first | exact dd | fail) only [go_sem, zDv]) | (refine allI (fun b => ?_)) | (refine allT (fun τ => ?_)) | (refine brP (fun h => ?_) (fun h => ?_) <;> (try simp only [zgx, zbx] at h)) | (refine gd ?_) | fail)
            refine .inl ⟨by rw [length_Sp, hcl]; omega, by rw [length_Sp, hcl]; omega, by simp only [roomy]; omega, fun b4 c4 h4 => ?_⟩
            rw [take_Sp _ hcl]
            refine ⟨⟨(i + 1, b4, c4, bm, cm), by dsimp only; omega⟩, by dsimp only; omega, ?_⟩
            refine Ents.heap _ (by simp [go_sem]) ⟨_, List.Sublist.cons_cons _ (List.Sublist.cons_cons _ (List.Sublist.cons _ (List.Sublist.refl _))), List.Perm.refl _⟩ ⟨⟨rfl, ?_⟩, ⟨rfl, ?_⟩, ⟨rfl, leVs.refl _⟩, ⟨rfl, leVs.refl _⟩, ⟨rfl, leVs.refl _⟩, trivial⟩
            · dsimp only
              rw [hC, Sp]
              exact leVs.refl _
            · dsimp only
              rw [hB]
              exact leVs.refl _
    · have hlen : i = fs.length := by simp only [decide_eq_false_iff_not] at hb; omega
      repeat' (first | (simp (disch := first | exact dd | fail) only [go_sem]) | (refine allI (fun b => ?_)) | (refine allT (fun τ => ?_)) | (refine brP (fun h => ?_) (fun h => ?_) <;> (try simp only [zgx, zbx] at h)) | (refine gd ?_) | fail)
      subst hlen
      refine ⟨_, _, leVH.of (leV.refl _) ⟨_, List.Sublist.cons_cons _ (List.Sublist.cons_cons _ (List.nil_sublist _)), List.Perm.refl _⟩, bo, co, bn, cn, hic, hz2 hdv, rfl, ?_⟩
      rw [cpC, cpB, if_neg (by omega), if_neg (by omega), List.take_length, FoH_eq]
end Go.Proofs.YtkdblnejpmbnfaaGreat.F
namespace Go.Proofs.YtkdblnejpmbnfaaGreat.F
open Go Go.Lx
set_option linter.unusedSimpArgs false
set_option linter.unusedVariables false
set_option maxRecDepth 100000
set_option maxHeartbeats 8000000
theorem getSp {cs : List LV} {k o : Nat} (h : o < cs.length) : (Sp cs k).getD o .any = cs.getD o .any := by
  simp only [Sp, List.getD_eq_getElem?_getD, List.getElem?_append_left h]
theorem putC_get {cs : List LV} {o : Nat} (v : LV) (h : o < cs.length) : (putC cs o v).getD o .any = v := by
  rw [putC_set v h]; simp [List.getD, h]
theorem FoC_v {fs : List Dv} {dv : Nat} (v : LV) (h : dv < fs.length) : (FoC fs dv v).getD (dv * 2 + 1) .any = v := putC_get v (by rw [len_dv]; omega)
theorem FoC_nx {fs : List Dv} {dv : Nat} (v : LV) (h : dv < fs.length) : (FoC fs dv v).getD (dv * 2) .any = .int .i64 (fs.getD dv dv0).nx := by
  rw [FoC, putC_ne v (by rw [len_dv]; omega) (by omega), ← Nat.add_zero (dv * 2), getD_rows (f := DvC) (w := 2) (fun _ => rfl) (by omega) dv0 _ _ h]; rfl
/-- the sizes of what is owned -/
def OkO (fs : List Dv) (dv c c1 : Nat) : Prop := okF fs ∧ dv < fs.length ∧ fs.length ≤ c ∧ (fs.getD dv dv0).ns.length ≤ c1
theorem dAt_nat (fs : List Dv) (dv : Nat) : dAt fs (dv : Int) = fs.getD dv dv0 := by rw [dAt, Int.toNat_natCast]
theorem gNoS {ns : List No} {i j k : Nat} (h1 : i < ns.length) (hj : j < 8) : (Sp (ns.flatMap NoC) k).getD (i * 8 + j) .any = (NoC (nAt ns i)).getD j .any := by
  rw [getSp (by rw [len_no]; have : (i + 1) * 8 ≤ ns.length * 8 := Nat.mul_le_mul_right 8 h1
                omega), gNo h1 hj]
theorem tNoS {ns : List No} {i k : Nat} (h1 : i < ns.length) : ((Sp (ns.flatMap NoC) k).drop (i * 8)).take 8 = NoC (nAt ns i) := by
  have e := tNo h1
  have hle := len_no ns
  have : (i + 1) * 8 ≤ ns.length * 8 := Nat.mul_le_mul_right 8 h1
  rw [← e, Sp, List.drop_append_of_le_length (by omega), List.take_append_of_le_length (by rw [List.length_drop]; omega)]
theorem ixO (fs : List Dv) (dv : Nat) (i : Int) (b c b1 c1 : Nat) (h : OkO fs dv c c1) : LCalls Tryz.prog gl 144 [FoV b fs.length c, AtL ⟨dv, i⟩] (FoH fs dv b c b1 c1) fun r H => r = .int .i64 (idx fs ⟨dv, i⟩) ∧ H = FoH fs dv b c b1 c1 := by
  obtain ⟨hf, hdv, hc, hc1⟩ := h
  refine fn_viewT Tryz.func144 t144 Tryz.ntmps144 (by simp) ?_
  have hl := hf.1
  have hR : idx fs ⟨dv, i⟩ = ixI (fs.getD dv dv0).ns i := by rw [idx, if_neg (by dsimp only; omega), dAt_nat]
  have hk := (hf.2 _ (getD_memA dv0 hdv)).1
  have hFl := FoC_len (.msl 7001 8 b1 0 (fs.getD dv dv0).ns.length c1) hdv
  have hg := FoC_v (.msl 7001 8 b1 0 (fs.getD dv dv0).ns.length c1) hdv
  rw [← getSp (k := (c - fs.length) * 2) (by omega)] at hg
  have hFS := length_Sp (FoC fs dv (.msl 7001 8 b1 0 (fs.getD dv dv0).ns.length c1)) ((c - fs.length) * 2)
  rw [hR, FoH_eq]
  generalize Sp (FoC fs dv (.msl 7001 8 b1 0 (fs.getD dv dv0).ns.length c1)) ((c - fs.length) * 2) = CC at *
  generalize fs.getD dv dv0 = D at *
  have hln := len_no D.ns
  have hS := length_Sp (D.ns.flatMap NoC) ((c1 - D.ns.length) * 8)
  have e3 := fun k h => gNoS (ns := D.ns) (i := k) (j := 0) (k := (c1 - D.ns.length) * 8) h (by omega)
  generalize Sp (D.ns.flatMap NoC) ((c1 - D.ns.length) * 8) = SS at *
  unfold c144 r144
  rw [AtL_eq, FoV_eq]
  repeat' (first | (simp (disch := first | exact dd | fail) only [go_sem, hg]) | (refine allI (fun b => ?_)) | (refine allT (fun τ => ?_)) | (refine brP (fun h => ?_) (fun h => ?_) <;> (try simp only [zgx, zbx] at h)) | (refine gd ?_) | fail)
  · omega
  rename_i b5 b6
  refine loopI (ι := Nat) (fun k => k ≤ D.ns.length ∧ ∀ j, j < k → ixP D.ns i j = false) (fun k => (6, .int .i64 k) :: _) (fun _ => _) (fun k => D.ns.length - k) 0 ⟨by omega, fun j hj => absurd hj (by omega)⟩ Ents.same ?_
  intro k hi
  have hiB := hi.1
  simp (disch := first | exact dd | fail) only [go_sem]
  refine brP (fun hb => ?_) (fun hb => ?_)
  · have hlt : k < D.ns.length := by simpa using hb
    have e3 := e3 k hlt
    have hf : ixP D.ns i k = ((nAt D.ns k).ino == i) := rfl
    generalize nAt D.ns k = n at *
    rw [NoC_eq, Nat.add_zero] at e3
    simp only [List.getD_cons_zero, List.getD_cons_succ] at e3
    repeat' (first | (simp (disch := first | exact dd | fail) only [go_sem, e3]) | (refine allI (fun b => ?_)) | (refine allT (fun τ => ?_)) | (refine brP (fun h => ?_) (fun h => ?_) <;> (try simp only [zgx, zbx] at h)) | (refine gd ?_) | fail)
    · refine ⟨_, _, leVH.of (leV.refl _) ⟨_, List.Sublist.cons _ (List.Sublist.cons _ (List.Sublist.refl _)), List.Perm.refl _⟩, ?_, rfl⟩
      rw [ixI, firstI_is hlt (by rw [hf]; simpa using h) hi.2]
    · have hf2 : ixP D.ns i k = false := by rw [hf]; simpa using h
      exact ⟨⟨k + 1, by omega, fun j hj => (by omega : j < k ∨ j = k).elim (fun h3 => hi.2 j h3) (fun h3 => h3 ▸ hf2)⟩, by dsimp only; omega, Ents.envH (by simp [go_sem]) rfl⟩
  · repeat' (first | (simp (disch := first | exact dd | fail) only [go_sem]) | (refine allI (fun b => ?_)) | (refine allT (fun τ => ?_)) | (refine brP (fun h => ?_) (fun h => ?_) <;> (try simp only [zgx, zbx] at h)) | (refine gd ?_) | fail)
    refine ⟨_, _, leVH.of (leV.refl _) ⟨_, List.Sublist.cons _ (List.Sublist.cons _ (List.Sublist.refl _)), List.Perm.refl _⟩, ?_, rfl⟩
    rw [ixI, firstI_none fun j hj => hi.2 j (by simp only [decide_eq_false_iff_not] at hb; omega)]
theorem linksO (fs : List Dv) (dv : Nat) (i : Int) (b c b1 c1 : Nat) (h : OkO fs dv c c1) : LCalls Tryz.prog gl 160 [FoV b fs.length c, AtL ⟨dv, i⟩] (FoH fs dv b c b1 c1) fun r H => (∃ n : Int, r = .int .i64 n) ∧ H = FoH fs dv b c b1 c1 := by
  have hX := ixO fs dv i b c b1 c1 h
  obtain ⟨hf, hdv, hc, hc1⟩ := h
  refine fn_viewT Tryz.func160 t160 Tryz.ntmps160 (by simp) ?_
  have hl := hf.1
  obtain ⟨hk, hke⟩ := hf.2 _ (getD_memA dv0 hdv)
  have hFl := FoC_len (.msl 7001 8 b1 0 (fs.getD dv dv0).ns.length c1) hdv
  have hg := FoC_v (.msl 7001 8 b1 0 (fs.getD dv dv0).ns.length c1) hdv
  rw [← getSp (k := (c - fs.length) * 2) (by omega)] at hg
  have hFS := length_Sp (FoC fs dv (.msl 7001 8 b1 0 (fs.getD dv dv0).ns.length c1)) ((c - fs.length) * 2)
  rw [FoH_eq] at *
  generalize idx fs ⟨dv, i⟩ = ID at *
  generalize Sp (FoC fs dv (.msl 7001 8 b1 0 (fs.getD dv dv0).ns.length c1)) ((c - fs.length) * 2) = CC at *
  generalize fs.getD dv dv0 = D at *
  have hln := len_no D.ns
  have hS := length_Sp (D.ns.flatMap NoC) ((c1 - D.ns.length) * 8)
  have e7 := fun k h => gNoS (ns := D.ns) (i := k) (j := 7) (k := (c1 - D.ns.length) * 8) h (by omega)
  generalize Sp (D.ns.flatMap NoC) ((c1 - D.ns.length) * 8) = SS at *
  unfold c160 r160
  rw [AtL_eq, FoV_eq] at *
  repeat' (first | (simp (disch := first | exact dd | fail) only [go_sem]) | (refine allI (fun b => ?_)) | (refine allT (fun τ => ?_)) | (refine brP (fun h => ?_) (fun h => ?_) <;> (try simp only [zgx, zbx] at h)) | (refine gd ?_) | fail)
  rename_i b2
  refine actsP_U (H2 := [_, _]) hX (pick_perm rfl (pick_perm rfl (List.Perm.refl _))) ?_
  rintro _ _ ⟨rfl, rfl⟩
  simp only [List.cons_append, List.nil_append]
  repeat' (first | (simp (disch := first | exact dd | fail) only [go_sem, hg]) | (refine allI (fun b => ?_)) | (refine allT (fun τ => ?_)) | (refine brP (fun h => ?_) (fun h => ?_) <;> (try simp only [zgx, zbx] at h)) | (refine gd ?_) | fail)
  · exact ⟨_, _, leVH.of (leV.refl _) ⟨_, List.Sublist.cons _ (List.Sublist.cons _ (List.Sublist.refl _)), List.Perm.refl _⟩, ⟨_, rfl⟩, rfl⟩
  · refine loopI (ι := Nat × Int) (fun y => y.1 ≤ D.ns.length ∧ 0 ≤ y.2 ∧ y.2 ≤ 1000 * y.1) (fun y => [(7, .int .i64 y.1), (6, .msl 7001 8 b1 0 D.ns.length c1), (5, .int .i64 y.2), (3, .ptr 3 b 0), (2, .ptr 2 b2 0)]) (fun y => _) (fun y => D.ns.length - y.1) (0, 0) (by dsimp only; omega) (Ents.envH (by simp [go_sem]) rfl) ?_
    rintro ⟨k, n⟩ hk1
    dsimp only at hk1 ⊢
    simp (disch := first | exact dd | fail) only [go_sem]
    refine brP (fun hb => ?_) (fun hb => ?_)
    · have hlt : k < D.ns.length := by simpa using hb
      have e7 := e7 k hlt
      have hke := hke _ (getD_memA no0 hlt)
      rw [← nAt] at hke
      generalize nAt D.ns k = nd at *
      have hle := len_en nd.es
      rw [NoC_eq] at e7
      simp only [List.getD_cons_zero, List.getD_cons_succ] at e7
      repeat' (first | (simp (disch := first | exact dd | fail) only [go_sem]) | (refine allI (fun b => ?_)) | (refine allT (fun τ => ?_)) | (refine brP (fun h => ?_) (fun h => ?_) <;> (try simp only [zgx, zbx] at h)) | (refine gd ?_) | fail)
      refine loopI (ι := Nat × Int) (fun y => y.1 ≤ nd.es.length ∧ 0 ≤ y.2 ∧ y.2 ≤ 1000 * k + y.1) (fun y => [(8, .int .i64 y.1), (7, .int .i64 k), (6, .msl 7001 8 b1 0 D.ns.length c1), (5, .int .i64 y.2), (3, .ptr 3 b 0), (2, .ptr 2 b2 0)]) (fun y => _) (fun y => nd.es.length - y.1) (0, n) (by dsimp only; omega) (Ents.envH (by simp [go_sem]) rfl) ?_
      rintro ⟨j, m⟩ hj1
      dsimp only at hj1 ⊢
      simp (disch := first | exact dd | fail) only [go_sem, e7]
      refine ⟨by omega, by omega, ?_⟩
      refine brP (fun hb => ?_) (fun hb => ?_)
      · have hlt2 : j < nd.es.length := by simpa using hb
        have e4 : (nd.es.flatMap EnC).getD (j * 2 + 1) .any = .int .i64 (nd.es.getD j en0).ino := by rw [gEn hlt2 (by omega)]; rfl
        generalize nd.es.getD j en0 = y at *
        repeat' (first | (simp (disch := first | exact dd | fail) only [go_sem, e7, e4]) | (refine allI (fun b => ?_)) | (refine allT (fun τ => ?_)) | (refine brP (fun h => ?_) (fun h => ?_) <;> (try simp only [zgx, zbx] at h)) | (refine gd ?_) | fail)
        · exact ⟨⟨(j + 1, m + 1), by dsimp only; omega⟩, by dsimp only; omega, Ents.envH (by simp [go_sem]) rfl⟩
        · exact ⟨⟨(j + 1, m), by dsimp only; omega⟩, by dsimp only; omega, Ents.envH (by simp [go_sem]) rfl⟩
      · repeat' (first | (simp (disch := first | exact dd | fail) only [go_sem]) | (refine allI (fun b => ?_)) | (refine allT (fun τ => ?_)) | (refine brP (fun h => ?_) (fun h => ?_) <;> (try simp only [zgx, zbx] at h)) | (refine gd ?_) | fail)
        exact ⟨⟨(k + 1, m), by dsimp only; omega⟩, by dsimp only; omega, Ents.envH (by simp [go_sem]) rfl⟩
    · repeat' (first | (simp (disch := first | exact dd | fail) only [go_sem]) | (refine allI (fun b => ?_)) | (refine allT (fun τ => ?_)) | (refine brP (fun h => ?_) (fun h => ?_) <;> (try simp only [zgx, zbx] at h)) | (refine gd ?_) | fail)
      exact ⟨_, _, leVH.of (leV.refl _) ⟨_, List.Sublist.cons _ (List.Sublist.cons _ (List.Sublist.refl _)), List.Perm.refl _⟩, ⟨_, rfl⟩, rfl⟩
end Go.Proofs.YtkdblnejpmbnfaaGreat.F
namespace Go.Proofs.YtkdblnejpmbnfaaGreat.F
open Go Go.Lx
set_option linter.unusedSimpArgs false
set_option linter.unusedVariables false
set_option maxRecDepth 100000
set_option maxHeartbeats 8000000
theorem set_rows2 {fs : List Dv} {dv : Nat} {D' : Dv} (h : dv < fs.length) : (fs.set dv D').flatMap DvC = ((fs.flatMap DvC).set (dv * 2) (.int .i64 D'.nx)).set (dv * 2 + 1) (.sl 8 D'.ns.length (D'.ns.flatMap NoC)) := by
  have hl := len_dv fs
  have h1 := putC_rows (f := DvC) (w := 2) (fun _ => rfl) dv0 ⟨D'.nx, (fs.getD dv dv0).ns⟩ fs (j := 0) (.int .i64 D'.nx) h (by omega) rfl
  have h2 := putC_rows (f := DvC) (w := 2) (fun _ => rfl) dv0 D' (fs.set dv ⟨D'.nx, (fs.getD dv dv0).ns⟩) (i := dv) (j := 1) (.sl 8 D'.ns.length (D'.ns.flatMap NoC)) (by simpa using h) (by omega) (by simp [List.getD, h]; rfl)
  rw [List.set_set, ← h1, Nat.add_zero, putC_set _ (by rw [putC_len _ (by omega)]; omega), putC_set _ (by omega)] at h2
  exact h2.symm
theorem FoC_set {fs : List Dv} {dv : Nat} {D' : Dv} {v : LV} (h : dv < fs.length) : FoC (fs.set dv D') dv v = putC (FoC fs dv v) (dv * 2) (.int .i64 D'.nx) := by
  have hl := len_dv fs
  have hl2 := len_dv (fs.set dv D')
  rw [List.length_set] at hl2
  have hF := FoC_len v h
  rw [putC_set _ (by omega), FoC, FoC, putC_set _ (by omega), putC_set _ (by omega), set_rows2 h, List.set_set, List.set_comm _ _ (by omega)]
theorem FoC_same {fs : List Dv} {dv : Nat} {D' : Dv} {v : LV} (h : dv < fs.length) (hn : D'.nx = (fs.getD dv dv0).nx) : FoC (fs.set dv D') dv v = FoC fs dv v := by
  rw [FoC_set h, hn, ← FoC_nx v h, putC_set _ (by rw [FoC_len v h]; omega)]
  have h2 : dv * 2 < (FoC fs dv v).length := by rw [FoC_len v h]; omega
  simp [List.getD, h2]
theorem getD_set {fs : List Dv} {dv : Nat} {D' : Dv} (h : dv < fs.length) : (fs.set dv D').getD dv dv0 = D' := by simp [List.getD, h]
/-- one device changed -/
def setD (fs : List Dv) (dv : Nat) (D : Dv) : List Dv := fs.set dv D
/-- the entries of one node changed -/
def setEs (ns : List No) (k : Nat) (es : List En) : List No := ns.set k { nAt ns k with es := es }
theorem setEs_len (ns : List No) (k : Nat) (es : List En) : (setEs ns k es).length = ns.length := by simp [setEs]
theorem FoH_ns {fs : List Dv} {dv b c b1 c1 : Nat} {ns' : List No} (h : dv < fs.length) (hl : ns'.length = (fs.getD dv dv0).ns.length) : FoH (setD fs dv ⟨(fs.getD dv dv0).nx, ns'⟩) dv b c b1 c1 = [(7000, .blk b (Sp (FoC fs dv (.msl 7001 8 b1 0 (fs.getD dv dv0).ns.length c1)) ((c - fs.length) * 2))), (7001, .blk b1 (Sp (ns'.flatMap NoC) ((c1 - (fs.getD dv dv0).ns.length) * 8)))] := by
  rw [FoH_eq, setD, getD_set h, FoC_same (D' := ⟨(fs.getD dv dv0).nx, ns'⟩) h rfl, List.length_set]
  dsimp only
  rw [hl]
theorem setEs_rows {ns : List No} {k z : Nat} {es : List En} (h : k < ns.length) : putC (Sp (ns.flatMap NoC) z) (k * 8 + 7) (.sl 2 es.length (es.flatMap EnC)) = Sp ((setEs ns k es).flatMap NoC) z := by
  have hl := len_no ns
  have : (k + 1) * 8 ≤ ns.length * 8 := Nat.mul_le_mul_right 8 h
  rw [putC_Sp _ (by omega), putC_rows (f := NoC) (w := 8) (fun _ => rfl) no0 { nAt ns k with es := es } ns _ h (by omega) (Eq.trans rfl rfl), setEs]
theorem leVs_putC {cs : List LV} {o : Nat} {v v' : LV} (h : leV v v') : leVs (putC cs o v) (putC cs o v') := leVs.app (leVs.app (leVs.refl _) ⟨h, trivial⟩) (leVs.refl _)
/-- entries behind a change -/
def EnR (s : List UInt8) (ino : Int) (es es' : List En) : Prop := es'.length ≤ es.length + 1 ∧ ∀ e ∈ es', e ∈ es ∨ e = ⟨s, ino⟩
theorem enterO (fs : List Dv) (dv : Nat) (i : Int) (s : List UInt8) (ino : Int) (b c b1 c1 : Nat) (h : OkO fs dv c c1) (k : Nat) (hi : idx fs ⟨dv, i⟩ = (k : Nat)) (hkl : k < (fs.getD dv dv0).ns.length) :
    LCalls Tryz.prog gl 151 [FoV b fs.length c, AtL ⟨dv, i⟩, .str s, .int .i64 ino] (FoH fs dv b c b1 c1) fun r H => ∃ es, EnR s ino (nAt (fs.getD dv dv0).ns k).es es ∧ H = FoH (setD fs dv ⟨(fs.getD dv dv0).nx, setEs (fs.getD dv dv0).ns k es⟩) dv b c b1 c1 := by
  have hX := ixO fs dv i b c b1 c1 h
  obtain ⟨hf, hdv, hc, hc1⟩ := h
  refine fn_viewT Tryz.func151 t151 Tryz.ntmps151 (by simp) ?_
  have hl := hf.1
  obtain ⟨hk, hke⟩ := hf.2 _ (getD_memA dv0 hdv)
  have hFl := FoC_len (.msl 7001 8 b1 0 (fs.getD dv dv0).ns.length c1) hdv
  have hg := FoC_v (.msl 7001 8 b1 0 (fs.getD dv dv0).ns.length c1) hdv
  rw [← getSp (k := (c - fs.length) * 2) (by omega)] at hg
  have hFS := length_Sp (FoC fs dv (.msl 7001 8 b1 0 (fs.getD dv dv0).ns.length c1)) ((c - fs.length) * 2)
  have hH := fun es => FoH_ns (b := b) (c := c) (b1 := b1) (c1 := c1) hdv (setEs_len (fs.getD dv dv0).ns k es)
  simp only [hH]
  rw [FoH_eq, hi] at *
  generalize Sp (FoC fs dv (.msl 7001 8 b1 0 (fs.getD dv dv0).ns.length c1)) ((c - fs.length) * 2) = CC at *
  generalize fs.getD dv dv0 = D at *
  have hln := len_no D.ns
  have hS := length_Sp (D.ns.flatMap NoC) ((c1 - D.ns.length) * 8)
  have e8 := tNoS (ns := D.ns) (i := k) (k := (c1 - D.ns.length) * 8) hkl
  have hrow := fun es => setEs_rows (z := (c1 - D.ns.length) * 8) (es := es) hkl
  have hes := hke _ (getD_memA no0 hkl)
  rw [← nAt] at hes
  generalize Sp (D.ns.flatMap NoC) ((c1 - D.ns.length) * 8) = SS at *
  generalize nAt D.ns k = n at *
  have hle := len_en n.es
  rw [NoC_eq] at e8
  have hks : k * 8 + 8 ≤ SS.length := by omega
  unfold c151 r151
  rw [AtL_eq, FoV_eq] at *
  repeat' (first | (simp (disch := first | exact dd | fail) only [go_sem, hg]) | (refine allI (fun b => ?_)) | (refine allT (fun τ => ?_)) | (refine brP (fun h => ?_) (fun h => ?_) <;> (try simp only [zgx, zbx] at h)) | (refine gd ?_) | fail)
  refine actsQ_of hX (pick_perm rfl (pick_perm rfl (List.Perm.refl _))) ?_
  rintro _ _ ⟨rfl, rfl⟩
  simp only [List.cons_append, List.nil_append]
  repeat' (first | (simp (disch := first | exact dd | fail) only [go_sem, hg, e8, zNo]) | (refine allI (fun b => ?_)) | (refine allT (fun τ => ?_)) | (refine brP (fun h => ?_) (fun h => ?_) <;> (try simp only [zgx, zbx] at h)) | (refine gd ?_) | fail)
  rename_i bp b4 b5
  refine loopI (ι := Nat × Bool × List En × Tok) (fun y => y.1 ≤ n.es.length ∧ y.2.2.1.length ≤ y.1 + (if y.2.1 = true then 1 else 0) ∧ ∀ e ∈ y.2.2.1, e ∈ n.es ∨ e = ⟨s, ino⟩) (fun y => [(11, .int .i64 y.1), (10, .bool y.2.1), (9, .osl 50 y.2.2.2 2 y.2.2.1.length (y.2.2.1.flatMap EnC)), (8, .ptr 8 b 0), (5, .ptr 5 b5 0), (4, .ptr 4 b4 0), (2, .str s), (3, .int .i64 ino)]) (fun y => [(50, .tok y.2.2.2), (8, .blk b [.int .i64 n.ino, .int .i64 n.kind, .int .i64 n.mode, .int .i64 n.uid, .int .i64 n.gid, .int .i64 n.par, .str n.tg, .sl 2 n.es.length (n.es.flatMap EnC)]), (7000, .blk bp CC), (7001, .blk b1 SS), (5, .blk b5 [.int .i64 dv, .int .i64 i]), (4, .blk b4 [.msl 7000 2 bp 0 fs.length c])]) (fun y => n.es.length - y.1) (0, ino == 0, [], ⟨0, 0, 0⟩) ⟨by dsimp only; omega, by simp, by simp⟩ ?_ ?_
  · refine Ents.dum 50 (Ents.envH ⟨leV.refl _, leV.refl _, leV.nil_osl _ _ _ _, leV.refl _, leV.refl _, leV.refl _, leV.refl _, leV.refl _, trivial⟩ rfl)
  rintro ⟨j, d, l, τ⟩ ⟨hj, hll, hlm⟩
  dsimp only at hj hll hlm ⊢
  simp (disch := first | exact dd | fail) only [go_sem]
  refine brP (fun hb => ?_) (fun hb => ?_)
  · have hlt : j < n.es.length := by simpa using hb
    have e3 : (n.es.flatMap EnC).getD (j * 2) .any = .str (n.es.getD j en0).nm := by rw [← Nat.add_zero (j * 2), gEn hlt (by omega)]; rfl
    have e4 : ((n.es.flatMap EnC).drop (j * 2)).take 2 = EnC (n.es.getD j en0) := take_rows (f := EnC) (w := 2) (fun _ => rfl) en0 _ hlt
    have hm := getD_memA en0 hlt
    have hlb : l.length ≤ j + 1 := by split at hll <;> omega
    generalize n.es.getD j en0 = y at *
    rw [EnC_eq] at e4
    repeat' (first | (simp (disch := first | exact dd | fail) only [go_sem, e3, e4, zEn]) | (refine allI (fun b => ?_)) | (refine allT (fun τ => ?_)) | (refine brP (fun h => ?_) (fun h => ?_) <;> (try simp only [zgx, zbx] at h)) | (refine gd ?_) | fail)
    · obtain ⟨rfl, -⟩ := h
      rw [if_neg (by decide)] at hll
      refine ⟨by simp only [roomy]; omega, fun τ2 => ?_⟩
      repeat' (first | (simp (disch := first | exact dd | fail) only [go_sem, e3, e4, zEn]) | (refine allI (fun b => ?_)) | (refine allT (fun τ => ?_)) | (refine brP (fun h => ?_) (fun h => ?_) <;> (try simp only [zgx, zbx] at h)) | (refine gd ?_) | fail)
      · refine ⟨by simp only [roomy]; omega, fun τ3 => ⟨⟨(j + 1, true, l ++ [⟨s, ino⟩] ++ [y], τ3), by dsimp only; omega, by simp; omega, ?_⟩, by dsimp only; omega, Ents.envH ⟨leV.refl _, leV.refl _, leV.of_eq ?_, leV.refl _, leV.refl _, leV.refl _, leV.refl _, leV.refl _, trivial⟩ rfl⟩⟩
        · intro e he
          simp only [List.mem_append, List.mem_singleton] at he
          rcases he with (he | rfl) | rfl
          · exact hlm e he
          · exact .inr rfl
          · exact .inl hm
        · simp [go_sem, List.flatMap_append, EnC_eq]
      · refine ⟨⟨(j + 1, true, l ++ [⟨s, ino⟩], τ2), by dsimp only; omega, by simp; omega, ?_⟩, by dsimp only; omega, Ents.envH ⟨leV.refl _, leV.refl _, leV.of_eq ?_, leV.refl _, leV.refl _, leV.refl _, leV.refl _, leV.refl _, trivial⟩ rfl⟩
        · intro e he
          simp only [List.mem_append, List.mem_singleton] at he
          rcases he with he | rfl
          · exact hlm e he
          · exact .inr rfl
        · simp [go_sem, List.flatMap_append, EnC_eq]
    · refine ⟨by simp only [roomy]; omega, fun τ3 => ⟨⟨(j + 1, d, l ++ [y], τ3), by dsimp only; omega, by simp; omega, ?_⟩, by dsimp only; omega, Ents.envH ⟨leV.refl _, leV.refl _, leV.of_eq ?_, leV.refl _, leV.refl _, leV.refl _, leV.refl _, leV.refl _, trivial⟩ rfl⟩⟩
      · intro e he
        simp only [List.mem_append, List.mem_singleton] at he
        rcases he with he | rfl
        · exact hlm e he
        · exact .inl hm
      · simp [go_sem, List.flatMap_append, EnC_eq]
    · exact ⟨⟨(j + 1, d, l, τ), by dsimp only; omega, by dsimp only; omega, hlm⟩, by dsimp only; omega, Ents.envH (by simp [go_sem]) rfl⟩
  · have hje : j = n.es.length := by simp only [decide_eq_false_iff_not] at hb; omega
    repeat' (first | (simp (disch := first | exact dd | fail) only [go_sem, e8, hg, zEn]) | (refine allI (fun b => ?_)) | (refine allT (fun τ => ?_)) | (refine brP (fun h => ?_) (fun h => ?_) <;> (try simp only [zgx, zbx] at h)) | (refine gd ?_) | fail)
    · subst h
      rw [if_neg (by decide)] at hll
      refine ⟨by simp only [roomy]; omega, fun τ2 => ?_⟩
      refine ⟨by omega, by omega, ?_⟩
      refine actsQ_of hX (pick_perm rfl (pick_perm rfl (List.Perm.refl _))) ?_
      rintro _ _ ⟨rfl, rfl⟩
      simp only [List.cons_append, List.nil_append]
      repeat' (first | (simp (disch := first | exact dd | fail) only [go_sem, e8, hg, zEn, putC_eq]) | (refine allI (fun b => ?_)) | (refine allT (fun τ => ?_)) | (refine brP (fun h => ?_) (fun h => ?_) <;> (try simp only [zgx, zbx] at h)) | (refine gd ?_) | fail)
      refine ⟨_, _, leVH.gen (H3 := [(7000, .blk bp CC), (7001, .blk b1 (Sp ((setEs D.ns k (l ++ [⟨s, ino⟩])).flatMap NoC) ((c1 - D.ns.length) * 8)))]) (leV.refl _) (List.Sublist.cons_cons _ (List.Sublist.cons_cons _ (List.nil_sublist _))) ⟨⟨rfl, leVs.refl _⟩, ⟨rfl, ?_⟩, trivial⟩ (List.Perm.refl _) rfl, l ++ [⟨s, ino⟩], ⟨by simp; omega, ?_⟩, rfl⟩
      · rw [← hrow]
        exact leVs_putC ((leV.osl_sl _ _ _ _ _).trans (leV.of_eq (by simp [EnC_eq, List.flatMap_append])))
      · intro e he
        simp only [List.mem_append, List.mem_singleton] at he
        rcases he with he | rfl
        · exact hlm e he
        · exact .inr rfl
    · subst h
      rw [if_pos rfl] at hll
      refine actsQ_of hX (pick_perm rfl (pick_perm rfl (List.Perm.refl _))) ?_
      rintro _ _ ⟨rfl, rfl⟩
      simp only [List.cons_append, List.nil_append]
      repeat' (first | (simp (disch := first | exact dd | fail) only [go_sem, e8, hg, zEn, putC_eq]) | (refine allI (fun b => ?_)) | (refine allT (fun τ => ?_)) | (refine brP (fun h => ?_) (fun h => ?_) <;> (try simp only [zgx, zbx] at h)) | (refine gd ?_) | fail)
      refine ⟨_, _, leVH.gen (H3 := [(7000, .blk bp CC), (7001, .blk b1 (Sp ((setEs D.ns k (l)).flatMap NoC) ((c1 - D.ns.length) * 8)))]) (leV.refl _) (List.Sublist.cons_cons _ (List.Sublist.cons_cons _ (List.nil_sublist _))) ⟨⟨rfl, leVs.refl _⟩, ⟨rfl, ?_⟩, trivial⟩ (List.Perm.refl _) rfl, l, ⟨by omega, ?_⟩, rfl⟩
      · rw [← hrow]
        exact leVs_putC ((leV.osl_sl _ _ _ _ _).trans (leV.of_eq (by simp [EnC_eq, List.flatMap_append])))
      · exact hlm
end Go.Proofs.YtkdblnejpmbnfaaGreat.F
namespace Go.Proofs.YtkdblnejpmbnfaaGreat.F
open Go Go.Lx
set_option linter.unusedSimpArgs false
set_option linter.unusedVariables false
set_option maxRecDepth 100000
set_option maxHeartbeats 8000000
theorem FoC_put {fs : List Dv} {dv : Nat} {v v' : LV} (h : dv < fs.length) : putC (FoC fs dv v) (dv * 2 + 1) v' = FoC fs dv v' := by
  have hl := len_dv fs
  rw [FoC, FoC, putC_set v' (by rw [putC_len _ (by omega)]; omega), putC_set v (by omega), putC_set v' (by omega), List.set_set]
def keepN (i : Int) (n : No) : Bool := n.ino != i
theorem dropO (fs : List Dv) (dv : Nat) (i : Int) (b c b1 c1 : Nat) (h : OkO fs dv c c1) :
    LCalls Tryz.prog gl 153 [FoV b fs.length c, AtL ⟨dv, i⟩] (FoH fs dv b c b1 c1) fun r H => ∃ ns b1 c1, ns.length ≤ c1 ∧ (ns = (fs.getD dv dv0).ns ∨ ns = (fs.getD dv dv0).ns.filter (keepN i)) ∧ H = FoH (setD fs dv ⟨(fs.getD dv dv0).nx, ns⟩) dv b c b1 c1 := by
  have hX := linksO fs dv i b c b1 c1 h
  obtain ⟨hf, hdv, hc, hc1⟩ := h
  refine fn_viewT Tryz.func153 t153 Tryz.ntmps153 (by simp) ?_
  have hl := hf.1
  obtain ⟨hk, hke⟩ := hf.2 _ (getD_memA dv0 hdv)
  have hFl := FoC_len (.msl 7001 8 b1 0 (fs.getD dv dv0).ns.length c1) hdv
  have hg := FoC_v (.msl 7001 8 b1 0 (fs.getD dv dv0).ns.length c1) hdv
  rw [← getSp (k := (c - fs.length) * 2) (by omega)] at hg
  have hFS := length_Sp (FoC fs dv (.msl 7001 8 b1 0 (fs.getD dv dv0).ns.length c1)) ((c - fs.length) * 2)
  have hP := fun v => putC_Sp (k := (c - fs.length) * 2) v (show dv * 2 + 1 < (FoC fs dv (.msl 7001 8 b1 0 (fs.getD dv dv0).ns.length c1)).length by omega)
  simp only [FoC_put hdv] at hP
  have hH : ∀ ns b1 c1, FoH (setD fs dv ⟨(fs.getD dv dv0).nx, ns⟩) dv b c b1 c1 = [(7000, .blk b (Sp (FoC fs dv (.msl 7001 8 b1 0 ns.length c1)) ((c - fs.length) * 2))), (7001, .blk b1 (Sp (ns.flatMap NoC) ((c1 - ns.length) * 8)))] := fun ns b1 c1 => by
    rw [FoH_eq, setD, getD_set hdv, FoC_same (D' := ⟨(fs.getD dv dv0).nx, ns⟩) hdv rfl, List.length_set]
  simp only [hH]
  rw [FoH_eq] at *
  generalize hCC : Sp (FoC fs dv (.msl 7001 8 b1 0 (fs.getD dv dv0).ns.length c1)) ((c - fs.length) * 2) = CC at *
  generalize fs.getD dv dv0 = D at *
  have hln := len_no D.ns
  have hS := length_Sp (D.ns.flatMap NoC) ((c1 - D.ns.length) * 8)
  have e3 := fun k h => gNoS (ns := D.ns) (i := k) (j := 0) (k := (c1 - D.ns.length) * 8) h (by omega)
  have e8 := fun k h => tNoS (ns := D.ns) (i := k) (k := (c1 - D.ns.length) * 8) h
  generalize hSS : Sp (D.ns.flatMap NoC) ((c1 - D.ns.length) * 8) = SS at *
  unfold c153 r153
  rw [AtL_eq, FoV_eq] at *
  repeat' (first | (simp (disch := first | exact dd | fail) only [go_sem]) | (refine allI (fun b => ?_)) | (refine allT (fun τ => ?_)) | (refine brP (fun h => ?_) (fun h => ?_) <;> (try simp only [zgx, zbx] at h)) | (refine gd ?_) | fail)
  rename_i bp b2
  refine actsP_U (H2 := [_, _]) hX (pick_perm rfl (pick_perm rfl (List.Perm.refl _))) ?_
  rintro _ _ ⟨⟨n, rfl⟩, rfl⟩
  simp only [List.cons_append, List.nil_append]
  repeat' (first | (simp (disch := first | exact dd | fail) only [go_sem, hg]) | (refine allI (fun b => ?_)) | (refine allT (fun τ => ?_)) | (refine brP (fun h => ?_) (fun h => ?_) <;> (try simp only [zgx, zbx] at h)) | (refine gd ?_) | fail)
  · exact ⟨_, _, leVH.of (leV.refl _) ⟨_, List.Sublist.cons _ (List.Sublist.cons _ (List.Sublist.refl _)), List.Perm.refl _⟩, D.ns, b1, c1, hc1, .inl rfl, by rw [hCC, hSS]⟩
  · refine loopI (ι := Nat × List No × Nat × Nat) (fun y => y.1 ≤ D.ns.length ∧ y.2.1 = (D.ns.take y.1).filter (keepN i) ∧ y.2.1.length ≤ y.2.2.2) (fun y => [(6, .int .i64 y.1), (5, .msl 7001 8 b1 0 D.ns.length c1), (4, .msl 7002 8 y.2.2.1 0 y.2.1.length y.2.2.2), (3, .ptr 3 b 0), (2, .ptr 2 b2 0)]) (fun y => [(7002, .blk y.2.2.1 (Sp (y.2.1.flatMap NoC) ((y.2.2.2 - y.2.1.length) * 8))), (3, .blk b [.int .i64 dv, .int .i64 i]), (2, .blk b2 [.msl 7000 2 bp 0 fs.length c]), (7000, .blk bp CC), (7001, .blk b1 SS)]) (fun y => D.ns.length - y.1) (0, [], 0, 0) (by simp) ?_ ?_
    · refine Ents.emp 7002 (Ents.le ⟨leV.refl _, leV.refl _, leV.nil_msl _ _ _, leV.refl _, leV.refl _, trivial⟩ ⟨⟨rfl, by simp [Sp, leVs]⟩, ⟨rfl, leVs.refl _⟩, ⟨rfl, leVs.refl _⟩, ⟨rfl, leVs.refl _⟩, ⟨rfl, leVs.refl _⟩, trivial⟩)
    rintro ⟨k, L, bm, cm⟩ ⟨hk1, hkL, hk2⟩
    dsimp only at hk1 hk2 hkL ⊢
    have htl := len_no L
    have hkk : L.length ≤ 1000 := by rw [hkL]; exact Nat.le_trans (List.length_filter_le _ _) (by rw [List.length_take]; omega)
    have hts := fun h : k < D.ns.length => take_succ_getD no0 D.ns h
    simp (disch := first | exact dd | fail) only [go_sem]
    refine brP (fun hb => ?_) (fun hb => ?_)
    · have hlt : k < D.ns.length := by simpa using hb
      have e3 := e3 k hlt
      have e8 := e8 k hlt
      replace hts := hts hlt
      rw [← nAt] at hts
      have hes := hke _ (getD_memA no0 hlt)
      rw [← nAt] at hes
      generalize nAt D.ns k = nd at *
      rw [NoC_eq, Nat.add_zero] at e3
      simp only [List.getD_cons_zero, List.getD_cons_succ] at e3
      rw [NoC_eq] at e8
      have hF : (D.ns.take (k + 1)).filter (keepN i) = L ++ (if nd.ino = i then [] else [nd]) := by
        rw [hts, List.filter_append, ← hkL]
        congr 1
        by_cases h : nd.ino = i <;> simp [keepN, h]
      repeat' (first | (simp (disch := first | exact dd | fail) only [go_sem, e3, e8, zNo]) | (refine allI (fun b => ?_)) | (refine allT (fun τ => ?_)) | (refine brP (fun h => ?_) (fun h => ?_) <;> (try simp only [zgx, zbx] at h)) | (refine gd ?_) | fail)
      · rw [if_neg h] at hF
        refine .inl ⟨by rw [length_Sp, htl]; omega, by rw [length_Sp, htl]; omega, by simp only [roomy]; omega, fun b4 c4 h4 => ?_⟩
        rw [take_Sp _ htl]
        have hLl : (L ++ [nd]).length = L.length + 1 := by simp
        refine ⟨⟨(k + 1, L ++ [nd], b4, c4), by dsimp only; omega, hF.symm, by dsimp only; omega⟩, by dsimp only; omega, ?_⟩
        dsimp only
        rw [hLl]
        refine Ents.le (by simp [go_sem]) ⟨⟨rfl, ?_⟩, ⟨rfl, leVs.refl _⟩, ⟨rfl, leVs.refl _⟩, ⟨rfl, leVs.refl _⟩, ⟨rfl, leVs.refl _⟩, trivial⟩
        rw [List.flatMap_append, List.flatMap_singleton, Sp, NoC_eq]
        exact leVs.refl _
      · rw [if_pos (by simpa using h), List.append_nil] at hF
        exact ⟨⟨(k + 1, L, bm, cm), by dsimp only; omega, hF.symm, hk2⟩, by dsimp only; omega, Ents.envH (by simp [go_sem]) rfl⟩
    · have hje : k = D.ns.length := by simp only [decide_eq_false_iff_not] at hb; omega
      rw [hje, List.take_length] at hkL
      repeat' (first | (simp (disch := first | exact dd | fail) only [go_sem, hg, putC_eq]) | (refine allI (fun b => ?_)) | (refine allT (fun τ => ?_)) | (refine brP (fun h => ?_) (fun h => ?_) <;> (try simp only [zgx, zbx] at h)) | (refine gd ?_) | fail)
      rw [hP]
      refine ⟨_, [(7000, _), (7001, _)], leVH.gen (H3 := [(7002, .blk bm (Sp (L.flatMap NoC) ((cm - L.length) * 8))), (7000, .blk bp (Sp (FoC fs dv (.msl 7001 8 bm 0 L.length cm)) ((c - fs.length) * 2)))]) (leV.refl _) (List.Sublist.cons_cons _ (List.Sublist.cons _ (List.Sublist.cons _ (List.Sublist.cons_cons _ (List.nil_sublist _))))) ⟨⟨rfl, leVs.refl _⟩, ⟨rfl, ?_⟩, trivial⟩ (List.Perm.swap _ _ _) rfl, L, bm, cm, hk2, .inr hkL, rfl⟩
      rw [Sp, Sp]
      exact leVs.app (leVs_putC (leV.msl_name _ _ _ _ _ _ _)) (leVs.refl _)
end Go.Proofs.YtkdblnejpmbnfaaGreat.F
namespace Go.Proofs.YtkdblnejpmbnfaaGreat.F
open Go Go.Lx
set_option linter.unusedSimpArgs false
set_option linter.unusedVariables false
def fnd (ns : List No) (x : Int) : Option No := ns.find? fun n => n.ino == x
theorem fnd_ix (ns : List No) (x : Int) : (ixI ns x = -1 ∧ fnd ns x = none) ∨ ∃ i, i < ns.length ∧ ixI ns x = (i : Nat) ∧ fnd ns x = some (nAt ns i) ∧ (nAt ns i).ino = x ∧ ∀ j, j < i → (nAt ns j).ino ≠ x := by
  rcases ixI_cases ns x with ⟨h1, h2⟩ | ⟨i, h1, h2, h3, h4⟩
  · refine .inl ⟨h1, ?_⟩
    rw [fnd, List.find?_eq_none]
    intro n hn
    obtain ⟨j, hj, rfl⟩ := List.getElem_of_mem hn
    have := h2 j hj
    simp only [nAt, List.getD, hj, List.getElem?_eq_getElem, Option.getD_some] at this
    simpa using this
  · refine .inr ⟨i, h1, h2, ?_, h3, h4⟩
    rw [fnd, List.find?_eq_some_iff_getElem]
    refine ⟨by simpa using h3, i, h1, by simp [nAt, List.getD, h1], fun j hj => ?_⟩
    have := h4 j hj
    simp only [nAt, List.getD, show j < ns.length by omega, List.getElem?_eq_getElem, Option.getD_some] at this
    simpa using this
theorem fnd_mem {ns : List No} {x : Int} {n : No} (h : fnd ns x = some n) : n ∈ ns ∧ n.ino = x := by
  rw [fnd, List.find?_eq_some_iff_append] at h
  obtain ⟨h1, us, ws, h2, _⟩ := h
  exact ⟨by rw [h2]; simp, by simpa using h1⟩
theorem fnd_set {ns : List No} {x : Int} {k : Nat} {n' : No} (hk : ixI ns x = (k : Nat)) (hl : k < ns.length) (hn : n'.ino = x) (y : Int) : fnd (ns.set k n') y = if y = x then some n' else fnd ns y := by
  rcases fnd_ix ns x with ⟨h1, _⟩ | ⟨i, h1, h2, h3, h4, h5⟩
  · rw [h1] at hk; omega
  obtain rfl : i = k := by omega
  have hget : ∀ j, j < ns.length → nAt (ns.set i n') j = if j = i then n' else nAt ns j := fun j hj => by
    simp only [nAt, List.getD, List.getElem?_set]
    by_cases e : i = j
    · subst e; simp [hj]
    · rw [if_neg e, if_neg (by omega)]
  rcases fnd_ix (ns.set i n') y with ⟨g1, g2⟩ | ⟨j, g1, g2, g3, g4, g5⟩
  · rw [g2]
    have hno : ∀ j, j < ns.length → (nAt (ns.set i n') j).ino ≠ y := by
      rcases ixI_cases (ns.set i n') y with ⟨_, q⟩ | ⟨_, _, q, _⟩
      · simpa using q
      · rw [g1] at q; omega
    have hyx : y ≠ x := fun e => by
      have := hno i hl
      rw [hget i hl, if_pos rfl] at this
      exact this (by rw [hn, e])
    rw [if_neg hyx]
    rcases fnd_ix ns y with ⟨_, q⟩ | ⟨j, q1, q2, q3, q4, _⟩
    · rw [q]
    · have := hno j q1
      rw [hget j q1] at this
      split at this
      · rename_i e; subst e; exact absurd (h4.symm.trans q4).symm hyx
      · exact absurd q4 this
  · rw [List.length_set] at g1
    rw [g3, hget j g1]
    by_cases hyx : y = x
    · subst hyx
      rw [if_pos rfl]
      have hji : j = i := by
        rcases Nat.lt_trichotomy j i with h | h | h
        · have := h5 j h
          rw [hget j g1, if_neg (by omega)] at g4
          exact absurd g4 this
        · exact h
        · have := g5 i h
          rw [hget i hl, if_pos rfl] at this
          exact absurd hn this
      rw [if_pos hji]
    · rw [if_neg hyx]
      have hji : j ≠ i := fun e => by
        rw [hget j g1, if_pos e, hn] at g4
        exact hyx g4.symm
      rw [if_neg hji]
      rw [hget j g1, if_neg hji] at g4
      rcases fnd_ix ns y with ⟨q1, q⟩ | ⟨m, q1, q2, q3, q4, q5⟩
      · rcases ixI_cases ns y with ⟨_, q2⟩ | ⟨_, _, q2, _⟩
        · exact absurd g4 (q2 j g1)
        · rw [q1] at q2; omega
      · rw [q3]
        have hmj : m = j := by
          rcases Nat.lt_trichotomy m j with h | h | h
          · have := g5 m h
            rw [hget m q1] at this
            split at this
            · rename_i e; subst e; exact absurd (q4.symm.trans h4) hyx
            · exact absurd q4 this
          · exact h
          · exact absurd g4 (q5 j h)
        rw [hmj]
theorem fnd_filter (ns : List No) (i y : Int) : fnd (ns.filter (keepN i)) y = if y = i then none else fnd ns y := by
  rw [fnd, fnd, List.find?_filter]
  split
  · rename_i e
    subst e
    rw [List.find?_eq_none]
    intro n _
    simp [keepN]
  · rename_i e
    congr 1
    funext n
    simp only [keepN]
    by_cases h : n.ino = y
    · simp [h, e]
    · simp [h]
theorem fnd_app (ns : List No) (n : No) (y : Int) : fnd (ns ++ [n]) y = (fnd ns y).or (if n.ino = y then some n else none) := by
  rw [fnd, List.find?_append, ← fnd]
  congr 1
  by_cases h : n.ino = y <;> simp [h]
/-- a directory leads up to the root, or to a place that is none, in k steps -/
inductive LU (g : Int → Option No) : Nat → Int → Prop
  | top (x : Int) : (x = 1 ∨ ∀ n, g x = some n → n.kind ≠ 2) → LU g 0 x
  | up (x : Int) (n : No) (k : Nat) : g x = some n → n.kind = 2 → x ≠ 1 → LU g k n.par → LU g (k + 1) x
theorem LU.mono {g g' : Int → Option No} (h : ∀ x n', g' x = some n' → n'.kind = 2 → ∃ n, g x = some n ∧ n.kind = 2 ∧ n.par = n'.par) {k : Nat} {x : Int} (hl : LU g k x) : ∃ k', LU g' k' x := by
  induction hl with
  | top x hx => exact ⟨0, .top x (hx.imp id fun hx n' hn hk => by
      obtain ⟨n, h1, h2, _⟩ := h x n' hn hk
      exact hx n h1 h2)⟩
  | up x n k hg hk hx _ ih =>
    obtain ⟨k', ih⟩ := ih
    cases hg' : g' x with
    | none => exact ⟨0, .top x (.inr fun n' hn => by rw [hg'] at hn; cases hn)⟩
    | some n' =>
      by_cases hk' : n'.kind = 2
      · obtain ⟨n2, h1, h2, h3⟩ := h x n' hg' hk'
        rw [hg] at h1
        cases h1
        exact ⟨k' + 1, .up x n' k' hg' hk' hx (h3 ▸ ih)⟩
      · exact ⟨0, .top x (.inr fun m hm => by rw [hg'] at hm; cases hm; exact hk')⟩
theorem LU.fun {g : Int → Option No} {k j : Nat} {x : Int} (h : LU g k x) : LU g j x → k = j := by
  induction h generalizing j with
  | top x hx =>
    intro h2
    cases h2 with
    | top => rfl
    | up _ n k hg hk hx1 _ =>
      rcases hx with e | e
      · exact absurd e hx1
      · exact absurd hk (e n hg)
  | up x n k hg hk hx1 _ ih =>
    intro h2
    cases h2 with
    | top _ hx =>
      rcases hx with e | e
      · exact absurd e hx1
      · exact absurd hk (e n hg)
    | up _ n2 k2 hg2 hk2 _ h3 =>
      rw [hg] at hg2
      cases hg2
      rw [ih h3]
theorem php : ∀ (xs l : List Int), xs.Nodup → (∀ x ∈ xs, x ∈ l) → xs.length ≤ l.length
  | [], l, _, _ => by simp
  | x :: xs, l, hn, hs => by
    have hx := hs x (by simp)
    rw [List.nodup_cons] at hn
    have ih := php xs (l.erase x) hn.2 fun y hy => by
      have h1 := hs y (by simp [hy])
      have h2 : y ≠ x := fun e => hn.1 (e ▸ hy)
      exact (List.mem_erase_of_ne h2).2 h1
    have h3 := List.length_erase_of_mem hx
    have h4 := List.length_pos_of_mem hx
    simp only [List.length_cons]
    omega
theorem LU.chain {ns : List No} {k : Nat} {x : Int} (h : LU (fnd ns) k x) : ∃ xs : List Int, xs.length = k ∧ xs.Nodup ∧ (∀ y ∈ xs, y ∈ ns.map No.ino) ∧ ∀ y ∈ xs, ∃ j, 1 ≤ j ∧ j ≤ k ∧ LU (fnd ns) j y := by
  induction h with
  | top x hx => exact ⟨[], rfl, by simp, by simp, by simp⟩
  | up x n k hg hk hx hl ih =>
    obtain ⟨xs, h1, h2, h3, h4⟩ := ih
    refine ⟨x :: xs, by simp [h1], ?_, ?_, ?_⟩
    · rw [List.nodup_cons]
      refine ⟨fun hm => ?_, h2⟩
      obtain ⟨j, _, hj, hL⟩ := h4 x hm
      have := LU.fun hL (.up x n k hg hk hx hl)
      omega
    · intro y hy
      rcases List.mem_cons.1 hy with rfl | hy
      · obtain ⟨m1, m2⟩ := fnd_mem hg
        exact List.mem_map.2 ⟨n, m1, m2⟩
      · exact h3 y hy
    · intro y hy
      rcases List.mem_cons.1 hy with rfl | hy
      · exact ⟨k + 1, by omega, by omega, .up y n k hg hk hx hl⟩
      · obtain ⟨j, a, b, c⟩ := h4 y hy
        exact ⟨j, a, by omega, c⟩
theorem LU.le {ns : List No} {k : Nat} {x : Int} (h : LU (fnd ns) k x) : k ≤ ns.length := by
  obtain ⟨xs, h1, h2, h3, _⟩ := h.chain
  have := php xs _ h2 h3
  simpa [h1] using this
/-- the parent of a node, 0 if there is no such node -/
def parF (g : Int → Option No) (x : Int) : Int := match g x with
  | some n => n.par
  | none => 0
def parN (g : Int → Option No) : Nat → Int → Int
  | 0, x => x
  | k + 1, x => parN g k (parF g x)
/-- a parent is changed -/
theorem LU.move {g g' : Int → Option No} {at_ to : Int} (hg : ∀ x, x ≠ at_ → g' x = g x) (ha : ∀ n', g' at_ = some n' → n'.par = to) {k : Nat} (hto : LU g k to) (hno : ∀ j, j ≤ k → parN g j to ≠ at_) (hall : ∀ x, ∃ j, LU g j x) (x : Int) : ∃ j, LU g' j x := by
  have h1 : ∀ (k : Nat) (y : Int), LU g k y → (∀ j, j ≤ k → parN g j y ≠ at_) → LU g' k y := by
    intro k y h
    induction h with
    | top y hy =>
      intro hn
      have := hg y (hn 0 (Nat.le_refl _))
      exact .top y (by rw [this]; exact hy)
    | up y n k hgy hk hy1 _ ih =>
      intro hn
      have h2 := hg y (hn 0 (by omega))
      refine .up y n k (by rw [h2]; exact hgy) hk hy1 (ih fun j hj => ?_)
      have := hn (j + 1) (by omega)
      rw [parN, parF, hgy] at this
      exact this
  have hto' := h1 k to hto hno
  have hat : ∃ j, LU g' j at_ := by
    cases hg' : g' at_ with
    | none => exact ⟨0, .top _ (.inr fun n' hn => by rw [hg'] at hn; cases hn)⟩
    | some n' =>
      by_cases h2 : n'.kind = 2 ∧ at_ ≠ 1
      · exact ⟨k + 1, .up _ n' k hg' h2.1 h2.2 (by rw [ha n' hg']; exact hto')⟩
      · refine ⟨0, .top _ ?_⟩
        by_cases h3 : at_ = 1
        · exact .inl h3
        · exact .inr fun m hm hk => by rw [hg'] at hm; cases hm; exact h2 ⟨hk, h3⟩
  obtain ⟨j, hj⟩ := hall x
  induction hj with
  | top x hx =>
    by_cases e : x = at_
    · rw [e]; exact hat
    · exact ⟨0, .top x (by rw [hg x e]; exact hx)⟩
  | up x n k hgx hk hx1 _ ih =>
    by_cases e : x = at_
    · rw [e]; exact hat
    · obtain ⟨j', ih⟩ := ih
      exact ⟨j' + 1, .up x n j' (by rw [hg x e]; exact hgx) hk hx1 ih⟩
end Go.Proofs.YtkdblnejpmbnfaaGreat.F
namespace Go.Proofs.YtkdblnejpmbnfaaGreat.F
open Go Go.Lx
set_option linter.unusedSimpArgs false
set_option linter.unusedVariables false
/-- a device with at most p nodes, each with at most q entries -/
structure DI (p q : Nat) (D : Dv) : Prop where
  nx : 2 ≤ D.nx ∧ D.nx ≤ 1073741824
  len : D.ns.length ≤ p
  nod : ∀ n ∈ D.ns, n.es.length ≤ q ∧ n.par < D.nx ∧ n.ino < D.nx ∧ ∀ e ∈ n.es, e.nm.length ≤ 12
  lu : ∀ x, ∃ j, LU (fnd D.ns) j x
  tg : ∀ n ∈ D.ns, n.tg.length ≤ 1000
theorem DI.mono {p q p' q' : Nat} {D : Dv} (h : DI p q D) (h1 : p ≤ p') (h2 : q ≤ q') : DI p' q' D := ⟨h.nx, by have := h.len; omega, fun n hn => by obtain ⟨a, b, c, d⟩ := h.nod n hn; exact ⟨by omega, b, c, d⟩, h.lu, h.tg⟩
theorem nAt_mem {ns : List No} {k : Nat} (h : k < ns.length) : nAt ns k ∈ ns := getD_memA no0 h
theorem fnd_k {ns : List No} {i : Int} {k : Nat} (h : ixI ns i = (k : Nat)) : k < ns.length ∧ fnd ns i = some (nAt ns k) ∧ (nAt ns k).ino = i := by
  rcases fnd_ix ns i with ⟨h1, _⟩ | ⟨j, h1, h2, h3, h4, _⟩
  · rw [h1] at h; omega
  · obtain rfl : j = k := by omega
    exact ⟨h1, h3, h4⟩
theorem fnd_setEs {ns : List No} {i : Int} {k : Nat} {es : List En} (h : ixI ns i = (k : Nat)) (y : Int) : fnd (setEs ns k es) y = if y = i then some { nAt ns k with es := es } else fnd ns y :=
  fnd_set (n' := { nAt ns k with es := es }) h (fnd_k h).1 (by exact (fnd_k h).2.2) y
theorem DI.es {p q : Nat} {D : Dv} (h : DI p q D) {i ino : Int} {k : Nat} {s : List UInt8} {es : List En} (hk : ixI D.ns i = (k : Nat)) (hR : EnR s ino (nAt D.ns k).es es) (hs : s.length ≤ 12) : DI p (q + 1) ⟨D.nx, setEs D.ns k es⟩ := by
  obtain ⟨hkl, hf, hi⟩ := fnd_k hk
  obtain ⟨a1, a2, a3, a4⟩ := h.nod _ (nAt_mem hkl)
  refine ⟨h.nx, by rw [setEs_len]; exact h.len, fun n hn => ?_, fun x => ?_, fun n hn => (List.mem_or_eq_of_mem_set hn).elim (h.tg n) fun e => by rw [e]; exact h.tg (nAt D.ns k) (nAt_mem hkl)⟩
  · rcases List.mem_or_eq_of_mem_set hn with hn | rfl
    · obtain ⟨b1, b2, b3, b4⟩ := h.nod n hn
      exact ⟨by omega, b2, b3, b4⟩
    · refine ⟨by have := hR.1; dsimp only; omega, a2, a3, fun e he => ?_⟩
      rcases hR.2 e he with h2 | rfl
      · exact a4 e h2
      · exact hs
  · obtain ⟨j, hj⟩ := h.lu x
    refine hj.mono fun y n' hn hk' => ?_
    rw [fnd_setEs hk] at hn
    split at hn
    · rename_i e
      cases hn
      exact ⟨nAt D.ns k, by rw [e]; exact hf, hk', rfl⟩
    · exact ⟨n', hn, hk', rfl⟩
theorem DI.drop {p q : Nat} {D : Dv} (h : DI p q D) {i : Int} {ns : List No} (hn : ns = D.ns ∨ ns = D.ns.filter (keepN i)) : DI p q ⟨D.nx, ns⟩ := by
  rcases hn with rfl | rfl
  · exact h
  · refine ⟨h.nx, Nat.le_trans (List.length_filter_le _ _) h.len, fun n hn => h.nod n (List.mem_filter.1 hn).1, fun x => ?_, fun n hn => h.tg n (List.mem_filter.1 hn).1⟩
    obtain ⟨j, hj⟩ := h.lu x
    refine hj.mono fun y n' hn hk' => ?_
    dsimp only at hn
    rw [fnd_filter] at hn
    split at hn
    · cases hn
    · exact ⟨n', hn, hk', rfl⟩
theorem DI.make {p q : Nat} {D : Dv} (h : DI p q D) {n : No} (hx : D.nx < 1073741824) (h1 : n.ino = D.nx) (h2 : n.par < D.nx) (h3 : n.es = []) (h4 : n.tg.length ≤ 1000) : DI (p + 1) q ⟨D.nx + 1, D.ns ++ [n]⟩ := by
  have hnx := h.nx
  refine ⟨by dsimp only; omega, by have := h.len; simp; omega, fun m hm => ?_, fun x => ?_, fun m hm => (List.mem_append.1 hm).elim (h.tg m) fun e => by rw [List.mem_singleton] at e; rw [e]; exact h4⟩
  · simp only [List.mem_append, List.mem_singleton] at hm
    rcases hm with hm | rfl
    · obtain ⟨a1, a2, a3, a4⟩ := h.nod m hm
      exact ⟨a1, by dsimp only; omega, by dsimp only; omega, a4⟩
    · rw [h3]; exact ⟨by simp, by dsimp only; omega, by dsimp only; omega, by simp⟩
  · have hold : ∀ y, y < D.nx → fnd (D.ns ++ [n]) y = fnd D.ns y := fun y hy => by
      rw [fnd_app, if_neg (by omega), Option.or_none]
    have key : ∀ j y, LU (fnd D.ns) j y → y < D.nx → LU (fnd (D.ns ++ [n])) j y := by
      intro j y hj
      induction hj with
      | top y hy => intro hlt; exact .top y (by rw [hold y hlt]; exact hy)
      | up y m k hg hk hy1 _ ih =>
        intro hlt
        exact .up y m k (by rw [hold y hlt]; exact hg) hk hy1 (ih (h.nod m (fnd_mem hg).1).2.1)
    have hnone : ∀ y, D.nx ≤ y → fnd D.ns y = none := fun y hy => by
      cases hf : fnd D.ns y with
      | none => rfl
      | some m =>
        obtain ⟨m1, m2⟩ := fnd_mem hf
        have := (h.nod m m1).2.2.1
        omega
    by_cases hlt : x < D.nx
    · obtain ⟨j, hj⟩ := h.lu x
      exact ⟨j, key j x hj hlt⟩
    · by_cases he : x = D.nx
      · by_cases hk : n.kind = 2 ∧ x ≠ 1
        · obtain ⟨j, hj⟩ := h.lu n.par
          refine ⟨j + 1, .up x n j ?_ hk.1 hk.2 (key j _ hj h2)⟩
          dsimp only
          rw [fnd_app, hnone x (by omega), if_pos (by omega)]; rfl
        · refine ⟨0, .top x (.inr fun m hm => ?_)⟩
          dsimp only at hm
          rw [fnd_app, hnone x (by omega), if_pos (by omega)] at hm
          cases hm
          exact fun hk' => hk ⟨hk', by omega⟩
      · refine ⟨0, .top x (.inr fun m hm => ?_)⟩
        dsimp only at hm
        rw [fnd_app, hnone x (by omega), if_neg (by omega)] at hm
        cases hm
/-- the same nodes but for what they hold -/
def SP (g g' : Int → Option No) : Prop := ∀ x n', g' x = some n' → ∃ n, g x = some n ∧ n.kind = n'.kind ∧ n.par = n'.par
theorem SP.refl (g : Int → Option No) : SP g g := fun _ n h => ⟨n, h, rfl, rfl⟩
theorem SP.trans {g g' g'' : Int → Option No} (h : SP g g') (h' : SP g' g'') : SP g g'' := fun x n hn => by
  obtain ⟨m, h1, h2, h3⟩ := h' x n hn
  obtain ⟨l, h4, h5, h6⟩ := h x m h1
  exact ⟨l, h4, by rw [h5, h2], by rw [h6, h3]⟩
theorem SP.es {ns : List No} {i : Int} {k : Nat} {es : List En} (hk : ixI ns i = (k : Nat)) : SP (fnd ns) (fnd (setEs ns k es)) := fun x n' hn => by
  rw [fnd_setEs hk] at hn
  split at hn
  · rename_i e
    cases hn
    exact ⟨nAt ns k, by rw [e]; exact (fnd_k hk).2.1, rfl, rfl⟩
  · exact ⟨n', hn, rfl, rfl⟩
theorem SP.drop {ns ns' : List No} {i : Int} (hn : ns' = ns ∨ ns' = ns.filter (keepN i)) : SP (fnd ns) (fnd ns') := by
  rcases hn with rfl | rfl
  · exact SP.refl _
  · intro x n' hn
    rw [fnd_filter] at hn
    split at hn
    · cases hn
    · exact ⟨n', hn, rfl, rfl⟩
/-- the parent of a directory is changed -/
def setPar (ns : List No) (k : Nat) (to : Int) : List No := ns.set k { nAt ns k with par := to }
theorem DI.ren {p q p' q' : Nat} {D D2 : Dv} (h : DI p q D) (h2 : DI p' q' D2) (hs : SP (fnd D.ns) (fnd D2.ns)) {at_ to : Int} {k : Nat} (hk : ixI D2.ns at_ = (k : Nat)) (hto : to < D2.nx) (hp : p ≤ 16) (hno : ∀ j, j ≤ 16 → parN (fnd D.ns) j to ≠ at_) : DI p' q' ⟨D2.nx, setPar D2.ns k to⟩ := by
  obtain ⟨hkl, hf, hi⟩ := fnd_k hk
  obtain ⟨a1, a2, a3, a4⟩ := h2.nod _ (nAt_mem hkl)
  refine ⟨h2.nx, by simp only [setPar, List.length_set]; exact h2.len, fun n hn => ?_, fun x => ?_, fun n hn => (List.mem_or_eq_of_mem_set hn).elim (h2.tg n) fun e => by rw [e]; exact h2.tg (nAt D2.ns k) (nAt_mem hkl)⟩
  · rcases List.mem_or_eq_of_mem_set hn with hn | rfl
    · exact h2.nod n hn
    · exact ⟨a1, hto, a3, a4⟩
  · obtain ⟨j, hj⟩ := h.lu to
    have hjl := hj.le
    have hlen := h.len
    obtain ⟨m, hm, hmk, _⟩ := hs at_ _ hf
    have hmv := LU.move (g := fnd D.ns) (g' := fun x => if x = at_ then some { m with par := to } else fnd D.ns x) (at_ := at_) (to := to) (fun x hx => if_neg hx) (fun n' hn => by rw [if_pos rfl] at hn; cases hn; rfl) hj (fun i hi => hno i (by omega)) h.lu x
    obtain ⟨j', hj'⟩ := hmv
    refine hj'.mono fun y n' hn hk' => ?_
    dsimp only at hn
    rw [setPar, fnd_set hk hkl (by exact hi)] at hn
    split at hn
    · rename_i e
      cases hn
      exact ⟨_, if_pos e, by dsimp only at hk' ⊢; rw [hmk]; exact hk', rfl⟩
    · rename_i e
      obtain ⟨m2, b1, b2, b3⟩ := hs y n' hn
      exact ⟨m2, by rw [if_neg e]; exact b1, by rw [b2]; exact hk', b3⟩
/-- attributes are changed -/
theorem DI.at {p q : Nat} {D : Dv} (h : DI p q D) {i : Int} {k : Nat} {n : No} (hk : ixI D.ns i = (k : Nat)) (h1 : n.ino = i) (h2 : n.kind = (nAt D.ns k).kind) (h3 : n.par = (nAt D.ns k).par) (h4 : n.es = (nAt D.ns k).es) (h5 : n.tg = (nAt D.ns k).tg) : DI p q ⟨D.nx, D.ns.set k n⟩ := by
  obtain ⟨hkl, hf, hi⟩ := fnd_k hk
  obtain ⟨a1, a2, a3, a4⟩ := h.nod _ (nAt_mem hkl)
  refine ⟨h.nx, by rw [List.length_set]; exact h.len, fun m hm => ?_, fun x => ?_, fun m hm => (List.mem_or_eq_of_mem_set hm).elim (h.tg m) fun e => by rw [e, h5]; exact h.tg _ (nAt_mem hkl)⟩
  · rcases List.mem_or_eq_of_mem_set hm with hm | rfl
    · exact h.nod m hm
    · exact ⟨by rw [h4]; exact a1, by rw [h3]; exact a2, by rw [h1, ← hi]; exact a3, by rw [h4]; exact a4⟩
  · obtain ⟨j, hj⟩ := h.lu x
    refine hj.mono fun y n' hn hk' => ?_
    dsimp only at hn
    rw [fnd_set hk hkl h1] at hn
    split at hn
    · rename_i e
      cases hn
      exact ⟨_, e ▸ hf, by rw [← h2]; exact hk', h3.symm⟩
    · exact ⟨n', hn, hk', rfl⟩
/-- files with devices of some size -/
structure FI (p q : Nat) (fs : List Dv) : Prop where
  len : 1 ≤ fs.length ∧ fs.length ≤ 3
  dev : ∀ d ∈ fs, DI p q d
theorem FI.mono {p q p' q' : Nat} {fs : List Dv} (h : FI p q fs) (h1 : p ≤ p') (h2 : q ≤ q') : FI p' q' fs := ⟨h.len, fun d hd => (h.dev d hd).mono h1 h2⟩
theorem FI.ok {p q : Nat} {fs : List Dv} (h : FI p q fs) (hp : p ≤ 1000) (hq : q ≤ 1000) : okF fs := by
  refine ⟨by have := h.len; omega, fun d hd => ?_⟩
  have hd := h.dev d hd
  exact ⟨by have := hd.len; omega, fun n hn => by have := (hd.nod n hn).1; omega⟩
theorem FI.set {p q : Nat} {fs : List Dv} (h : FI p q fs) {dv : Nat} {D : Dv} (hd : DI p q D) : FI p q (setD fs dv D) := by
  refine ⟨by rw [setD, List.length_set]; exact h.len, fun d hm => ?_⟩
  rcases List.mem_or_eq_of_mem_set hm with hm | rfl
  · exact h.dev d hm
  · exact hd
theorem FI.at {p q : Nat} {fs : List Dv} (h : FI p q fs) {dv : Nat} (hd : dv < fs.length) : DI p q (fs.getD dv dv0) := h.dev _ (getD_memA dv0 hd)
theorem setD_len (fs : List Dv) (dv : Nat) (D : Dv) : (setD fs dv D).length = fs.length := List.length_set
theorem setD_get {fs : List Dv} {dv : Nat} {D : Dv} (h : dv < fs.length) : (setD fs dv D).getD dv dv0 = D := getD_set h
theorem setD_set (fs : List Dv) (dv : Nat) (D D' : Dv) : setD (setD fs dv D) dv D' = setD fs dv D' := List.set_set ..
end Go.Proofs.YtkdblnejpmbnfaaGreat.F
