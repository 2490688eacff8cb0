/- Layer 9: logins, programs, children. -/
import Derived.Test.YtkdblnejpmbnfaaPd
namespace Go.Proofs.Ytkdblnejpmbnfaa
open Go Go.Lx
set_option linter.unusedSimpArgs false
set_option linter.unusedVariables false
set_option maxRecDepth 100000
set_option maxHeartbeats 4000000

theorem invLab {w0 w : World} {M : Imm} {H H' : Heap} (h : Inv gl w0 M H w) (he : H.map (·.2) = H'.map (·.2)) : Inv gl w0 M H' w := by
  have hm : ∀ e ∈ H', ∃ e' ∈ H, e'.2 = e.2 := fun e hin => by
    have : e.2 ∈ H.map (·.2) := he ▸ List.mem_map_of_mem hin
    obtain ⟨e', h1, h2⟩ := List.mem_map.1 this
    exact ⟨e', h1, h2⟩
  refine { h with own := fun e hin => ?_, sep := ?_, free := fun e hin => ?_ }
  · obtain ⟨e', h1, h2⟩ := hm e hin
    exact h2 ▸ h.own e' h1
  · have h1 : (H.map (·.2)).Pairwise fun a b => Apart (0, a) (0, b) := (List.pairwise_map (f := fun e : Nat × Ent => e.2)).2 h.sep
    rw [he] at h1
    exact (List.pairwise_map (f := fun e : Nat × Ent => e.2)).1 h1
  · obtain ⟨e', h1, h2⟩ := hm e hin
    exact h2 ▸ h.free e' h1
theorem callLab {f : FuncId} {args args' : List LV} {H H' : Heap} {K : LV → Heap → Prop} (h : LCalls Try.prog gl f args H fun r H1 => ∃ H2, H1.map (·.2) = H2.map (·.2) ∧ K r H2) (hH : H'.map (·.2) = H.map (·.2)) (ha : ∀ M vs, RVs M args' vs → RVs M args vs) : LCalls Try.prog gl f args' H' K :=
  fun w0 M HF w vs hI hv => (h w0 M HF w vs (invLab hI (by rw [List.map_append, List.map_append, hH])) (ha M vs hv)).mono fun _ _ ⟨M', v, r, H1, h1, h2, h3, h4, H2, h5, h6⟩ =>
    ⟨M', v, r, H2, h1, h2, h3, invLab h4 (by rw [List.map_append, List.map_append, h5]), h6⟩
def loG (u : Int) (t : Tb) (i : Nat) : Int × Tb :=
  if idB u = false then (22, t) else if (pAt t i).auid ≠ 4294967295 ∧ (pAt t i).euid ≠ 0 then (1, t) else if 1073741824 ≤ t.ns then (11, t)
  else (0, { setP t i { pAt t i with auid := u, ses := t.ns } with ns := t.ns + 1 })
theorem loE {e : Int} {t : Tb} {bt b c : Nat} {Hc : Heap} (hc : t.ps.length ≤ c) : ∃ r' H', leVH gl (.int .i64 e) ((3, .blk bt [.int .i64 t.nx, .int .i64 t.ns, .msl 6000 14 b 0 t.ps.length c]) :: (6000, .blk b (Sp (t.ps.flatMap PsC) ((c - t.ps.length) * 14))) :: Hc) r' H' ∧ ∃ b' c', ((e, t) : Int × Tb).2.ps.length ≤ c' ∧ r' = .int .i64 ((e, t) : Int × Tb).1 ∧ H' = (3, .blk bt [.int .i64 ((e, t) : Int × Tb).2.nx, .int .i64 ((e, t) : Int × Tb).2.ns, .msl 6000 14 b' 0 ((e, t) : Int × Tb).2.ps.length c']) :: (6000, .blk b' (Sp (((e, t) : Int × Tb).2.ps.flatMap PsC) ((c' - ((e, t) : Int × Tb).2.ps.length) * 14))) :: Hc :=
  ⟨_, _, leVH.of (leV.refl _) ⟨_, List.Sublist.refl _, List.Perm.refl _⟩, b, c, hc, rfl, rfl⟩
theorem lo1 (u : Int) (b4 : Nat) (t : Tb) (i : Nat) (hi : i < t.ps.length) (hn : 0 ≤ t.ns) : ClOk 37 [.ptr 5 b4 0] [(5, .blk b4 [.int .i64 u])] t i (loG u t i) := by
  intro bt b c hc
  refine fn_viewT Try.func37 t37 Try.ntmps37 (by simp) ?_
  have hR : loG u t i = if idB u = false then (22, t) else if (pAt t i).auid ≠ 4294967295 ∧ (pAt t i).euid ≠ 0 then (1, t) else if 1073741824 ≤ t.ns then (11, t) else (0, { setP t i { pAt t i with auid := u, ses := t.ns } with ns := t.ns + 1 }) := rfl
  have hle := len_ps t.ps
  have g3 := gdSp (k := (c - t.ps.length) * 14) hi (j := 3) (by omega)
  have g6 := gdSp (k := (c - t.ps.length) * 14) hi (j := 6) (by omega)
  have hs := length_Sp (t.ps.flatMap PsC) ((c - t.ps.length) * 14)
  rw [PsC_eq] at g3 g6
  simp only [List.getD_cons_zero, List.getD_cons_succ] at g3 g6
  unfold c37 r37 ChH
  simp only [List.cons_append, List.nil_append]
  repeat' (first | (simp (disch := first | omega | (simp only [List.length_cons, List.length_nil]; first | done | omega)) only [go_sem, Nat.reduceAdd, Nat.reduceMul, Nat.reduceSub, Nat.reduceEqDiff, Nat.reduceLeDiff, Nat.reduceMod, Nat.reduceLT, Int.reduceToNat, Int.reduceAdd, Int.reduceSub, Int.reduceMul, Int.reduceNeg, Int.reduceLE, Int.reduceLT, Int.toNat_natCast, Int.cast_ofNat_Int, Int.reduceNe, Int.reduceEq, Int.reduceBEq, Int.reduceBNe, not_false_eq_true, ne_eq, Int.reduceTMod, Int.reduceTDiv, beq_self_eq_true, bne_self_eq_false, List.contains_cons, List.contains_nil, Nat.reduceBEq, g3, g6, putC_eq, putC_len]) | (refine allI (fun b => ?_)) | (refine allT (fun τ => ?_)) | (refine brP (fun h => ?_) (fun h => ?_) <;> (try simp only [Bool.and_eq_true, Bool.and_eq_false_iff, Bool.or_eq_true, Bool.or_eq_false_iff, Bool.not_eq_true', Bool.not_eq_false', decide_eq_true_eq, decide_eq_false_iff_not, beq_iff_eq, beq_eq_false_iff_ne, ne_eq, bne_iff_ne, Int.not_lt, Int.not_le] at h)) | refine call_U (ident _) ?_ | refine callG_U (fun _ => ident _) ?_ | refine call_T (ident _) ?_ | refine callG_T (fun _ => ident _) ?_ | refine call_N (ident _) ?_ | refine call_of (ident _) ?_ | refine callG_of (fun _ => ident _) ?_ | (apply And.intro; focus (first | omega | (simp; done) | (simp +contextual; done) | (intros; and_intros <;> first | assumption | omega) | (intros; simp_all; done) | (intro hgd; refine ⟨hgd, ?_⟩; simp [hgd]; done) | (intro hgd; simp only [beq_eq_false_iff_ne, beq_iff_eq, decide_eq_true_eq, decide_eq_false_iff_not, bne_iff_ne, ne_eq, Bool.and_eq_true, Bool.or_eq_false_iff, Bool.or_eq_true, Bool.and_eq_false_iff] at hgd ⊢; omega))) | fail)
  · rw [hR, if_pos (by assumption)]
    exact loE hc
  · rename_i hI
    rw [hR, if_neg (by rw [hI]; simp), if_pos (by unfold pAt; generalize t.ps.getD i ps0 = p at *; simpa using h)]
    exact loE hc
  · rename_i hI hA
    rw [hR, if_neg (by rw [hI]; simp), if_neg (by unfold pAt; generalize t.ps.getD i ps0 = p at *; intro ⟨hx, hy⟩; simp [hx, hy] at hA), if_pos (by omega)]
    exact loE hc
  · rename_i hI hA
    rw [hR, if_neg (by rw [hI]; simp), if_neg (by unfold pAt; generalize t.ps.getD i ps0 = p at *; intro ⟨hx, hy⟩; simp [hx, hy] at hA), if_neg (by omega), rowSet2 { pAt t i with auid := u } { pAt t i with auid := u, ses := t.ns } hi (by omega) (by omega) (Eq.trans rfl rfl) (Eq.trans rfl rfl)]
    refine ⟨_, _, leVH.of (leV.refl _) ⟨_, List.Sublist.refl _, List.Perm.refl _⟩, b, c, ?_, rfl, ?_⟩ <;> simp [setP]
    all_goals omega
def loR (t : Tb) (pid u : Int) : Int × Tb := chR t pid (loG u t)
theorem lo (t : Tb) (pid u : Int) (ht : okT t) (hn : 0 ≤ t.ns) : Pure Try.prog gl 16 [TbL t, .int .i64 pid, .int .i64 u] (.tup [TbL (loR t pid u).2, .int .i64 (loR t pid u).1]) := by
  refine fn_pureT Try.func16 t16 Try.ntmps16 (by simp) ?_
  have hF := findI_lt t pid
  unfold c16 r16
  rw [TbL_eq t]
  repeat' (first | (simp (disch := first | omega | (simp only [List.length_cons, List.length_nil]; first | done | omega)) only [go_sem, Nat.reduceAdd, Nat.reduceMul, Nat.reduceSub, Nat.reduceEqDiff, Nat.reduceLeDiff, Nat.reduceMod, Nat.reduceLT, Int.reduceToNat, Int.reduceAdd, Int.reduceSub, Int.reduceMul, Int.reduceNeg, Int.reduceLE, Int.reduceLT, Int.toNat_natCast, Int.cast_ofNat_Int, Int.reduceNe, Int.reduceEq, Int.reduceBEq, Int.reduceBNe, not_false_eq_true, ne_eq, Int.reduceTMod, Int.reduceTDiv, beq_self_eq_true, bne_self_eq_false, List.contains_cons, List.contains_nil, Nat.reduceBEq]) | (refine allI (fun b => ?_)) | (refine allT (fun τ => ?_)) | (refine brP (fun h => ?_) (fun h => ?_) <;> (try simp only [Bool.and_eq_true, Bool.and_eq_false_iff, Bool.or_eq_true, Bool.or_eq_false_iff, Bool.not_eq_true', Bool.not_eq_false', decide_eq_true_eq, decide_eq_false_iff_not, beq_iff_eq, beq_eq_false_iff_ne, ne_eq, bne_iff_ne, Int.not_lt, Int.not_le] at h)) | (apply And.intro; focus (first | omega | (simp; done) | (simp +contextual; done) | (intros; and_intros <;> first | assumption | omega) | (intros; simp_all; done) | (intro hgd; refine ⟨hgd, ?_⟩; simp [hgd]; done) | (intro hgd; simp only [beq_eq_false_iff_ne, beq_iff_eq, decide_eq_true_eq, decide_eq_false_iff_not, bne_iff_ne, ne_eq, Bool.and_eq_true, Bool.or_eq_false_iff, Bool.or_eq_true, Bool.and_eq_false_iff] at hgd ⊢; omega))) | fail)
  rename_i b1 b2
  refine actsP_U (change t pid ht 37 [.ptr 5 b2 0] [(5, _)] (loG u t) (by kernel_rfl) fun i hi => lo1 u b2 t i (by omega) hn) (List.Perm.swap _ _ _) ?_
  rintro _ _ ⟨rfl, rfl⟩
  have hR : loR t pid u = chR t pid (loG u t) := rfl
  rw [← hR]
  generalize loR t pid u = R at *
  obtain ⟨e, t'⟩ := R
  dsimp only
  rw [TbL_eq t']
  repeat' (first | (simp (disch := first | omega | (simp only [List.length_cons, List.length_nil]; first | done | omega)) only [go_sem, Nat.reduceAdd, Nat.reduceMul, Nat.reduceSub, Nat.reduceEqDiff, Nat.reduceLeDiff, Nat.reduceMod, Nat.reduceLT, Int.reduceToNat, Int.reduceAdd, Int.reduceSub, Int.reduceMul, Int.reduceNeg, Int.reduceLE, Int.reduceLT, Int.toNat_natCast, Int.cast_ofNat_Int, Int.reduceNe, Int.reduceEq, Int.reduceBEq, Int.reduceBNe, not_false_eq_true, ne_eq, Int.reduceTMod, Int.reduceTDiv, beq_self_eq_true, bne_self_eq_false, List.contains_cons, List.contains_nil, Nat.reduceBEq]) | (refine allI (fun b => ?_)) | (refine allT (fun τ => ?_)) | (refine brP (fun h => ?_) (fun h => ?_) <;> (try simp only [Bool.and_eq_true, Bool.and_eq_false_iff, Bool.or_eq_true, Bool.or_eq_false_iff, Bool.not_eq_true', Bool.not_eq_false', decide_eq_true_eq, decide_eq_false_iff_not, beq_iff_eq, beq_eq_false_iff_ne, ne_eq, bne_iff_ne, Int.not_lt, Int.not_le] at h)) | (apply And.intro; focus (first | omega | (simp; done) | (simp +contextual; done) | (intros; and_intros <;> first | assumption | omega) | (intros; simp_all; done) | (intro hgd; refine ⟨hgd, ?_⟩; simp [hgd]; done) | (intro hgd; simp only [beq_eq_false_iff_ne, beq_iff_eq, decide_eq_true_eq, decide_eq_false_iff_not, bne_iff_ne, ne_eq, Bool.and_eq_true, Bool.or_eq_false_iff, Bool.or_eq_true, Bool.and_eq_false_iff] at hgd ⊢; omega))) | fail)
def exG (e c : List UInt8) (t : Tb) (i : Nat) : Int × Tb := (0, setP t i { pAt t i with exe := e, comm := c })
theorem ex1 (e cm : List UInt8) (b4 b5 : Nat) (t : Tb) (i : Nat) (hi : i < t.ps.length) : ClOk 40 [.ptr 6 b4 0, .ptr 7 b5 0] [(7, .blk b5 [.str cm]), (6, .blk b4 [.str e])] t i (exG e cm t i) := by
  intro bt b c hc
  refine fn_viewT Try.func40 t40 Try.ntmps40 (by simp) ?_
  have hle := len_ps t.ps
  have hs := length_Sp (t.ps.flatMap PsC) ((c - t.ps.length) * 14)
  unfold c40 r40 ChH
  simp only [List.cons_append, List.nil_append]
  repeat' (first | (simp (disch := first | omega | (simp only [List.length_cons, List.length_nil]; first | done | omega)) only [go_sem, Nat.reduceAdd, Nat.reduceMul, Nat.reduceSub, Nat.reduceEqDiff, Nat.reduceLeDiff, Nat.reduceMod, Nat.reduceLT, Int.reduceToNat, Int.reduceAdd, Int.reduceSub, Int.reduceMul, Int.reduceNeg, Int.reduceLE, Int.reduceLT, Int.toNat_natCast, Int.cast_ofNat_Int, Int.reduceNe, Int.reduceEq, Int.reduceBEq, Int.reduceBNe, not_false_eq_true, ne_eq, Int.reduceTMod, Int.reduceTDiv, beq_self_eq_true, bne_self_eq_false, List.contains_cons, List.contains_nil, Nat.reduceBEq, putC_eq, putC_len]) | (refine allI (fun b => ?_)) | (refine allT (fun τ => ?_)) | (refine brP (fun h => ?_) (fun h => ?_) <;> (try simp only [Bool.and_eq_true, Bool.and_eq_false_iff, Bool.or_eq_true, Bool.or_eq_false_iff, Bool.not_eq_true', Bool.not_eq_false', decide_eq_true_eq, decide_eq_false_iff_not, beq_iff_eq, beq_eq_false_iff_ne, ne_eq, bne_iff_ne, Int.not_lt, Int.not_le] at h)) | (apply And.intro; focus (first | omega | (simp; done) | (simp +contextual; done) | (intros; and_intros <;> first | assumption | omega) | (intros; simp_all; done) | (intro hgd; refine ⟨hgd, ?_⟩; simp [hgd]; done) | (intro hgd; simp only [beq_eq_false_iff_ne, beq_iff_eq, decide_eq_true_eq, decide_eq_false_iff_not, bne_iff_ne, ne_eq, Bool.and_eq_true, Bool.or_eq_false_iff, Bool.or_eq_true, Bool.and_eq_false_iff] at hgd ⊢; omega))) | fail)
  rw [rowSet2 _ { pAt t i with exe := e, comm := cm } hi (by omega) (by omega) (Eq.trans (b := PsC { pAt t i with exe := e }) rfl rfl) (Eq.trans rfl rfl)]
  refine ⟨_, _, leVH.of (leV.refl _) ⟨_, List.Sublist.refl _, List.Perm.refl _⟩, b, c, ?_, rfl, ?_⟩ <;> simp [exG, setP]
  all_goals omega
def exR (t : Tb) (pid : Int) (e c : List UInt8) : Int × Tb := chR t pid (exG e c t)
theorem ex (t : Tb) (pid : Int) (e c : List UInt8) (ht : okT t) : Pure Try.prog gl 19 [TbL t, .int .i64 pid, .str e, .str c] (.tup [TbL (exR t pid e c).2, .int .i64 (exR t pid e c).1]) := by
  refine fn_pureT Try.func19 t19 Try.ntmps19 (by simp) ?_
  have hF := findI_lt t pid
  unfold c19 r19
  rw [TbL_eq t]
  repeat' (first | (simp (disch := first | omega | (simp only [List.length_cons, List.length_nil]; first | done | omega)) only [go_sem, Nat.reduceAdd, Nat.reduceMul, Nat.reduceSub, Nat.reduceEqDiff, Nat.reduceLeDiff, Nat.reduceMod, Nat.reduceLT, Int.reduceToNat, Int.reduceAdd, Int.reduceSub, Int.reduceMul, Int.reduceNeg, Int.reduceLE, Int.reduceLT, Int.toNat_natCast, Int.cast_ofNat_Int, Int.reduceNe, Int.reduceEq, Int.reduceBEq, Int.reduceBNe, not_false_eq_true, ne_eq, Int.reduceTMod, Int.reduceTDiv, beq_self_eq_true, bne_self_eq_false, List.contains_cons, List.contains_nil, Nat.reduceBEq]) | (refine allI (fun b => ?_)) | (refine allT (fun τ => ?_)) | (refine brP (fun h => ?_) (fun h => ?_) <;> (try simp only [Bool.and_eq_true, Bool.and_eq_false_iff, Bool.or_eq_true, Bool.or_eq_false_iff, Bool.not_eq_true', Bool.not_eq_false', decide_eq_true_eq, decide_eq_false_iff_not, beq_iff_eq, beq_eq_false_iff_ne, ne_eq, bne_iff_ne, Int.not_lt, Int.not_le] at h)) | (apply And.intro; focus (first | omega | (simp; done) | (simp +contextual; done) | (intros; and_intros <;> first | assumption | omega) | (intros; simp_all; done) | (intro hgd; refine ⟨hgd, ?_⟩; simp [hgd]; done) | (intro hgd; simp only [beq_eq_false_iff_ne, beq_iff_eq, decide_eq_true_eq, decide_eq_false_iff_not, bne_iff_ne, ne_eq, Bool.and_eq_true, Bool.or_eq_false_iff, Bool.or_eq_true, Bool.and_eq_false_iff] at hgd ⊢; omega))) | fail)
  rename_i b0 b1 b2
  refine actsP_U (change t pid ht 40 [.ptr 6 b1 0, .ptr 7 b2 0] [(7, _), (6, _)] (exG e c t) (by kernel_rfl) fun i hi => ex1 e c b1 b2 t i (by omega)) (List.perm_middle (l₁ := [_, _]) (l₂ := [_])).symm ?_
  rintro _ _ ⟨rfl, rfl⟩
  have hR : exR t pid e c = chR t pid (exG e c t) := rfl
  rw [← hR]
  generalize exR t pid e c = R at *
  obtain ⟨e, t'⟩ := R
  dsimp only
  rw [TbL_eq t']
  repeat' (first | (simp (disch := first | omega | (simp only [List.length_cons, List.length_nil]; first | done | omega)) only [go_sem, Nat.reduceAdd, Nat.reduceMul, Nat.reduceSub, Nat.reduceEqDiff, Nat.reduceLeDiff, Nat.reduceMod, Nat.reduceLT, Int.reduceToNat, Int.reduceAdd, Int.reduceSub, Int.reduceMul, Int.reduceNeg, Int.reduceLE, Int.reduceLT, Int.toNat_natCast, Int.cast_ofNat_Int, Int.reduceNe, Int.reduceEq, Int.reduceBEq, Int.reduceBNe, not_false_eq_true, ne_eq, Int.reduceTMod, Int.reduceTDiv, beq_self_eq_true, bne_self_eq_false, List.contains_cons, List.contains_nil, Nat.reduceBEq]) | (refine allI (fun b => ?_)) | (refine allT (fun τ => ?_)) | (refine brP (fun h => ?_) (fun h => ?_) <;> (try simp only [Bool.and_eq_true, Bool.and_eq_false_iff, Bool.or_eq_true, Bool.or_eq_false_iff, Bool.not_eq_true', Bool.not_eq_false', decide_eq_true_eq, decide_eq_false_iff_not, beq_iff_eq, beq_eq_false_iff_ne, ne_eq, bne_iff_ne, Int.not_lt, Int.not_le] at h)) | (apply And.intro; focus (first | omega | (simp; done) | (simp +contextual; done) | (intros; and_intros <;> first | assumption | omega) | (intros; simp_all; done) | (intro hgd; refine ⟨hgd, ?_⟩; simp [hgd]; done) | (intro hgd; simp only [beq_eq_false_iff_ne, beq_iff_eq, decide_eq_true_eq, decide_eq_false_iff_not, bne_iff_ne, ne_eq, Bool.and_eq_true, Bool.or_eq_false_iff, Bool.or_eq_true, Bool.and_eq_false_iff] at hgd ⊢; omega))) | fail)
def fkG (ch pid : Int) (t : Tb) (i : Nat) : Int × Tb :=
  if (16 : Int) ≤ t.ps.length ∨ 1073741824 ≤ t.nx then (11, t) else (0, { t with nx := t.nx + 1, ps := t.ps ++ [{ pAt t i with pid := ch, ppid := pid }] })
theorem takeSp {l : List Ps} {i k : Nat} (h : i < l.length) : ((Sp (l.flatMap PsC) k).drop (i * 14)).take 14 = PsC (l.getD i ps0) := by
  have e := take_rows (f := PsC) (w := 14) (fun _ => rfl) ps0 l h
  have hle := len_ps l
  have : (i + 1) * 14 ≤ l.length * 14 := Nat.mul_le_mul_right 14 h
  rw [← e, Sp, List.drop_append_of_le_length (by omega), List.take_append_of_le_length (by rw [List.length_drop]; omega)]
theorem fk0 (ch pid : Int) (b4 b5 : Nat) (t : Tb) (i : Nat) (hi : i < t.ps.length) (ht : okT t) (hn : 0 ≤ t.nx) (bt b c : Nat) (hc : t.ps.length ≤ c) : LCalls Try.prog gl 31 [.ptr 3 bt 0, .ptr 6000 b (i * 14), .ptr 6001 b4 0, .ptr 6002 b5 0] (ChH bt t b c ++ [(6001, .blk b4 [.int .i64 ch]), (6002, .blk b5 [.int .i64 pid])]) fun v H => ∃ b' c', (fkG ch pid t i).2.ps.length ≤ c' ∧ v = .int .i64 (fkG ch pid t i).1 ∧ H = ChH bt (fkG ch pid t i).2 b' c' ++ [(6001, .blk b4 [.int .i64 ch]), (6002, .blk b5 [.int .i64 pid])] := by
  refine fn_viewT Try.func31 t31 Try.ntmps31 (by simp) ?_
  have hR : fkG ch pid t i = if (16 : Int) ≤ t.ps.length ∨ 1073741824 ≤ t.nx then (11, t) else (0, { t with nx := t.nx + 1, ps := t.ps ++ [{ pAt t i with pid := ch, ppid := pid }] }) := rfl
  have hle := len_ps t.ps
  have hs := length_Sp (t.ps.flatMap PsC) ((c - t.ps.length) * 14)
  have e2 := takeSp (k := (c - t.ps.length) * 14) hi
  have hcp := cpp (t.ps.getD i ps0) (ht.2 _ (getD_memA ps0 hi))
  unfold c31 r31 ChH
  simp only [List.cons_append, List.nil_append]
  repeat' (first | (simp (disch := first | omega | (simp only [List.length_cons, List.length_nil]; first | done | omega)) only [go_sem, Nat.reduceAdd, Nat.reduceMul, Nat.reduceSub, Nat.reduceEqDiff, Nat.reduceLeDiff, Nat.reduceMod, Nat.reduceLT, Int.reduceToNat, Int.reduceAdd, Int.reduceSub, Int.reduceMul, Int.reduceNeg, Int.reduceLE, Int.reduceLT, Int.toNat_natCast, Int.cast_ofNat_Int, Int.reduceNe, Int.reduceEq, Int.reduceBEq, Int.reduceBNe, not_false_eq_true, ne_eq, Int.reduceTMod, Int.reduceTDiv, beq_self_eq_true, bne_self_eq_false, List.contains_cons, List.contains_nil, Nat.reduceBEq, e2, putC_eq, putC_len]) | (refine allI (fun b => ?_)) | (refine allT (fun τ => ?_)) | (refine brP (fun h => ?_) (fun h => ?_) <;> (try simp only [Bool.and_eq_true, Bool.and_eq_false_iff, Bool.or_eq_true, Bool.or_eq_false_iff, Bool.not_eq_true', Bool.not_eq_false', decide_eq_true_eq, decide_eq_false_iff_not, beq_iff_eq, beq_eq_false_iff_ne, ne_eq, bne_iff_ne, Int.not_lt, Int.not_le] at h)) | (apply And.intro; focus (first | omega | (simp; done) | (simp +contextual; done) | (intros; and_intros <;> first | assumption | omega) | (intros; simp_all; done) | (intro hgd; refine ⟨hgd, ?_⟩; simp [hgd]; done) | (intro hgd; simp only [beq_eq_false_iff_ne, beq_iff_eq, decide_eq_true_eq, decide_eq_false_iff_not, bne_iff_ne, ne_eq, Bool.and_eq_true, Bool.or_eq_false_iff, Bool.or_eq_true, Bool.and_eq_false_iff] at hgd ⊢; omega))) | fail)
  · rw [hR, if_pos (by assumption)]
    refine ⟨_, _, leVH.of (leV.refl _) ⟨_, List.Sublist.refl _, List.Perm.refl _⟩, b, c, ?_, rfl, ?_⟩ <;> simp
    all_goals omega
  · first | refine call_U (hcp) ?_ | refine call_T (hcp) ?_ | refine call_N (hcp) ?_ | refine call_of (hcp) ?_
    rw [hR, if_neg (by omega), PsC_eq]
    repeat' (first | (simp (disch := first | omega | (simp only [List.length_cons, List.length_nil]; first | done | omega)) only [go_sem, Nat.reduceAdd, Nat.reduceMul, Nat.reduceSub, Nat.reduceEqDiff, Nat.reduceLeDiff, Nat.reduceMod, Nat.reduceLT, Int.reduceToNat, Int.reduceAdd, Int.reduceSub, Int.reduceMul, Int.reduceNeg, Int.reduceLE, Int.reduceLT, Int.toNat_natCast, Int.cast_ofNat_Int, Int.reduceNe, Int.reduceEq, Int.reduceBEq, Int.reduceBNe, not_false_eq_true, ne_eq, Int.reduceTMod, Int.reduceTDiv, beq_self_eq_true, bne_self_eq_false, List.contains_cons, List.contains_nil, Nat.reduceBEq, zPs]) | (refine allI (fun b => ?_)) | (refine allT (fun τ => ?_)) | (refine brP (fun h => ?_) (fun h => ?_) <;> (try simp only [Bool.and_eq_true, Bool.and_eq_false_iff, Bool.or_eq_true, Bool.or_eq_false_iff, Bool.not_eq_true', Bool.not_eq_false', decide_eq_true_eq, decide_eq_false_iff_not, beq_iff_eq, beq_eq_false_iff_ne, ne_eq, bne_iff_ne, Int.not_lt, Int.not_le] at h)) | (apply And.intro; focus (first | omega | (simp; done) | (simp +contextual; done) | (intros; and_intros <;> first | assumption | omega) | (intros; simp_all; done) | (intro hgd; refine ⟨hgd, ?_⟩; simp [hgd]; done) | (intro hgd; simp only [beq_eq_false_iff_ne, beq_iff_eq, decide_eq_true_eq, decide_eq_false_iff_not, bne_iff_ne, ne_eq, Bool.and_eq_true, Bool.or_eq_false_iff, Bool.or_eq_true, Bool.and_eq_false_iff] at hgd ⊢; omega))) | fail)
    refine .inl ⟨by omega, by omega, by simp only [roomy]; omega, fun b2 c2 h3 => ?_⟩
    rw [take_Sp _ hle]
    refine ⟨_, _, leVH.of (leV.refl _) ⟨_, List.Sublist.cons_cons _ (List.Sublist.cons _ (List.Sublist.refl _)), List.Perm.swap _ _ _⟩, b2, c2, by simpa using h3, rfl, ?_⟩
    simp only [List.length_append, List.length_singleton, List.flatMap_append, List.flatMap_singleton, PsC_eq, Sp]
    rfl
theorem fk1 (ch pid : Int) (b4 b5 : Nat) (t : Tb) (i : Nat) (hi : i < t.ps.length) (ht : okT t) (hn : 0 ≤ t.nx) : ClOk 31 [.ptr 7 b4 0, .ptr 3 b5 0] [(7, .blk b4 [.int .i64 ch]), (3, .blk b5 [.int .i64 pid])] t i (fkG ch pid t i) := by
  intro bt b c hc
  refine callLab ((fk0 ch pid b4 b5 t i hi ht hn bt b c hc).mono ?_) rfl fun M vs h => h
  rintro v H ⟨b', c', h1, rfl, rfl⟩
  exact ⟨ChH bt (fkG ch pid t i).2 b' c' ++ [(7, .blk b4 [.int .i64 ch]), (3, .blk b5 [.int .i64 pid])], by simp [ChH], b', c', h1, rfl, rfl⟩
theorem chR_err {t : Tb} {pid : Int} {g : Nat → Int × Tb} (h : (chR t pid g).1 ≠ 0) : (chR t pid g).2 = tb0 := by
  unfold chR at h ⊢
  split
  · rfl
  · rename_i h1
    rw [if_neg h1] at h
    split
    · rfl
    · rename_i h2
      rw [if_neg h2] at h
      exact absurd rfl h
def fkR (t : Tb) (pid : Int) : Int × Tb := chR t pid (fkG t.nx pid t)
theorem fk (t : Tb) (pid : Int) (ht : okT t) (hn : 0 ≤ t.nx) : Pure Try.prog gl 10 [TbL t, .int .i64 pid] (.tup [TbL (fkR t pid).2, .int .i64 (if (fkR t pid).1 = 0 then t.nx else 0), .int .i64 (fkR t pid).1]) := by
  refine fn_pureT Try.func10 t10 Try.ntmps10 (by simp) ?_
  have hF := findI_lt t pid
  unfold c10 r10
  rw [TbL_eq t]
  repeat' (first | (simp (disch := first | omega | (simp only [List.length_cons, List.length_nil]; first | done | omega)) only [go_sem, Nat.reduceAdd, Nat.reduceMul, Nat.reduceSub, Nat.reduceEqDiff, Nat.reduceLeDiff, Nat.reduceMod, Nat.reduceLT, Int.reduceToNat, Int.reduceAdd, Int.reduceSub, Int.reduceMul, Int.reduceNeg, Int.reduceLE, Int.reduceLT, Int.toNat_natCast, Int.cast_ofNat_Int, Int.reduceNe, Int.reduceEq, Int.reduceBEq, Int.reduceBNe, not_false_eq_true, ne_eq, Int.reduceTMod, Int.reduceTDiv, beq_self_eq_true, bne_self_eq_false, List.contains_cons, List.contains_nil, Nat.reduceBEq]) | (refine allI (fun b => ?_)) | (refine allT (fun τ => ?_)) | (refine brP (fun h => ?_) (fun h => ?_) <;> (try simp only [Bool.and_eq_true, Bool.and_eq_false_iff, Bool.or_eq_true, Bool.or_eq_false_iff, Bool.not_eq_true', Bool.not_eq_false', decide_eq_true_eq, decide_eq_false_iff_not, beq_iff_eq, beq_eq_false_iff_ne, ne_eq, bne_iff_ne, Int.not_lt, Int.not_le] at h)) | (apply And.intro; focus (first | omega | (simp; done) | (simp +contextual; done) | (intros; and_intros <;> first | assumption | omega) | (intros; simp_all; done) | (intro hgd; refine ⟨hgd, ?_⟩; simp [hgd]; done) | (intro hgd; simp only [beq_eq_false_iff_ne, beq_iff_eq, decide_eq_true_eq, decide_eq_false_iff_not, bne_iff_ne, ne_eq, Bool.and_eq_true, Bool.or_eq_false_iff, Bool.or_eq_true, Bool.and_eq_false_iff] at hgd ⊢; omega))) | fail)
  rename_i b0 b1 b2
  refine actsP_U (H2 := [(4, _), (2, _)]) (change t pid ht 31 [.ptr 7 b 0, .ptr 3 b1 0] [(7, _), (3, _)] (fkG t.nx pid t) (by kernel_rfl) fun i hi => fk1 t.nx pid b b1 t i (by omega) ht hn) (List.Perm.cons _ (List.Perm.swap _ _ _)) ?_
  rintro _ _ ⟨rfl, rfl⟩
  have hz : (fkR t pid).1 ≠ 0 → (fkR t pid).2 = tb0 := chR_err
  have hR : fkR t pid = chR t pid (fkG t.nx pid t) := rfl
  rw [← hR]
  generalize fkR t pid = R at *
  obtain ⟨e, t'⟩ := R
  dsimp only
  rw [TbL_eq t']
  repeat' (first | (simp (disch := first | omega | (simp only [List.length_cons, List.length_nil]; first | done | omega)) only [go_sem, Nat.reduceAdd, Nat.reduceMul, Nat.reduceSub, Nat.reduceEqDiff, Nat.reduceLeDiff, Nat.reduceMod, Nat.reduceLT, Int.reduceToNat, Int.reduceAdd, Int.reduceSub, Int.reduceMul, Int.reduceNeg, Int.reduceLE, Int.reduceLT, Int.toNat_natCast, Int.cast_ofNat_Int, Int.reduceNe, Int.reduceEq, Int.reduceBEq, Int.reduceBNe, not_false_eq_true, ne_eq, Int.reduceTMod, Int.reduceTDiv, beq_self_eq_true, bne_self_eq_false, List.contains_cons, List.contains_nil, Nat.reduceBEq]) | (refine allI (fun b => ?_)) | (refine allT (fun τ => ?_)) | (refine brP (fun h => ?_) (fun h => ?_) <;> (try simp only [Bool.and_eq_true, Bool.and_eq_false_iff, Bool.or_eq_true, Bool.or_eq_false_iff, Bool.not_eq_true', Bool.not_eq_false', decide_eq_true_eq, decide_eq_false_iff_not, beq_iff_eq, beq_eq_false_iff_ne, ne_eq, bne_iff_ne, Int.not_lt, Int.not_le] at h)) | (apply And.intro; focus (first | omega | (simp; done) | (simp +contextual; done) | (intros; and_intros <;> first | assumption | omega) | (intros; simp_all; done) | (intro hgd; refine ⟨hgd, ?_⟩; simp [hgd]; done) | (intro hgd; simp only [beq_eq_false_iff_ne, beq_iff_eq, decide_eq_true_eq, decide_eq_false_iff_not, bne_iff_ne, ne_eq, Bool.and_eq_true, Bool.or_eq_false_iff, Bool.or_eq_true, Bool.and_eq_false_iff] at hgd ⊢; omega))) | fail)
  · have h0 := hz h
    dsimp only at h0
    subst h0
    rw [if_neg h]
    exact leV.tup ⟨tb0_le, leV.refl _, leV.refl _, trivial⟩
  · have h0 : e = 0 := by simpa using h
    subst h0
    exact leV.refl _
end Go.Proofs.Ytkdblnejpmbnfaa
