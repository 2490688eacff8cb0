/- Layer 9: find; copies of processes. -/
import Derived.Test.YtkdblnejpmbnfaaGreatW09
import Derived.Test.YtkdblnejpmbnfaaGreatW08
namespace Go.Proofs.YtkdblnejpmbnfaaGreat
open Go Go.Lx
set_option linter.unusedSimpArgs false
set_option linter.unusedVariables false
set_option maxRecDepth 100000
set_option maxHeartbeats 4000000
theorem fin1 (p : Ps) (b : Nat) (pid : Int) : Acts Tryz.prog gl 92 [.agg (PsC p), .ptr 3 b 0] [(3, .blk b [.int .i64 pid])] (.bool (p.pid == pid)) [(3, .blk b [.int .i64 pid])] := by
  refine fn_actsT Tryz.func92 t92 Tryz.ntmps92 (by simp) ?_
  unfold c92 r92
  rw [PsC_eq]
  repeat' (first | (simp (disch := first | exact dd | fail) only [go_sem]) | (refine allI (fun b => ?_)) | (refine allT (fun τ => ?_)) | (refine brP (fun h => ?_) (fun h => ?_) <;> (try simp only [zgx, zbx] at h)) | (refine gd ?_) | fail)
  exact acts_end (leV.refl _) (by simp)
def findP (t : Tb) (pid : Int) (i : Nat) : Bool := (t.ps.getD i ps0).pid == pid
def findI (t : Tb) (pid : Int) : Int := firstI t.ps.length (findP t pid)
theorem idx (t : Tb) (b : Nat) (pid : Int) (ht : t.ps.length ≤ 1000000) : Acts Tryz.prog gl 91 [.sl 14 t.ps.length (t.ps.flatMap PsC), .clo 92 [.ptr 3 b 0]] [(3, .blk b [.int .i64 pid])] (.int .i64 (findI t pid)) [(3, .blk b [.int .i64 pid])] := by
  refine fn_actsT Tryz.func91 t91 Tryz.ntmps91 (by simp) ?_
  have hl := len_ps t.ps
  unfold c91 r91
  simp (disch := first | exact dd | fail) only [go_sem]
  refine loopI (ι := Nat) (fun i => i ≤ t.ps.length ∧ ∀ j, j < i → findP t pid j = false) (fun i => (8, .int .i64 i) :: _) (fun _ => _) (fun i => t.ps.length - i) 0 ⟨by omega, fun j hj => absurd hj (by omega)⟩ Ents.same ?_
  intro i hi
  have hiB := hi.1
  simp (disch := first | exact dd | fail) only [go_sem]
  refine brP (fun hb => ?_) (fun hb => ?_)
  · have hlt : i < t.ps.length := by simpa using hb
    have e2 : ((t.ps.flatMap PsC).drop (i * 14)).take 14 = PsC (t.ps.getD i ps0) := take_rows (f := PsC) (fun _ => rfl) ps0 _ hlt
    have hf : findP t pid i = ((t.ps.getD i ps0).pid == pid) := rfl
    have ha := fin1 (t.ps.getD i ps0) b pid
    generalize t.ps.getD i ps0 = p at *
    repeat' (first | (simp (disch := first | exact dd | fail) only [go_sem, e2]) | (refine allI (fun b => ?_)) | (refine allT (fun τ => ?_)) | (refine brP (fun h => ?_) (fun h => ?_) <;> (try simp only [zgx, zbx] at h)) | (refine gd ?_) | fail)
    refine ⟨by kernel_rfl, ?_⟩
    first | refine acts_U (ha) (by simp (disch := first | exact dd | fail) only [go_sem]) ?_ | refine acts_T (ha) (by simp (disch := first | exact dd | fail) only [go_sem]) ?_ | refine acts_N (ha) (by simp (disch := first | exact dd | fail) only [go_sem]) ?_ | refine acts_of (H1 := []) (ha) (by simp (disch := first | exact dd | fail) only [go_sem]) ?_
    repeat' (first | (simp (disch := first | exact dd | fail) only [go_sem]) | (refine allI (fun b => ?_)) | (refine allT (fun τ => ?_)) | (refine brP (fun h => ?_) (fun h => ?_) <;> (try simp only [zgx, zbx] at h)) | (refine gd ?_) | fail)
    · refine acts_end (leV.of_eq ?_) (by simp)
      rw [findI, firstI_is hlt (by rw [hf]; simpa using h) hi.2]
    · have hf2 : findP t pid i = false := by rw [hf]; simpa using h
      exact ⟨⟨i + 1, by omega, fun j hj => (by omega : j < i ∨ j = i).elim (fun h3 => hi.2 j h3) (fun h3 => h3 ▸ hf2)⟩, by dsimp only; omega, Ents.envH (by simp [go_sem]) rfl⟩
  · repeat' (first | (simp (disch := first | exact dd | fail) only [go_sem]) | (refine allI (fun b => ?_)) | (refine allT (fun τ => ?_)) | (refine brP (fun h => ?_) (fun h => ?_) <;> (try simp only [zgx, zbx] at h)) | (refine gd ?_) | fail)
    refine acts_end (leV.of_eq ?_) (by simp)
    rw [findI, firstI_none fun j hj => hi.2 j (by simp only [decide_eq_false_iff_not] at hb; omega)]
theorem find (t : Tb) (pid : Int) (ht : t.ps.length ≤ 1000000) : Pure Tryz.prog gl 58 [TbL t, .int .i64 pid] (.int .i64 (findI t pid)) := by
  refine fn_pureT Tryz.func58 t58 Tryz.ntmps58 (by simp) ?_
  unfold c58 r58 TbL
  simp (disch := first | exact dd | fail) only [go_sem]
  intro b2 b3
  first | refine acts_U (idx t b3 pid ht) (by simp (disch := first | exact dd | fail) only [go_sem]) ?_ | refine acts_T (idx t b3 pid ht) (by simp (disch := first | exact dd | fail) only [go_sem]) ?_ | refine acts_N (idx t b3 pid ht) (by simp (disch := first | exact dd | fail) only [go_sem]) ?_ | refine acts_of (H1 := []) (idx t b3 pid ht) (by simp (disch := first | exact dd | fail) only [go_sem]) ?_
  repeat' (first | (simp (disch := first | exact dd | fail) only [go_sem]) | (refine allI (fun b => ?_)) | (refine allT (fun τ => ?_)) | (refine brP (fun h => ?_) (fun h => ?_) <;> (try simp only [zgx, zbx] at h)) | (refine gd ?_) | fail)
theorem cp1 (x : De) : Pure Tryz.prog gl 94 [.agg (DeC x)] (.agg (DeC x)) := by
  refine fn_pureT Tryz.func94 t94 Tryz.ntmps94 (by simp) ?_
  unfold c94 r94 DeC
  repeat' (first | (simp (disch := first | exact dd | fail) only [go_sem]) | (refine allI (fun b => ?_)) | (refine allT (fun τ => ?_)) | (refine brP (fun h => ?_) (fun h => ?_) <;> (try simp only [zgx, zbx] at h)) | (refine gd ?_) | fail)
theorem cpd (l : List De) (hl : l.length ≤ 1000000) : Pure Tryz.prog gl 93 [.sl 4 l.length (l.flatMap DeC), .fn 94] (.sl 4 l.length (l.flatMap DeC)) := by
  refine fn_pureT Tryz.func93 t93 Tryz.ntmps93 (by simp) ?_
  have hle := len_de l
  unfold c93 r93
  repeat' (first | (simp (disch := first | exact dd | fail) only [go_sem]) | (refine allI (fun b => ?_)) | (refine allT (fun τ => ?_)) | (refine brP (fun h => ?_) (fun h => ?_) <;> (try simp only [zgx, zbx] at h)) | (refine gd ?_) | fail)
  · have h0 : l = [] := List.length_eq_zero_iff.1 (by omega)
    subst h0
    exact leV.nil_sl _ _
  · refine .inl fun τ => ?_
    refine loopI (ι := Nat × Tok) (fun y => y.1 ≤ l.length) (fun y => [(16, .int .i64 y.1), (15, .int .i64 l.length), (14, .sl 4 l.length (l.flatMap DeC)), (5, .osl 13 y.2 4 y.1 ((l.take y.1).flatMap DeC)), (1, .fn 94)]) (fun y => [(13, .tok y.2)]) (fun y => l.length - y.1) (0, τ) (by simp) (Ents.envH (by simp [go_sem]) rfl) ?_
    rintro ⟨i, τ1⟩ hi
    dsimp only at hi ⊢
    simp (disch := first | exact dd | fail) only [go_sem]
    refine brP (fun hb => ?_) (fun hb => ?_)
    · have hlt : i < l.length := by simpa using hb
      have e2 : ((l.flatMap DeC).drop (i * 4)).take 4 = DeC (l.getD i de0) := take_rows (f := DeC) (fun _ => rfl) de0 _ hlt
      have hts := take_succ_getD de0 l hlt
      have hc := cp1 (l.getD i de0)
      generalize l.getD i de0 = x at *
      rw [DeC_eq] at e2 hc
      repeat' (first | (simp (disch := first | exact dd | fail) only [go_sem, e2, zDe]) | (refine allI (fun b => ?_)) | (refine allT (fun τ => ?_)) | (refine brP (fun h => ?_) (fun h => ?_) <;> (try simp only [zgx, zbx] at h)) | (refine gd ?_) | fail)
      refine ⟨by kernel_rfl, ?_⟩
      first | refine call_U (hc) ?_ | refine call_T (hc) ?_ | refine call_N (hc) ?_ | refine call_of (hc) ?_
      repeat' (first | (simp (disch := first | exact dd | fail) only [go_sem, zDe]) | (refine allI (fun b => ?_)) | (refine allT (fun τ => ?_)) | (refine brP (fun h => ?_) (fun h => ?_) <;> (try simp only [zgx, zbx] at h)) | (refine gd ?_) | fail)
      refine ⟨by simp only [roomy]; omega, fun t => ⟨⟨(i + 1, t), by dsimp only; omega⟩, by dsimp only; omega, Ents.sub ⟨leV.refl _, leV.refl _, leV.refl _, leV.of_eq ?_, leV.refl _, trivial⟩ ⟨_, sub1, List.Perm.refl _⟩⟩⟩
      simp [go_sem, hts, List.flatMap_append, DeC_eq]
    · have hlen : i = l.length := by simp only [decide_eq_false_iff_not] at hb; omega
      repeat' (first | (simp (disch := first | exact dd | fail) only [go_sem]) | (refine allI (fun b => ?_)) | (refine allT (fun τ => ?_)) | (refine brP (fun h => ?_) (fun h => ?_) <;> (try simp only [zgx, zbx] at h)) | (refine gd ?_) | fail)
      rw [hlen, List.take_length]
      exact leV.osl_sl _ _ _ _ _
theorem cpp (p : Ps) (hp : p.op.length ≤ 1000000) : Pure Tryz.prog gl 59 [.agg (PsC p)] (.agg (PsC p)) := by
  refine fn_pureT Tryz.func59 t59 Tryz.ntmps59 (by simp) ?_
  have hc := cpd p.op hp
  unfold c59 r59
  rw [PsC_eq, DeS_eq]
  repeat' (first | (simp (disch := first | exact dd | fail) only [go_sem]) | (refine allI (fun b => ?_)) | (refine allT (fun τ => ?_)) | (refine brP (fun h => ?_) (fun h => ?_) <;> (try simp only [zgx, zbx] at h)) | refine call_U (hc) ?_ | refine callG_U (fun _ => hc) ?_ | refine call_T (hc) ?_ | refine callG_T (fun _ => hc) ?_ | refine call_N (hc) ?_ | refine call_of (hc) ?_ | refine callG_of (fun _ => hc) ?_ | (refine gd ?_) | fail)
def Own (id : Nat) (l : List Ps) (r : LV) (e : Ent) : Prop := ∃ b c, l.length ≤ c ∧ r = .msl id 14 b 0 l.length c ∧ e = .blk b (Sp (l.flatMap PsC) ((c - l.length) * 14))
theorem cpt (l : List Ps) (hl : l.length ≤ 1000000 ∧ ∀ p ∈ l, p.op.length ≤ 1000000) : NewsE Tryz.prog gl 111 [.sl 14 l.length (l.flatMap PsC), .fn 59] 13 (Own 13 l) := by
  refine fn_viewT Tryz.func111 t111 Tryz.ntmps111 (by simp) ?_
  obtain ⟨hn, hp⟩ := hl
  have hle := len_ps l
  unfold c111 r111
  repeat' (first | (simp (disch := first | exact dd | fail) only [go_sem]) | (refine allI (fun b => ?_)) | (refine allT (fun τ => ?_)) | (refine brP (fun h => ?_) (fun h => ?_) <;> (try simp only [zgx, zbx] at h)) | (refine gd ?_) | fail)
  · have h0 : l = [] := List.length_eq_zero_iff.1 (by omega)
    subst h0
    exact ⟨_, _, leVH.ofNil 13 _ 14, _, rfl, 0, 0, by simp, rfl, by simp [Sp]⟩
  · refine .inr fun b => ?_
    refine loopI (ι := Nat × Nat × Nat) (fun y => y.1 ≤ l.length ∧ y.1 ≤ y.2.2) (fun y => [(16, .int .i64 y.1), (15, .int .i64 l.length), (14, .sl 14 l.length (l.flatMap PsC)), (5, .msl 13 14 y.2.1 0 y.1 y.2.2), (1, .fn 59)]) (fun y => [(13, .blk y.2.1 (Sp ((l.take y.1).flatMap PsC) ((y.2.2 - y.1) * 14)))]) (fun y => l.length - y.1) (0, b, l.length) (by simp) (Ents.le (by simp [go_sem]) ⟨⟨rfl, leVs_any (by simp [zeros, Sp])⟩, trivial⟩) ?_
    rintro ⟨i, b', c⟩ ⟨h1, h2⟩
    dsimp only at h1 h2 ⊢
    have htl : ((l.take i).flatMap PsC).length = i * 14 := by rw [len_ps, List.length_take, Nat.min_eq_left h1]
    simp (disch := first | exact dd | fail) only [go_sem]
    refine brP (fun hb => ?_) (fun hb => ?_)
    · have hlt : i < l.length := by simpa using hb
      have e2 : ((l.flatMap PsC).drop (i * 14)).take 14 = PsC (l.getD i ps0) := take_rows (f := PsC) (fun _ => rfl) ps0 _ hlt
      have hts := take_succ_getD ps0 l hlt
      have hc := cpp (l.getD i ps0) (hp _ (getD_memA ps0 hlt))
      generalize l.getD i ps0 = x at *
      rw [PsC_eq] at e2 hc
      repeat' (first | (simp (disch := first | exact dd | fail) only [go_sem, e2, zPs]) | (refine allI (fun b => ?_)) | (refine allT (fun τ => ?_)) | (refine brP (fun h => ?_) (fun h => ?_) <;> (try simp only [zgx, zbx] at h)) | (refine gd ?_) | fail)
      refine ⟨by kernel_rfl, ?_⟩
      first | refine call_U (hc) ?_ | refine call_T (hc) ?_ | refine call_N (hc) ?_ | refine call_of (hc) ?_
      repeat' (first | (simp (disch := first | exact dd | fail) only [go_sem, zPs]) | (refine allI (fun b => ?_)) | (refine allT (fun τ => ?_)) | (refine brP (fun h => ?_) (fun h => ?_) <;> (try simp only [zgx, zbx] at h)) | (refine gd ?_) | fail)
      refine .inl ⟨by rw [length_Sp, htl]; omega, by rw [length_Sp, htl]; omega, by simp only [roomy]; omega, fun b2 c2 h3 => ?_⟩
      rw [take_Sp _ htl]
      refine ⟨⟨(i + 1, b2, c2), by dsimp only; omega⟩, by dsimp only; omega, Ents.sub ⟨leV.refl _, leV.refl _, leV.refl _, leV.refl _, leV.refl _, trivial⟩ ⟨_, sub1, ?_⟩⟩
      dsimp only
      rw [hts, List.flatMap_append, List.flatMap_singleton, PsC_eq, Sp]
    · have hlen : i = l.length := by simp only [decide_eq_false_iff_not] at hb; omega
      subst hlen
      repeat' (first | (simp (disch := first | exact dd | fail) only [go_sem]) | (refine allI (fun b => ?_)) | (refine allT (fun τ => ?_)) | (refine brP (fun h => ?_) (fun h => ?_) <;> (try simp only [zgx, zbx] at h)) | (refine gd ?_) | fail)
      rw [List.take_length]
      exact ⟨_, _, leVH.self _ _, _, rfl, b', c, h2, rfl, rfl⟩
theorem Own.name {i j : Nat} {l : List Ps} {r : LV} {e : Ent} (h : Own i l r e) : ∃ r', leV r r' ∧ Own j l r' e := by
  obtain ⟨b, c, h1, h2, h3⟩ := h
  exact ⟨_, by subst h2; exact leV.msl_name _ j _ _ _ _ _, b, c, h1, rfl, h3⟩
def OwnT (t : Tb) (r : LV) (e : Ent) : Prop := ∃ b c, t.ps.length ≤ c ∧ r = .agg [.int .i64 t.nx, .int .i64 t.ns, .msl 6000 14 b 0 t.ps.length c] ∧ e = .blk b (Sp (t.ps.flatMap PsC) ((c - t.ps.length) * 14))
theorem ctab (t : Tb) (ht : okT t) : NewsE Tryz.prog gl 70 [TbL t] 6000 (OwnT t) := by
  refine fn_viewT Tryz.func70 t70 Tryz.ntmps70 (by simp) ?_
  have hc : NewsE Tryz.prog gl 111 [.sl 14 t.ps.length (t.ps.flatMap PsC), .fn 59] 6000 (Own 6000 t.ps) := NewsE.name (cpt t.ps ht) fun r e h => h.name
  unfold c70 r70 TbL
  repeat' (first | (simp (disch := first | exact dd | fail) only [go_sem]) | (refine allI (fun b => ?_)) | (refine allT (fun τ => ?_)) | (refine brP (fun h => ?_) (fun h => ?_) <;> (try simp only [zgx, zbx] at h)) | (refine gd ?_) | fail)
  first | refine newsE_U (hc) ?_ | refine newsE_T (hc) ?_ | refine newsE_of (hc) ?_
  rintro _ _ ⟨b, c, h1, rfl, rfl⟩
  repeat' (first | (simp (disch := first | exact dd | fail) only [go_sem]) | (refine allI (fun b => ?_)) | (refine allT (fun τ => ?_)) | (refine brP (fun h => ?_) (fun h => ?_) <;> (try simp only [zgx, zbx] at h)) | (refine gd ?_) | fail)
  exact viewE_end (leV.refl _) sub1 ⟨b, c, h1, rfl, rfl⟩
end Go.Proofs.YtkdblnejpmbnfaaGreat
namespace Go.Proofs.YtkdblnejpmbnfaaGreat
open Go Go.Lx
set_option linter.unusedSimpArgs false
set_option linter.unusedVariables false
set_option maxRecDepth 100000
set_option maxHeartbeats 4000000
def ChH (bt : Nat) (t : Tb) (b c : Nat) : Heap := [(3, .blk bt [.int .i64 t.nx, .int .i64 t.ns, .msl 6000 14 b 0 t.ps.length c]), (6000, .blk b (Sp (t.ps.flatMap PsC) ((c - t.ps.length) * 14)))]
def ClOk (f : Nat) (caps : List LV) (Hc : Heap) (t : Tb) (i : Nat) (g : Int × Tb) : Prop := ∀ bt b c, t.ps.length ≤ c →
  LCalls Tryz.prog gl f ([.ptr 3 bt 0, .ptr 6000 b (i * 14)] ++ caps) (ChH bt t b c ++ Hc) fun v H => ∃ b' c', g.2.ps.length ≤ c' ∧ v = .int .i64 g.1 ∧ H = ChH bt g.2 b' c' ++ Hc
def chR (t : Tb) (pid : Int) (g : Nat → Int × Tb) : Int × Tb :=
  if findI t pid < 0 then (3, tb0) else if (g (findI t pid).toNat).1 ≠ 0 then ((g (findI t pid).toNat).1, tb0) else (0, (g (findI t pid).toNat).2)
theorem tb0_le : leV (.agg [.int .i64 0, .int .i64 0, .fsl 1 0 []]) (TbL tb0) := leV.agg ⟨leV.refl _, leV.refl _, leV.nil_sl _ _, trivial⟩
theorem findI_lt (t : Tb) (pid : Int) : findI t pid < t.ps.length := by
  rcases firstI_cases t.ps.length (findP t pid) with ⟨h, _⟩ | ⟨i, h1, h2, _⟩
  · rw [findI, h]; omega
  · rw [findI, h2]; omega
theorem change (t : Tb) (pid : Int) (ht : okT t) (f : Nat) (caps : List LV) (Hc : Heap) (g : Nat → Int × Tb) (hok : okF Tryz.prog f = true) (hg : ∀ i, findI t pid = (i : Nat) → ClOk f caps Hc t i (g i)) :
    LCalls Tryz.prog gl 23 [TbL t, .int .i64 pid, .clo f caps] Hc fun v H => v = .tup [TbL (chR t pid g).2, .int .i64 (chR t pid g).1] ∧ H = Hc := by
  refine fn_viewT Tryz.func23 t23 Tryz.ntmps23 (by simp) ?_
  have hlt := findI_lt t pid
  have hF := find t pid ht.1
  have hc := ctab t ht
  have hR : chR t pid g = if findI t pid < 0 then (3, tb0) else if (g (findI t pid).toNat).1 ≠ 0 then ((g (findI t pid).toNat).1, tb0) else (0, (g (findI t pid).toNat).2) := rfl
  generalize findI t pid = k at *
  unfold c23 r23
  rw [TbL_eq t] at *
  repeat' (first | (simp (disch := first | exact dd | fail) only [go_sem]) | (refine allI (fun b => ?_)) | (refine allT (fun τ => ?_)) | (refine brP (fun h => ?_) (fun h => ?_) <;> (try simp only [zgx, zbx] at h)) | refine call_U (hF) ?_ | refine callG_U (fun _ => hF) ?_ | refine call_T (hF) ?_ | refine callG_T (fun _ => hF) ?_ | refine call_N (hF) ?_ | refine call_of (hF) ?_ | refine callG_of (fun _ => hF) ?_ | (refine gd ?_) | fail)
  · rw [hR, if_pos (by assumption)]
    exact ⟨.tup [TbL tb0, .int .i64 3], Hc, leVH.of (leV.tup ⟨tb0_le, leV.refl _, trivial⟩) ⟨_, List.Sublist.cons _ (List.Sublist.cons _ (List.Sublist.refl _)), List.Perm.refl _⟩, rfl, rfl⟩
  · first | refine newsE_U (hc) ?_ | refine newsE_T (hc) ?_ | refine newsE_of (hc) ?_
    rintro _ _ ⟨b, c, h1, rfl, rfl⟩
    repeat' (first | (simp (disch := first | exact dd | fail) only [go_sem]) | (refine allI (fun b => ?_)) | (refine allT (fun τ => ?_)) | (refine brP (fun h => ?_) (fun h => ?_) <;> (try simp only [zgx, zbx] at h)) | (refine gd ?_) | fail)
    obtain ⟨n, rfl⟩ : ∃ n : Nat, k = (n : Int) := ⟨k.toNat, by omega⟩
    rw [Int.toNat_natCast] at *
    refine actsP_U (H2 := [(6, _)]) (hg n rfl _ b c h1) (pick_perm rfl (pick_perm rfl (List.perm_append_comm (l₁ := [(6, _)]) (l₂ := Hc)))) ?_
    rintro _ _ ⟨b', c', h2, rfl, rfl⟩
    rw [if_neg (by omega)] at hR
    generalize g n = gn at *
    obtain ⟨e, t'⟩ := gn
    dsimp only at hR h2 ⊢
    unfold ChH
    simp only [List.cons_append, List.nil_append]
    repeat' (first | (simp (disch := first | exact dd | fail) only [go_sem]) | (refine allI (fun b => ?_)) | (refine allT (fun τ => ?_)) | (refine brP (fun h => ?_) (fun h => ?_) <;> (try simp only [zgx, zbx] at h)) | (refine gd ?_) | fail)
    · rename_i h
      rw [if_pos h] at hR
      rw [hR]
      exact ⟨.tup [TbL tb0, .int .i64 e], Hc, leVH.of (leV.tup ⟨tb0_le, leV.refl _, trivial⟩) ⟨_, List.Sublist.cons _ (List.Sublist.cons _ (List.Sublist.cons _ (List.Sublist.refl _))), List.Perm.refl _⟩, rfl, rfl⟩
    · rename_i h
      have h0 : e = 0 := by simpa using h
      rw [if_neg (by simpa using h0)] at hR
      rw [hR]
      have hl := len_ps t'.ps
      refine ⟨.tup [TbL t', .int .i64 0], Hc, leVH.pub 6000 rfl ?_ (leVH.of ?_ ⟨_, List.Sublist.cons _ (List.Sublist.cons _ (List.Sublist.refl _)), List.Perm.refl _⟩), rfl, rfl⟩
      · simp [go_sem, length_Sp, hl]
        omega
      · simp only [go_sem]
        refine leV.tup ⟨leV.agg ⟨leV.refl _, leV.refl _, leV.of_eq ?_, trivial⟩, leV.refl _, trivial⟩
        simp [go_sem, Sp, ← hl]
end Go.Proofs.YtkdblnejpmbnfaaGreat
namespace Go.Proofs.YtkdblnejpmbnfaaGreat
open Go Go.Lx
set_option linter.unusedSimpArgs false
set_option linter.unusedVariables false
set_option maxRecDepth 100000
set_option maxHeartbeats 4000000
def putC (cs : List LV) (o : Nat) (v : LV) : List LV := cs.take o ++ [v] ++ cs.drop (o + 1)
theorem putC_eq (cs : List LV) (o : Nat) (v : LV) : cs.take o ++ [v] ++ cs.drop (o + 1) = putC cs o v := Eq.trans rfl rfl
theorem putC_set {cs : List LV} {o : Nat} (v : LV) (h : o < cs.length) : putC cs o v = cs.set o v := by
  rw [putC, List.set_eq_take_append_cons_drop, if_pos h]; simp
theorem putC_len {cs : List LV} {o : Nat} (v : LV) (h : o < cs.length) : (putC cs o v).length = cs.length := by rw [putC_set v h, List.length_set]
theorem putC_ne {cs : List LV} {o i : Nat} (v : LV) (h : o < cs.length) (hn : o ≠ i) : (putC cs o v).getD i .any = cs.getD i .any := by
  rw [putC_set v h]; simp [List.getD, List.getElem?_set_ne hn]
theorem putC_Sp {cs : List LV} {o k : Nat} (v : LV) (h : o < cs.length) : putC (Sp cs k) o v = Sp (putC cs o v) k := by
  rw [putC_set v (by rw [length_Sp]; omega), putC_set v h, Sp, Sp, List.set_append_left _ _ h]
theorem putC_rows {α : Type} {f : α → List LV} {w : Nat} (hw : ∀ x, (f x).length = w) (d x' : α) : ∀ (l : List α) {i j : Nat} (v : LV), i < l.length → j < w → f x' = putC (f (l.getD i d)) j v → putC (l.flatMap f) (i * w + j) v = (l.set i x').flatMap f
  | [], i, j, v, h, _, _ => by simp at h
  | r :: l, 0, j, v, h, hj, he => by
    have hlen := hw r
    simp only [List.getD_cons_zero] at he
    rw [putC_set v (by omega)] at he
    rw [List.flatMap_cons, Nat.zero_mul, Nat.zero_add, putC_set v (by rw [List.length_append]; omega), List.set_append_left _ _ (by omega), List.set_cons_zero, List.flatMap_cons, he]
  | r :: l, i + 1, j, v, h, hj, he => by
    have hlen := hw r
    have h' : i < l.length := by simpa using h
    have ih := putC_rows hw d x' l (i := i) (j := j) v h' hj (by simpa using he)
    have hll := length_rows hw l
    have hin : i * w + j < (l.flatMap f).length := by
      rw [hll]
      have : (i + 1) * w ≤ l.length * w := Nat.mul_le_mul_right w h'
      rw [Nat.add_mul] at this; omega
    rw [putC_set v hin] at ih
    rw [List.flatMap_cons, List.set_cons_succ, List.flatMap_cons, ← ih, putC_set v (by rw [List.length_append, Nat.add_mul]; omega), List.set_append_right _ _ (by rw [Nat.add_mul]; omega)]
    congr 2
    rw [Nat.add_mul]; omega
def idB (n : Int) : Bool := decide (0 ≤ n ∧ n < 4294967295)
theorem ident (n : Int) : Pure Tryz.prog gl 75 [.int .i64 n] (.bool (idB n)) := by
  refine fn_pureT Tryz.func75 t75 Tryz.ntmps75 (by simp) ?_
  unfold c75 r75
  repeat' (first | (simp (disch := first | exact dd | fail) only [go_sem]) | (refine allI (fun b => ?_)) | (refine allT (fun τ => ?_)) | (refine brP (fun h => ?_) (fun h => ?_) <;> (try simp only [zgx, zbx] at h)) | (refine gd ?_) | fail)
  simp [idB, Bool.decide_and]
def becR (u : Int) (pr : Bool) (x y : Int) : Int × Int × Int := if idB u = false then (22, x, y) else if pr = true then (0, u, u) else if u = x ∨ u = y then (0, x, u) else (1, x, y)
theorem become (u : Int) (pr : Bool) (b o1 o2 : Nat) (cs : List LV) (x y : Int) (h1 : cs.getD o1 .any = .int .i64 x) (h2 : cs.getD o2 .any = .int .i64 y) (hl : o1 < cs.length ∧ o2 < cs.length) (hn : o1 ≠ o2) :
    Acts Tryz.prog gl 74 [.int .i64 u, .bool pr, .ptr 6000 b o1, .ptr 6000 b o2] [(6000, .blk b cs)] (.int .i64 (becR u pr x y).1) [(6000, .blk b (putC (putC cs o1 (.int .i64 (becR u pr x y).2.1)) o2 (.int .i64 (becR u pr x y).2.2)))] := by
  refine fn_actsT Tryz.func74 t74 Tryz.ntmps74 (by simp) ?_
  obtain ⟨hl1, hl2⟩ := hl
  have hR : becR u pr x y = if idB u = false then (22, x, y) else if pr = true then (0, u, u) else if u = x ∨ u = y then (0, x, u) else (1, x, y) := rfl
  have hp : putC cs o1 (.int .i64 x) = cs := by
    rw [putC_set _ hl1, ← h1]
    simp [List.getD, hl1]
  have hq : putC cs o2 (.int .i64 y) = cs := by
    rw [putC_set _ hl2, ← h2]
    simp [List.getD, hl2]
  unfold c74 r74
  repeat' (first | (simp (disch := first | exact dd | fail) only [go_sem, h1, h2, putC_eq, putC_len]) | (refine allI (fun b => ?_)) | (refine allT (fun τ => ?_)) | (refine brP (fun h => ?_) (fun h => ?_) <;> (try simp only [zgx, zbx] at h)) | refine call_U (ident _) ?_ | refine callG_U (fun _ => ident _) ?_ | refine call_T (ident _) ?_ | refine callG_T (fun _ => ident _) ?_ | refine call_N (ident _) ?_ | refine call_of (ident _) ?_ | refine callG_of (fun _ => ident _) ?_ | (refine gd ?_) | fail)
  all_goals first
    | contradiction
    | (rw [hR, if_pos (by assumption)]; dsimp only; rw [hp, hq]; exact acts_end (leV.refl _) (List.Sublist.refl _))
    | (rw [hR, if_neg (by rw [‹idB u = true›]; simp), if_pos (by assumption)]; exact acts_end (leV.refl _) (List.Sublist.refl _))
    | (rw [hR, if_neg (by rw [‹idB u = true›]; simp), if_neg (by rw [‹pr = false›]; simp), if_pos (.inl (by assumption))]; dsimp only; rw [hp]; exact acts_end (leV.refl _) (List.Sublist.refl _))
    | (rw [hR, if_neg (by rw [‹idB u = true›]; simp), if_neg (by rw [‹pr = false›]; simp), if_pos (.inr (by assumption))]; dsimp only; rw [hp]; exact acts_end (leV.refl _) (List.Sublist.refl _))
    | (rw [hR, if_neg (by rw [‹idB u = true›]; simp), if_neg (by rw [‹pr = false›]; simp), if_neg (not_or.2 ⟨by assumption, by assumption⟩)]; dsimp only; rw [hp, hq]; exact acts_end (leV.refl _) (List.Sublist.refl _))
def setP (t : Tb) (i : Nat) (p : Ps) : Tb := { t with ps := t.ps.set i p }
def pAt (t : Tb) (i : Nat) : Ps := t.ps.getD i ps0
def suP (u : Int) (p : Ps) : Int × Ps := ((becR u (p.euid == 0) p.uid p.euid).1, { p with uid := (becR u (p.euid == 0) p.uid p.euid).2.1, euid := (becR u (p.euid == 0) p.uid p.euid).2.2 })
def suG (u : Int) (t : Tb) (i : Nat) : Int × Tb := ((suP u (pAt t i)).1, setP t i (suP u (pAt t i)).2)
theorem gdSp {l : List Ps} {i j k : Nat} (h : i < l.length) (hj : j < 14) : (Sp (l.flatMap PsC) k).getD (i * 14 + j) .any = (PsC (l.getD i ps0)).getD j .any := by
  have e := take_rows (f := PsC) (w := 14) (fun _ => rfl) ps0 l h
  have hle := len_ps l
  have : (i + 1) * 14 ≤ l.length * 14 := Nat.mul_le_mul_right 14 h
  rw [← e, Sp]
  simp only [List.getD_eq_getElem?_getD]
  rw [List.getElem?_append_left (by omega), List.getElem?_take_of_lt hj, List.getElem?_drop]
theorem rowSet {l : List Ps} {i j k : Nat} {v : LV} (p' : Ps) (h : i < l.length) (hj : j < 14) (he : PsC p' = putC (PsC (l.getD i ps0)) j v) : putC (Sp (l.flatMap PsC) k) (i * 14 + j) v = Sp ((l.set i p').flatMap PsC) k := by
  have hle := len_ps l
  have : (i + 1) * 14 ≤ l.length * 14 := Nat.mul_le_mul_right 14 h
  rw [putC_Sp _ (by omega), putC_rows (f := PsC) (w := 14) (fun _ => rfl) ps0 p' l v h hj he]
theorem rowSet2 {l : List Ps} {i j j2 k : Nat} {v v2 : LV} (p' p2 : Ps) (h : i < l.length) (hj : j < 14) (hj2 : j2 < 14) (he : PsC p' = putC (PsC (l.getD i ps0)) j v) (he2 : PsC p2 = putC (PsC p') j2 v2) : putC (putC (Sp (l.flatMap PsC) k) (i * 14 + j) v) (i * 14 + j2) v2 = Sp ((l.set i p2).flatMap PsC) k := by
  rw [rowSet p' h hj he, rowSet (l := l.set i p') p2 (by simpa using h) hj2 (by rw [he2]; simp [List.getD, h])]
  simp
theorem su1 (u : Int) (b4 : Nat) (t : Tb) (i : Nat) (hi : i < t.ps.length) : ClOk 73 [.ptr 5 b4 0] [(5, .blk b4 [.int .i64 u])] t i (suG u t i) := by
  intro bt b c hc
  refine fn_viewT Tryz.func73 t73 Tryz.ntmps73 (by simp) ?_
  have hle := len_ps t.ps
  have g2 := gdSp (k := (c - t.ps.length) * 14) hi (j := 2) (by omega)
  have g3 := gdSp (k := (c - t.ps.length) * 14) hi (j := 3) (by omega)
  have hs := length_Sp (t.ps.flatMap PsC) ((c - t.ps.length) * 14)
  rw [PsC_eq] at g2 g3
  simp only [List.getD_cons_zero, List.getD_cons_succ] at g2 g3
  unfold c73 r73 ChH
  simp only [List.cons_append, List.nil_append]
  repeat' (first | (simp (disch := first | exact dd | fail) only [go_sem, g2, g3]) | (refine allI (fun b => ?_)) | (refine allT (fun τ => ?_)) | (refine brP (fun h => ?_) (fun h => ?_) <;> (try simp only [zgx, zbx] at h)) | (refine gd ?_) | fail)
  first | refine acts_U (become u _ b _ _ _ _ _ g2 g3 ⟨by omega, by omega⟩ (by omega)) (by simp (disch := first | exact dd | fail) only [go_sem]) ?_ | refine acts_T (become u _ b _ _ _ _ _ g2 g3 ⟨by omega, by omega⟩ (by omega)) (by simp (disch := first | exact dd | fail) only [go_sem]) ?_ | refine acts_N (become u _ b _ _ _ _ _ g2 g3 ⟨by omega, by omega⟩ (by omega)) (by simp (disch := first | exact dd | fail) only [go_sem]) ?_ | refine acts_of (H1 := []) (become u _ b _ _ _ _ _ g2 g3 ⟨by omega, by omega⟩ (by omega)) (by simp (disch := first | exact dd | fail) only [go_sem]) ?_
  rw [rowSet2 _ (suP u (pAt t i)).2 hi (by omega) (by omega) (Eq.trans (b := PsC { pAt t i with uid := (suP u (pAt t i)).2.uid }) rfl rfl) (Eq.trans rfl rfl)]
  repeat' (first | (simp (disch := first | exact dd | fail) only [go_sem]) | (refine allI (fun b => ?_)) | (refine allT (fun τ => ?_)) | (refine brP (fun h => ?_) (fun h => ?_) <;> (try simp only [zgx, zbx] at h)) | (refine gd ?_) | fail)
  refine ⟨_, _, leVH.of (leV.refl _) ⟨_, List.Sublist.refl _, List.Perm.refl _⟩, b, c, ?_, rfl, ?_⟩ <;> simp [suG, setP]
  all_goals omega
def sgP (u : Int) (p : Ps) : Int × Ps := ((becR u (p.euid == 0) p.gid p.egid).1, { p with gid := (becR u (p.euid == 0) p.gid p.egid).2.1, egid := (becR u (p.euid == 0) p.gid p.egid).2.2 })
def sgG (u : Int) (t : Tb) (i : Nat) : Int × Tb := ((sgP u (pAt t i)).1, setP t i (sgP u (pAt t i)).2)
theorem sg1 (u : Int) (b4 : Nat) (t : Tb) (i : Nat) (hi : i < t.ps.length) : ClOk 79 [.ptr 5 b4 0] [(5, .blk b4 [.int .i64 u])] t i (sgG u t i) := by
  intro bt b c hc
  refine fn_viewT Tryz.func79 t79 Tryz.ntmps79 (by simp) ?_
  have hle := len_ps t.ps
  have g4 := gdSp (k := (c - t.ps.length) * 14) hi (j := 4) (by omega)
  have g5 := gdSp (k := (c - t.ps.length) * 14) hi (j := 5) (by omega)
  have hs := length_Sp (t.ps.flatMap PsC) ((c - t.ps.length) * 14)
  have g3 := gdSp (k := (c - t.ps.length) * 14) hi (j := 3) (by omega)
  rw [PsC_eq] at g3 g4 g5
  simp only [List.getD_cons_zero, List.getD_cons_succ] at g3 g4 g5
  unfold c79 r79 ChH
  simp only [List.cons_append, List.nil_append]
  repeat' (first | (simp (disch := first | exact dd | fail) only [go_sem, g3, g4, g5]) | (refine allI (fun b => ?_)) | (refine allT (fun τ => ?_)) | (refine brP (fun h => ?_) (fun h => ?_) <;> (try simp only [zgx, zbx] at h)) | (refine gd ?_) | fail)
  first | refine acts_U (become u _ b _ _ _ _ _ g4 g5 ⟨by omega, by omega⟩ (by omega)) (by simp (disch := first | exact dd | fail) only [go_sem]) ?_ | refine acts_T (become u _ b _ _ _ _ _ g4 g5 ⟨by omega, by omega⟩ (by omega)) (by simp (disch := first | exact dd | fail) only [go_sem]) ?_ | refine acts_N (become u _ b _ _ _ _ _ g4 g5 ⟨by omega, by omega⟩ (by omega)) (by simp (disch := first | exact dd | fail) only [go_sem]) ?_ | refine acts_of (H1 := []) (become u _ b _ _ _ _ _ g4 g5 ⟨by omega, by omega⟩ (by omega)) (by simp (disch := first | exact dd | fail) only [go_sem]) ?_
  rw [rowSet2 _ (sgP u (pAt t i)).2 hi (by omega) (by omega) (Eq.trans (b := PsC { pAt t i with gid := (sgP u (pAt t i)).2.gid }) rfl rfl) (Eq.trans rfl rfl)]
  repeat' (first | (simp (disch := first | exact dd | fail) only [go_sem]) | (refine allI (fun b => ?_)) | (refine allT (fun τ => ?_)) | (refine brP (fun h => ?_) (fun h => ?_) <;> (try simp only [zgx, zbx] at h)) | (refine gd ?_) | fail)
  refine ⟨_, _, leVH.of (leV.refl _) ⟨_, List.Sublist.refl _, List.Perm.refl _⟩, b, c, ?_, rfl, ?_⟩ <;> simp [sgG, setP]
  all_goals omega
def suR (t : Tb) (pid u : Int) : Int × Tb := chR t pid (suG u t)
theorem su (t : Tb) (pid u : Int) (ht : okT t) : Pure Tryz.prog gl 28 [TbL t, .int .i64 pid, .int .i64 u] (.tup [TbL (suR t pid u).2, .int .i64 (suR t pid u).1]) := by
  refine fn_pureT Tryz.func28 t28 Tryz.ntmps28 (by simp) ?_
  have hF := findI_lt t pid
  unfold c28 r28
  rw [TbL_eq t]
  repeat' (first | (simp (disch := first | exact dd | fail) only [go_sem]) | (refine allI (fun b => ?_)) | (refine allT (fun τ => ?_)) | (refine brP (fun h => ?_) (fun h => ?_) <;> (try simp only [zgx, zbx] at h)) | (refine gd ?_) | fail)
  rename_i b1 b2
  refine actsP_U (change t pid ht 73 [.ptr 5 b2 0] [(5, _)] (suG u t) (by kernel_rfl) fun i hi => su1 u b2 t i (by omega)) (List.Perm.swap _ _ _) ?_
  rintro _ _ ⟨rfl, rfl⟩
  have hR : suR t pid u = chR t pid (suG u t) := rfl
  rw [← hR]
  generalize suR t pid u = R at *
  obtain ⟨e, t'⟩ := R
  dsimp only
  rw [TbL_eq t']
  repeat' (first | (simp (disch := first | exact dd | fail) only [go_sem]) | (refine allI (fun b => ?_)) | (refine allT (fun τ => ?_)) | (refine brP (fun h => ?_) (fun h => ?_) <;> (try simp only [zgx, zbx] at h)) | (refine gd ?_) | fail)
def sgR (t : Tb) (pid u : Int) : Int × Tb := chR t pid (sgG u t)
theorem sg (t : Tb) (pid u : Int) (ht : okT t) : Pure Tryz.prog gl 40 [TbL t, .int .i64 pid, .int .i64 u] (.tup [TbL (sgR t pid u).2, .int .i64 (sgR t pid u).1]) := by
  refine fn_pureT Tryz.func40 t40 Tryz.ntmps40 (by simp) ?_
  have hF := findI_lt t pid
  unfold c40 r40
  rw [TbL_eq t]
  repeat' (first | (simp (disch := first | exact dd | fail) only [go_sem]) | (refine allI (fun b => ?_)) | (refine allT (fun τ => ?_)) | (refine brP (fun h => ?_) (fun h => ?_) <;> (try simp only [zgx, zbx] at h)) | (refine gd ?_) | fail)
  rename_i b1 b2
  refine actsP_U (change t pid ht 79 [.ptr 5 b2 0] [(5, _)] (sgG u t) (by kernel_rfl) fun i hi => sg1 u b2 t i (by omega)) (List.Perm.swap _ _ _) ?_
  rintro _ _ ⟨rfl, rfl⟩
  have hR : sgR t pid u = chR t pid (sgG u t) := rfl
  rw [← hR]
  generalize sgR t pid u = R at *
  obtain ⟨e, t'⟩ := R
  dsimp only
  rw [TbL_eq t']
  repeat' (first | (simp (disch := first | exact dd | fail) only [go_sem]) | (refine allI (fun b => ?_)) | (refine allT (fun τ => ?_)) | (refine brP (fun h => ?_) (fun h => ?_) <;> (try simp only [zgx, zbx] at h)) | (refine gd ?_) | fail)
end Go.Proofs.YtkdblnejpmbnfaaGreat
namespace Go.Proofs.YtkdblnejpmbnfaaGreat
open Go Go.Lx
set_option linter.unusedSimpArgs false
set_option linter.unusedVariables false
set_option maxRecDepth 100000
set_option maxHeartbeats 4000000
theorem invLab {w0 w : World} {M : Imm} {H H' : Heap} (h : Inv gl w0 M H w) (he : H.map (·.2) = H'.map (·.2)) : Inv gl w0 M H' w := Inv.names h he
theorem callLab {f : FuncId} {args args' : List LV} {H H' : Heap} {K : LV → Heap → Prop} (h : LCalls Tryz.prog gl f args H fun r H1 => ∃ H2, H1.map (·.2) = H2.map (·.2) ∧ K r H2) (hH : H'.map (·.2) = H.map (·.2)) (ha : ∀ M vs, RVs M args' vs → RVs M args vs) : LCalls Tryz.prog gl f args' H' K :=
  fun w0 M HF w vs hI hv => (h w0 M HF w vs (invLab hI (by rw [List.map_append, List.map_append, hH])) (ha M vs hv)).mono fun _ _ ⟨M', v, r, H1, h1, h2, h3, h4, H2, h5, h6⟩ =>
    ⟨M', v, r, H2, h1, h2, h3, invLab h4 (by rw [List.map_append, List.map_append, h5]), h6⟩
def loG (u : Int) (t : Tb) (i : Nat) : Int × Tb :=
  if idB u = false then (22, t) else if (pAt t i).auid ≠ 4294967295 ∧ (pAt t i).euid ≠ 0 then (1, t) else if 1073741824 ≤ t.ns then (11, t)
  else (0, { setP t i { pAt t i with auid := u, ses := t.ns } with ns := t.ns + 1 })
theorem loE {e : Int} {t : Tb} {bt b c : Nat} {Hc : Heap} (hc : t.ps.length ≤ c) : ∃ r' H', leVH gl (.int .i64 e) ((3, .blk bt [.int .i64 t.nx, .int .i64 t.ns, .msl 6000 14 b 0 t.ps.length c]) :: (6000, .blk b (Sp (t.ps.flatMap PsC) ((c - t.ps.length) * 14))) :: Hc) r' H' ∧ ∃ b' c', ((e, t) : Int × Tb).2.ps.length ≤ c' ∧ r' = .int .i64 ((e, t) : Int × Tb).1 ∧ H' = (3, .blk bt [.int .i64 ((e, t) : Int × Tb).2.nx, .int .i64 ((e, t) : Int × Tb).2.ns, .msl 6000 14 b' 0 ((e, t) : Int × Tb).2.ps.length c']) :: (6000, .blk b' (Sp (((e, t) : Int × Tb).2.ps.flatMap PsC) ((c' - ((e, t) : Int × Tb).2.ps.length) * 14))) :: Hc :=
  ⟨_, _, leVH.of (leV.refl _) ⟨_, List.Sublist.refl _, List.Perm.refl _⟩, b, c, hc, rfl, rfl⟩
theorem lo1 (u : Int) (b4 : Nat) (t : Tb) (i : Nat) (hi : i < t.ps.length) (hn : 0 ≤ t.ns) : ClOk 80 [.ptr 5 b4 0] [(5, .blk b4 [.int .i64 u])] t i (loG u t i) := by
  intro bt b c hc
  refine fn_viewT Tryz.func80 t80 Tryz.ntmps80 (by simp) ?_
  have hR : loG u t i = if idB u = false then (22, t) else if (pAt t i).auid ≠ 4294967295 ∧ (pAt t i).euid ≠ 0 then (1, t) else if 1073741824 ≤ t.ns then (11, t) else (0, { setP t i { pAt t i with auid := u, ses := t.ns } with ns := t.ns + 1 }) := rfl
  have hle := len_ps t.ps
  have g3 := gdSp (k := (c - t.ps.length) * 14) hi (j := 3) (by omega)
  have g6 := gdSp (k := (c - t.ps.length) * 14) hi (j := 6) (by omega)
  have hs := length_Sp (t.ps.flatMap PsC) ((c - t.ps.length) * 14)
  rw [PsC_eq] at g3 g6
  simp only [List.getD_cons_zero, List.getD_cons_succ] at g3 g6
  unfold c80 r80 ChH
  simp only [List.cons_append, List.nil_append]
  repeat' (first | (simp (disch := first | exact dd | fail) only [go_sem, g3, g6, putC_eq, putC_len]) | (refine allI (fun b => ?_)) | (refine allT (fun τ => ?_)) | (refine brP (fun h => ?_) (fun h => ?_) <;> (try simp only [zgx, zbx] at h)) | refine call_U (ident _) ?_ | refine callG_U (fun _ => ident _) ?_ | refine call_T (ident _) ?_ | refine callG_T (fun _ => ident _) ?_ | refine call_N (ident _) ?_ | refine call_of (ident _) ?_ | refine callG_of (fun _ => ident _) ?_ | (refine gd ?_) | fail)
  · rw [hR, if_pos (by assumption)]
    exact loE hc
  · rename_i hI
    rw [hR, if_neg (by rw [hI]; simp), if_pos (by unfold pAt; generalize t.ps.getD i ps0 = p at *; simpa using h)]
    exact loE hc
  · rename_i hI hA
    rw [hR, if_neg (by rw [hI]; simp), if_neg (by unfold pAt; generalize t.ps.getD i ps0 = p at *; intro ⟨hx, hy⟩; simp [hx, hy] at hA), if_pos (by omega)]
    exact loE hc
  · rename_i hI hA
    rw [hR, if_neg (by rw [hI]; simp), if_neg (by unfold pAt; generalize t.ps.getD i ps0 = p at *; intro ⟨hx, hy⟩; simp [hx, hy] at hA), if_neg (by omega), rowSet2 { pAt t i with auid := u } { pAt t i with auid := u, ses := t.ns } hi (by omega) (by omega) (Eq.trans rfl rfl) (Eq.trans rfl rfl)]
    refine ⟨_, _, leVH.of (leV.refl _) ⟨_, List.Sublist.refl _, List.Perm.refl _⟩, b, c, ?_, rfl, ?_⟩ <;> simp [setP]
    all_goals omega
def loR (t : Tb) (pid u : Int) : Int × Tb := chR t pid (loG u t)
theorem lo (t : Tb) (pid u : Int) (ht : okT t) (hn : 0 ≤ t.ns) : Pure Tryz.prog gl 42 [TbL t, .int .i64 pid, .int .i64 u] (.tup [TbL (loR t pid u).2, .int .i64 (loR t pid u).1]) := by
  refine fn_pureT Tryz.func42 t42 Tryz.ntmps42 (by simp) ?_
  have hF := findI_lt t pid
  unfold c42 r42
  rw [TbL_eq t]
  repeat' (first | (simp (disch := first | exact dd | fail) only [go_sem]) | (refine allI (fun b => ?_)) | (refine allT (fun τ => ?_)) | (refine brP (fun h => ?_) (fun h => ?_) <;> (try simp only [zgx, zbx] at h)) | (refine gd ?_) | fail)
  rename_i b1 b2
  refine actsP_U (change t pid ht 80 [.ptr 5 b2 0] [(5, _)] (loG u t) (by kernel_rfl) fun i hi => lo1 u b2 t i (by omega) hn) (List.Perm.swap _ _ _) ?_
  rintro _ _ ⟨rfl, rfl⟩
  have hR : loR t pid u = chR t pid (loG u t) := rfl
  rw [← hR]
  generalize loR t pid u = R at *
  obtain ⟨e, t'⟩ := R
  dsimp only
  rw [TbL_eq t']
  repeat' (first | (simp (disch := first | exact dd | fail) only [go_sem]) | (refine allI (fun b => ?_)) | (refine allT (fun τ => ?_)) | (refine brP (fun h => ?_) (fun h => ?_) <;> (try simp only [zgx, zbx] at h)) | (refine gd ?_) | fail)
def exG (e c : List UInt8) (t : Tb) (i : Nat) : Int × Tb := (0, setP t i { pAt t i with exe := e, comm := c })
theorem ex1 (e cm : List UInt8) (b4 b5 : Nat) (t : Tb) (i : Nat) (hi : i < t.ps.length) : ClOk 88 [.ptr 6 b4 0, .ptr 7 b5 0] [(7, .blk b5 [.str cm]), (6, .blk b4 [.str e])] t i (exG e cm t i) := by
  intro bt b c hc
  refine fn_viewT Tryz.func88 t88 Tryz.ntmps88 (by simp) ?_
  have hle := len_ps t.ps
  have hs := length_Sp (t.ps.flatMap PsC) ((c - t.ps.length) * 14)
  unfold c88 r88 ChH
  simp only [List.cons_append, List.nil_append]
  repeat' (first | (simp (disch := first | exact dd | fail) only [go_sem, putC_eq, putC_len]) | (refine allI (fun b => ?_)) | (refine allT (fun τ => ?_)) | (refine brP (fun h => ?_) (fun h => ?_) <;> (try simp only [zgx, zbx] at h)) | (refine gd ?_) | fail)
  rw [rowSet2 _ { pAt t i with exe := e, comm := cm } hi (by omega) (by omega) (Eq.trans (b := PsC { pAt t i with exe := e }) rfl rfl) (Eq.trans rfl rfl)]
  refine ⟨_, _, leVH.of (leV.refl _) ⟨_, List.Sublist.refl _, List.Perm.refl _⟩, b, c, ?_, rfl, ?_⟩ <;> simp [exG, setP]
  all_goals omega
def exR (t : Tb) (pid : Int) (e c : List UInt8) : Int × Tb := chR t pid (exG e c t)
theorem ex (t : Tb) (pid : Int) (e c : List UInt8) (ht : okT t) : Pure Tryz.prog gl 51 [TbL t, .int .i64 pid, .str e, .str c] (.tup [TbL (exR t pid e c).2, .int .i64 (exR t pid e c).1]) := by
  refine fn_pureT Tryz.func51 t51 Tryz.ntmps51 (by simp) ?_
  have hF := findI_lt t pid
  unfold c51 r51
  rw [TbL_eq t]
  repeat' (first | (simp (disch := first | exact dd | fail) only [go_sem]) | (refine allI (fun b => ?_)) | (refine allT (fun τ => ?_)) | (refine brP (fun h => ?_) (fun h => ?_) <;> (try simp only [zgx, zbx] at h)) | (refine gd ?_) | fail)
  rename_i b0 b1 b2
  refine actsP_U (change t pid ht 88 [.ptr 6 b1 0, .ptr 7 b2 0] [(7, _), (6, _)] (exG e c t) (by kernel_rfl) fun i hi => ex1 e c b1 b2 t i (by omega)) (List.perm_middle (l₁ := [_, _]) (l₂ := [_])).symm ?_
  rintro _ _ ⟨rfl, rfl⟩
  have hR : exR t pid e c = chR t pid (exG e c t) := rfl
  rw [← hR]
  generalize exR t pid e c = R at *
  obtain ⟨e, t'⟩ := R
  dsimp only
  rw [TbL_eq t']
  repeat' (first | (simp (disch := first | exact dd | fail) only [go_sem]) | (refine allI (fun b => ?_)) | (refine allT (fun τ => ?_)) | (refine brP (fun h => ?_) (fun h => ?_) <;> (try simp only [zgx, zbx] at h)) | (refine gd ?_) | fail)
def fkG (ch pid : Int) (t : Tb) (i : Nat) : Int × Tb :=
  if (16 : Int) ≤ t.ps.length ∨ 1073741824 ≤ t.nx then (11, t) else (0, { t with nx := t.nx + 1, ps := t.ps ++ [{ pAt t i with pid := ch, ppid := pid }] })
theorem takeSp {l : List Ps} {i k : Nat} (h : i < l.length) : ((Sp (l.flatMap PsC) k).drop (i * 14)).take 14 = PsC (l.getD i ps0) := by
  have e := take_rows (f := PsC) (w := 14) (fun _ => rfl) ps0 l h
  have hle := len_ps l
  have : (i + 1) * 14 ≤ l.length * 14 := Nat.mul_le_mul_right 14 h
  rw [← e, Sp, List.drop_append_of_le_length (by omega), List.take_append_of_le_length (by rw [List.length_drop]; omega)]
theorem fk0 (ch pid : Int) (b4 b5 : Nat) (t : Tb) (i : Nat) (hi : i < t.ps.length) (ht : okT t) (hn : 0 ≤ t.nx) (bt b c : Nat) (hc : t.ps.length ≤ c) : LCalls Tryz.prog gl 72 [.ptr 3 bt 0, .ptr 6000 b (i * 14), .ptr 6001 b4 0, .ptr 6002 b5 0] (ChH bt t b c ++ [(6001, .blk b4 [.int .i64 ch]), (6002, .blk b5 [.int .i64 pid])]) fun v H => ∃ b' c', (fkG ch pid t i).2.ps.length ≤ c' ∧ v = .int .i64 (fkG ch pid t i).1 ∧ H = ChH bt (fkG ch pid t i).2 b' c' ++ [(6001, .blk b4 [.int .i64 ch]), (6002, .blk b5 [.int .i64 pid])] := by
  refine fn_viewT Tryz.func72 t72 Tryz.ntmps72 (by simp) ?_
  have hR : fkG ch pid t i = if (16 : Int) ≤ t.ps.length ∨ 1073741824 ≤ t.nx then (11, t) else (0, { t with nx := t.nx + 1, ps := t.ps ++ [{ pAt t i with pid := ch, ppid := pid }] }) := rfl
  have hle := len_ps t.ps
  have hs := length_Sp (t.ps.flatMap PsC) ((c - t.ps.length) * 14)
  have e2 := takeSp (k := (c - t.ps.length) * 14) hi
  have hcp := cpp (t.ps.getD i ps0) (ht.2 _ (getD_memA ps0 hi))
  unfold c72 r72 ChH
  simp only [List.cons_append, List.nil_append]
  repeat' (first | (simp (disch := first | exact dd | fail) only [go_sem, e2, putC_eq, putC_len]) | (refine allI (fun b => ?_)) | (refine allT (fun τ => ?_)) | (refine brP (fun h => ?_) (fun h => ?_) <;> (try simp only [zgx, zbx] at h)) | (refine gd ?_) | fail)
  · rw [hR, if_pos (by assumption)]
    refine ⟨_, _, leVH.of (leV.refl _) ⟨_, List.Sublist.refl _, List.Perm.refl _⟩, b, c, ?_, rfl, ?_⟩ <;> simp
    all_goals omega
  · first | refine call_U (hcp) ?_ | refine call_T (hcp) ?_ | refine call_N (hcp) ?_ | refine call_of (hcp) ?_
    rw [hR, if_neg (by omega), PsC_eq]
    repeat' (first | (simp (disch := first | exact dd | fail) only [go_sem, zPs]) | (refine allI (fun b => ?_)) | (refine allT (fun τ => ?_)) | (refine brP (fun h => ?_) (fun h => ?_) <;> (try simp only [zgx, zbx] at h)) | (refine gd ?_) | fail)
    refine .inl ⟨by omega, by omega, by simp only [roomy]; omega, fun b2 c2 h3 => ?_⟩
    rw [take_Sp _ hle]
    refine ⟨_, _, leVH.of (leV.refl _) ⟨_, List.Sublist.cons_cons _ (List.Sublist.cons _ (List.Sublist.refl _)), List.Perm.swap _ _ _⟩, b2, c2, by simpa using h3, rfl, ?_⟩
    simp only [List.length_append, List.length_singleton, List.flatMap_append, List.flatMap_singleton, PsC_eq, Sp]
    rfl
theorem fk1 (ch pid : Int) (b4 b5 : Nat) (t : Tb) (i : Nat) (hi : i < t.ps.length) (ht : okT t) (hn : 0 ≤ t.nx) : ClOk 72 [.ptr 7 b4 0, .ptr 3 b5 0] [(7, .blk b4 [.int .i64 ch]), (3, .blk b5 [.int .i64 pid])] t i (fkG ch pid t i) := by
  intro bt b c hc
  refine callLab ((fk0 ch pid b4 b5 t i hi ht hn bt b c hc).mono ?_) rfl fun M vs h => h
  rintro v H ⟨b', c', h1, rfl, rfl⟩
  exact ⟨ChH bt (fkG ch pid t i).2 b' c' ++ [(7, .blk b4 [.int .i64 ch]), (3, .blk b5 [.int .i64 pid])], by simp [ChH], b', c', h1, rfl, rfl⟩
theorem chR_err {t : Tb} {pid : Int} {g : Nat → Int × Tb} (h : (chR t pid g).1 ≠ 0) : (chR t pid g).2 = tb0 := by
  unfold chR at h ⊢
  split
  · rfl
  · rename_i h1
    rw [if_neg h1] at h
    split
    · rfl
    · rename_i h2
      rw [if_neg h2] at h
      exact absurd rfl h
def fkR (t : Tb) (pid : Int) : Int × Tb := chR t pid (fkG t.nx pid t)
theorem fk (t : Tb) (pid : Int) (ht : okT t) (hn : 0 ≤ t.nx) : Pure Tryz.prog gl 27 [TbL t, .int .i64 pid] (.tup [TbL (fkR t pid).2, .int .i64 (if (fkR t pid).1 = 0 then t.nx else 0), .int .i64 (fkR t pid).1]) := by
  refine fn_pureT Tryz.func27 t27 Tryz.ntmps27 (by simp) ?_
  have hF := findI_lt t pid
  unfold c27 r27
  rw [TbL_eq t]
  repeat' (first | (simp (disch := first | exact dd | fail) only [go_sem]) | (refine allI (fun b => ?_)) | (refine allT (fun τ => ?_)) | (refine brP (fun h => ?_) (fun h => ?_) <;> (try simp only [zgx, zbx] at h)) | (refine gd ?_) | fail)
  rename_i b0 b1 b2
  refine actsP_U (H2 := [(4, _), (2, _)]) (change t pid ht 72 [.ptr 7 b 0, .ptr 3 b1 0] [(7, _), (3, _)] (fkG t.nx pid t) (by kernel_rfl) fun i hi => fk1 t.nx pid b b1 t i (by omega) ht hn) (List.Perm.cons _ (List.Perm.swap _ _ _)) ?_
  rintro _ _ ⟨rfl, rfl⟩
  have hz : (fkR t pid).1 ≠ 0 → (fkR t pid).2 = tb0 := chR_err
  have hR : fkR t pid = chR t pid (fkG t.nx pid t) := rfl
  rw [← hR]
  generalize fkR t pid = R at *
  obtain ⟨e, t'⟩ := R
  dsimp only
  rw [TbL_eq t']
  repeat' (first | (simp (disch := first | exact dd | fail) only [go_sem]) | (refine allI (fun b => ?_)) | (refine allT (fun τ => ?_)) | (refine brP (fun h => ?_) (fun h => ?_) <;> (try simp only [zgx, zbx] at h)) | (refine gd ?_) | fail)
  · have h0 := hz h
    dsimp only at h0
    subst h0
    rw [if_neg h]
    exact leV.tup ⟨tb0_le, leV.refl _, leV.refl _, trivial⟩
  · have h0 : e = 0 := by simpa using h
    subst h0
    exact leV.refl _
end Go.Proofs.YtkdblnejpmbnfaaGreat
namespace Go.Proofs.YtkdblnejpmbnfaaGreat
open Go Go.Lx
set_option linter.unusedSimpArgs false
set_option linter.unusedVariables false
set_option maxRecDepth 100000
set_option maxHeartbeats 4000000
def p1 (d i : Int) : Ps := ⟨1, 0, 0, 0, 0, 0, 4294967295, 4294967295, d, i, [105, 110, 105, 116], [47, 105, 110, 105, 116], [], true⟩
def tnew (d i : Int) : Tb := ⟨2, 1, [p1 d i]⟩
theorem p1le {d i : Int} : leVs [.int .i64 1, .int .i64 0, .int .i64 0, .int .i64 0, .int .i64 0, .int .i64 0, .int .i64 4294967295, .int .i64 4294967295, .int .i64 d, .int .i64 i, .str [105, 110, 105, 116], .str [47, 105, 110, 105, 116], .fsl 1 0 [], .bool true] ([p1 d i].flatMap PsC) := ⟨leV.refl _, leV.refl _, leV.refl _, leV.refl _, leV.refl _, leV.refl _, leV.refl _, leV.refl _, leV.refl _, leV.refl _, leV.refl _, leV.refl _, leV.nil_sl _ _, leV.refl _, trivial⟩
theorem ps0le : leVs [.int .i64 0, .int .i64 0, .int .i64 0, .int .i64 0, .int .i64 0, .int .i64 0, .int .i64 0, .int .i64 0, .int .i64 0, .int .i64 0, .str [], .str [], .fsl 1 0 [], .bool false] (PsC ps0) := ⟨leV.refl _, leV.refl _, leV.refl _, leV.refl _, leV.refl _, leV.refl _, leV.refl _, leV.refl _, leV.refl _, leV.refl _, leV.refl _, leV.refl _, leV.nil_sl _ _, leV.refl _, trivial⟩
theorem new9 (d i : Int) : Pure Tryz.prog gl 26 [.agg [.int .i64 d, .int .i64 i]] (TbL (tnew d i)) := by
  refine fn_pureT Tryz.func26 t26 Tryz.ntmps26 (by simp) ?_
  unfold c26 r26
  repeat' (first | (simp (disch := first | exact dd | fail) only [go_sem, zPs]) | (refine allI (fun b => ?_)) | (refine allT (fun τ => ?_)) | (refine brP (fun h => ?_) (fun h => ?_) <;> (try simp only [zgx, zbx] at h)) | (refine gd ?_) | fail)
  exact leV.agg ⟨leV.refl _, leV.refl _, (leV.fsl_sl _ _ _).trans (leV.sl p1le), trivial⟩
theorem rnew (d i : Int) : Pure Tryz.prog gl 61 [.agg [.int .i64 d, .int .i64 i]] (TbL (tnew d i)) := by
  refine fn_pureT Tryz.func61 t61 Tryz.ntmps61 (by simp) ?_
  unfold c61 r61
  repeat' (first | (simp (disch := first | exact dd | fail) only [go_sem, zPs]) | (refine allI (fun b => ?_)) | (refine allT (fun τ => ?_)) | (refine brP (fun h => ?_) (fun h => ?_) <;> (try simp only [zgx, zbx] at h)) | (refine gd ?_) | fail)
  exact leV.agg ⟨leV.refl _, leV.refl _, (leV.fsl_sl _ _ _).trans (leV.sl p1le), trivial⟩
def getR (t : Tb) (pid : Int) : Ps × Bool := if findI t pid < 0 then (ps0, false) else (pAt t (findI t pid).toNat, true)
theorem get_ (t : Tb) (pid : Int) (ht : okT t) : Pure Tryz.prog gl 17 [TbL t, .int .i64 pid] (.tup [.agg (PsC (getR t pid).1), .bool (getR t pid).2]) := by
  refine fn_pureT Tryz.func17 t17 Tryz.ntmps17 (by simp) ?_
  have hF := find t pid ht.1
  have hlt := findI_lt t pid
  have hR : getR t pid = if findI t pid < 0 then (ps0, false) else (pAt t (findI t pid).toNat, true) := rfl
  have hcp : ∀ i, i < t.ps.length → _ := fun i h => cpp (t.ps.getD i ps0) (ht.2 _ (getD_memA ps0 h))
  have e2 : ∀ i, i < t.ps.length → _ := fun i h => take_rows (f := PsC) (w := 14) (fun _ => rfl) ps0 t.ps h
  have hle := len_ps t.ps
  generalize findI t pid = k at *
  unfold c17 r17
  rw [TbL_eq t] at *
  repeat' (first | (simp (disch := first | exact dd | fail) only [go_sem]) | (refine allI (fun b => ?_)) | (refine allT (fun τ => ?_)) | (refine brP (fun h => ?_) (fun h => ?_) <;> (try simp only [zgx, zbx] at h)) | refine call_U (hF) ?_ | refine callG_U (fun _ => hF) ?_ | refine call_T (hF) ?_ | refine callG_T (fun _ => hF) ?_ | refine call_N (hF) ?_ | refine call_of (hF) ?_ | refine callG_of (fun _ => hF) ?_ | (refine gd ?_) | fail)
  · rw [hR, if_pos h]
    exact leV.tup ⟨leV.agg ps0le, leV.refl _, trivial⟩
  · obtain ⟨n, rfl⟩ : ∃ n : Nat, k = (n : Int) := ⟨k.toNat, by omega⟩
    have hn : n < t.ps.length := by omega
    rw [Int.toNat_natCast] at *
    rw [e2 n hn]
    first | refine call_U (hcp n hn) ?_ | refine call_T (hcp n hn) ?_ | refine call_N (hcp n hn) ?_ | refine call_of (hcp n hn) ?_
    rw [hR, if_neg (by omega), pAt]
    generalize t.ps.getD n ps0 = p at *
    rw [PsC_eq]
    repeat' (first | (simp (disch := first | exact dd | fail) only [go_sem, zPs]) | (refine allI (fun b => ?_)) | (refine allT (fun τ => ?_)) | (refine brP (fun h => ?_) (fun h => ?_) <;> (try simp only [zgx, zbx] at h)) | (refine gd ?_) | fail)
theorem rcp (p : Ps) (hp : p.op.length ≤ 1000000) : Pure Tryz.prog gl 29 [.agg (PsC p)] (.agg (PsC p)) := by
  refine fn_pureT Tryz.func29 t29 Tryz.ntmps29 (by simp) ?_
  unfold c29 r29
  rw [PsC_eq, DeS_eq]
  repeat' (first | (simp (disch := first | exact dd | fail) only [go_sem]) | (refine allI (fun b => ?_)) | (refine allT (fun τ => ?_)) | (refine brP (fun h => ?_) (fun h => ?_) <;> (try simp only [zgx, zbx] at h)) | (refine gd ?_) | fail)
  refine ⟨by simp only [roomy]; omega, fun τ => leV.agg ⟨leV.refl _, leV.refl _, leV.refl _, leV.refl _, leV.refl _, leV.refl _, leV.refl _, leV.refl _, leV.refl _, leV.refl _, leV.refl _, leV.refl _, leV.osl_sl _ _ _ _ _, leV.refl _, trivial⟩⟩
theorem Ents.emp {env env' : Env} {H H' : Heap} (id : Nat) (h : Ents gl env ((id, .blk 0 []) :: H) env' H') : Ents gl env H env' H' := fun vv n w0 M HF w a hI hF => h vv n w0 M HF w a (hI.empty id 0) hF
theorem rcopy (t : Tb) (ht : okT t) : NewsE Tryz.prog gl 30 [TbL t] 6000 (OwnT t) := by
  refine fn_viewT Tryz.func30 t30 Tryz.ntmps30 (by simp) ?_
  have hle := len_ps t.ps
  have hm := ht.1
  unfold c30 r30
  rw [TbL_eq]
  repeat' (first | (simp (disch := first | exact dd | fail) only [go_sem]) | (refine allI (fun b => ?_)) | (refine allT (fun τ => ?_)) | (refine brP (fun h => ?_) (fun h => ?_) <;> (try simp only [zgx, zbx] at h)) | (refine gd ?_) | fail)
  rename_i b1 b2
  refine loopI (ι := Nat × Nat × Nat) (fun y => y.1 ≤ t.ps.length ∧ y.1 ≤ y.2.2) (fun y => [(4, .int .i64 y.1), (3, .ptr 3 b 0), (2, .ptr 2 b2 0), (1, .ptr 1 b1 0), (0, .any)]) (fun y => [(3, .blk b [.int .i64 t.nx, .int .i64 t.ns, .msl 6000 14 y.2.1 0 y.1 y.2.2]), (6000, .blk y.2.1 (Sp ((t.ps.take y.1).flatMap PsC) ((y.2.2 - y.1) * 14))), (2, .blk b2 [.int .i64 0, .int .i64 0, .fsl 1 0 []]), (1, .blk b1 [.int .i64 t.nx, .int .i64 t.ns, .sl 14 t.ps.length (t.ps.flatMap PsC)])]) (fun y => t.ps.length - y.1) (0, 0, 0) (by simp) ?_ ?_
  · refine Ents.emp 6000 (Ents.heap ([(3, .blk b [.int .i64 t.nx, .int .i64 t.ns, .fsl 1 0 []]), (6000, .blk 0 []), (2, .blk b2 [.int .i64 0, .int .i64 0, .fsl 1 0 []]), (1, .blk b1 [.int .i64 t.nx, .int .i64 t.ns, .sl 14 t.ps.length (t.ps.flatMap PsC)])]) (by simp [go_sem]) ⟨_, List.Sublist.refl _, List.Perm.swap _ _ _⟩ ⟨⟨rfl, leV.refl _, leV.refl _, leV.nil_msl _ _ _, trivial⟩, ⟨rfl, by simp [Sp, leVs]⟩, ⟨rfl, leVs.refl _⟩, ⟨rfl, leVs.refl _⟩, trivial⟩)
  · rintro ⟨i, b', c⟩ ⟨h1, h2⟩
    dsimp only at h1 h2 ⊢
    have htl : ((t.ps.take i).flatMap PsC).length = i * 14 := by rw [len_ps, List.length_take, Nat.min_eq_left h1]
    simp (disch := first | exact dd | fail) only [go_sem]
    refine brP (fun hb => ?_) (fun hb => ?_)
    · have hlt : i < t.ps.length := by simpa using hb
      have e2 : ((t.ps.flatMap PsC).drop (i * 14)).take 14 = PsC (t.ps.getD i ps0) := take_rows (f := PsC) (fun _ => rfl) ps0 _ hlt
      have hts := take_succ_getD ps0 t.ps hlt
      have hcp := rcp (t.ps.getD i ps0) (ht.2 _ (getD_memA ps0 hlt))
      generalize t.ps.getD i ps0 = x at *
      rw [PsC_eq] at e2 hcp
      repeat' (first | (simp (disch := first | exact dd | fail) only [go_sem, e2, zPs]) | (refine allI (fun b => ?_)) | (refine allT (fun τ => ?_)) | (refine brP (fun h => ?_) (fun h => ?_) <;> (try simp only [zgx, zbx] at h)) | (refine gd ?_) | fail)
      first | refine call_U (hcp) ?_ | refine call_T (hcp) ?_ | refine call_N (hcp) ?_ | refine call_of (hcp) ?_
      repeat' (first | (simp (disch := first | exact dd | fail) only [go_sem, zPs]) | (refine allI (fun b => ?_)) | (refine allT (fun τ => ?_)) | (refine brP (fun h => ?_) (fun h => ?_) <;> (try simp only [zgx, zbx] at h)) | (refine gd ?_) | fail)
      refine .inl ⟨by rw [length_Sp, htl]; omega, by rw [length_Sp, htl]; omega, by simp only [roomy]; omega, fun b2 c2 h3 => ?_⟩
      rw [take_Sp _ htl]
      refine ⟨⟨(i + 1, b2, c2), by dsimp only; omega⟩, by dsimp only; omega, Ents.sub (by simp [go_sem]) ⟨_, List.Sublist.refl _, ?_⟩⟩
      dsimp only
      rw [hts, List.flatMap_append, List.flatMap_singleton, PsC_eq, Sp]
      exact List.Perm.swap _ _ _
    · have hlen : i = t.ps.length := by simp only [decide_eq_false_iff_not] at hb; omega
      subst hlen
      repeat' (first | (simp (disch := first | exact dd | fail) only [go_sem]) | (refine allI (fun b => ?_)) | (refine allT (fun τ => ?_)) | (refine brP (fun h => ?_) (fun h => ?_) <;> (try simp only [zgx, zbx] at h)) | (refine gd ?_) | fail)
      rw [List.take_length]
      exact viewE_end (leV.refl _) (List.Sublist.cons _ (List.Sublist.cons_cons _ (List.nil_sublist _))) ⟨b', c, h2, rfl, rfl⟩
end Go.Proofs.YtkdblnejpmbnfaaGreat
namespace Go.Proofs.YtkdblnejpmbnfaaGreat
open Go Go.Lx
set_option linter.unusedSimpArgs false
set_option linter.unusedVariables false
theorem findI_get {t : Tb} {pid : Int} (h : 0 ≤ findI t pid) : ∃ i, i < t.ps.length ∧ findI t pid = (i : Nat) ∧ (pAt t i).pid = pid ∧ ∀ j, j < i → (pAt t j).pid ≠ pid := by
  rcases firstI_cases t.ps.length (findP t pid) with ⟨h1, _⟩ | ⟨i, h1, h2, h3, h4⟩
  · rw [findI, h1] at h; omega
  · refine ⟨i, h1, h2, by simpa [findP, pAt] using h3, fun j hj => ?_⟩
    have := h4 j hj
    simpa [findP, pAt] using this
theorem findI_is {t : Tb} {pid : Int} {i : Nat} (hi : i < t.ps.length) (h : (pAt t i).pid = pid) (hn : ∀ j, j < i → (pAt t j).pid ≠ pid) : findI t pid = i :=
  firstI_is hi (by simpa [findP, pAt] using h) fun j hj => by simpa [findP, pAt] using hn j hj
theorem pAt_set {t : Tb} {i : Nat} {p : Ps} (j : Nat) (hi : i < t.ps.length) : pAt (setP t i p) j = if j = i then p else pAt t j := by
  simp only [pAt, setP, List.getD_eq_getElem?_getD, List.getElem?_set]
  split
  · rename_i h; subst h; simp [hi]
  · rename_i h; rw [if_neg (fun h2 => h h2.symm)]
theorem mem_pAt {t : Tb} {p : Ps} (h : p ∈ t.ps) : ∃ j, j < t.ps.length ∧ pAt t j = p := by
  obtain ⟨j, hj, rfl⟩ := List.getElem_of_mem h
  exact ⟨j, hj, by simp [pAt, hj]⟩
theorem pAt_mem {t : Tb} {j : Nat} (h : j < t.ps.length) : pAt t j ∈ t.ps := getD_memA ps0 h
theorem chR_ok {t : Tb} {pid : Int} {g : Nat → Int × Tb} (h : (chR t pid g).1 = 0) : 0 ≤ findI t pid ∧ (g (findI t pid).toNat).1 = 0 ∧ (chR t pid g).2 = (g (findI t pid).toNat).2 := by
  unfold chR at h ⊢
  by_cases h1 : findI t pid < 0
  · rw [if_pos h1] at h; exact absurd h (by decide)
  · rw [if_neg h1] at h ⊢
    by_cases h2 : (g (findI t pid).toNat).1 = 0
    · rw [if_neg (by simpa using h2)]
      exact ⟨by omega, h2, rfl⟩
    · rw [if_pos h2] at h; exact absurd h h2
theorem pAt_app {t : Tb} {p : Ps} {n : Int} (j : Nat) : pAt { t with nx := n, ps := t.ps ++ [p] } j = if j < t.ps.length then pAt t j else if j = t.ps.length then p else ps0 := by
  simp only [pAt, List.getD_eq_getElem?_getD]
  split
  · rename_i h; rw [List.getElem?_append_left h]
  · rename_i h
    rw [List.getElem?_append_right (by omega)]
    split
    · rename_i h2; subst h2; simp
    · rw [List.getElem?_eq_none (by simp; omega)]; rfl
end Go.Proofs.YtkdblnejpmbnfaaGreat
namespace Go.Proofs.YtkdblnejpmbnfaaGreat
open Go Go.Lx
set_option linter.unusedSimpArgs false
set_option linter.unusedVariables false
set_option maxRecDepth 100000
set_option maxHeartbeats 4000000
theorem take_drop_Sp {cs : List LV} {n j c w k : Nat} (hc : cs.length = n * w) (hj : j ≤ n) (hn : n ≤ c) : List.take ((n - j) * w) (List.drop (if c = j then 0 else j * w) (Sp cs k)) = cs.drop (j * w) := by
  by_cases h : c = j
  · obtain rfl : n = j := by omega
    rw [Nat.sub_self, Nat.zero_mul, List.take_zero, List.drop_eq_nil_of_le (by omega)]
  · rw [if_neg h, Sp, List.drop_append_of_le_length (by rw [hc]; exact Nat.mul_le_mul_right w hj)]
    refine List.take_left' ?_
    rw [List.length_drop, hc, Nat.sub_mul]
theorem cut_len {cs : List LV} {n i j w : Nat} (hc : cs.length = n * w) (hi : i ≤ j) (hj : j ≤ n) : (cs.take (i * w) ++ cs.drop (j * w)).length = (i + (n - j)) * w := by
  rw [List.length_append, List.length_take, List.length_drop, hc, Nat.min_eq_left (Nat.mul_le_mul_right w (by omega)), Nat.add_mul, Nat.sub_mul]
theorem delp (b n c i j : Nat) (cs : List LV) (hc : cs.length = n * 14) (hn : n ≤ c) (hi : i ≤ j) (hj : j ≤ n) (hb : n ≤ 1000000000) :
    ActsE Tryz.prog gl 71 [.msl 6000 14 b 0 n c, .int .i64 i, .int .i64 j] 6000 (.blk b (Sp cs ((c - n) * 14))) fun r e => r = .msl 6000 14 b 0 (n - (j - i)) c ∧ e = .blk b (Sp (cs.take (i * 14) ++ cs.drop (j * 14)) ((c - (n - (j - i))) * 14)) := by
  refine fn_viewT Tryz.func71 t71 Tryz.ntmps71 (by simp) ?_
  unfold c71 r71
  simp (disch := first | exact dd | fail) only [go_sem]
  refine ⟨by omega, ?_⟩
  have hl : (Sp cs ((c - n) * 14)).length = c * 14 := by rw [length_Sp, hc]; omega
  repeat' (first | (simp (disch := first | exact dd | fail) only [go_sem]) | (refine allI (fun b => ?_)) | (refine allT (fun τ => ?_)) | (refine brP (fun h => ?_) (fun h => ?_) <;> (try simp only [zgx, zbx] at h)))
  · obtain rfl : i = j := by omega
    rw [Nat.sub_self, Nat.sub_zero, List.take_append_drop]
    exact viewE_end (leV.refl _) (List.Sublist.refl _) ⟨rfl, rfl⟩
  · have e0 : (if c = 0 then 0 else 0) = 0 := by split <;> rfl
    have e2 : ¬ c = i + (n - j) := by omega
    have e3 := cut_len hc hi hj
    have e4 : (Sp cs ((c - n) * 14)).take (i * 14) = cs.take (i * 14) := take_Sp_le (by rw [hc]; exact Nat.mul_le_mul_right _ (by omega))
    simp only [Nat.sub_zero, e0, if_neg e2, Nat.zero_add, take_drop_Sp hc hj hn, e4]
    refine ⟨by omega, by omega, by split <;> omega, rfl, .inr ?_⟩
    have e5 : n - (j - i) = i + (n - j) := by omega
    have e6 : (cs.drop (j * 14)).length = (n - j) * 14 := by rw [List.length_drop, hc, Nat.sub_mul]
    rw [e5, e6]
    refine ⟨by omega, by omega, by omega, ?_, ?_⟩
    · simp only [List.length_append, List.length_drop, List.length_take, hl, hc]
      omega
    rw [List.take_left' e3, List.append_assoc]
    refine ⟨_, [(6000, .blk b (Sp (cs.take (i * 14) ++ cs.drop (j * 14)) ((c - (i + (n - j))) * 14)))], leVH.le ⟨⟨rfl, leVs.sp ?_⟩, trivial⟩, _, rfl, rfl, rfl⟩
    simp only [List.length_append, List.length_drop, List.length_take, hl, hc, zeros, List.length_map, List.length_range]
    omega
theorem cut_rows : ∀ (l : List Ps) (i : Nat), (l.flatMap PsC).take (i * 14) ++ (l.flatMap PsC).drop ((i + 1) * 14) = (l.eraseIdx i).flatMap PsC
  | [], i => by simp
  | p :: l, 0 => by
    have hp : (PsC p).length = 14 := rfl
    simp [List.flatMap_cons, List.drop_append, hp]
  | p :: l, i + 1 => by
    have hp : (PsC p).length = 14 := rfl
    have ih := cut_rows l i
    rw [List.flatMap_cons, List.eraseIdx_cons_succ, List.flatMap_cons, ← ih, List.take_append, List.drop_append, hp, List.take_of_length_le (by omega), List.drop_eq_nil_of_le (by omega), show (i + 1) * 14 - 14 = i * 14 by omega, show (i + 1 + 1) * 14 - 14 = (i + 1) * 14 by omega]
    simp
def orp (pid : Int) (p : Ps) : Ps := if p.ppid = pid then { p with ppid := 1 } else p
def rmP (t : Tb) (pid : Int) (i : Nat) : List Ps := (t.ps.eraseIdx i).map (orp pid)
def rmT (t : Tb) (pid : Int) : Tb := if findI t pid < 0 then t else { t with ps := rmP t pid (findI t pid).toNat }
theorem noPs (l : List Ps) : noNs (l.flatMap PsC) = true := by
  refine noNs_flat l fun p _ => ?_
  have h : noNs (p.op.flatMap DeC) = true := noNs_flat _ fun _ _ => rfl
  rw [PsC_eq, DeS_eq]
  simp [noNs, noN, h]
theorem noTb (t : Tb) (pid : Int) : noNs [TbL t, .int .i64 pid] = true := by
  rw [TbL_eq]
  simp [noNs, noN, noPs]
theorem gl0 (g : Nat) : gl g = none := rfl
theorem lentT {b c : Nat} {t : Tb} {pid : Int} {H : Heap} (hc : t.ps.length ≤ c) (hH : getH H 6000 = some (.blk b (Sp (t.ps.flatMap PsC) ((c - t.ps.length) * 14)))) : Lent gl H [.agg [.int .i64 t.nx, .int .i64 t.ns, .msl 6000 14 b 0 t.ps.length c], .int .i64 pid] (delH H 6000) [TbL t, .int .i64 pid] := by
  have hl := len_ps t.ps
  have h := Lent.pub (gl := gl) (args := [.agg [.int .i64 t.nx, .int .i64 t.ns, .msl 6000 14 b 0 t.ps.length c], .int .i64 pid]) 6000 hH (by simp [go_sem, length_Sp, hl]; omega)
  have e : (pubAs 6000 b (Sp (t.ps.flatMap PsC) ((c - t.ps.length) * 14)) [.agg [.int .i64 t.nx, .int .i64 t.ns, .msl 6000 14 b 0 t.ps.length c], .int .i64 pid]).2 = [TbL t, .int .i64 pid] := by
    rw [TbL_eq]
    simp [go_sem, Sp, ← hl]
  rw [e] at h
  exact h
def mapTo {α : Type} (f : α → α) (l : List α) (j : Nat) : List α := (l.take j).map f ++ l.drop j
theorem mapTo_zero {α : Type} (f : α → α) (l : List α) : mapTo f l 0 = l := by simp [mapTo]
theorem mapTo_all {α : Type} (f : α → α) (l : List α) : mapTo f l l.length = l.map f := by simp [mapTo]
theorem mapTo_length {α : Type} (f : α → α) (l : List α) (j : Nat) : (mapTo f l j).length = l.length := by simp [mapTo]; omega
theorem mapTo_getD {α : Type} (d : α) (f : α → α) (l : List α) (j : Nat) (h : j < l.length) : (mapTo f l j).getD j d = l.getD j d := by
  have h2 : (List.map f (l.take j)).length = j := by simp; omega
  simp only [mapTo, List.getD_eq_getElem?_getD]
  rw [List.getElem?_append_right (by omega), h2]
  simp
theorem mapTo_succ {α : Type} (d : α) (f : α → α) (l : List α) (j : Nat) (h : j < l.length) : mapTo f l (j + 1) = (mapTo f l j).set j (f (l.getD j d)) := by
  have h2 : (List.map f (l.take j)).length = j := by simp; omega
  rw [mapTo, take_succ_getD d l h, List.map_append, mapTo, List.set_append_right _ _ (by omega), h2, Nat.sub_self, List.drop_eq_getElem_cons h, List.set_cons_zero]
  simp
theorem set_same {l : List Ps} {j : Nat} {q : Ps} (h : l.getD j ps0 = q) (hj : j < l.length) : l.set j q = l := by
  subst h
  simp [List.getD, hj]
theorem remove (t : Tb) (pid : Int) (bt b c : Nat) (ht : t.ps.length ≤ 1000000) (hc : t.ps.length ≤ c) : LCalls Tryz.prog gl 25 [.ptr 3 bt 0, .int .i64 pid] (ChH bt t b c) fun v H => ∃ b' c', (rmT t pid).ps.length ≤ c' ∧ H = ChH bt (rmT t pid) b' c' := by
  refine fn_viewT Tryz.func25 t25 Tryz.ntmps25 (by simp) ?_
  have hF := find t pid ht
  have hlt := findI_lt t pid
  have hR : rmT t pid = if findI t pid < 0 then t else { t with ps := rmP t pid (findI t pid).toNat } := rfl
  generalize findI t pid = k at *
  unfold c25 r25 ChH
  repeat' (first | (simp (disch := first | exact dd | fail) only [go_sem]) | (refine allI (fun b => ?_)) | (refine allT (fun τ => ?_)) | (refine brP (fun h => ?_) (fun h => ?_) <;> (try simp only [zgx, zbx] at h)) | (refine gd ?_) | fail)
  refine lend_U gl0 (lentT hc (by rfl)) (noTb t pid) hF rfl ?_
  repeat' (first | (simp (disch := first | exact dd | fail) only [go_sem]) | (refine allI (fun b => ?_)) | (refine allT (fun τ => ?_)) | (refine brP (fun h => ?_) (fun h => ?_) <;> (try simp only [zgx, zbx] at h)) | (refine gd ?_) | fail)
  · rw [hR, if_pos (by assumption)]
    exact ⟨_, _, leVH.of (leV.any _) ⟨_, List.Sublist.refl _, List.Perm.refl _⟩, b, c, hc, rfl⟩
  · obtain ⟨n, rfl⟩ : ∃ n : Nat, k = (n : Int) := ⟨k.toNat, by omega⟩
    rw [Int.toNat_natCast, if_neg (by omega)] at hR
    have hle := len_ps t.ps
    have hd := delp b t.ps.length c n (n + 1) _ hle hc (by omega) (by omega) (by omega)
    first | refine actsE_U (hd) (by first | rfl | simp only [getH, if_true]) ?_ | refine actsE_T (hd) (by first | rfl | simp only [getH, if_true]) ?_ | refine actsE_N (hd) (by first | rfl | simp only [getH, if_true]) ?_ | refine actsE_of (hd) (by first | rfl | simp only [getH, if_true]) ?_
    rintro _ _ ⟨rfl, rfl⟩
    have hE : (t.ps.eraseIdx n).length = t.ps.length - 1 := by rw [List.length_eraseIdx, if_pos (by omega)]
    rw [cut_rows]
    rw [show t.ps.length - (n + 1 - n) = (t.ps.eraseIdx n).length by omega]
    have hr : rmP t pid n = (t.ps.eraseIdx n).map (orp pid) := rfl
    rw [hr] at hR
    generalize t.ps.eraseIdx n = E at *
    repeat' (first | (simp (disch := first | exact dd | fail) only [go_sem]) | (refine allI (fun b => ?_)) | (refine allT (fun τ => ?_)) | (refine brP (fun h => ?_) (fun h => ?_) <;> (try simp only [zgx, zbx] at h)) | (refine gd ?_) | fail)
    refine loopI (ι := Nat) (fun j => j ≤ E.length) (fun j => [(29, .int .i64 j), (28, .int .i64 E.length), (0, .ptr 3 bt 0), (1, .int .i64 pid)]) (fun j => [(3, .blk bt [.int .i64 t.nx, .int .i64 t.ns, .msl 6000 14 b 0 E.length c]), (6000, .blk b (Sp ((mapTo (orp pid) E j).flatMap PsC) ((c - E.length) * 14)))]) (fun j => E.length - j) 0 (by omega) (Ents.envH (by simp [go_sem]) (by rw [mapTo_zero])) ?_
    intro j hj
    simp (disch := first | exact dd | fail) only [go_sem]
    refine brP (fun hb => ?_) (fun hb => ?_)
    · have hjl : j < E.length := by simp only [decide_eq_true_eq] at hb; omega
      have hml := mapTo_length (orp pid) E j
      have hml2 := len_ps (mapTo (orp pid) E j)
      have hs := length_Sp ((mapTo (orp pid) E j).flatMap PsC) ((c - E.length) * 14)
      have g1 := gdSp (k := (c - E.length) * 14) (l := mapTo (orp pid) E j) (i := j) (j := 1) (by omega) (by omega)
      have hG := mapTo_getD ps0 (orp pid) E j hjl
      have hS := mapTo_succ ps0 (orp pid) E j hjl
      have hrow := fun (p' : Ps) (he : PsC p' = putC (PsC ((mapTo (orp pid) E j).getD j ps0)) 1 (.int .i64 1)) => rowSet (l := mapTo (orp pid) E j) (i := j) (j := 1) (k := (c - E.length) * 14) p' (by omega) (by omega) he
      rw [hG] at g1 hrow
      generalize E.getD j ps0 = q at *
      rw [PsC_eq] at g1
      simp only [List.getD_cons_zero, List.getD_cons_succ] at g1
      repeat' (first | (simp (disch := first | exact dd | fail) only [go_sem, g1, putC_eq, putC_len]) | (refine allI (fun b => ?_)) | (refine allT (fun τ => ?_)) | (refine brP (fun h => ?_) (fun h => ?_) <;> (try simp only [zgx, zbx] at h)) | (refine gd ?_) | fail)
      · rw [hrow { q with ppid := 1 } (Eq.trans rfl rfl)]
        refine ⟨⟨j + 1, by omega⟩, by dsimp only; omega, Ents.envH (by simp [go_sem]) ?_⟩
        dsimp only
        rw [hS, orp, if_pos (by assumption)]
      · refine ⟨⟨j + 1, by omega⟩, by dsimp only; omega, Ents.envH (by simp [go_sem]) ?_⟩
        dsimp only
        rw [hS, orp, if_neg (by assumption), set_same hG (by omega)]
    · have hje : j = E.length := by simp only [decide_eq_false_iff_not] at hb; omega
      repeat' (first | (simp (disch := first | exact dd | fail) only [go_sem]) | (refine allI (fun b => ?_)) | (refine allT (fun τ => ?_)) | (refine brP (fun h => ?_) (fun h => ?_) <;> (try simp only [zgx, zbx] at h)) | (refine gd ?_) | fail)
      subst hje
      rw [mapTo_all, hR]
      exact ⟨_, _, leVH.of (leV.any _) ⟨_, List.Sublist.refl _, List.Perm.refl _⟩, b, c, by simp; omega, by simp⟩
def xtG (pid : Int) (t : Tb) : Int × Tb := if pid = 1 then (1, t) else (0, rmT t pid)
theorem xtE {e : Int} {t : Tb} {bt b c : Nat} {Hc : Heap} (hc : t.ps.length ≤ c) : ∃ r' H', leVH gl (.int .i64 e) (ChH bt t b c ++ Hc) r' H' ∧ ∃ b' c', ((e, t) : Int × Tb).2.ps.length ≤ c' ∧ r' = .int .i64 ((e, t) : Int × Tb).1 ∧ H' = ChH bt ((e, t) : Int × Tb).2 b' c' ++ Hc :=
  ⟨_, _, leVH.of (leV.refl _) ⟨_, List.Sublist.refl _, List.Perm.refl _⟩, b, c, hc, rfl, rfl⟩
theorem xt0 (pid : Int) (b4 : Nat) (t : Tb) (i : Nat) (ht : t.ps.length ≤ 1000000) (bt b c : Nat) (hc : t.ps.length ≤ c) : LCalls Tryz.prog gl 24 [.ptr 3 bt 0, .ptr 6000 b (i * 14), .ptr 6001 b4 0] (ChH bt t b c ++ [(6001, .blk b4 [.int .i64 pid])]) fun v H => ∃ b' c', (xtG pid t).2.ps.length ≤ c' ∧ v = .int .i64 (xtG pid t).1 ∧ H = ChH bt (xtG pid t).2 b' c' ++ [(6001, .blk b4 [.int .i64 pid])] := by
  refine fn_viewT Tryz.func24 t24 Tryz.ntmps24 (by simp) ?_
  have hr := remove t pid bt b c ht hc
  have hR : xtG pid t = if pid = 1 then (1, t) else (0, rmT t pid) := rfl
  have hH : ∀ t b c, ChH bt t b c = [(3, .blk bt [.int .i64 t.nx, .int .i64 t.ns, .msl 6000 14 b 0 t.ps.length c]), (6000, .blk b (Sp (t.ps.flatMap PsC) ((c - t.ps.length) * 14)))] := fun _ _ _ => rfl
  unfold c24 r24
  rw [hH t b c]
  simp only [List.cons_append, List.nil_append]
  repeat' (first | (simp (disch := first | exact dd | fail) only [go_sem]) | (refine allI (fun b => ?_)) | (refine allT (fun τ => ?_)) | (refine brP (fun h => ?_) (fun h => ?_) <;> (try simp only [zgx, zbx] at h)) | (refine gd ?_) | fail)
  · rw [hR, if_pos (by assumption)]
    exact xtE hc
  · refine actsP_U (H2 := [(6001, _)]) hr (List.Perm.refl _) ?_
    rintro _ _ ⟨b', c', h1, rfl⟩
    rw [hR, if_neg (by assumption)]
    generalize rmT t pid = t' at *
    rw [hH t' b' c']
    simp only [List.cons_append, List.nil_append]
    repeat' (first | (simp (disch := first | exact dd | fail) only [go_sem]) | (refine allI (fun b => ?_)) | (refine allT (fun τ => ?_)) | (refine brP (fun h => ?_) (fun h => ?_) <;> (try simp only [zgx, zbx] at h)) | (refine gd ?_) | fail)
    exact ⟨_, _, leVH.of (leV.refl _) ⟨_, List.Sublist.refl _, (List.perm_middle (l₁ := [_, _]) (l₂ := [])).symm⟩, b', c', h1, rfl, rfl⟩
theorem xt1 (pid : Int) (b4 : Nat) (t : Tb) (i : Nat) (ht : t.ps.length ≤ 1000000) : ClOk 24 [.ptr 3 b4 0] [(3, .blk b4 [.int .i64 pid])] t i (xtG pid t) := by
  intro bt b c hc
  refine callLab ((xt0 pid b4 t i ht bt b c hc).mono ?_) rfl fun M vs h => h
  rintro v H ⟨b', c', h1, rfl, rfl⟩
  exact ⟨ChH bt (xtG pid t).2 b' c' ++ [(3, .blk b4 [.int .i64 pid])], by simp [ChH], b', c', h1, rfl, rfl⟩
def xtR (t : Tb) (pid : Int) : Int × Tb := chR t pid fun _ => xtG pid t
theorem xt (t : Tb) (pid : Int) (ht : okT t) : Pure Tryz.prog gl 9 [TbL t, .int .i64 pid] (.tup [TbL (xtR t pid).2, .int .i64 (xtR t pid).1]) := by
  refine fn_pureT Tryz.func9 t9 Tryz.ntmps9 (by simp) ?_
  have hF := findI_lt t pid
  unfold c9 r9
  rw [TbL_eq t]
  repeat' (first | (simp (disch := first | exact dd | fail) only [go_sem]) | (refine allI (fun b => ?_)) | (refine allT (fun τ => ?_)) | (refine brP (fun h => ?_) (fun h => ?_) <;> (try simp only [zgx, zbx] at h)) | (refine gd ?_) | fail)
  rename_i b1 b2
  refine actsP_U (change t pid ht 24 [.ptr 3 b2 0] [(3, _)] (fun _ => xtG pid t) (by kernel_rfl) fun i hi => xt1 pid b2 t i ht.1) (List.Perm.swap _ _ _) ?_
  rintro _ _ ⟨rfl, rfl⟩
  have hR : xtR t pid = chR t pid fun _ => xtG pid t := rfl
  rw [← hR]
  generalize xtR t pid = R at *
  obtain ⟨e, t'⟩ := R
  dsimp only
  rw [TbL_eq t']
  repeat' (first | (simp (disch := first | exact dd | fail) only [go_sem]) | (refine allI (fun b => ?_)) | (refine allT (fun τ => ?_)) | (refine brP (fun h => ?_) (fun h => ?_) <;> (try simp only [zgx, zbx] at h)) | (refine gd ?_) | fail)
end Go.Proofs.YtkdblnejpmbnfaaGreat
