/- Layer 9: the reference's operations on a table: put, Fork, identities, Login. -/
import Derived.Test.YtkdblnejpmbnfaaGreatW11
namespace Go.Proofs.YtkdblnejpmbnfaaGreat
open Go Go.Lx
set_option linter.unusedSimpArgs false
set_option linter.unusedVariables false
set_option maxRecDepth 100000
set_option maxHeartbeats 8000000
theorem LCalls.view {f : FuncId} {args : List LV} {H : Heap} {K K' : LV → Heap → Prop} (h : LCalls Tryz.prog gl f args H K) (hk : ∀ r H1, K r H1 → ∃ r' H2, leVH gl r H1 r' H2 ∧ K' r' H2) : LCalls Tryz.prog gl f args H K' :=
  fun w0 M HF w vs hI hv => (h w0 M HF w vs hI hv).mono fun _ _ ⟨M', v, r, H1, h1, h2, h3, h4, h5⟩ => by
    obtain ⟨r', H2, h6, h8⟩ := hk r H1 h5
    obtain ⟨M2, a1, a2, a3⟩ := h6 _ M' HF _ v h4 h3
    exact ⟨M2, v, r', H2, h1.trans a1, h2, a2, a3, h8⟩
theorem OwnT.pub {t : Tb} {r : LV} {e : Ent} (h : OwnT t r e) : leVH gl r [(6000, e)] (TbL t) [] := by
  obtain ⟨b, c, h1, rfl, rfl⟩ := h
  have hl := len_ps t.ps
  refine leVH.pub 6000 rfl ?_ (leVH.of ?_ ⟨_, List.Sublist.refl _, List.Perm.refl _⟩)
  · simp [go_sem, length_Sp, hl]
    omega
  · rw [TbL_eq]
    simp only [go_sem]
    exact leV.agg ⟨leV.refl _, leV.refl _, leV.of_eq (by simp [go_sem, Sp, ← hl]), trivial⟩
theorem rcopyS (t : Tb) (ht : okT t) : Pure Tryz.prog gl 30 [TbL t] (TbL t) :=
  LCalls.view (rcopy t ht) fun r H1 ⟨e, h1, h2⟩ => ⟨_, _, by subst h1; exact h2.pub, rfl, rfl⟩
theorem pubT1 {id b c nn : Nat} {x y e : Int} {ps : List Ps} {H : Heap} {cs : List LV} (hn : nn = ps.length) (hcs : cs = Sp (ps.flatMap PsC) ((c - ps.length) * 14)) (hH : [(id, .blk b cs)].Sublist H) (hc : ps.length ≤ c) : leVH gl (.tup [.agg [.int .i64 x, .int .i64 y, .msl id 14 b 0 nn c], .int .i64 e]) H (.tup [TbL ⟨x, y, ps⟩, .int .i64 e]) [] := by
  subst hn hcs
  have hl := len_ps ps
  refine leVH.trans (leVH.of (leV.refl _) ⟨_, hH, List.Perm.refl _⟩) (leVH.pub (b := b) (cs := Sp (ps.flatMap PsC) ((c - ps.length) * 14)) id (by simp [getH]) ?_ (leVH.of ?_ ⟨[], List.nil_sublist _, List.Perm.refl _⟩))
  · simp [go_sem, length_Sp, hl]
    omega
  · rw [TbL_eq]
    simp only [go_sem]
    refine leV.tup ⟨leV.agg ⟨leV.refl _, leV.refl _, leV.of_eq ?_, trivial⟩, leV.refl _, trivial⟩
    simp [go_sem, Sp, ← hl]
theorem pubT2 {id b c nn : Nat} {x y e f : Int} {ps : List Ps} {H : Heap} {cs : List LV} (hn : nn = ps.length) (hcs : cs = Sp (ps.flatMap PsC) ((c - ps.length) * 14)) (hH : [(id, .blk b cs)].Sublist H) (hc : ps.length ≤ c) : leVH gl (.tup [.agg [.int .i64 x, .int .i64 y, .msl id 14 b 0 nn c], .int .i64 f, .int .i64 e]) H (.tup [TbL ⟨x, y, ps⟩, .int .i64 f, .int .i64 e]) [] := by
  subst hn hcs
  have hl := len_ps ps
  refine leVH.trans (leVH.of (leV.refl _) ⟨_, hH, List.Perm.refl _⟩) (leVH.pub (b := b) (cs := Sp (ps.flatMap PsC) ((c - ps.length) * 14)) id (by simp [getH]) ?_ (leVH.of ?_ ⟨[], List.nil_sublist _, List.Perm.refl _⟩))
  · simp [go_sem, length_Sp, hl]
    omega
  · rw [TbL_eq]
    simp only [go_sem]
    refine leV.tup ⟨leV.agg ⟨leV.refl _, leV.refl _, leV.of_eq ?_, trivial⟩, leV.refl _, leV.refl _, trivial⟩
    simp [go_sem, Sp, ← hl]
theorem pubT0 {id b c nn : Nat} {x y : Int} {ps : List Ps} {H : Heap} {cs : List LV} (hn : nn = ps.length) (hcs : cs = Sp (ps.flatMap PsC) ((c - ps.length) * 14)) (hH : [(id, .blk b cs)].Sublist H) (hc : ps.length ≤ c) : leVH gl (.agg [.int .i64 x, .int .i64 y, .msl id 14 b 0 nn c]) H (TbL ⟨x, y, ps⟩) [] := by
  subst hn hcs
  have hl := len_ps ps
  refine leVH.trans (leVH.of (leV.refl _) ⟨_, hH, List.Perm.refl _⟩) (leVH.pub (b := b) (cs := Sp (ps.flatMap PsC) ((c - ps.length) * 14)) id (by simp [getH]) ?_ (leVH.of ?_ ⟨[], List.nil_sublist _, List.Perm.refl _⟩))
  · simp [go_sem, length_Sp, hl]
    omega
  · rw [TbL_eq]
    simp only [go_sem]
    exact leV.agg ⟨leV.refl _, leV.refl _, leV.of_eq (by simp [go_sem, Sp, ← hl]), trivial⟩
theorem pure_end {x r : LV} {H : Heap} (h : leV x r) : ∃ r' H', leVH gl x H r' H' ∧ (r' = r ∧ H' = []) := ⟨r, [], leVH.of h ⟨[], List.nil_sublist _, List.Perm.refl _⟩, rfl, rfl⟩
theorem pub_end {x r : LV} {H : Heap} (h : leVH gl x H r []) : ∃ r' H', leVH gl x H r' H' ∧ (r' = r ∧ H' = []) := ⟨r, [], h, rfl, rfl⟩
theorem rowAll {l : List Ps} {i k : Nat} (p : Ps) (h : i < l.length) : (Sp (l.flatMap PsC) k).take (i * 14) ++ PsC p ++ (Sp (l.flatMap PsC) k).drop (i * 14 + 14) = Sp ((l.set i p).flatMap PsC) k := by
  have hle := len_ps l
  have h2 : (i + 1) * 14 ≤ l.length * 14 := Nat.mul_le_mul_right 14 h
  have h3 : (l.take i).flatMap PsC = (l.flatMap PsC).take (i * 14) := by
    have := len_ps (l.take i)
    rw [List.length_take, Nat.min_eq_left (by omega)] at this
    conv => rhs; rw [← List.take_append_drop i l, List.flatMap_append, List.take_left' this]
  have h4 : (l.drop (i + 1)).flatMap PsC = (l.flatMap PsC).drop (i * 14 + 14) := by
    have := len_ps (l.take (i + 1))
    rw [List.length_take, Nat.min_eq_left (by omega)] at this
    conv => rhs; rw [← List.take_append_drop (i + 1) l, List.flatMap_append, List.drop_left' (by omega)]
  rw [Sp, Sp, List.take_append_of_le_length (by omega), List.drop_append_of_le_length (by omega), List.set_eq_take_append_cons_drop, if_pos h, List.flatMap_append, List.flatMap_cons, h3, h4]
  simp only [List.append_assoc]
def putF (p x : Ps) : Ps := if x.pid = p.pid then p else x
theorem rput (t : Tb) (p : Ps) (ht : okT t) (hp : p.op.length ≤ 1000000) : Pure Tryz.prog gl 78 [TbL t, .agg (PsC p)] (TbL (putP t p)) := by
  refine fn_viewT Tryz.func78 t78 Tryz.ntmps78 (by simp) ?_
  have hc := rcopy t ht
  have hm := ht.1
  have hle := len_ps t.ps
  unfold c78 r78
  rw [TbL_eq t] at *
  rw [PsC_eq]
  repeat' (first | (simp (disch := first | exact dd | fail) only [go_sem]) | (refine allI (fun b => ?_)) | (refine allT (fun τ => ?_)) | (refine brP (fun h => ?_) (fun h => ?_) <;> (try simp only [zgx, zbx] at h)) | (refine gd ?_) | fail)
  first | refine newsE_U (hc) ?_ | refine newsE_T (hc) ?_ | refine newsE_of (hc) ?_
  rintro _ _ ⟨bb, c, h1, rfl, rfl⟩
  repeat' (first | (simp (disch := first | exact dd | fail) only [go_sem]) | (refine allI (fun b => ?_)) | (refine allT (fun τ => ?_)) | (refine brP (fun h => ?_) (fun h => ?_) <;> (try simp only [zgx, zbx] at h)) | (refine gd ?_) | fail)
  rename_i b2 b3 b4
  refine loopI (ι := Nat) (fun j => j ≤ t.ps.length) (fun j => [(6, .int .i64 j), (5, .ptr 5 b 0), (4, .ptr 4 b4 0), (3, .ptr 3 b3 0)]) (fun j => [(5, .blk b [.int .i64 t.nx, .int .i64 t.ns, .msl 6000 14 bb 0 t.ps.length c]), (6000, .blk bb (Sp ((mapTo (putF p) t.ps j).flatMap PsC) ((c - t.ps.length) * 14))), (4, .blk b4 [.int .i64 0, .int .i64 0, .fsl 1 0 []]), (3, .blk b3 (PsC p))]) (fun j => t.ps.length - j) 0 (by omega) (Ents.sub (by simp [go_sem]) ⟨_, List.Sublist.cons_cons _ (List.Sublist.cons_cons _ (List.Sublist.cons_cons _ (List.Sublist.cons_cons _ (List.nil_sublist _)))), by rw [mapTo_zero, PsC_eq]⟩) ?_
  intro j hj
  have hml := mapTo_length (putF p) t.ps j
  have hml2 := len_ps (mapTo (putF p) t.ps j)
  have hs := length_Sp ((mapTo (putF p) t.ps j).flatMap PsC) ((c - t.ps.length) * 14)
  simp (disch := first | exact dd | fail) only [go_sem]
  refine brP (fun hb => ?_) (fun hb => ?_)
  · have hjl : j < t.ps.length := by simp only [decide_eq_true_eq] at hb; omega
    have g1 := gdSp (k := (c - t.ps.length) * 14) (l := mapTo (putF p) t.ps j) (i := j) (j := 0) (by omega) (by omega)
    have hG := mapTo_getD ps0 (putF p) t.ps j hjl
    have hS := mapTo_succ ps0 (putF p) t.ps j hjl
    have hA := rowAll (l := mapTo (putF p) t.ps j) (i := j) (k := (c - t.ps.length) * 14) p (by omega)
    rw [hG] at g1
    generalize t.ps.getD j ps0 = q at *
    rw [PsC_eq] at g1
    simp only [List.getD_cons_zero, Nat.add_zero] at g1
    rw [PsC_eq] at hA ⊢
    repeat' (first | (simp (disch := first | exact dd | fail) only [go_sem, g1]) | (refine allI (fun b => ?_)) | (refine allT (fun τ => ?_)) | (refine brP (fun h => ?_) (fun h => ?_) <;> (try simp only [zgx, zbx] at h)) | (refine gd ?_) | fail)
    · refine ⟨⟨j + 1, by omega⟩, by dsimp only; omega, Ents.envH (by simp [go_sem]) ?_⟩
      dsimp only
      rw [hA, hS, putF, if_pos (by assumption)]
    · refine ⟨⟨j + 1, by omega⟩, by dsimp only; omega, Ents.envH (by simp [go_sem]) ?_⟩
      dsimp only
      rw [hS, putF, if_neg (by assumption), set_same hG (by omega)]
  · have hje : j = t.ps.length := by simp only [decide_eq_false_iff_not] at hb; omega
    subst hje
    repeat' (first | (simp (disch := first | exact dd | fail) only [go_sem]) | (refine allI (fun b => ?_)) | (refine allT (fun τ => ?_)) | (refine brP (fun h => ?_) (fun h => ?_) <;> (try simp only [zgx, zbx] at h)) | (refine gd ?_) | fail)
    rw [mapTo_all]
    exact pub_end (pubT0 (ps := t.ps.map (putF p)) (by simp) (by simp) (List.Sublist.cons _ (List.Sublist.cons_cons _ (List.nil_sublist _))) (by simp; omega))
theorem chR_no {t : Tb} {pid : Int} {g : Nat → Int × Tb} (h : findI t pid < 0) : chR t pid g = (3, tb0) := by rw [chR, if_pos h]
theorem chR_yes {t : Tb} {pid : Int} {g : Nat → Int × Tb} {i : Nat} (h : findI t pid = i) : chR t pid g = if (g i).1 ≠ 0 then ((g i).1, tb0) else (0, (g i).2) := by rw [chR, if_neg (by omega), h, Int.toNat_natCast]
theorem getR_no {t : Tb} {pid : Int} (h : findI t pid < 0) : getR t pid = (ps0, false) := by rw [getR, if_pos h]
theorem rfk (t : Tb) (pid : Int) (hv : VW t) : Pure Tryz.prog gl 37 [TbL t, .int .i64 pid] (.tup [TbL (fkR t pid).2, .int .i64 (if (fkR t pid).1 = 0 then t.nx else 0), .int .i64 (fkR t pid).1]) := by
  refine fn_viewT Tryz.func37 t37 Tryz.ntmps37 (by simp) ?_
  have hg := rget t pid hv.ok
  have hc := rcopy t hv.ok
  have hlen := hv.len
  have hnx := hv.nx
  have hle := len_ps t.ps
  unfold c37 r37
  rcases Int.lt_or_le (findI t pid) 0 with h0 | h0
  · rw [getR_no h0] at hg
    dsimp only at hg
    rw [PsC_eq] at hg
    rw [fkR, chR_no h0]
    rw [TbL_eq t] at *
    repeat' (first | (simp (disch := first | exact dd | fail) only [go_sem]) | (refine allI (fun b => ?_)) | (refine allT (fun τ => ?_)) | (refine brP (fun h => ?_) (fun h => ?_) <;> (try simp only [zgx, zbx] at h)) | refine call_U (hg) ?_ | refine callG_U (fun _ => hg) ?_ | refine call_T (hg) ?_ | refine callG_T (fun _ => hg) ?_ | refine call_N (hg) ?_ | refine call_of (hg) ?_ | refine callG_of (fun _ => hg) ?_ | (refine gd ?_) | fail)
    refine pure_end ?_; exact leV.tup ⟨tb0_le, leV.of_eq (by simp), leV.refl _, trivial⟩
  · obtain ⟨i, hi, h4, h5, h6⟩ := hv.get1 h0
    rw [h6] at hg
    have hR : fkR t pid = if (16 : Int) ≤ t.ps.length ∨ 1073741824 ≤ t.nx then (11, tb0) else (0, { t with nx := t.nx + 1, ps := t.ps ++ [{ pAt t i with pid := t.nx, ppid := pid }] }) := by
      rw [fkR, chR_yes h4, fkG]; split <;> simp
    generalize pAt t i = p at *
    dsimp only at hg
    rw [PsC_eq] at hg
    rw [TbL_eq t] at *
    repeat' (first | (simp (disch := first | exact dd | fail) only [go_sem]) | (refine allI (fun b => ?_)) | (refine allT (fun τ => ?_)) | (refine brP (fun h => ?_) (fun h => ?_) <;> (try simp only [zgx, zbx] at h)) | refine call_U (hg) ?_ | refine callG_U (fun _ => hg) ?_ | refine call_T (hg) ?_ | refine callG_T (fun _ => hg) ?_ | refine call_N (hg) ?_ | refine call_of (hg) ?_ | refine callG_of (fun _ => hg) ?_ | (refine gd ?_) | fail)
    · rw [hR, if_pos (by omega)]
      refine pure_end ?_; exact leV.tup ⟨tb0_le, leV.of_eq (by simp), leV.refl _, trivial⟩
    · first | refine newsE_U (hc) ?_ | refine newsE_T (hc) ?_ | refine newsE_of (hc) ?_
      rintro _ _ ⟨b, c, h1, rfl, rfl⟩
      rw [hR, if_neg (by omega)]
      repeat' (first | (simp (disch := first | exact dd | fail) only [go_sem, zPs]) | (refine allI (fun b => ?_)) | (refine allT (fun τ => ?_)) | (refine brP (fun h => ?_) (fun h => ?_) <;> (try simp only [zgx, zbx] at h)) | (refine gd ?_) | fail)
      refine .inl ⟨by rw [length_Sp, hle]; omega, by rw [length_Sp, hle]; omega, by simp only [roomy]; omega, fun b2 c2 h3 => ?_⟩
      rw [take_Sp _ hle]
      refine pub_end (pubT2 (ps := t.ps ++ [{ p with pid := t.nx, ppid := pid }]) (by simp) ?_ (List.Sublist.cons_cons _ (List.nil_sublist _)) (by simp; omega))
      simp [Sp, List.flatMap_append, PsC_eq]
def chgR (pr : Bool) (x y n : Int) : Int × Int × Int := if pr = true then (n, n, 0) else if n = x ∨ n = y then (x, n, 0) else (0, 0, 1)
theorem rchg (pr : Bool) (x y n : Int) : Pure Tryz.prog gl 77 [.bool pr, .int .i64 x, .int .i64 y, .int .i64 n] (.tup [.int .i64 (chgR pr x y n).1, .int .i64 (chgR pr x y n).2.1, .int .i64 (chgR pr x y n).2.2]) := by
  refine fn_pureT Tryz.func77 t77 Tryz.ntmps77 (by simp) ?_
  have hR : chgR pr x y n = if pr = true then (n, n, 0) else if n = x ∨ n = y then (x, n, 0) else (0, 0, 1) := rfl
  unfold c77 r77
  cases pr
  · rw [if_neg (by simp)] at hR
    repeat' (first | (simp (disch := first | exact dd | fail) only [go_sem]) | (refine allI (fun b => ?_)) | (refine allT (fun τ => ?_)) | (refine brP (fun h => ?_) (fun h => ?_) <;> (try simp only [zgx, zbx] at h)) | (refine gd ?_) | fail)
    · rw [hR, if_pos (by first | assumption | omega)]; exact leV.refl _
    · rw [hR, if_neg (by first | assumption | omega)]; exact leV.refl _
  · rw [if_pos rfl] at hR
    rw [hR]
    repeat' (first | (simp (disch := first | exact dd | fail) only [go_sem]) | (refine allI (fun b => ?_)) | (refine allT (fun τ => ?_)) | (refine brP (fun h => ?_) (fun h => ?_) <;> (try simp only [zgx, zbx] at h)) | (refine gd ?_) | fail)
theorem suR_is {t : Tb} {pid u : Int} {i : Nat} (h4 : findI t pid = i) : suR t pid u = if idB u = false then (22, tb0) else if (chgR ((pAt t i).euid == 0) (pAt t i).uid (pAt t i).euid u).2.2 ≠ 0 then (1, tb0) else (0, setP t i { pAt t i with uid := (chgR ((pAt t i).euid == 0) (pAt t i).uid (pAt t i).euid u).1, euid := (chgR ((pAt t i).euid == 0) (pAt t i).uid (pAt t i).euid u).2.1 }) := by
  rw [suR, chR_yes h4, suG, suP, becR, chgR]
  by_cases h1 : idB u = false
  · simp [h1]
  · by_cases h2 : ((pAt t i).euid == 0) = true
    · simp [h1, h2]
    · by_cases h3 : u = (pAt t i).uid ∨ u = (pAt t i).euid
      · simp [h1, h2, h3]
      · simp [h1, h2, h3]
theorem sgR_is {t : Tb} {pid u : Int} {i : Nat} (h4 : findI t pid = i) : sgR t pid u = if idB u = false then (22, tb0) else if (chgR ((pAt t i).euid == 0) (pAt t i).gid (pAt t i).egid u).2.2 ≠ 0 then (1, tb0) else (0, setP t i { pAt t i with gid := (chgR ((pAt t i).euid == 0) (pAt t i).gid (pAt t i).egid u).1, egid := (chgR ((pAt t i).euid == 0) (pAt t i).gid (pAt t i).egid u).2.1 }) := by
  rw [sgR, chR_yes h4, sgG, sgP, becR, chgR]
  by_cases h1 : idB u = false
  · simp [h1]
  · by_cases h2 : ((pAt t i).euid == 0) = true
    · simp [h1, h2]
    · by_cases h3 : u = (pAt t i).gid ∨ u = (pAt t i).egid
      · simp [h1, h2, h3]
      · simp [h1, h2, h3]
theorem chgR_e {pr : Bool} {x y n : Int} (h : (chgR pr x y n).2.2 ≠ 0) : (chgR pr x y n).2.2 = 1 := by
  unfold chgR at h ⊢
  split
  · simp_all
  · split
    · simp_all
    · rfl
theorem rsu (t : Tb) (pid u : Int) (hv : VW t) : Pure Tryz.prog gl 39 [TbL t, .int .i64 pid, .int .i64 u] (.tup [TbL (suR t pid u).2, .int .i64 (suR t pid u).1]) := by
  refine fn_viewT Tryz.func39 t39 Tryz.ntmps39 (by simp) ?_
  have hg := rget t pid hv.ok
  have hu := rid u
  unfold c39 r39
  rcases Int.lt_or_le (findI t pid) 0 with h0 | h0
  · rw [getR_no h0] at hg
    dsimp only at hg
    rw [PsC_eq] at hg
    rw [suR, chR_no h0]
    rw [TbL_eq t] at *
    repeat' (first | (simp (disch := first | exact dd | fail) only [go_sem]) | (refine allI (fun b => ?_)) | (refine allT (fun τ => ?_)) | (refine brP (fun h => ?_) (fun h => ?_) <;> (try simp only [zgx, zbx] at h)) | refine call_U (hg) ?_ | refine callG_U (fun _ => hg) ?_ | refine call_T (hg) ?_ | refine callG_T (fun _ => hg) ?_ | refine call_N (hg) ?_ | refine call_of (hg) ?_ | refine callG_of (fun _ => hg) ?_ | (refine gd ?_) | fail)
    refine pure_end ?_; exact leV.tup ⟨tb0_le, leV.refl _, trivial⟩
  · obtain ⟨i, hi, h4, h5, h6⟩ := hv.get1 h0
    rw [h6] at hg
    have hR := suR_is (u := u) h4
    have hok := (hv.all i hi).op.len
    have hP := fun x y => hv.put (i := i) (p := { pAt t i with uid := x, euid := y }) hi rfl
    have hq := fun x y => rput t { pAt t i with uid := x, euid := y } hv.ok (by dsimp only; omega)
    have hc := rchg ((pAt t i).euid == 0) (pAt t i).uid (pAt t i).euid u
    have hce := chgR_e (pr := (pAt t i).euid == 0) (x := (pAt t i).uid) (y := (pAt t i).euid) (n := u)
    generalize pAt t i = p at *
    generalize chgR (p.euid == 0) p.uid p.euid u = C at *
    obtain ⟨x, y, e⟩ := C
    dsimp only at hg hR hc hce
    have hP := hP x y
    have hq := hq x y
    rw [hP] at hq
    rw [PsC_eq] at hg hq
    rw [TbL_eq t] at *
    generalize setP t i { p with uid := x, euid := y } = T at *
    rw [TbL_eq T] at hq
    cases hub : idB u
    · rw [hub] at hu
      rw [hR, if_pos hub]
      repeat' (first | (simp (disch := first | exact dd | fail) only [go_sem]) | (refine allI (fun b => ?_)) | (refine allT (fun τ => ?_)) | (refine brP (fun h => ?_) (fun h => ?_) <;> (try simp only [zgx, zbx] at h)) | refine call_U (hg) ?_ | refine callG_U (fun _ => hg) ?_ | refine call_T (hg) ?_ | refine callG_T (fun _ => hg) ?_ | refine call_U (hu) ?_ | refine callG_U (fun _ => hu) ?_ | refine call_T (hu) ?_ | refine callG_T (fun _ => hu) ?_ | refine call_N (hg) ?_ | refine call_of (hg) ?_ | refine callG_of (fun _ => hg) ?_ | refine call_N (hu) ?_ | refine call_of (hu) ?_ | refine callG_of (fun _ => hu) ?_ | (refine gd ?_) | fail)
      refine pure_end ?_; exact leV.tup ⟨tb0_le, leV.refl _, trivial⟩
    · rw [hub] at hu
      rw [hR, if_neg (by simp [hub])]
      repeat' (first | (simp (disch := first | exact dd | fail) only [go_sem]) | (refine allI (fun b => ?_)) | (refine allT (fun τ => ?_)) | (refine brP (fun h => ?_) (fun h => ?_) <;> (try simp only [zgx, zbx] at h)) | refine call_U (hg) ?_ | refine callG_U (fun _ => hg) ?_ | refine call_T (hg) ?_ | refine callG_T (fun _ => hg) ?_ | refine call_U (hu) ?_ | refine callG_U (fun _ => hu) ?_ | refine call_T (hu) ?_ | refine callG_T (fun _ => hu) ?_ | refine call_U (hc) ?_ | refine callG_U (fun _ => hc) ?_ | refine call_T (hc) ?_ | refine callG_T (fun _ => hc) ?_ | refine call_U (hq) ?_ | refine callG_U (fun _ => hq) ?_ | refine call_T (hq) ?_ | refine callG_T (fun _ => hq) ?_ | refine call_N (hg) ?_ | refine call_of (hg) ?_ | refine callG_of (fun _ => hg) ?_ | refine call_N (hu) ?_ | refine call_of (hu) ?_ | refine callG_of (fun _ => hu) ?_ | refine call_N (hc) ?_ | refine call_of (hc) ?_ | refine callG_of (fun _ => hc) ?_ | refine call_N (hq) ?_ | refine call_of (hq) ?_ | refine callG_of (fun _ => hq) ?_ | (refine gd ?_) | fail)
      · rw [if_pos (by assumption), hce (by assumption)]
        refine pure_end ?_; exact leV.tup ⟨tb0_le, leV.refl _, trivial⟩
      · rw [if_neg (by simpa using h), TbL_eq]
        exact pure_end (leV.refl _)
theorem rsg (t : Tb) (pid u : Int) (hv : VW t) : Pure Tryz.prog gl 41 [TbL t, .int .i64 pid, .int .i64 u] (.tup [TbL (sgR t pid u).2, .int .i64 (sgR t pid u).1]) := by
  refine fn_viewT Tryz.func41 t41 Tryz.ntmps41 (by simp) ?_
  have hg := rget t pid hv.ok
  have hu := rid u
  unfold c41 r41
  rcases Int.lt_or_le (findI t pid) 0 with h0 | h0
  · rw [getR_no h0] at hg
    dsimp only at hg
    rw [PsC_eq] at hg
    rw [sgR, chR_no h0]
    rw [TbL_eq t] at *
    repeat' (first | (simp (disch := first | exact dd | fail) only [go_sem]) | (refine allI (fun b => ?_)) | (refine allT (fun τ => ?_)) | (refine brP (fun h => ?_) (fun h => ?_) <;> (try simp only [zgx, zbx] at h)) | refine call_U (hg) ?_ | refine callG_U (fun _ => hg) ?_ | refine call_T (hg) ?_ | refine callG_T (fun _ => hg) ?_ | refine call_N (hg) ?_ | refine call_of (hg) ?_ | refine callG_of (fun _ => hg) ?_ | (refine gd ?_) | fail)
    refine pure_end ?_; exact leV.tup ⟨tb0_le, leV.refl _, trivial⟩
  · obtain ⟨i, hi, h4, h5, h6⟩ := hv.get1 h0
    rw [h6] at hg
    have hR := sgR_is (u := u) h4
    have hok := (hv.all i hi).op.len
    have hP := fun x y => hv.put (i := i) (p := { pAt t i with gid := x, egid := y }) hi rfl
    have hq := fun x y => rput t { pAt t i with gid := x, egid := y } hv.ok (by dsimp only; omega)
    have hc := rchg ((pAt t i).euid == 0) (pAt t i).gid (pAt t i).egid u
    have hce := chgR_e (pr := (pAt t i).euid == 0) (x := (pAt t i).gid) (y := (pAt t i).egid) (n := u)
    generalize pAt t i = p at *
    generalize chgR (p.euid == 0) p.gid p.egid u = C at *
    obtain ⟨x, y, e⟩ := C
    dsimp only at hg hR hc hce
    have hP := hP x y
    have hq := hq x y
    rw [hP] at hq
    rw [PsC_eq] at hg hq
    rw [TbL_eq t] at *
    generalize setP t i { p with gid := x, egid := y } = T at *
    rw [TbL_eq T] at hq
    cases hub : idB u
    · rw [hub] at hu
      rw [hR, if_pos hub]
      repeat' (first | (simp (disch := first | exact dd | fail) only [go_sem]) | (refine allI (fun b => ?_)) | (refine allT (fun τ => ?_)) | (refine brP (fun h => ?_) (fun h => ?_) <;> (try simp only [zgx, zbx] at h)) | refine call_U (hg) ?_ | refine callG_U (fun _ => hg) ?_ | refine call_T (hg) ?_ | refine callG_T (fun _ => hg) ?_ | refine call_U (hu) ?_ | refine callG_U (fun _ => hu) ?_ | refine call_T (hu) ?_ | refine callG_T (fun _ => hu) ?_ | refine call_N (hg) ?_ | refine call_of (hg) ?_ | refine callG_of (fun _ => hg) ?_ | refine call_N (hu) ?_ | refine call_of (hu) ?_ | refine callG_of (fun _ => hu) ?_ | (refine gd ?_) | fail)
      refine pure_end ?_; exact leV.tup ⟨tb0_le, leV.refl _, trivial⟩
    · rw [hub] at hu
      rw [hR, if_neg (by simp [hub])]
      repeat' (first | (simp (disch := first | exact dd | fail) only [go_sem]) | (refine allI (fun b => ?_)) | (refine allT (fun τ => ?_)) | (refine brP (fun h => ?_) (fun h => ?_) <;> (try simp only [zgx, zbx] at h)) | refine call_U (hg) ?_ | refine callG_U (fun _ => hg) ?_ | refine call_T (hg) ?_ | refine callG_T (fun _ => hg) ?_ | refine call_U (hu) ?_ | refine callG_U (fun _ => hu) ?_ | refine call_T (hu) ?_ | refine callG_T (fun _ => hu) ?_ | refine call_U (hc) ?_ | refine callG_U (fun _ => hc) ?_ | refine call_T (hc) ?_ | refine callG_T (fun _ => hc) ?_ | refine call_U (hq) ?_ | refine callG_U (fun _ => hq) ?_ | refine call_T (hq) ?_ | refine callG_T (fun _ => hq) ?_ | refine call_N (hg) ?_ | refine call_of (hg) ?_ | refine callG_of (fun _ => hg) ?_ | refine call_N (hu) ?_ | refine call_of (hu) ?_ | refine callG_of (fun _ => hu) ?_ | refine call_N (hc) ?_ | refine call_of (hc) ?_ | refine callG_of (fun _ => hc) ?_ | refine call_N (hq) ?_ | refine call_of (hq) ?_ | refine callG_of (fun _ => hq) ?_ | (refine gd ?_) | fail)
      · rw [if_pos (by assumption), hce (by assumption)]
        refine pure_end ?_; exact leV.tup ⟨tb0_le, leV.refl _, trivial⟩
      · rw [if_neg (by simpa using h), TbL_eq]
        exact pure_end (leV.refl _)
end Go.Proofs.YtkdblnejpmbnfaaGreat
namespace Go.Proofs.YtkdblnejpmbnfaaGreat
open Go Go.Lx
set_option linter.unusedSimpArgs false
set_option linter.unusedVariables false
set_option maxRecDepth 100000
set_option maxHeartbeats 8000000
theorem rlo (t : Tb) (pid u : Int) (hv : VW t) : Pure Tryz.prog gl 43 [TbL t, .int .i64 pid, .int .i64 u] (.tup [TbL (loR t pid u).2, .int .i64 (loR t pid u).1]) := by
  refine fn_viewT Tryz.func43 t43 Tryz.ntmps43 (by simp) ?_
  have hg := rget t pid hv.ok
  have hu := rid u
  have hns := hv.ns
  unfold c43 r43
  rcases Int.lt_or_le (findI t pid) 0 with h0 | h0
  · rw [getR_no h0] at hg
    dsimp only at hg
    rw [PsC_eq] at hg
    rw [loR, chR_no h0]
    rw [TbL_eq t] at *
    repeat' (first | (simp (disch := first | exact dd | fail) only [go_sem]) | (refine allI (fun b => ?_)) | (refine allT (fun τ => ?_)) | (refine brP (fun h => ?_) (fun h => ?_) <;> (try simp only [zgx, zbx] at h)) | refine call_U (hg) ?_ | refine callG_U (fun _ => hg) ?_ | refine call_T (hg) ?_ | refine callG_T (fun _ => hg) ?_ | refine call_N (hg) ?_ | refine call_of (hg) ?_ | refine callG_of (fun _ => hg) ?_ | (refine gd ?_) | fail)
    refine pure_end ?_; exact leV.tup ⟨tb0_le, leV.refl _, trivial⟩
  · obtain ⟨i, hi, h4, h5, h6⟩ := hv.get1 h0
    rw [h6] at hg
    have hR : loR t pid u = if idB u = false then (22, tb0) else if (pAt t i).auid ≠ 4294967295 ∧ (pAt t i).euid ≠ 0 then (1, tb0) else if 1073741824 ≤ t.ns then (11, tb0) else (0, { setP t i { pAt t i with auid := u, ses := t.ns } with ns := t.ns + 1 }) := by
      rw [loR, chR_yes h4, loG]
      split
      · simp
      · split
        · simp
        · split <;> simp
    have hok := (hv.all i hi).op.len
    have hP := hv.put (i := i) (p := { pAt t i with auid := u, ses := t.ns }) hi rfl
    have hq := rput t { pAt t i with auid := u, ses := t.ns } hv.ok (by dsimp only; omega)
    have hE : ∀ p, { setP t i p with ns := t.ns + 1 } = (⟨(setP t i p).nx, (setP t i p).ns + 1, (setP t i p).ps⟩ : Tb) := fun _ => rfl
    rw [hE] at hR
    rw [hP] at hq
    generalize pAt t i = p at *
    dsimp only at hg hR
    rw [PsC_eq] at hg hq
    rw [TbL_eq t] at *
    have hTn : (setP t i { p with auid := u, ses := t.ns }).ns = t.ns := rfl
    generalize setP t i { p with auid := u, ses := t.ns } = T at *
    rw [TbL_eq T] at hq
    cases hub : idB u
    · rw [hub] at hu
      rw [hR, if_pos hub]
      repeat' (first | (simp (disch := first | exact dd | fail) only [go_sem]) | (refine allI (fun b => ?_)) | (refine allT (fun τ => ?_)) | (refine brP (fun h => ?_) (fun h => ?_) <;> (try simp only [zgx, zbx] at h)) | refine call_U (hg) ?_ | refine callG_U (fun _ => hg) ?_ | refine call_T (hg) ?_ | refine callG_T (fun _ => hg) ?_ | refine call_U (hu) ?_ | refine callG_U (fun _ => hu) ?_ | refine call_T (hu) ?_ | refine callG_T (fun _ => hu) ?_ | refine call_N (hg) ?_ | refine call_of (hg) ?_ | refine callG_of (fun _ => hg) ?_ | refine call_N (hu) ?_ | refine call_of (hu) ?_ | refine callG_of (fun _ => hu) ?_ | (refine gd ?_) | fail)
      refine pure_end ?_; exact leV.tup ⟨tb0_le, leV.refl _, trivial⟩
    · rw [hub] at hu
      rw [hR, if_neg (by simp [hub])]
      repeat' (first | (simp (disch := first | exact dd | fail) only [go_sem]) | (refine allI (fun b => ?_)) | (refine allT (fun τ => ?_)) | (refine brP (fun h => ?_) (fun h => ?_) <;> (try simp only [zgx, zbx] at h)) | refine call_U (hg) ?_ | refine callG_U (fun _ => hg) ?_ | refine call_T (hg) ?_ | refine callG_T (fun _ => hg) ?_ | refine call_U (hu) ?_ | refine callG_U (fun _ => hu) ?_ | refine call_T (hu) ?_ | refine callG_T (fun _ => hu) ?_ | refine call_U (hq) ?_ | refine callG_U (fun _ => hq) ?_ | refine call_T (hq) ?_ | refine callG_T (fun _ => hq) ?_ | refine call_N (hg) ?_ | refine call_of (hg) ?_ | refine callG_of (fun _ => hg) ?_ | refine call_N (hu) ?_ | refine call_of (hu) ?_ | refine callG_of (fun _ => hu) ?_ | refine call_N (hq) ?_ | refine call_of (hq) ?_ | refine callG_of (fun _ => hq) ?_ | (refine gd ?_) | fail)
      · rw [if_pos (by omega)]
        refine pure_end ?_; exact leV.tup ⟨tb0_le, leV.refl _, trivial⟩
      · have hh : (p.auid != 4294967295) = false ∨ (p.euid != 0) = false := by assumption
        simp only [bne_eq_false_iff_eq] at hh
        rw [if_neg (by omega), if_pos (by omega)]
        refine pure_end ?_; exact leV.tup ⟨tb0_le, leV.refl _, trivial⟩
      · have hh : (p.auid != 4294967295) = false ∨ (p.euid != 0) = false := by assumption
        simp only [bne_eq_false_iff_eq] at hh
        rw [if_neg (by omega), if_neg (by omega)]
        refine pure_end ?_
        rw [TbL_eq]
        exact leV.refl _
theorem rm_eq {t : Tb} (hv : VW t) {i : Nat} {pid : Int} (hi : i < t.ps.length) (h5 : (pAt t i).pid = pid) : (t.ps.map (orp pid)).filter (fun p => p.pid != pid) = rmP t pid i := by
  have hpid : ∀ p, (orp pid p).pid = p.pid := fun p => by unfold orp; split <;> rfl
  have e : t.ps = t.ps.take i ++ pAt t i :: t.ps.drop (i + 1) := by
    conv => lhs; rw [← List.take_append_drop i t.ps, List.drop_eq_getElem_cons hi]
    simp [pAt, hi]
  have k1 : ((t.ps.take i).map (orp pid)).filter (fun p => p.pid != pid) = (t.ps.take i).map (orp pid) := by
    rw [List.filter_eq_self]
    intro x hx
    obtain ⟨y, hy, rfl⟩ := List.mem_map.1 hx
    obtain ⟨j, hj, rfl⟩ := List.getElem_of_mem hy
    rw [List.length_take] at hj
    have := hv.lt i j (by omega) hi
    rw [hpid, List.getElem_take]
    simp only [pAt, List.getD_eq_getElem?_getD, List.getElem?_eq_getElem hi, List.getElem?_eq_getElem (show j < t.ps.length by omega), Option.getD_some] at this h5
    simp
    omega
  have k2 : ((t.ps.drop (i + 1)).map (orp pid)).filter (fun p => p.pid != pid) = (t.ps.drop (i + 1)).map (orp pid) := by
    rw [List.filter_eq_self]
    intro x hx
    obtain ⟨y, hy, rfl⟩ := List.mem_map.1 hx
    obtain ⟨j, hj, rfl⟩ := List.getElem_of_mem hy
    rw [List.length_drop] at hj
    have := hv.lt (i + 1 + j) i (by omega) (by omega)
    rw [hpid, List.getElem_drop]
    simp only [pAt, List.getD_eq_getElem?_getD, List.getElem?_eq_getElem hi, List.getElem?_eq_getElem (show i + 1 + j < t.ps.length by omega), Option.getD_some] at this h5
    simp
    omega
  rw [rmP, List.eraseIdx_eq_take_drop_succ, List.map_append, ← k1, ← k2]
  conv => lhs; rw [e]
  rw [List.map_append, List.filter_append, List.map_cons, List.filter_cons_of_neg (by simp [hpid, h5])]
def rmN (t : Tb) (pid : Int) (j : Nat) : List Ps := ((t.ps.take j).map (orp pid)).filter (fun p => p.pid != pid)
theorem rmN_len (t : Tb) (pid : Int) (j : Nat) : (rmN t pid j).length ≤ t.ps.length := by
  refine Nat.le_trans (List.length_filter_le _ _) ?_
  rw [List.length_map, List.length_take]; omega
theorem rxt (t : Tb) (pid : Int) (hv : VW t) : Pure Tryz.prog gl 38 [TbL t, .int .i64 pid] (.tup [TbL (xtR t pid).2, .int .i64 (xtR t pid).1]) := by
  refine fn_viewT Tryz.func38 t38 Tryz.ntmps38 (by simp) ?_
  have hg := rget t pid hv.ok
  have hlen := hv.len
  have hle := len_ps t.ps
  have ht := hv.ok
  unfold c38 r38
  rcases Int.lt_or_le (findI t pid) 0 with h0 | h0
  · rw [getR_no h0] at hg
    dsimp only at hg
    rw [PsC_eq] at hg
    rw [xtR, chR_no h0]
    rw [TbL_eq t] at *
    repeat' (first | (simp (disch := first | exact dd | fail) only [go_sem]) | (refine allI (fun b => ?_)) | (refine allT (fun τ => ?_)) | (refine brP (fun h => ?_) (fun h => ?_) <;> (try simp only [zgx, zbx] at h)) | refine call_U (hg) ?_ | refine callG_U (fun _ => hg) ?_ | refine call_T (hg) ?_ | refine callG_T (fun _ => hg) ?_ | refine call_N (hg) ?_ | refine call_of (hg) ?_ | refine callG_of (fun _ => hg) ?_ | (refine gd ?_) | fail)
    refine pure_end ?_; exact leV.tup ⟨tb0_le, leV.refl _, trivial⟩
  · obtain ⟨i, hi, h4, h5, h6⟩ := hv.get1 h0
    rw [h6] at hg
    have hR : xtR t pid = if pid = 1 then (1, tb0) else (0, { t with ps := rmP t pid i }) := by
      rw [xtR, chR_yes h4, xtG]
      split
      · simp
      · have hr : rmT t pid = { t with ps := rmP t pid i } := by rw [rmT, if_neg (by omega), h4, Int.toNat_natCast]
        rw [hr]
        simp
    rw [← rm_eq hv hi h5] at hR
    generalize pAt t i = p at *
    dsimp only at hg
    rw [PsC_eq] at hg
    rw [TbL_eq t] at *
    repeat' (first | (simp (disch := first | exact dd | fail) only [go_sem]) | (refine allI (fun b => ?_)) | (refine allT (fun τ => ?_)) | (refine brP (fun h => ?_) (fun h => ?_) <;> (try simp only [zgx, zbx] at h)) | refine call_U (hg) ?_ | refine callG_U (fun _ => hg) ?_ | refine call_T (hg) ?_ | refine callG_T (fun _ => hg) ?_ | refine call_N (hg) ?_ | refine call_of (hg) ?_ | refine callG_of (fun _ => hg) ?_ | (refine gd ?_) | fail)
    · rw [hR, if_pos (by assumption)]
      refine pure_end ?_; exact leV.tup ⟨tb0_le, leV.refl _, trivial⟩
    · rw [hR, if_neg (by assumption)]
      rename_i b2 b4 b6
      rename Nat => b8
      refine loopI (ι := Nat × Nat × Nat) (fun y => y.1 ≤ t.ps.length ∧ (rmN t pid y.1).length ≤ y.2.2) (fun y => [(9, .int .i64 y.1), (8, .ptr 8 b8 0), (4, .ptr 4 b4 0), (2, .ptr 2 b2 0), (1, .int .i64 pid)]) (fun y => [(8, .blk b8 [.int .i64 t.nx, .int .i64 t.ns, .msl 6000 14 y.2.1 0 (rmN t pid y.1).length y.2.2]), (6000, .blk y.2.1 (Sp ((rmN t pid y.1).flatMap PsC) ((y.2.2 - (rmN t pid y.1).length) * 14))), (4, .blk b4 [.int .i64 0, .int .i64 0, .fsl 1 0 []]), (2, .blk b2 [.int .i64 t.nx, .int .i64 t.ns, .sl 14 t.ps.length (t.ps.flatMap PsC)])]) (fun y => t.ps.length - y.1) (0, 0, 0) (by simp [rmN]) ?_ ?_
      · have h00 : rmN t pid 0 = [] := by simp [rmN]
        dsimp only
        rw [h00]
        refine Ents.emp 6000 (Ents.heap ([(8, .blk b8 [.int .i64 t.nx, .int .i64 t.ns, .fsl 1 0 []]), (6000, .blk 0 []), (4, .blk b4 [.int .i64 0, .int .i64 0, .fsl 1 0 []]), (2, .blk b2 [.int .i64 t.nx, .int .i64 t.ns, .sl 14 t.ps.length (t.ps.flatMap PsC)])]) ?_ ⟨_, List.Sublist.cons_cons _ (List.Sublist.cons_cons _ (List.Sublist.cons _ (List.Sublist.refl _))), List.Perm.swap _ _ _⟩ ⟨⟨rfl, leV.refl _, leV.refl _, leV.nil_msl _ _ _, trivial⟩, ⟨rfl, by simp [Sp, leVs]⟩, ⟨rfl, leVs.refl _⟩, ⟨rfl, leVs.refl _⟩, trivial⟩)
        simp [go_sem]
      · rintro ⟨j, b', c⟩ ⟨h1, h2⟩
        dsimp only at h1 h2 ⊢
        have htl := len_ps (rmN t pid j)
        have hll := rmN_len t pid j
        simp (disch := first | exact dd | fail) only [go_sem]
        refine brP (fun hb => ?_) (fun hb => ?_)
        · have hlt : j < t.ps.length := by simpa using hb
          have e2 : ((t.ps.flatMap PsC).drop (j * 14)).take 14 = PsC (t.ps.getD j ps0) := take_rows (f := PsC) (fun _ => rfl) ps0 _ hlt
          have hts : rmN t pid (j + 1) = rmN t pid j ++ (if (orp pid (t.ps.getD j ps0)).pid = pid then [] else [orp pid (t.ps.getD j ps0)]) := by
            rw [rmN, take_succ_getD ps0 t.ps hlt, List.map_append, List.filter_append]
            simp only [List.getD_eq_getElem?_getD, List.map_cons, List.map_nil]
            generalize orp pid (t.ps[j]?.getD ps0) = z
            congr 1
            by_cases h : z.pid = pid <;> simp [h]
          have hcp := rcp (t.ps.getD j ps0) (ht.2 _ (getD_memA ps0 hlt))
          generalize t.ps.getD j ps0 = x at *
          have hS := length_Sp ((rmN t pid j).flatMap PsC) ((c - (rmN t pid j).length) * 14)
          rw [PsC_eq] at e2 hcp
          have hop : (orp pid x).pid = x.pid := by unfold orp; split <;> rfl
          rw [hop] at hts
          by_cases hpi : x.pid = pid
          · rw [if_pos hpi, List.append_nil] at hts
            repeat' (first | (simp (disch := first | exact dd | fail) only [go_sem, e2, zPs]) | (refine allI (fun b => ?_)) | (refine allT (fun τ => ?_)) | (refine brP (fun h => ?_) (fun h => ?_) <;> (try simp only [zgx, zbx] at h)) | refine call_U (hcp) ?_ | refine callG_U (fun _ => hcp) ?_ | refine call_T (hcp) ?_ | refine callG_T (fun _ => hcp) ?_ | refine call_N (hcp) ?_ | refine call_of (hcp) ?_ | refine callG_of (fun _ => hcp) ?_ | (refine gd ?_) | fail)
            all_goals first
              | (exfalso; omega)
              | exact ⟨⟨(j + 1, b', c), by dsimp only; omega, by rw [hts]; exact h2⟩, by dsimp only; omega, Ents.sub (by simp [go_sem]) ⟨_, List.Sublist.cons _ (List.Sublist.refl _), by dsimp only; rw [hts]⟩⟩
              | trace_state
          · rw [if_neg hpi] at hts
            by_cases hpp : x.ppid = pid
            · rw [orp, if_pos hpp] at hts
              repeat' (first | (simp (disch := first | exact dd | fail) only [go_sem, e2, zPs]) | (refine allI (fun b => ?_)) | (refine allT (fun τ => ?_)) | (refine brP (fun h => ?_) (fun h => ?_) <;> (try simp only [zgx, zbx] at h)) | refine call_U (hcp) ?_ | refine callG_U (fun _ => hcp) ?_ | refine call_T (hcp) ?_ | refine callG_T (fun _ => hcp) ?_ | refine call_N (hcp) ?_ | refine call_of (hcp) ?_ | refine callG_of (fun _ => hcp) ?_ | (refine gd ?_) | fail)
              all_goals first
                | (exfalso; omega)
                | (exfalso; simp_all; done)
                | (refine .inl ⟨by rw [hS, htl]; omega, by rw [hS, htl]; omega, by simp only [roomy]; omega, fun b3 c3 h3 => ?_⟩
                   rw [take_Sp _ htl]
                   refine ⟨⟨(j + 1, b3, c3), by dsimp only; omega, by rw [hts]; simp; omega⟩, by dsimp only; omega, Ents.sub (by simp [go_sem, hts]) ⟨_, List.Sublist.cons_cons _ (List.Sublist.cons _ (List.Sublist.refl _)), ?_⟩⟩
                   dsimp only
                   rw [hts, List.flatMap_append, List.flatMap_singleton, PsC_eq, Sp]
                   simp
                   exact List.Perm.swap _ _ _)
            · rw [orp, if_neg hpp] at hts
              repeat' (first | (simp (disch := first | exact dd | fail) only [go_sem, e2, zPs]) | (refine allI (fun b => ?_)) | (refine allT (fun τ => ?_)) | (refine brP (fun h => ?_) (fun h => ?_) <;> (try simp only [zgx, zbx] at h)) | refine call_U (hcp) ?_ | refine callG_U (fun _ => hcp) ?_ | refine call_T (hcp) ?_ | refine callG_T (fun _ => hcp) ?_ | refine call_N (hcp) ?_ | refine call_of (hcp) ?_ | refine callG_of (fun _ => hcp) ?_ | (refine gd ?_) | fail)
              all_goals first
                | (exfalso; omega)
                | (exfalso; simp_all; done)
                | (refine .inl ⟨by rw [hS, htl]; omega, by rw [hS, htl]; omega, by simp only [roomy]; omega, fun b3 c3 h3 => ?_⟩
                   rw [take_Sp _ htl]
                   refine ⟨⟨(j + 1, b3, c3), by dsimp only; omega, by rw [hts]; simp; omega⟩, by dsimp only; omega, Ents.sub (by simp [go_sem, hts]) ⟨_, List.Sublist.cons_cons _ (List.Sublist.cons _ (List.Sublist.refl _)), ?_⟩⟩
                   dsimp only
                   rw [hts, List.flatMap_append, List.flatMap_singleton, PsC_eq, Sp]
                   simp
                   exact List.Perm.swap _ _ _)
        · have hje : j = t.ps.length := by simp only [decide_eq_false_iff_not] at hb; omega
          subst hje
          repeat' (first | (simp (disch := first | exact dd | fail) only [go_sem]) | (refine allI (fun b => ?_)) | (refine allT (fun τ => ?_)) | (refine brP (fun h => ?_) (fun h => ?_) <;> (try simp only [zgx, zbx] at h)) | (refine gd ?_) | fail)
          have hfin : rmN t pid t.ps.length = (t.ps.map (orp pid)).filter (fun p => p.pid != pid) := by rw [rmN, List.take_length]
          rw [← hfin]
          exact pub_end (pubT1 (ps := rmN t pid t.ps.length) rfl rfl (List.Sublist.cons _ (List.Sublist.cons_cons _ (List.nil_sublist _))) h2)
theorem rcd (t : Tb) (pid : Int) (d i : Int) (hv : VW t) : Pure Tryz.prog gl 50 [TbL t, .int .i64 pid, .agg [.int .i64 d, .int .i64 i]] (.tup [TbL (cdR t pid d i).2, .int .i64 (cdR t pid d i).1]) := by
  refine fn_viewT Tryz.func50 t50 Tryz.ntmps50 (by simp) ?_
  have hg := rget t pid hv.ok
  unfold c50 r50
  rcases Int.lt_or_le (findI t pid) 0 with h0 | h0
  · rw [getR_no h0] at hg
    dsimp only at hg
    rw [PsC_eq] at hg
    rw [cdR, chR_no h0]
    rw [TbL_eq t] at *
    repeat' (first | (simp (disch := first | exact dd | fail) only [go_sem]) | (refine allI (fun b => ?_)) | (refine allT (fun τ => ?_)) | (refine brP (fun h => ?_) (fun h => ?_) <;> (try simp only [zgx, zbx] at h)) | refine call_U (hg) ?_ | refine callG_U (fun _ => hg) ?_ | refine call_T (hg) ?_ | refine callG_T (fun _ => hg) ?_ | refine call_N (hg) ?_ | refine call_of (hg) ?_ | refine callG_of (fun _ => hg) ?_ | (refine gd ?_) | fail)
    refine pure_end ?_; exact leV.tup ⟨tb0_le, leV.refl _, trivial⟩
  · obtain ⟨k, hi, h4, h5, h6⟩ := hv.get1 h0
    rw [h6] at hg
    have hR : cdR t pid d i = (0, setP t k { pAt t k with cd := d, ci := i }) := by
      rw [cdR, chR_yes h4]; rfl
    have hok := (hv.all k hi).op.len
    have hP := hv.put (i := k) (p := { pAt t k with cd := d, ci := i }) hi rfl
    have hq := rput t { pAt t k with cd := d, ci := i } hv.ok (by dsimp only; omega)
    rw [hP] at hq
    generalize pAt t k = p at *
    dsimp only at hg hR
    rw [PsC_eq] at hg hq
    rw [TbL_eq t] at *
    generalize setP t k { p with cd := d, ci := i } = T at *
    rw [TbL_eq T] at hq
    rw [hR]
    repeat' (first | (simp (disch := first | exact dd | fail) only [go_sem]) | (refine allI (fun b => ?_)) | (refine allT (fun τ => ?_)) | (refine brP (fun h => ?_) (fun h => ?_) <;> (try simp only [zgx, zbx] at h)) | refine call_U (hg) ?_ | refine callG_U (fun _ => hg) ?_ | refine call_T (hg) ?_ | refine callG_T (fun _ => hg) ?_ | refine call_U (hq) ?_ | refine callG_U (fun _ => hq) ?_ | refine call_T (hq) ?_ | refine callG_T (fun _ => hq) ?_ | refine call_N (hg) ?_ | refine call_of (hg) ?_ | refine callG_of (fun _ => hg) ?_ | refine call_N (hq) ?_ | refine call_of (hq) ?_ | refine callG_of (fun _ => hq) ?_ | (refine gd ?_) | fail)
    refine pure_end ?_
    rw [TbL_eq]
    exact leV.refl _
theorem rau (t : Tb) (pid : Int) (b : Bool) (hv : VW t) : Pure Tryz.prog gl 55 [TbL t, .int .i64 pid, .bool b] (.tup [TbL (auR t pid b).2, .int .i64 (auR t pid b).1]) := by
  refine fn_viewT Tryz.func55 t55 Tryz.ntmps55 (by simp) ?_
  have hg := rget t pid hv.ok
  unfold c55 r55
  rcases Int.lt_or_le (findI t pid) 0 with h0 | h0
  · rw [getR_no h0] at hg
    dsimp only at hg
    rw [PsC_eq] at hg
    rw [auR, chR_no h0]
    rw [TbL_eq t] at *
    repeat' (first | (simp (disch := first | exact dd | fail) only [go_sem]) | (refine allI (fun b => ?_)) | (refine allT (fun τ => ?_)) | (refine brP (fun h => ?_) (fun h => ?_) <;> (try simp only [zgx, zbx] at h)) | refine call_U (hg) ?_ | refine callG_U (fun _ => hg) ?_ | refine call_T (hg) ?_ | refine callG_T (fun _ => hg) ?_ | refine call_N (hg) ?_ | refine call_of (hg) ?_ | refine callG_of (fun _ => hg) ?_ | (refine gd ?_) | fail)
    refine pure_end ?_; exact leV.tup ⟨tb0_le, leV.refl _, trivial⟩
  · obtain ⟨k, hi, h4, h5, h6⟩ := hv.get1 h0
    rw [h6] at hg
    have hR : auR t pid b = (0, setP t k { pAt t k with au := b }) := by
      rw [auR, chR_yes h4]; rfl
    have hok := (hv.all k hi).op.len
    have hP := hv.put (i := k) (p := { pAt t k with au := b }) hi rfl
    have hq := rput t { pAt t k with au := b } hv.ok (by dsimp only; omega)
    rw [hP] at hq
    generalize pAt t k = p at *
    dsimp only at hg hR
    rw [PsC_eq] at hg hq
    rw [TbL_eq t] at *
    generalize setP t k { p with au := b } = T at *
    rw [TbL_eq T] at hq
    rw [hR]
    repeat' (first | (simp (disch := first | exact dd | fail) only [go_sem]) | (refine allI (fun b => ?_)) | (refine allT (fun τ => ?_)) | (refine brP (fun h => ?_) (fun h => ?_) <;> (try simp only [zgx, zbx] at h)) | refine call_U (hg) ?_ | refine callG_U (fun _ => hg) ?_ | refine call_T (hg) ?_ | refine callG_T (fun _ => hg) ?_ | refine call_U (hq) ?_ | refine callG_U (fun _ => hq) ?_ | refine call_T (hq) ?_ | refine callG_T (fun _ => hq) ?_ | refine call_N (hg) ?_ | refine call_of (hg) ?_ | refine callG_of (fun _ => hg) ?_ | refine call_N (hq) ?_ | refine call_of (hq) ?_ | refine callG_of (fun _ => hq) ?_ | (refine gd ?_) | fail)
    refine pure_end ?_
    rw [TbL_eq]
    exact leV.refl _
theorem rex (t : Tb) (pid : Int) (e c : List UInt8) (hv : VW t) : Pure Tryz.prog gl 52 [TbL t, .int .i64 pid, .str e, .str c] (.tup [TbL (exR t pid e c).2, .int .i64 (exR t pid e c).1]) := by
  refine fn_viewT Tryz.func52 t52 Tryz.ntmps52 (by simp) ?_
  have hg := rget t pid hv.ok
  unfold c52 r52
  rcases Int.lt_or_le (findI t pid) 0 with h0 | h0
  · rw [getR_no h0] at hg
    dsimp only at hg
    rw [PsC_eq] at hg
    rw [exR, chR_no h0]
    rw [TbL_eq t] at *
    repeat' (first | (simp (disch := first | exact dd | fail) only [go_sem]) | (refine allI (fun b => ?_)) | (refine allT (fun τ => ?_)) | (refine brP (fun h => ?_) (fun h => ?_) <;> (try simp only [zgx, zbx] at h)) | refine call_U (hg) ?_ | refine callG_U (fun _ => hg) ?_ | refine call_T (hg) ?_ | refine callG_T (fun _ => hg) ?_ | refine call_N (hg) ?_ | refine call_of (hg) ?_ | refine callG_of (fun _ => hg) ?_ | (refine gd ?_) | fail)
    refine pure_end ?_; exact leV.tup ⟨tb0_le, leV.refl _, trivial⟩
  · obtain ⟨k, hi, h4, h5, h6⟩ := hv.get1 h0
    rw [h6] at hg
    have hR : exR t pid e c = (0, setP t k { pAt t k with exe := e, comm := c }) := by
      rw [exR, chR_yes h4]; rfl
    have hok := (hv.all k hi).op.len
    have hP := hv.put (i := k) (p := { pAt t k with exe := e, comm := c }) hi rfl
    have hq := rput t { pAt t k with exe := e, comm := c } hv.ok (by dsimp only; omega)
    rw [hP] at hq
    generalize pAt t k = p at *
    dsimp only at hg hR
    rw [PsC_eq] at hg hq
    rw [TbL_eq t] at *
    generalize setP t k { p with exe := e, comm := c } = T at *
    rw [TbL_eq T] at hq
    rw [hR]
    repeat' (first | (simp (disch := first | exact dd | fail) only [go_sem]) | (refine allI (fun b => ?_)) | (refine allT (fun τ => ?_)) | (refine brP (fun h => ?_) (fun h => ?_) <;> (try simp only [zgx, zbx] at h)) | refine call_U (hg) ?_ | refine callG_U (fun _ => hg) ?_ | refine call_T (hg) ?_ | refine callG_T (fun _ => hg) ?_ | refine call_U (hq) ?_ | refine callG_U (fun _ => hq) ?_ | refine call_T (hq) ?_ | refine callG_T (fun _ => hq) ?_ | refine call_N (hg) ?_ | refine call_of (hg) ?_ | refine callG_of (fun _ => hg) ?_ | refine call_N (hq) ?_ | refine call_of (hq) ?_ | refine callG_of (fun _ => hq) ?_ | (refine gd ?_) | fail)
    refine pure_end ?_
    rw [TbL_eq]
    exact leV.refl _
end Go.Proofs.YtkdblnejpmbnfaaGreat
namespace Go.Proofs.YtkdblnejpmbnfaaGreat
open Go Go.Lx
set_option linter.unusedSimpArgs false
set_option linter.unusedVariables false
set_option maxRecDepth 100000
set_option maxHeartbeats 8000000
theorem rof (t : Tb) (pid d i fl : Int) (hv : VW t) : Pure Tryz.prog gl 45 [TbL t, .int .i64 pid, .agg [.int .i64 d, .int .i64 i], .int .i64 fl] (.tup [TbL (ofR t pid d i fl).2, .int .i64 (if (ofR t pid d i fl).1 = 0 then (ofN t pid : Int) else 0), .int .i64 (ofR t pid d i fl).1]) := by
  refine fn_viewT Tryz.func45 t45 Tryz.ntmps45 (by simp) ?_
  have hg := rget t pid hv.ok
  unfold c45 r45
  rcases Int.lt_or_le (findI t pid) 0 with h0 | h0
  · rw [getR_no h0] at hg
    dsimp only at hg
    rw [PsC_eq] at hg
    rw [ofR, chR_no h0]
    rw [TbL_eq t] at *
    repeat' (first | (simp (disch := first | exact dd | fail) only [go_sem]) | (refine allI (fun b => ?_)) | (refine allT (fun τ => ?_)) | (refine brP (fun h => ?_) (fun h => ?_) <;> (try simp only [zgx, zbx] at h)) | refine call_U (hg) ?_ | refine callG_U (fun _ => hg) ?_ | refine call_T (hg) ?_ | refine callG_T (fun _ => hg) ?_ | refine call_N (hg) ?_ | refine call_of (hg) ?_ | refine callG_of (fun _ => hg) ?_ | (refine gd ?_) | fail)
    refine pure_end ?_; exact leV.tup ⟨tb0_le, leV.of_eq (by simp), leV.refl _, trivial⟩
  · obtain ⟨n, hi, h4, h5, h6⟩ := hv.get1 h0
    rw [h6] at hg
    have hR : ofR t pid d i fl = if 8 ≤ (pAt t n).op.length then (24, tb0) else (0, setP t n { pAt t n with op := opL (pAt t n).op d i fl }) := by
      rw [ofR, chR_yes h4, ofG]
      split <;> simp
    have hN : ofN t pid = lfO (pAt t n).op 0 := by rw [ofN, h4, Int.toNat_natCast]
    have hok := (hv.all n hi).op
    have hok1 := hok.len
    have hP := hv.put (i := n) (p := { pAt t n with op := opL (pAt t n).op d i fl }) hi rfl
    have hlo := lfO_le (pAt t n).op 0
    have hq := rput t { pAt t n with op := opL (pAt t n).op d i fl } hv.ok (by simp [opL]; omega)
    rw [hP] at hq
    have hopl : opL (pAt t n).op d i fl = (pAt t n).op.take (lfO (pAt t n).op 0) ++ ⟨lfO (pAt t n).op 0, d, i, fl⟩ :: (pAt t n).op.drop (lfO (pAt t n).op 0) := rfl
    generalize pAt t n = p at *
    generalize opL p.op d i fl = ol at *
    dsimp only at hg hR
    rw [PsC_eq, DeS_eq] at hg hq
    rw [TbL_eq t] at *
    generalize setP t n { p with op := ol } = T at *
    rw [TbL_eq T] at hq
    have hle := len_de p.op
    repeat' (first | (simp (disch := first | exact dd | fail) only [go_sem]) | (refine allI (fun b => ?_)) | (refine allT (fun τ => ?_)) | (refine brP (fun h => ?_) (fun h => ?_) <;> (try simp only [zgx, zbx] at h)) | refine call_U (hg) ?_ | refine callG_U (fun _ => hg) ?_ | refine call_T (hg) ?_ | refine callG_T (fun _ => hg) ?_ | refine call_N (hg) ?_ | refine call_of (hg) ?_ | refine callG_of (fun _ => hg) ?_ | (refine gd ?_) | fail)
    · rw [hR, if_pos (by omega)]
      refine pure_end ?_; exact leV.tup ⟨tb0_le, leV.of_eq (by simp), leV.refl _, trivial⟩
    · rw [if_neg (by omega)] at hR
      rename_i b4 b6 b8
      rename Nat => b11
      refine loopI (ι := Nat) (fun k => k ≤ p.op.length ∧ lfO p.op 0 = lfO (p.op.drop k) k) (fun k => [(13, .int .i64 (k : Nat)), (11, .ptr 11 b11 0), (8, .ptr 8 b8 0), (6, .ptr 6 b6 0), (4, .ptr 4 b4 0), (3, .int .i64 fl)]) (fun k => [(11, .blk b11 (PsC p)), (8, .blk b8 [.int .i64 0, .int .i64 0, .fsl 1 0 []]), (6, .blk b6 [.int .i64 d, .int .i64 i]), (4, .blk b4 [.int .i64 t.nx, .int .i64 t.ns, .sl 14 t.ps.length (t.ps.flatMap PsC)])]) (fun k => p.op.length - k) 0 ⟨by omega, by simp⟩ (Ents.envH (by simp [go_sem]) (by rw [PsC_eq, DeS_eq])) ?_
      rintro k ⟨hk, hl⟩
      rw [PsC_eq, DeS_eq]
      have hfin : lfO p.op 0 = k → ol = p.op.take k ++ ⟨k, d, i, fl⟩ :: p.op.drop k := fun h => by rw [hopl, h]
      have tr := take_rowsN p.op k
      have dr := drop_rows p.op k
      have tl := len_de (p.op.take k)
      rw [List.length_take, Nat.min_eq_left hk] at tl
      rcases Nat.lt_or_ge k p.op.length with hlt | hge
      · have d1 : decide ((k : Int) < p.op.length) = true := by simp; omega
        have e3 : (p.op.flatMap DeC).getD (k * 4) .any = .int .i64 (p.op.getD k de0).fd := by
          rw [← Nat.add_zero (k * 4), getD_rows (f := DeC) (w := 4) (fun _ => rfl) (by omega) de0 _ _ hlt]; rfl
        have hst := lfO_step hlt
        generalize p.op.getD k de0 = q at *
        repeat' (first | (simp (disch := first | exact dd | fail) only [go_sem, d1, e3, zDe]) | (refine allI (fun b => ?_)) | (refine allT (fun τ => ?_)) | (refine brP (fun h => ?_) (fun h => ?_) <;> (try simp only [zgx, zbx] at h)) | (refine gd ?_) | fail)
        · refine ⟨⟨k + 1, by omega, by rw [hl, hst, if_pos (by assumption)]⟩, by dsimp only; omega, Ents.envH (by simp [go_sem]) rfl⟩
        · have hz : lfO p.op 0 = k := by rw [hl, hst, if_neg (by assumption)]
          refine ⟨by simp only [roomy]; omega, fun τ => ⟨by simp only [roomy]; omega, fun τ1 => ⟨by omega, by simp only [roomy]; omega, fun τ2 => ?_⟩⟩⟩
          have hol : ol.length = k - 0 + 1 + (p.op.length - k) := by rw [hfin hz]; simp; omega
          have hoc : List.take ((k - 0) * 4) (p.op.flatMap DeC) ++ [.int .i64 k, .int .i64 d, .int .i64 i, .int .i64 fl] ++ List.take ((p.op.length - k) * 4) (List.drop (k * 4) (p.op.flatMap DeC)) = ol.flatMap DeC := by
            rw [hfin hz, List.flatMap_append, List.flatMap_cons, DeC_eq, Nat.sub_zero, tr, dr, List.take_of_length_le (l := List.drop (k * 4) (p.op.flatMap DeC)) (by rw [List.length_drop]; omega)]
            simp
          rw [hoc, ← hol]
          first
            | refine call_U (LCalls.args hq ⟨leV.refl _, leV.agg ⟨leV.refl _, leV.refl _, leV.refl _, leV.refl _, leV.refl _, leV.refl _, leV.refl _, leV.refl _, leV.refl _, leV.refl _, leV.refl _, leV.refl _, leV.osl_sl _ _ _ _ _, leV.refl _, trivial⟩, trivial⟩) ?_
            | refine call_of (LCalls.args hq ⟨leV.refl _, leV.agg ⟨leV.refl _, leV.refl _, leV.refl _, leV.refl _, leV.refl _, leV.refl _, leV.refl _, leV.refl _, leV.refl _, leV.refl _, leV.refl _, leV.refl _, leV.osl_sl _ _ _ _ _, leV.refl _, trivial⟩, trivial⟩) ?_
          repeat' (first | (simp (disch := first | exact dd | fail) only [go_sem]) | (refine allI (fun b => ?_)) | (refine allT (fun τ => ?_)) | (refine brP (fun h => ?_) (fun h => ?_) <;> (try simp only [zgx, zbx] at h)) | (refine gd ?_) | fail)
          rw [hR, hN, hz]
          refine pure_end ?_
          rw [TbL_eq]
          exact leV.refl _
      · have d1 : decide ((k : Int) < p.op.length) = false := by simp; omega
        have e3 : (p.op.flatMap DeC).getD (k * 4) .any = .any := by
          rw [List.getD_eq_getElem?_getD, List.getElem?_eq_none (by omega)]; rfl
        repeat' (first | (simp (disch := first | exact dd | fail) only [go_sem, d1, e3, zDe, bin_anyL, pick_0a0]) | (refine allI (fun b => ?_)) | (refine allT (fun τ => ?_)) | (refine brP (fun h => ?_) (fun h => ?_) <;> (try simp only [zgx, zbx] at h)) | (refine gd ?_) | fail)
        have hz : lfO p.op 0 = k := by rw [hl]; exact lfO_end (by omega)
        refine ⟨by simp only [roomy]; omega, fun τ => ⟨by simp only [roomy]; omega, fun τ1 => ⟨by omega, by simp only [roomy]; omega, fun τ2 => ?_⟩⟩⟩
        have hol : ol.length = k - 0 + 1 + (p.op.length - k) := by rw [hfin hz]; simp; omega
        have hoc : List.take ((k - 0) * 4) (p.op.flatMap DeC) ++ [.int .i64 k, .int .i64 d, .int .i64 i, .int .i64 fl] ++ List.take ((p.op.length - k) * 4) (List.drop (k * 4) (p.op.flatMap DeC)) = ol.flatMap DeC := by
          rw [hfin hz, List.flatMap_append, List.flatMap_cons, DeC_eq, Nat.sub_zero, tr, dr, List.take_of_length_le (l := List.drop (k * 4) (p.op.flatMap DeC)) (by rw [List.length_drop]; omega)]
          simp
        rw [hoc, ← hol]
        first
          | refine call_U (LCalls.args hq ⟨leV.refl _, leV.agg ⟨leV.refl _, leV.refl _, leV.refl _, leV.refl _, leV.refl _, leV.refl _, leV.refl _, leV.refl _, leV.refl _, leV.refl _, leV.refl _, leV.refl _, leV.osl_sl _ _ _ _ _, leV.refl _, trivial⟩, trivial⟩) ?_
          | refine call_of (LCalls.args hq ⟨leV.refl _, leV.agg ⟨leV.refl _, leV.refl _, leV.refl _, leV.refl _, leV.refl _, leV.refl _, leV.refl _, leV.refl _, leV.refl _, leV.refl _, leV.refl _, leV.refl _, leV.osl_sl _ _ _ _ _, leV.refl _, trivial⟩, trivial⟩) ?_
        repeat' (first | (simp (disch := first | exact dd | fail) only [go_sem]) | (refine allI (fun b => ?_)) | (refine allT (fun τ => ?_)) | (refine brP (fun h => ?_) (fun h => ?_) <;> (try simp only [zgx, zbx] at h)) | (refine gd ?_) | fail)
        rw [hR, hN, hz]
        refine pure_end ?_
        rw [TbL_eq]
        exact leV.refl _
theorem rcf (t : Tb) (pid fd : Int) (hv : VW t) : Pure Tryz.prog gl 47 [TbL t, .int .i64 pid, .int .i64 fd] (.tup [TbL (cfR t pid fd).2, .int .i64 (cfR t pid fd).1]) := by
  refine fn_viewT Tryz.func47 t47 Tryz.ntmps47 (by simp) ?_
  have hg := rget t pid hv.ok
  unfold c47 r47
  rcases Int.lt_or_le (findI t pid) 0 with h0 | h0
  · rw [getR_no h0] at hg
    dsimp only at hg
    rw [PsC_eq] at hg
    rw [cfR, chR_no h0]
    rw [TbL_eq t] at *
    repeat' (first | (simp (disch := first | exact dd | fail) only [go_sem]) | (refine allI (fun b => ?_)) | (refine allT (fun τ => ?_)) | (refine brP (fun h => ?_) (fun h => ?_) <;> (try simp only [zgx, zbx] at h)) | refine call_U (hg) ?_ | refine callG_U (fun _ => hg) ?_ | refine call_T (hg) ?_ | refine callG_T (fun _ => hg) ?_ | refine call_N (hg) ?_ | refine call_of (hg) ?_ | refine callG_of (fun _ => hg) ?_ | (refine gd ?_) | fail)
    refine pure_end ?_; exact leV.tup ⟨tb0_le, leV.refl _, trivial⟩
  · obtain ⟨n, hi, h4, h5, h6⟩ := hv.get1 h0
    rw [h6] at hg
    have hR : cfR t pid fd = if (fdF (pAt t n).op fd).length = (pAt t n).op.length then (9, tb0) else (0, setP t n { pAt t n with op := fdF (pAt t n).op fd }) := by
      rw [cfR, chR_yes h4, cfG]
      split <;> simp
    have hok := (hv.all n hi).op
    have hok1 := hok.len
    have hfl : (fdF (pAt t n).op fd).length ≤ (pAt t n).op.length := List.length_filter_le _ _
    have hP := hv.put (i := n) (p := { pAt t n with op := fdF (pAt t n).op fd }) hi rfl
    have hq := rput t { pAt t n with op := fdF (pAt t n).op fd } hv.ok (by dsimp only; omega)
    rw [hP] at hq
    generalize pAt t n = p at *
    dsimp only at hg hR
    rw [PsC_eq, DeS_eq] at hg hq
    rw [TbL_eq t] at *
    generalize setP t n { p with op := fdF p.op fd } = T at *
    rw [TbL_eq T] at hq
    have hle := len_de p.op
    repeat' (first | (simp (disch := first | exact dd | fail) only [go_sem]) | (refine allI (fun b => ?_)) | (refine allT (fun τ => ?_)) | (refine brP (fun h => ?_) (fun h => ?_) <;> (try simp only [zgx, zbx] at h)) | refine call_U (hg) ?_ | refine callG_U (fun _ => hg) ?_ | refine call_T (hg) ?_ | refine callG_T (fun _ => hg) ?_ | refine call_N (hg) ?_ | refine call_of (hg) ?_ | refine callG_of (fun _ => hg) ?_ | (refine gd ?_) | fail)
    rename_i b3 b6
    rename Nat => b8
    refine loopI (ι := Nat × Tok) (fun y => y.1 ≤ p.op.length) (fun y => [(11, .int .i64 y.1), (10, .osl 43 y.2 4 (fdF (p.op.take y.1) fd).length ((fdF (p.op.take y.1) fd).flatMap DeC)), (8, .ptr 8 b8 0), (6, .ptr 6 b6 0), (3, .ptr 3 b3 0), (2, .int .i64 fd)]) (fun y => [(43, .tok y.2), (8, .blk b8 (PsC p)), (6, .blk b6 [.int .i64 0, .int .i64 0, .fsl 1 0 []]), (3, .blk b3 [.int .i64 t.nx, .int .i64 t.ns, .sl 14 t.ps.length (t.ps.flatMap PsC)])]) (fun y => p.op.length - y.1) (0, ⟨0, 0, 0⟩) (by simp) (Ents.dum 43 (Ents.envH ⟨leV.refl _, leV.nil_osl _ _ _ _, leV.refl _, leV.refl _, leV.refl _, leV.refl _, trivial⟩ (by rw [PsC_eq, DeS_eq]))) ?_
    rintro ⟨k, τ⟩ hk
    dsimp only at hk ⊢
    rw [PsC_eq, DeS_eq]
    have tl := len_de (fdF (p.op.take k) fd)
    have tl2 : (fdF (p.op.take k) fd).length ≤ k := by
      refine Nat.le_trans (List.length_filter_le _ _) ?_
      rw [List.length_take]; omega
    simp (disch := first | exact dd | fail) only [go_sem]
    refine brP (fun hb => ?_) (fun hb => ?_)
    · have hlt : k < p.op.length := by simpa using hb
      have e3 : (p.op.flatMap DeC).getD (k * 4) .any = .int .i64 (p.op.getD k de0).fd := by
        rw [← Nat.add_zero (k * 4), getD_rows (f := DeC) (w := 4) (fun _ => rfl) (by omega) de0 _ _ hlt]; rfl
      have e2 : ((p.op.flatMap DeC).drop (k * 4)).take 4 = DeC (p.op.getD k de0) := take_rows (f := DeC) (fun _ => rfl) de0 _ hlt
      have hts : fdF (p.op.take (k + 1)) fd = fdF (p.op.take k) fd ++ (if (p.op.getD k de0).fd = fd then [] else [p.op.getD k de0]) := by
        rw [fdF, take_succ_getD de0 p.op hlt, List.filter_append, ← fdF]
        congr 1
        generalize p.op.getD k de0 = z
        by_cases h : z.fd = fd <;> simp [h]
      generalize p.op.getD k de0 = q at *
      rw [DeC_eq] at e2
      repeat' (first | (simp (disch := first | exact dd | fail) only [go_sem, e3, e2, zDe]) | (refine allI (fun b => ?_)) | (refine allT (fun τ => ?_)) | (refine brP (fun h => ?_) (fun h => ?_) <;> (try simp only [zgx, zbx] at h)) | (refine gd ?_) | fail)
      · rw [if_neg (by assumption)] at hts
        refine ⟨by simp only [roomy]; omega, fun τ2 => ⟨⟨(k + 1, τ2), by dsimp only; omega⟩, by dsimp only; omega, Ents.envH ⟨leV.refl _, leV.of_eq ?_, leV.refl _, leV.refl _, leV.refl _, leV.refl _, trivial⟩ rfl⟩⟩
        dsimp only
        rw [hts]
        simp [go_sem, List.flatMap_append, DeC_eq]
      · have h' : q.fd = fd := by first | assumption | simpa using h
        rw [if_pos h', List.append_nil] at hts
        exact ⟨⟨(k + 1, τ), by dsimp only; omega⟩, by dsimp only; omega, Ents.envH (by simp [go_sem, hts]) rfl⟩
    · have hke : k = p.op.length := by simp only [decide_eq_false_iff_not] at hb; omega
      subst hke
      have e5 : p.op.take p.op.length = p.op := List.take_length
      rw [e5] at *
      repeat' (first | (simp (disch := first | exact dd | fail) only [go_sem]) | (refine allI (fun b => ?_)) | (refine allT (fun τ => ?_)) | (refine brP (fun h => ?_) (fun h => ?_) <;> (try simp only [zgx, zbx] at h)) | (refine gd ?_) | fail)
      · rw [hR, if_pos (by omega)]
        refine pure_end ?_; exact leV.tup ⟨tb0_le, leV.refl _, trivial⟩
      · first
          | refine call_U (LCalls.args hq ⟨leV.refl _, leV.agg ⟨leV.refl _, leV.refl _, leV.refl _, leV.refl _, leV.refl _, leV.refl _, leV.refl _, leV.refl _, leV.refl _, leV.refl _, leV.refl _, leV.refl _, leV.osl_sl _ _ _ _ _, leV.refl _, trivial⟩, trivial⟩) ?_
          | refine call_of (LCalls.args hq ⟨leV.refl _, leV.agg ⟨leV.refl _, leV.refl _, leV.refl _, leV.refl _, leV.refl _, leV.refl _, leV.refl _, leV.refl _, leV.refl _, leV.refl _, leV.refl _, leV.refl _, leV.osl_sl _ _ _ _ _, leV.refl _, trivial⟩, trivial⟩) ?_
        repeat' (first | (simp (disch := first | exact dd | fail) only [go_sem]) | (refine allI (fun b => ?_)) | (refine allT (fun τ => ?_)) | (refine brP (fun h => ?_) (fun h => ?_) <;> (try simp only [zgx, zbx] at h)) | (refine gd ?_) | fail)
        rw [hR, if_neg (by omega)]
        refine pure_end ?_
        rw [TbL_eq]
        exact leV.refl _
theorem rki (t : Tb) (pid tg : Int) (ends : Bool) (hv : VW t) : Pure Tryz.prog gl 57 [TbL t, .int .i64 pid, .int .i64 tg, .bool ends] (.tup [TbL (kiR t pid tg ends).2, .int .i64 (kiR t pid tg ends).1]) := by
  refine fn_viewT Tryz.func57 t57 Tryz.ntmps57 (by simp) ?_
  have hg := rget t pid hv.ok
  have hg2 := rget t tg hv.ok
  have hx := rxt t tg hv
  have hc := rcopyS t hv.ok
  unfold c57 r57
  rcases Int.lt_or_le (findI t pid) 0 with h0 | h0
  · rw [getR_no h0] at hg
    dsimp only at hg
    rw [PsC_eq] at hg
    rw [kiR, chR_no h0]
    rw [TbL_eq t] at *
    repeat' (first | (simp (disch := first | exact dd | fail) only [go_sem]) | (refine allI (fun b => ?_)) | (refine allT (fun τ => ?_)) | (refine brP (fun h => ?_) (fun h => ?_) <;> (try simp only [zgx, zbx] at h)) | refine call_U (hg) ?_ | refine callG_U (fun _ => hg) ?_ | refine call_T (hg) ?_ | refine callG_T (fun _ => hg) ?_ | refine call_N (hg) ?_ | refine call_of (hg) ?_ | refine callG_of (fun _ => hg) ?_ | (refine gd ?_) | fail)
    refine pure_end ?_; exact leV.tup ⟨tb0_le, leV.refl _, trivial⟩
  · obtain ⟨n, hi, h4, h5, h6⟩ := hv.get1 h0
    rw [h6] at hg
    rcases Int.lt_or_le (findI t tg) 0 with k0 | k0
    · have hR : kiR t pid tg ends = (3, tb0) := by
        rw [kiR, chR_yes h4, kiG, if_pos k0]; simp
      rw [getR_no k0] at hg2
      rw [hR]
      generalize pAt t n = p at *
      dsimp only at hg hg2
      rw [PsC_eq] at hg hg2
      rw [TbL_eq t] at *
      repeat' (first | (simp (disch := first | exact dd | fail) only [go_sem]) | (refine allI (fun b => ?_)) | (refine allT (fun τ => ?_)) | (refine brP (fun h => ?_) (fun h => ?_) <;> (try simp only [zgx, zbx] at h)) | refine call_U (hg) ?_ | refine callG_U (fun _ => hg) ?_ | refine call_T (hg) ?_ | refine callG_T (fun _ => hg) ?_ | refine call_U (hg2) ?_ | refine callG_U (fun _ => hg2) ?_ | refine call_T (hg2) ?_ | refine callG_T (fun _ => hg2) ?_ | refine call_N (hg) ?_ | refine call_of (hg) ?_ | refine callG_of (fun _ => hg) ?_ | refine call_N (hg2) ?_ | refine call_of (hg2) ?_ | refine callG_of (fun _ => hg2) ?_ | (refine gd ?_) | fail)
      refine pure_end ?_; exact leV.tup ⟨tb0_le, leV.refl _, trivial⟩
    · obtain ⟨m, hm, m4, m5, m6⟩ := hv.get1 k0
      rw [m6] at hg2
      have hR : kiR t pid tg ends = if tg = 1 ∨ ((pAt t n).euid ≠ 0 ∧ (pAt t n).euid ≠ (pAt t m).uid) then (1, tb0) else if ends = true then (0, rmT t tg) else (0, t) := by
        rw [kiR, chR_yes h4]
        have hk : kiG tg ends t n = if tg = 1 ∨ ((pAt t n).euid ≠ 0 ∧ (pAt t n).euid ≠ (pAt t m).uid) then (1, t) else if ends = true then (0, rmT t tg) else (0, t) := by
          rw [kiG, if_neg (by omega), m4, Int.toNat_natCast]
        rw [hk]
        split
        · simp
        · split <;> simp
      have hx' : tg ≠ 1 → xtR t tg = (0, rmT t tg) := fun h => xtR_eq k0 h
      generalize pAt t n = p at *
      generalize pAt t m = o at *
      generalize xtR t tg = X at *
      generalize rmT t tg = T at *
      obtain ⟨xe, xt⟩ := X
      dsimp only at hg hg2 hx
      rw [PsC_eq] at hg hg2
      rw [TbL_eq xt] at hx
      rw [TbL_eq t] at *
      cases ends
      · repeat' (first | (simp (disch := first | exact dd | fail) only [go_sem, pick_0a0]) | (refine allI (fun b => ?_)) | (refine allT (fun τ => ?_)) | (refine brP (fun h => ?_) (fun h => ?_) <;> (try simp only [zgx, zbx] at h)) | refine call_U (hg) ?_ | refine callG_U (fun _ => hg) ?_ | refine call_T (hg) ?_ | refine callG_T (fun _ => hg) ?_ | refine call_U (hg2) ?_ | refine callG_U (fun _ => hg2) ?_ | refine call_T (hg2) ?_ | refine callG_T (fun _ => hg2) ?_ | refine call_U (hc) ?_ | refine callG_U (fun _ => hc) ?_ | refine call_T (hc) ?_ | refine callG_T (fun _ => hc) ?_ | refine call_N (hg) ?_ | refine call_of (hg) ?_ | refine callG_of (fun _ => hg) ?_ | refine call_N (hg2) ?_ | refine call_of (hg2) ?_ | refine callG_of (fun _ => hg2) ?_ | refine call_N (hc) ?_ | refine call_of (hc) ?_ | refine callG_of (fun _ => hc) ?_ | (refine gd ?_) | fail)
        · rw [hR, if_pos (by omega)]
          refine pure_end ?_; exact leV.tup ⟨tb0_le, leV.refl _, trivial⟩
        · simp only [bne_eq_false_iff_eq] at h
          rw [hR, if_neg (by omega)]
          refine pure_end ?_
          rw [if_neg (by simp), TbL_eq]
          exact leV.refl _
      · repeat' (first | (simp (disch := first | exact dd | fail) only [go_sem, pick_0a0]) | (refine allI (fun b => ?_)) | (refine allT (fun τ => ?_)) | (refine brP (fun h => ?_) (fun h => ?_) <;> (try simp only [zgx, zbx] at h)) | refine call_U (hg) ?_ | refine callG_U (fun _ => hg) ?_ | refine call_T (hg) ?_ | refine callG_T (fun _ => hg) ?_ | refine call_U (hg2) ?_ | refine callG_U (fun _ => hg2) ?_ | refine call_T (hg2) ?_ | refine callG_T (fun _ => hg2) ?_ | refine call_U (hx) ?_ | refine callG_U (fun _ => hx) ?_ | refine call_T (hx) ?_ | refine callG_T (fun _ => hx) ?_ | refine call_N (hg) ?_ | refine call_of (hg) ?_ | refine callG_of (fun _ => hg) ?_ | refine call_N (hg2) ?_ | refine call_of (hg2) ?_ | refine callG_of (fun _ => hg2) ?_ | refine call_N (hx) ?_ | refine call_of (hx) ?_ | refine callG_of (fun _ => hx) ?_ | (refine gd ?_) | fail)
        · rw [hR, if_pos (by omega)]
          refine pure_end ?_; exact leV.tup ⟨tb0_le, leV.refl _, trivial⟩
        · simp only [bne_eq_false_iff_eq] at h
          rw [hR, if_neg (by omega)]
          refine pure_end ?_
          have h9 := hx' (by omega)
          simp only [Prod.mk.injEq] at h9
          rw [if_pos rfl, TbL_eq, h9.1, h9.2]
          exact leV.refl _
end Go.Proofs.YtkdblnejpmbnfaaGreat
namespace Go.Proofs.YtkdblnejpmbnfaaGreat
open Go Go.Lx
set_option linter.unusedSimpArgs false
set_option linter.unusedVariables false
set_option maxRecDepth 100000
set_option maxHeartbeats 8000000
theorem fdI_lt (l : List De) (fd : Int) : fdI l fd < l.length := by
  rcases firstI_cases l.length (fdP l fd) with ⟨h, _⟩ | ⟨i, h1, h2, _⟩
  · rw [fdI, h]; omega
  · rw [fdI, h2]; omega
theorem cut_rowsD (l : List De) (i : Nat) : (l.flatMap DeC).take (i * 4) ++ (l.flatMap DeC).drop ((i + 1) * 4) = (l.eraseIdx i).flatMap DeC := by
  rw [take_rowsN, ← drop_rows, List.eraseIdx_eq_take_drop_succ, List.flatMap_append]
def clGW (fd : Int) (l : List De) : Int × List De := if fdI l fd < 0 then (9, l) else (0, l.eraseIdx (fdI l fd).toNat)
theorem clEW {e : Int} {t : Tb} {l : List De} {i bt b c bo c1 : Nat} {Hc : Heap} (hc : l.length ≤ c1) : ∃ r' H', leVH gl (.int .i64 e) (ChW bt t i l b c bo c1 ++ Hc) r' H' ∧ ∃ bo' c', ((e, l) : Int × List De).2.length ≤ c' ∧ r' = .int .i64 ((e, l) : Int × List De).1 ∧ H' = ChW bt t i ((e, l) : Int × List De).2 b c bo' c' ++ Hc :=
  ⟨_, _, leVH.of (leV.refl _) ⟨_, List.Sublist.refl _, List.Perm.refl _⟩, bo, c1, hc, rfl, rfl⟩
theorem e12 {ps : List Ps} {i k : Nat} {o : LV} (hlt : i < ps.length) : (Sp ((rowL ps i o).flatMap fR) k).getD (i * 14 + 12) .any = o := by
  have := len_fR (rowL ps i o)
  rw [rowL_len] at this
  rw [Sp, List.getD_eq_getElem?_getD, List.getElem?_append_left (by omega), ← List.getD_eq_getElem?_getD, getD_rows (f := fR) (w := 14) fR_len (by omega) (ps0, .any) _ _ (by rw [rowL_len]; exact hlt), rowL_at hlt]; rfl
theorem cl1W (fd : Int) (b5 : Nat) (t : Tb) (i : Nat) (hi : i < t.ps.length) (hp : (t.ps.getD i ps0).op.length ≤ 1000) : ClW 83 [.ptr 5 b5 0] [(5, .blk b5 [.int .i64 fd])] [(5, .blk b5 [.int .i64 fd])] t i (clGW fd (t.ps.getD i ps0).op) := by
  intro bt b c bo hbc
  refine fn_viewT Tryz.func83 t83 Tryz.ntmps83 (by simp) ?_
  have hsl := fun o k => length_Sp ((rowL t.ps i o).flatMap fR) k
  have hl2 := fun o => len_fR (rowL t.ps i o)
  simp only [rowL_len] at hl2
  have e12 := fun o k => e12 (k := k) (o := o) hi
  have hpt := fun k o o' => rowL_put (k := k) (o := o) (o' := o') hi
  generalize (t.ps.getD i ps0).op = l at *
  have hle := len_de l
  have hx := idxd l b5 bo l.length fd hp
  have hlt := fdI_lt l fd
  have hR : clGW fd l = if fdI l fd < 0 then (9, l) else (0, l.eraseIdx (fdI l fd).toNat) := rfl
  generalize fdI l fd = k at *
  unfold c83 r83 ChW
  simp only [List.cons_append, List.nil_append]
  repeat' (first | (simp (disch := first | exact dd | fail) only [go_sem, e12, putC_eq, opM]) | (refine allI (fun b => ?_)) | (refine allT (fun τ => ?_)) | (refine brP (fun h => ?_) (fun h => ?_) <;> (try simp only [zgx, zbx] at h)) | (refine gd ?_) | fail)
  refine ⟨by rw [hsl, hl2]; omega, ?_⟩
  refine actsP_U (H2 := [(3, _), (6000, _)]) hx (pick_perm rfl (pick_perm rfl (List.Perm.refl _))) ?_
  rintro _ _ ⟨rfl, rfl⟩
  simp only [List.cons_append, List.nil_append]
  repeat' (first | (simp (disch := first | exact dd | fail) only [go_sem, e12, putC_eq]) | (refine allI (fun b => ?_)) | (refine allT (fun τ => ?_)) | (refine brP (fun h => ?_) (fun h => ?_) <;> (try simp only [zgx, zbx] at h)) | (refine gd ?_) | fail)
  · rw [hR, if_pos (by assumption)]
    exact clEW (Nat.le_refl _)
  · obtain ⟨n, rfl⟩ : ∃ n : Nat, k = (n : Int) := ⟨k.toNat, by omega⟩
    rw [Int.toNat_natCast, if_neg (by omega)] at hR
    have hd := deld bo l.length l.length n (n + 1) _ hle (by omega) (by omega) (by omega) (by omega)
    refine ⟨by rw [hsl, hl2]; omega, ?_⟩
    first | refine actsE_U (hd) (by first | rfl | simp only [getH, if_true]) ?_ | refine actsE_T (hd) (by first | rfl | simp only [getH, if_true]) ?_ | refine actsE_N (hd) (by first | rfl | simp only [getH, if_true]) ?_ | refine actsE_of (hd) (by first | rfl | simp only [getH, if_true]) ?_
    rintro _ _ ⟨rfl, rfl⟩
    rw [cut_rowsD]
    have hE : (l.eraseIdx n).length = l.length - 1 := by rw [List.length_eraseIdx, if_pos (by omega)]
    rw [show l.length - (n + 1 - n) = (l.eraseIdx n).length by omega]
    repeat' (first | (simp (disch := first | exact dd | fail) only [go_sem, e12, putC_eq]) | (refine allI (fun b => ?_)) | (refine allT (fun τ => ?_)) | (refine brP (fun h => ?_) (fun h => ?_) <;> (try simp only [zgx, zbx] at h)) | (refine gd ?_) | fail)
    refine ⟨by rw [hsl, hl2]; omega, ?_⟩
    rw [hR, hpt]
    exact clEW (l := l.eraseIdx n) (by omega)
theorem chW_no {t : Tb} {pid : Int} {f : FuncId} {caps : List LV} {Hc : Heap} (ht : okT t) (h0 : findI t pid < 0) (hok : okF Tryz.prog f = true) : LCalls Tryz.prog gl 23 [TbL t, .int .i64 pid, .clo f caps] Hc fun v H => v = .tup [TbL tb0, .int .i64 3] ∧ H = Hc := by
  have := change t pid ht f caps Hc (fun _ => (0, tb0)) hok fun i h => by omega
  rwa [chR_no h0] at this
def clRW (t : Tb) (pid fd : Int) : Int × Tb := if findI t pid < 0 then (3, tb0) else chW t (findI t pid).toNat (clGW fd (t.ps.getD (findI t pid).toNat ps0).op)
theorem clW (t : Tb) (pid fd : Int) (ht : t.ps.length ≤ 1000 ∧ ∀ p ∈ t.ps, p.op.length ≤ 1000) : Pure Tryz.prog gl 46 [TbL t, .int .i64 pid, .int .i64 fd] (.tup [TbL (clRW t pid fd).2, .int .i64 (clRW t pid fd).1]) := by
  refine fn_pureT Tryz.func46 t46 Tryz.ntmps46 (by simp) ?_
  have hc : ∀ b5, LCalls Tryz.prog gl 23 [TbL t, .int .i64 pid, .clo 83 [.ptr 5 b5 0]] [(5, .blk b5 [.int .i64 fd])] fun v H => v = .tup [TbL (clRW t pid fd).2, .int .i64 (clRW t pid fd).1] ∧ H = [(5, .blk b5 [.int .i64 fd])] := fun b5 => by
    rcases Int.lt_or_le (findI t pid) 0 with h0 | h0
    · rw [clRW, if_pos h0]
      exact chW_no ⟨by omega, fun p hp => by have := ht.2 p hp; omega⟩ h0 (by kernel_rfl)
    · have hlt := findI_lt t pid
      rw [clRW, if_neg (by omega)]
      exact changeW t pid (findI t pid).toNat (by omega) (by omega) ht 83 [.ptr 5 b5 0] [(5, _)] [(5, _)] _ (by kernel_rfl) (cl1W fd b5 t _ (by omega) (ht.2 _ (getD_memA ps0 (by omega))))
  unfold c46 r46
  rw [TbL_eq t] at *
  repeat' (first | (simp (disch := first | exact dd | fail) only [go_sem]) | (refine allI (fun b => ?_)) | (refine allT (fun τ => ?_)) | (refine brP (fun h => ?_) (fun h => ?_) <;> (try simp only [zgx, zbx] at h)) | (refine gd ?_) | fail)
  rename_i b1 b2
  refine actsP_U (hc b2) (List.Perm.swap _ _ _) ?_
  rintro _ _ ⟨rfl, rfl⟩
  generalize clRW t pid fd = R at *
  obtain ⟨e, t'⟩ := R
  dsimp only
  rw [TbL_eq t']
  repeat' (first | (simp (disch := first | exact dd | fail) only [go_sem]) | (refine allI (fun b => ?_)) | (refine allT (fun τ => ?_)) | (refine brP (fun h => ?_) (fun h => ?_) <;> (try simp only [zgx, zbx] at h)) | (refine gd ?_) | fail)
def opGW (d i fl : Int) (l : List De) : Int × List De := if 8 ≤ l.length then (24, l) else (0, opL l d i fl)
def opKW (l : List De) : Nat := if 8 ≤ l.length then 0 else lfO l 0
theorem op1W (d i fl : Int) (bf ba bg : Nat) (t : Tb) (n : Nat) (hn : n < t.ps.length) (hp : (t.ps.getD n ps0).op.length ≤ 1000) : ClW 81 [.ptr 11 bf 0, .ptr 6 ba 0, .ptr 7 bg 0] [(11, .blk bf [.int .i64 0]), (7, .blk bg [.int .i64 fl]), (6, .blk ba [.int .i64 d, .int .i64 i])] [(11, .blk bf [.int .i64 (opKW (t.ps.getD n ps0).op)]), (7, .blk bg [.int .i64 fl]), (6, .blk ba [.int .i64 d, .int .i64 i])] t n (opGW d i fl (t.ps.getD n ps0).op) := by
  intro bt b c bo hbc
  refine fn_viewT Tryz.func81 t81 Tryz.ntmps81 (by simp) ?_
  have hsl := fun o k => length_Sp ((rowL t.ps n o).flatMap fR) k
  have hl2 := fun o => len_fR (rowL t.ps n o)
  simp only [rowL_len] at hl2
  have e12 := fun o k => e12 (k := k) (o := o) hn
  have hpt := fun k o o' => rowL_put (k := k) (o := o) (o' := o') hn
  generalize (t.ps.getD n ps0).op = l at *
  have hle := len_de l
  have hS : Sp (l.flatMap DeC) ((l.length - l.length) * 4) = l.flatMap DeC := by rw [Nat.sub_self, Nat.zero_mul]; simp [Sp]
  have hR : opGW d i fl l = if 8 ≤ l.length then (24, l) else (0, opL l d i fl) := rfl
  have hK : opKW l = if 8 ≤ l.length then 0 else lfO l 0 := rfl
  unfold c81 r81
  rw [ChW, hS]
  simp only [List.cons_append, List.nil_append]
  repeat' (first | (simp (disch := first | exact dd | fail) only [go_sem, e12, putC_eq, opM]) | (refine allI (fun b => ?_)) | (refine allT (fun τ => ?_)) | (refine brP (fun h => ?_) (fun h => ?_) <;> (try simp only [zgx, zbx] at h)) | (refine gd ?_) | fail)
  refine ⟨by rw [hsl, hl2]; omega, ?_⟩
  refine brP (fun h => ?_) (fun h => ?_)
  · simp only [decide_eq_true_eq] at h
    repeat' (first | (simp (disch := first | exact dd | fail) only [go_sem]) | (refine allI (fun b => ?_)) | (refine allT (fun τ => ?_)) | (refine brP (fun h => ?_) (fun h => ?_) <;> (try simp only [zgx, zbx] at h)) | (refine gd ?_) | fail)
    rw [hR, hK, if_pos (by omega), if_pos (by omega)]
    have := clEW (e := 24) (t := t) (l := l) (i := n) (bt := bt) (b := b) (c := c) (bo := bo) (c1 := l.length) (Hc := [(11, .blk bf [.int .i64 (0 : Nat)]), (7, .blk bg [.int .i64 fl]), (6, .blk ba [.int .i64 d, .int .i64 i])]) (Nat.le_refl _)
    rw [ChW, hS] at this
    exact this
  · simp only [decide_eq_false_iff_not] at h
    rw [if_neg (by omega)] at hR hK
    repeat' (first | (simp (disch := first | exact dd | fail) only [go_sem]) | (refine allI (fun b => ?_)) | (refine allT (fun τ => ?_)) | (refine brP (fun h => ?_) (fun h => ?_) <;> (try simp only [zgx, zbx] at h)) | (refine gd ?_) | fail)
    refine loopI (ι := Nat) (fun k => k ≤ l.length ∧ lfO l 0 = lfO (l.drop k) k) (fun k => [(0, .ptr 3 bt 0), (1, .ptr 6000 b (n * 14)), (2, .ptr 11 bf 0), (3, .ptr 6 ba 0), (4, .ptr 7 bg 0)])
      (fun k => [(3, .blk bt [.int .i64 t.nx, .int .i64 t.ns, .msl 6000 14 b 0 t.ps.length c]), (6000, .blk b (Sp ((rowL t.ps n (.msl 6001 4 bo 0 l.length l.length)).flatMap fR) ((c - t.ps.length) * 14))), (6001, .blk bo (l.flatMap DeC)), (11, .blk bf [.int .i64 (k : Nat)]), (7, .blk bg [.int .i64 fl]), (6, .blk ba [.int .i64 d, .int .i64 i])]) (fun k => l.length - k) 0 ⟨by omega, by simp⟩ (Ents.envH (by simp [go_sem]) rfl) ?_
    rintro k ⟨hk, hl⟩
    have hfin : lfO l 0 = k → opL l d i fl = l.take k ++ ⟨k, d, i, fl⟩ :: l.drop k := fun h => by rw [opL, h]
    rcases Nat.lt_or_ge k l.length with hlt | hge
    · have d1 : decide ((k : Int) < l.length) = true := by simp; omega
      have e3 : (l.flatMap DeC).getD (k * 4) .any = .int .i64 (l.getD k de0).fd := by
        rw [← Nat.add_zero (k * 4), getD_rows (f := DeC) (w := 4) (fun _ => rfl) (by omega) de0 _ _ hlt]; rfl
      have hst := lfO_step hlt
      generalize l.getD k de0 = q at *
      repeat' (first | (simp (disch := first | exact dd | fail) only [go_sem, d1, e3, zDe, e12, putC_eq, hsl, hl2]) | (refine allI (fun b => ?_)) | (refine allT (fun τ => ?_)) | (refine brP (fun h => ?_) (fun h => ?_) <;> (try simp only [zgx, zbx] at h)) | (refine gd ?_) | fail)
      · refine ⟨⟨k + 1, by omega, by rw [hl, hst, if_pos (by assumption)]⟩, by dsimp only; omega, Ents.envH (by simp [go_sem]) (by simp)⟩
      · have hz : lfO l 0 = k := by rw [hl, hst, if_neg (by assumption)]
        have hi := ins bo k l ⟨k, d, i, fl⟩ (by omega) hp
        rw [DeC_eq] at hi
        refine actsE_of hi rfl ?_
        rintro _ _ ⟨b2, c2, hc, rfl, rfl⟩
        repeat' (first | (simp (disch := first | exact dd | fail) only [go_sem, e12, putC_eq, hsl, hl2]) | (refine allI (fun b => ?_)) | (refine allT (fun τ => ?_)) | (refine brP (fun h => ?_) (fun h => ?_) <;> (try simp only [zgx, zbx] at h)) | (refine gd ?_) | fail)
        have hL : (l.take k ++ (⟨k, d, i, fl⟩ : De) :: l.drop k).length = l.length + 1 := by simp; omega
        rw [hR, hK, hz, hfin hz, hpt]
        refine ⟨_, _, leVH.of (leV.refl _) ⟨_, List.Sublist.refl _, List.Perm.refl _⟩, b2, c2, ?_, rfl, ?_⟩
        · dsimp only; omega
        · rw [ChW]; dsimp only; rw [hL]; rfl
    · have d1 : decide ((k : Int) < l.length) = false := by simp; omega
      have e3 : (l.flatMap DeC).getD (k * 4) .any = .any := by
        rw [List.getD_eq_getElem?_getD, List.getElem?_eq_none (by omega)]; rfl
      repeat' (first | (simp (disch := first | exact dd | fail) only [go_sem, d1, e3, zDe, bin_anyL, pick_0a0, e12, putC_eq, hsl, hl2]) | (refine allI (fun b => ?_)) | (refine allT (fun τ => ?_)) | (refine brP (fun h => ?_) (fun h => ?_) <;> (try simp only [zgx, zbx] at h)) | (refine gd ?_) | fail)
      · have hz : lfO l 0 = k := by
          obtain rfl : k = l.length := by omega
          rw [hl, List.drop_length]; rfl
        have hi := ins bo k l ⟨k, d, i, fl⟩ (by omega) hp
        rw [DeC_eq] at hi
        refine actsE_of hi rfl ?_
        rintro _ _ ⟨b2, c2, hc, rfl, rfl⟩
        repeat' (first | (simp (disch := first | exact dd | fail) only [go_sem, e12, putC_eq, hsl, hl2]) | (refine allI (fun b => ?_)) | (refine allT (fun τ => ?_)) | (refine brP (fun h => ?_) (fun h => ?_) <;> (try simp only [zgx, zbx] at h)) | (refine gd ?_) | fail)
        have hL : (l.take k ++ (⟨k, d, i, fl⟩ : De) :: l.drop k).length = l.length + 1 := by simp; omega
        rw [hR, hK, hz, hfin hz, hpt]
        refine ⟨_, _, leVH.of (leV.refl _) ⟨_, List.Sublist.refl _, List.Perm.refl _⟩, b2, c2, ?_, rfl, ?_⟩
        · dsimp only; omega
        · rw [ChW]; dsimp only; rw [hL]; rfl
def opRW (t : Tb) (pid d i fl : Int) : Int × Tb := if findI t pid < 0 then (3, tb0) else chW t (findI t pid).toNat (opGW d i fl (t.ps.getD (findI t pid).toNat ps0).op)
def opNW (t : Tb) (pid : Int) : Nat := if findI t pid < 0 then 0 else opKW (t.ps.getD (findI t pid).toNat ps0).op
theorem opW (t : Tb) (pid d i fl : Int) (ht : t.ps.length ≤ 1000 ∧ ∀ p ∈ t.ps, p.op.length ≤ 1000) : Pure Tryz.prog gl 44 [TbL t, .int .i64 pid, .agg [.int .i64 d, .int .i64 i], .int .i64 fl] (.tup [TbL (opRW t pid d i fl).2, .int .i64 (if (opRW t pid d i fl).1 = 0 then (opNW t pid : Int) else 0), .int .i64 (opRW t pid d i fl).1]) := by
  refine fn_pureT Tryz.func44 t44 Tryz.ntmps44 (by simp) ?_
  have hc : ∀ bf ba bg, LCalls Tryz.prog gl 23 [TbL t, .int .i64 pid, .clo 81 [.ptr 11 bf 0, .ptr 6 ba 0, .ptr 7 bg 0]] [(11, .blk bf [.int .i64 0]), (7, .blk bg [.int .i64 fl]), (6, .blk ba [.int .i64 d, .int .i64 i])] fun v H => v = .tup [TbL (opRW t pid d i fl).2, .int .i64 (opRW t pid d i fl).1] ∧ H = [(11, .blk bf [.int .i64 (opNW t pid)]), (7, .blk bg [.int .i64 fl]), (6, .blk ba [.int .i64 d, .int .i64 i])] := fun bf ba bg => by
    rcases Int.lt_or_le (findI t pid) 0 with h0 | h0
    · rw [opRW, opNW, if_pos h0, if_pos h0]
      exact chW_no ⟨by omega, fun p hp => by have := ht.2 p hp; omega⟩ h0 (by kernel_rfl)
    · have hlt := findI_lt t pid
      rw [opRW, opNW, if_neg (by omega), if_neg (by omega)]
      exact changeW t pid (findI t pid).toNat (by omega) (by omega) ht 81 [.ptr 11 bf 0, .ptr 6 ba 0, .ptr 7 bg 0] [(11, _), (7, _), (6, _)] [(11, _), (7, _), (6, _)] _ (by kernel_rfl) (op1W d i fl bf ba bg t _ (by omega) (ht.2 _ (getD_memA ps0 (by omega))))
  have hz : (opRW t pid d i fl).1 ≠ 0 → (opRW t pid d i fl).2 = tb0 := fun h => by
    unfold opRW at h ⊢
    split
    · rfl
    · rename_i h1
      rw [if_neg h1] at h
      unfold chW at h ⊢
      split
      · rfl
      · rename_i h2
        rw [if_neg h2] at h
        exact absurd rfl h
  unfold c44 r44
  rw [TbL_eq t] at *
  repeat' (first | (simp (disch := first | exact dd | fail) only [go_sem]) | (refine allI (fun b => ?_)) | (refine allT (fun τ => ?_)) | (refine brP (fun h => ?_) (fun h => ?_) <;> (try simp only [zgx, zbx] at h)) | (refine gd ?_) | fail)
  rename_i b1 b2 b3 b4
  refine actsP_U (H2 := [(8, _), (4, _)]) (hc b b2 b3) (pick_perm rfl (pick_perm rfl (pick_perm rfl (List.Perm.refl _)))) ?_
  rintro _ _ ⟨rfl, rfl⟩
  generalize opRW t pid d i fl = R at *
  obtain ⟨e, t'⟩ := R
  dsimp only
  rw [TbL_eq t']
  repeat' (first | (simp (disch := first | exact dd | fail) only [go_sem]) | (refine allI (fun b => ?_)) | (refine allT (fun τ => ?_)) | (refine brP (fun h => ?_) (fun h => ?_) <;> (try simp only [zgx, zbx] at h)) | (refine gd ?_) | fail)
  · have h0 := hz h
    dsimp only at h0
    subst h0
    rw [if_neg h]
    exact leV.tup ⟨tb0_le, leV.refl _, leV.refl _, trivial⟩
  · have h0 : e = 0 := by simpa using h
    subst h0
    exact leV.refl _
theorem chW_eq {t : Tb} {pid : Int} {i : Nat} {g : Int × List De} {G : Nat → Int × Tb} (hf : findI t pid = i) (h : G i = if g.1 ≠ 0 then (g.1, t) else (0, setP t i { pAt t i with op := g.2 })) : chW t i g = chR t pid G := by
  rw [chR_yes hf, chW, h]
  by_cases h0 : g.1 = 0
  · simp [h0, pAt]
  · simp [h0]
theorem opRW_eq {t : Tb} {pid d i fl : Int} : opRW t pid d i fl = ofR t pid d i fl := by
  rw [opRW, ofR]
  split
  · rename_i h
    rw [chR_no h]
  · rename_i h
    refine chW_eq (by omega) ?_
    rw [ofG, show t.ps.getD (findI t pid).toNat ps0 = pAt t (findI t pid).toNat from rfl]
    generalize pAt t (findI t pid).toNat = p
    rw [opGW]
    by_cases h8 : 8 ≤ p.op.length
    · simp [h8]
    · simp [h8]
theorem opNW_eq {t : Tb} {pid d i fl : Int} (h : (ofR t pid d i fl).1 = 0) : opNW t pid = ofN t pid := by
  have h1 : 0 ≤ findI t pid := by
    rcases Int.lt_or_le (findI t pid) 0 with h0 | h0
    · rw [ofR, chR_no h0] at h; simp at h
    · exact h0
  rw [opNW, if_neg (by omega), opKW, ofN, pAt]
  split
  · rename_i h2
    rw [ofR, chR_yes (i := (findI t pid).toNat) (by omega), ofG, pAt, if_pos h2] at h
    simp at h
  · rfl
theorem fdI_erase : ∀ (l : List De) (fd : Int), l.Pairwise (fun x y => x.fd < y.fd) → (fdI l fd < 0 → fdF l fd = l) ∧ (0 ≤ fdI l fd → fdF l fd = l.eraseIdx (fdI l fd).toNat ∧ (fdF l fd).length + 1 = l.length) := by
  intro l fd hp
  have key : ∀ (l : List De), l.Pairwise (fun x y => x.fd < y.fd) → ∀ k, k < l.length → (l.getD k de0).fd = fd → fdF l fd = l.eraseIdx k := by
    intro l
    induction l with
    | nil => intro _ k hk; simp at hk
    | cons x l ih =>
      intro hp k hk he
      rw [List.pairwise_cons] at hp
      cases k with
      | zero =>
        have hx : x.fd = fd := he
        rw [fdF, List.filter_cons_of_neg (by simp [hx]), List.eraseIdx_cons_zero, List.filter_eq_self]
        intro y hy
        have := hp.1 y hy
        simp; omega
      | succ k =>
        have hk' : k < l.length := by simpa using hk
        have he' : (l.getD k de0).fd = fd := he
        have := hp.1 _ (getD_memA de0 hk')
        rw [fdF, List.filter_cons_of_pos (by simp; omega), List.eraseIdx_cons_succ, ← ih hp.2 k hk' he']
        rfl
  constructor
  · intro h
    rcases firstI_cases l.length (fdP l fd) with ⟨_, h2⟩ | ⟨k, h1, h2, _⟩
    · rw [fdF, List.filter_eq_self]
      intro y hy
      obtain ⟨k, hk, rfl⟩ := List.getElem_of_mem hy
      have := h2 k hk
      simp [fdP, List.getD_eq_getElem?_getD, hk] at this
      simpa using this
    · rw [fdI, h2] at h; omega
  · intro h
    rcases firstI_cases l.length (fdP l fd) with ⟨h1, _⟩ | ⟨k, h1, h2, h3⟩
    · rw [fdI, h1] at h; omega
    · rw [fdI, h2, Int.toNat_natCast]
      have he : (l.getD k de0).fd = fd := by simpa [fdP] using h3.1
      have := key l hp k h1 he
      refine ⟨this, ?_⟩
      rw [this, List.length_eraseIdx, if_pos h1]; omega
theorem clRW_eq {t : Tb} (hv : VW t) {pid fd : Int} : clRW t pid fd = cfR t pid fd := by
  rw [clRW, cfR]
  split
  · rename_i h
    rw [chR_no h]
  · rename_i h
    have hlt := findI_lt t pid
    refine chW_eq (by omega) ?_
    have hw := (hv.all (findI t pid).toNat (by omega)).op
    obtain ⟨k1, k2⟩ := fdI_erase (pAt t (findI t pid).toNat).op fd hw.asc
    rw [cfG, show t.ps.getD (findI t pid).toNat ps0 = pAt t (findI t pid).toNat from rfl]
    generalize pAt t (findI t pid).toNat = p at *
    rw [clGW]
    by_cases h0 : fdI p.op fd < 0
    · simp [h0, k1 h0]
    · obtain ⟨k3, k4⟩ := k2 (by omega)
      have h9 : ¬ (fdF p.op fd).length = p.op.length := by omega
      rw [if_neg h9, k3]
      simp [h0]
end Go.Proofs.YtkdblnejpmbnfaaGreat
