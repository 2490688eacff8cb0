/- Layer 9: valid tables with open files; operations keep them (plain). -/
import Derived.Test.YtkdblnejpmbnfaaGreatW10
import Derived.Test.YtkdblnejpmbnfaaGreatW09
import Derived.Test.YtkdblnejpmbnfaaGreatW08
import Derived.Test.YtkdblnejpmbnfaaGreatProg
import Derived.Test.YtkdblnejpmbnfaaGreatW06
import Derived.KernelRfl
namespace Go.Proofs.YtkdblnejpmbnfaaGreat
open Go Go.Lx
set_option linter.unusedSimpArgs false
set_option linter.unusedVariables false
structure OpW (l : List De) : Prop where
  len : l.length ≤ 8
  all : ∀ x ∈ l, 0 ≤ x.fd ∧ x.fd < 8
  asc : l.Pairwise fun x y => x.fd < y.fd
theorem OpW.nil : OpW [] := ⟨by simp, by simp, List.Pairwise.nil⟩
theorem OpW.sub {l l' : List De} (h : OpW l) (hs : l'.Sublist l) : OpW l' := ⟨Nat.le_trans hs.length_le h.len, fun x hx => h.all x (hs.subset hx), h.asc.sublist hs⟩
structure OkW (t : Tb) (p : Ps) : Prop where
  pid : p.pid < t.nx
  u : idB p.uid = true
  e : idB p.euid = true
  g : idB p.gid = true
  eg : idB p.egid = true
  au : 0 ≤ p.auid ∧ p.auid ≤ 4294967295
  se : p.ses = 4294967295 ∨ (0 ≤ p.ses ∧ p.ses < t.ns)
  op : OpW p.op
structure VW (t : Tb) : Prop where
  nx : 1 ≤ t.nx ∧ t.nx ≤ 1073741824
  ns : 1 ≤ t.ns ∧ t.ns ≤ 1073741824
  len : 1 ≤ t.ps.length ∧ t.ps.length ≤ 16
  first : (pAt t 0).pid = 1 ∧ (pAt t 0).ppid = 0
  asc : ∀ i, i + 1 < t.ps.length → (pAt t i).pid < (pAt t (i + 1)).pid
  all : ∀ i, i < t.ps.length → OkW t (pAt t i)
  par : ∀ i, i + 1 < t.ps.length → 0 ≤ findI t (pAt t (i + 1)).ppid ∧ (pAt t (i + 1)).ppid < (pAt t (i + 1)).pid
theorem VW.ok {t : Tb} (h : VW t) : okT t := ⟨by have := h.len; omega, fun p hp => by obtain ⟨j, hj, rfl⟩ := mem_pAt hp; have := (h.all j hj).op.len; omega⟩
theorem VW.lt {t : Tb} (h : VW t) : ∀ (j i : Nat), i < j → j < t.ps.length → (pAt t i).pid < (pAt t j).pid
  | j + 1, i, hij, hj => by
    have h1 := h.asc j hj
    rcases Nat.lt_or_ge i j with h2 | h2
    · have := VW.lt h j i h2 (by omega); omega
    · obtain rfl : i = j := by omega
      exact h1
theorem VW.inj {t : Tb} (h : VW t) {i j : Nat} (hi : i < t.ps.length) (hj : j < t.ps.length) (he : (pAt t i).pid = (pAt t j).pid) : i = j := by
  rcases Nat.lt_trichotomy i j with h1 | h1 | h1
  · have := h.lt j i h1 hj; omega
  · exact h1
  · have := h.lt i j h1 hi; omega
theorem findI_nn {t : Tb} {i : Nat} {pid : Int} (hi : i < t.ps.length) (hp : (pAt t i).pid = pid) : 0 ≤ findI t pid := by
  rcases firstI_cases t.ps.length (findP t pid) with ⟨_, h2⟩ | ⟨k, h1, h2, _⟩
  · have := h2 i hi
    simp [findP, pAt] at this hp
    exact absurd hp this
  · rw [findI, h2]; omega
theorem VW.fk {t : Tb} (h : VW t) {pid : Int} (hn : t.nx + 1 ≤ 1073741824) (h0 : (fkR t pid).1 = 0) : VW (fkR t pid).2 ∧ (fkR t pid).2.nx = t.nx + 1 ∧ (fkR t pid).2.ns = t.ns := by
  obtain ⟨h1, h2, h3⟩ := chR_ok h0
  obtain ⟨i, hi, h4, h5, h6⟩ := findI_get h1
  rw [fkR, h3, h4, Int.toNat_natCast]
  rw [h4, Int.toNat_natCast, fkG] at h2
  split at h2
  · simp at h2
  rename_i hc
  rw [fkG, if_neg hc]
  refine ⟨?_, rfl, rfl⟩
  have hA : ∀ j, j < t.ps.length → pAt { t with nx := t.nx + 1, ps := t.ps ++ [{ pAt t i with pid := t.nx, ppid := pid }] } j = pAt t j := fun j hj => by rw [pAt_app, if_pos hj]
  have hB : pAt { t with nx := t.nx + 1, ps := t.ps ++ [{ pAt t i with pid := t.nx, ppid := pid }] } t.ps.length = { pAt t i with pid := t.nx, ppid := pid } := by rw [pAt_app, if_neg (by omega), if_pos rfl]
  have hL : ({ t with nx := t.nx + 1, ps := t.ps ++ [{ pAt t i with pid := t.nx, ppid := pid }] } : Tb).ps.length = t.ps.length + 1 := by simp
  generalize hT : ({ t with nx := t.nx + 1, ps := t.ps ++ [{ pAt t i with pid := t.nx, ppid := pid }] } : Tb) = T at *
  show VW T
  have hNx : T.nx = t.nx + 1 := by rw [← hT]
  have hNs : T.ns = t.ns := by rw [← hT]
  have hlen := h.len
  have hf := h.first
  have hnx := h.nx
  have hok : ∀ p, OkW t p → OkW T p := fun p hp => ⟨by have := hp.pid; omega, hp.u, hp.e, hp.g, hp.eg, hp.au, by rw [hNs]; exact hp.se, hp.op⟩
  refine ⟨by omega, by rw [hNs]; exact h.ns, by omega, by rw [hA 0 (by omega)]; exact hf, fun j hj => ?_, fun j hj => ?_, fun j hj => ?_⟩
  · rcases Nat.lt_or_ge (j + 1) t.ps.length with h7 | h7
    · rw [hA _ (by omega), hA _ h7]; exact h.asc j h7
    · obtain h8 : j + 1 = t.ps.length := by omega
      rw [hA _ (by omega), h8, hB]
      exact (h.all j (by omega)).pid
  · rcases Nat.lt_or_ge j t.ps.length with h7 | h7
    · rw [hA _ h7]; exact hok _ (h.all j h7)
    · obtain h8 : j = t.ps.length := by omega
      rw [h8, hB]
      have hp := h.all i hi
      exact ⟨by dsimp only; omega, hp.u, hp.e, hp.g, hp.eg, hp.au, by rw [hNs]; exact hp.se, hp.op⟩
  · rcases Nat.lt_or_ge (j + 1) t.ps.length with h7 | h7
    · rw [hA _ h7]
      have hp := h.par j h7
      obtain ⟨k, hk, _, hk3, _⟩ := findI_get hp.1
      exact ⟨findI_nn (i := k) (by omega) (by rw [hA k hk]; exact hk3), hp.2⟩
    · obtain h8 : j + 1 = t.ps.length := by omega
      rw [h8, hB]
      refine ⟨findI_nn (i := i) (by omega) (by rw [hA i hi]; exact h5), ?_⟩
      have := (h.all i hi).pid
      dsimp only
      omega
theorem VW.xt {t : Tb} (h : VW t) {pid : Int} (h0 : (xtR t pid).1 = 0) : VW (xtR t pid).2 ∧ (xtR t pid).2.nx = t.nx ∧ (xtR t pid).2.ns = t.ns := by
  obtain ⟨h1, h2, h3⟩ := chR_ok h0
  obtain ⟨i, hi, h4, h5, h6⟩ := findI_get h1
  rw [xtR, h3]
  rw [xtG] at h2 ⊢
  split at h2
  · simp at h2
  rename_i c1
  rw [if_neg c1, rmT, if_neg (by omega), h4, Int.toNat_natCast]
  refine ⟨?_, rfl, rfl⟩
  have hf := h.first
  have hlen := h.len
  have hi0 : 0 < i := by
    rcases Nat.eq_zero_or_pos i with e | e
    · subst e; omega
    · exact e
  have hL : ({ t with ps := rmP t pid i } : Tb).ps.length = t.ps.length - 1 := by simp [rmP, List.length_eraseIdx, hi]
  have hS : ∀ j, j < t.ps.length - 1 → pAt ({ t with ps := rmP t pid i } : Tb) j = orp pid (pAt t (if j < i then j else j + 1)) := fun j hj => by
    have h8 : j < (t.ps.eraseIdx i).length := by rw [List.length_eraseIdx, if_pos hi]; omega
    simp only [pAt, rmP, List.getD_eq_getElem?_getD, List.getElem?_map]
    rw [List.getElem?_eq_getElem h8, Option.map_some, Option.getD_some, List.getElem_eraseIdx]
    split
    · rw [List.getElem?_eq_getElem (by omega)]; rfl
    · rw [List.getElem?_eq_getElem (by omega)]; rfl
  have hX : ({ t with ps := rmP t pid i } : Tb).nx = t.nx := rfl
  have hN : ({ t with ps := rmP t pid i } : Tb).ns = t.ns := rfl
  generalize ({ t with ps := rmP t pid i } : Tb) = T at *
  show VW T
  have hpid : ∀ p, (orp pid p).pid = p.pid := fun p => by unfold orp; split <;> rfl
  have ho : ∀ p, OkW t p → OkW T (orp pid p) := fun p hp => by
    have hq : OkW T p := ⟨by rw [hX]; exact hp.pid, hp.u, hp.e, hp.g, hp.eg, hp.au, by rw [hN]; exact hp.se, hp.op⟩
    unfold orp
    split
    · exact ⟨hq.pid, hq.u, hq.e, hq.g, hq.eg, hq.au, hq.se, hq.op⟩
    · exact hq
  have h00 : pAt T 0 = orp pid (pAt t 0) := by rw [hS 0 (by omega), if_pos (by omega)]
  refine ⟨by rw [hX]; exact h.nx, by rw [hN]; exact h.ns, by omega, ?_, fun j hj => ?_, fun j hj => ?_, fun j hj => ?_⟩
  · rw [h00, hpid]
    refine ⟨hf.1, ?_⟩
    have h9 : pid ≠ 0 := fun e => by
      have := (h.lt i 0 hi0 hi)
      omega
    unfold orp
    rw [if_neg (by omega)]
    exact hf.2
  · rw [hS j (by omega), hS (j + 1) (by omega), hpid, hpid]
    refine h.lt _ _ ?_ ?_
    · split <;> split <;> omega
    · split <;> omega
  · rw [hS j (by omega)]
    exact ho _ (h.all _ (by split <;> omega))
  · rw [hS (j + 1) (by omega)]
    have hk : ∃ k, (if j + 1 < i then j + 1 else j + 1 + 1) = k + 1 ∧ k + 1 < t.ps.length := by
      split
      · exact ⟨j, rfl, by omega⟩
      · exact ⟨j + 1, rfl, by omega⟩
    obtain ⟨k, hk1, hk2⟩ := hk
    rw [hk1, hpid]
    have hp := h.par k hk2
    obtain ⟨m, hm, _, hm3, _⟩ := findI_get hp.1
    have h11 : (pAt t 0).pid < (pAt t (k + 1)).pid := h.lt (k + 1) 0 (by omega) hk2
    unfold orp
    split
    · exact ⟨findI_nn (i := 0) (by omega) (by rw [h00, hpid]; exact hf.1), by dsimp only; omega⟩
    · rename_i c2
      refine ⟨?_, hp.2⟩
      have hmi : m ≠ i := fun e => by subst e; exact c2 (by rw [← hm3]; exact h5)
      rcases Nat.lt_or_ge m i with h7 | h7
      · exact findI_nn (i := m) (by omega) (by rw [hS m (by omega), if_pos h7, hpid]; exact hm3)
      · obtain ⟨n, rfl⟩ : ∃ n, m = n + 1 := ⟨m - 1, by omega⟩
        exact findI_nn (i := n) (by omega) (by rw [hS n (by omega), if_neg (by omega), hpid]; exact hm3)
theorem VW.set {t : Tb} (h : VW t) {i : Nat} (hi : i < t.ps.length) {p : Ps} (h1 : p.pid = (pAt t i).pid) (h2 : p.ppid = (pAt t i).ppid) (h3 : OkW t p) : VW (setP t i p) := by
  have hS : ∀ j, pAt (setP t i p) j = if j = i then p else pAt t j := fun j => pAt_set (t := t) j hi
  have hL : (setP t i p).ps.length = t.ps.length := by simp [setP]
  have hX : (setP t i p).nx = t.nx := rfl
  have hN : (setP t i p).ns = t.ns := rfl
  generalize setP t i p = T at *
  have hpid : ∀ j, (pAt T j).pid = (pAt t j).pid := fun j => by
    rw [hS]; split
    · rename_i e; subst e; exact h1
    · rfl
  have hppid : ∀ j, (pAt T j).ppid = (pAt t j).ppid := fun j => by
    rw [hS]; split
    · rename_i e; subst e; exact h2
    · rfl
  have hok : ∀ q, OkW t q → OkW T q := fun q hq => ⟨by rw [hX]; exact hq.pid, hq.u, hq.e, hq.g, hq.eg, hq.au, by rw [hN]; exact hq.se, hq.op⟩
  refine ⟨by rw [hX]; exact h.nx, by rw [hN]; exact h.ns, by rw [hL]; exact h.len, by rw [hpid, hppid]; exact h.first, fun j hj => ?_, fun j hj => ?_, fun j hj => ?_⟩
  · rw [hpid, hpid]; exact h.asc j (by omega)
  · rw [hS]
    split
    · exact hok _ h3
    · exact hok _ (h.all j (by omega))
  · rw [hppid, hpid]
    have hp := h.par j (by omega)
    obtain ⟨k, hk, _, hk3, _⟩ := findI_get hp.1
    exact ⟨findI_nn (i := k) (by omega) (by rw [hpid]; exact hk3), hp.2⟩
theorem VW.more {t : Tb} (h : VW t) {n : Int} (h1 : t.ns ≤ n ∧ n ≤ 1073741824) : VW { t with ns := n } := by
  have hS : ∀ j, pAt ({ t with ns := n } : Tb) j = pAt t j := fun _ => rfl
  have hF : ∀ pid, findI ({ t with ns := n } : Tb) pid = findI t pid := fun _ => rfl
  have hL : ({ t with ns := n } : Tb).ps.length = t.ps.length := rfl
  have hns := h.ns
  refine ⟨h.nx, by dsimp only; omega, h.len, h.first, h.asc, fun j hj => ?_, h.par⟩
  have hq := h.all j hj
  exact ⟨hq.pid, hq.u, hq.e, hq.g, hq.eg, hq.au, hq.se.imp id fun h2 => ⟨h2.1, Int.lt_of_lt_of_le h2.2 h1.1⟩, hq.op⟩
theorem VW.ch {t : Tb} (h : VW t) {pid : Int} {g : Nat → Int × Tb} (hg : ∀ i, i < t.ps.length → findI t pid = i → (pAt t i).pid = pid → (g i).1 = 0 → VW (g i).2) (h0 : (chR t pid g).1 = 0) : VW (chR t pid g).2 := by
  obtain ⟨h1, h2, h3⟩ := chR_ok h0
  obtain ⟨i, hi, h4, h5, h6⟩ := findI_get h1
  rw [h3]
  rw [h4, Int.toNat_natCast] at h2 ⊢
  exact hg i hi h4 h5 h2
theorem becR_id {u : Int} {pr : Bool} {x y : Int} (hx : idB x = true) (hy : idB y = true) : idB (becR u pr x y).2.1 = true ∧ idB (becR u pr x y).2.2 = true := by
  unfold becR
  split
  · exact ⟨hx, hy⟩
  · rename_i h
    have hu : idB u = true := by simpa using h
    split
    · exact ⟨hu, hu⟩
    · split
      · exact ⟨hx, hu⟩
      · exact ⟨hx, hy⟩
theorem VW.su {t : Tb} (h : VW t) {pid u : Int} (h0 : (suR t pid u).1 = 0) : VW (suR t pid u).2 :=
  h.ch (fun i hi _ _ _ => by
    have hp := h.all i hi
    have hb := becR_id (u := u) (pr := (pAt t i).euid == 0) hp.u hp.e
    exact h.set hi rfl rfl ⟨hp.pid, hb.1, hb.2, hp.g, hp.eg, hp.au, hp.se, hp.op⟩) h0
theorem VW.sg {t : Tb} (h : VW t) {pid u : Int} (h0 : (sgR t pid u).1 = 0) : VW (sgR t pid u).2 :=
  h.ch (fun i hi _ _ _ => by
    have hp := h.all i hi
    have hb := becR_id (u := u) (pr := (pAt t i).euid == 0) hp.g hp.eg
    exact h.set hi rfl rfl ⟨hp.pid, hp.u, hp.e, hb.1, hb.2, hp.au, hp.se, hp.op⟩) h0
theorem VW.ex {t : Tb} (h : VW t) {pid : Int} {e c : List UInt8} (h0 : (exR t pid e c).1 = 0) : VW (exR t pid e c).2 :=
  h.ch (fun i hi _ _ _ => by
    have hp := h.all i hi
    exact h.set hi rfl rfl ⟨hp.pid, hp.u, hp.e, hp.g, hp.eg, hp.au, hp.se, hp.op⟩) h0
theorem VW.lo {t : Tb} (h : VW t) {pid u : Int} (h0 : (loR t pid u).1 = 0) : VW (loR t pid u).2 :=
  h.ch (fun i hi _ _ h2 => by
    have hp := h.all i hi
    rw [loG] at h2 ⊢
    split at h2
    · simp at h2
    rename_i c1
    split at h2
    · simp at h2
    rename_i c2
    split at h2
    · simp at h2
    rename_i c3
    rw [if_neg c1, if_neg c2, if_neg c3]
    have hu : 0 ≤ u ∧ u < 4294967295 := by
      have : idB u = true := by simpa using c1
      simpa [idB] using this
    have hns := h.ns
    have h9 := (h.more (n := t.ns + 1) (by omega)).set (i := i) (p := { pAt t i with auid := u, ses := t.ns }) hi rfl rfl ⟨hp.pid, hp.u, hp.e, hp.g, hp.eg, by dsimp only; omega, .inr (by dsimp only; omega), hp.op⟩
    exact h9) h0
def cdG (d i : Int) (t : Tb) (k : Nat) : Int × Tb := (0, setP t k { pAt t k with cd := d, ci := i })
def cdR (t : Tb) (pid d i : Int) : Int × Tb := chR t pid (cdG d i t)
def auG (b : Bool) (t : Tb) (k : Nat) : Int × Tb := (0, setP t k { pAt t k with au := b })
def auR (t : Tb) (pid : Int) (b : Bool) : Int × Tb := chR t pid (auG b t)
theorem VW.cd {t : Tb} (h : VW t) {pid d i : Int} (h0 : (cdR t pid d i).1 = 0) : VW (cdR t pid d i).2 :=
  h.ch (fun i hi _ _ _ => by
    have hp := h.all i hi
    exact h.set hi rfl rfl ⟨hp.pid, hp.u, hp.e, hp.g, hp.eg, hp.au, hp.se, hp.op⟩) h0
theorem VW.au {t : Tb} (h : VW t) {pid : Int} {b : Bool} (h0 : (auR t pid b).1 = 0) : VW (auR t pid b).2 :=
  h.ch (fun i hi _ _ _ => by
    have hp := h.all i hi
    exact h.set hi rfl rfl ⟨hp.pid, hp.u, hp.e, hp.g, hp.eg, hp.au, hp.se, hp.op⟩) h0
def lfO : List De → Nat → Nat
  | [], k => k
  | x :: l, k => if x.fd = k then lfO l (k + 1) else k
theorem lfO_le : ∀ (l : List De) (k : Nat), k ≤ lfO l k ∧ lfO l k ≤ k + l.length
  | [], k => by simp [lfO]
  | x :: l, k => by
    have := lfO_le l (k + 1)
    simp only [lfO, List.length_cons]
    split <;> omega
theorem lfO_step {l : List De} {k : Nat} (h : k < l.length) : lfO (l.drop k) k = if (l.getD k de0).fd = k then lfO (l.drop (k + 1)) (k + 1) else k := by
  rw [List.drop_eq_getElem_cons h, lfO]
  simp [List.getD, h]
theorem lfO_end {l : List De} {k : Nat} (h : ¬ k < l.length) : lfO (l.drop k) k = k := by
  rw [List.drop_eq_nil_of_le (by omega)]; rfl
theorem lfO_low : ∀ (l : List De) (k : Nat), ∀ x ∈ l.take (lfO l k - k), (x.fd < lfO l k)
  | [], k, x, hx => by simp at hx
  | y :: l, k, x, hx => by
    simp only [lfO] at hx ⊢
    split at hx
    · rename_i e
      rw [if_pos e]
      have h1 := lfO_le l (k + 1)
      obtain ⟨m, hm⟩ : ∃ m, lfO l (k + 1) - k = m + 1 := ⟨lfO l (k + 1) - k - 1, by omega⟩
      rw [hm, List.take_succ_cons] at hx
      rcases List.mem_cons.1 hx with rfl | hx
      · omega
      · exact lfO_low l (k + 1) x (by rw [show lfO l (k + 1) - (k + 1) = m by omega]; exact hx)
    · simp at hx
theorem lfO_high : ∀ (l : List De) (k : Nat), (∀ x ∈ l, (k : Int) ≤ x.fd) → l.Pairwise (fun x y => x.fd < y.fd) → ∀ x ∈ l.drop (lfO l k - k), (lfO l k < x.fd)
  | [], k, _, _, x, hx => by simp at hx
  | y :: l, k, h1, h2, x, hx => by
    simp only [lfO] at hx ⊢
    obtain ⟨h3, h4⟩ := List.pairwise_cons.1 h2
    split at hx
    · rename_i e
      rw [if_pos e]
      have h5 := lfO_le l (k + 1)
      obtain ⟨m, hm⟩ : ∃ m, lfO l (k + 1) - k = m + 1 := ⟨lfO l (k + 1) - k - 1, by omega⟩
      rw [hm, List.drop_succ_cons] at hx
      exact lfO_high l (k + 1) (fun z hz => by have := h3 z hz; omega) h4 x (by rw [show lfO l (k + 1) - (k + 1) = m by omega]; exact hx)
    · rename_i e
      rw [if_neg e]
      have hy := h1 y (by simp)
      simp only [Nat.sub_self, List.drop_zero] at hx
      rcases List.mem_cons.1 hx with rfl | hx
      · omega
      · have := h3 x hx; omega
def opL (l : List De) (d i fl : Int) : List De := l.take (lfO l 0) ++ ⟨lfO l 0, d, i, fl⟩ :: l.drop (lfO l 0)
theorem OpW.open_ {l : List De} (h : OpW l) (hl : l.length < 8) (d i fl : Int) : OpW (opL l d i fl) := by
  have h1 := lfO_le l 0
  have h2 := lfO_low l 0
  have h3 := lfO_high l 0 (fun x hx => (h.all x hx).1) h.asc
  simp only [Nat.sub_zero] at h2 h3
  have hS : (l.take (lfO l 0) ++ l.drop (lfO l 0)).Pairwise fun x y => x.fd < y.fd := by rw [List.take_append_drop]; exact h.asc
  obtain ⟨p1, p2, p3⟩ := List.pairwise_append.1 hS
  refine ⟨by simp [opL]; omega, fun x hx => ?_, List.pairwise_append.2 ⟨p1, List.pairwise_cons.2 ⟨fun x hx => h3 x hx, p2⟩, fun x hx y hy => ?_⟩⟩
  · simp only [opL, List.mem_append, List.mem_cons] at hx
    rcases hx with hx | rfl | hx
    · exact h.all x (List.mem_of_mem_take hx)
    · dsimp only; omega
    · exact h.all x (List.mem_of_mem_drop hx)
  · rcases List.mem_cons.1 hy with rfl | hy
    · exact h2 x hx
    · exact p3 x hx y hy
def ofG (d i fl : Int) (t : Tb) (k : Nat) : Int × Tb := if 8 ≤ (pAt t k).op.length then (24, t) else (0, setP t k { pAt t k with op := opL (pAt t k).op d i fl })
def ofR (t : Tb) (pid d i fl : Int) : Int × Tb := chR t pid (ofG d i fl t)
def ofN (t : Tb) (pid : Int) : Nat := lfO (pAt t (findI t pid).toNat).op 0
theorem VW.of {t : Tb} (h : VW t) {pid d i fl : Int} (h0 : (ofR t pid d i fl).1 = 0) : VW (ofR t pid d i fl).2 :=
  h.ch (fun k hi _ _ h2 => by
    have hp := h.all k hi
    rw [ofG] at h2 ⊢
    split at h2
    · simp at h2
    rename_i c1
    rw [if_neg c1]
    exact h.set hi rfl rfl ⟨hp.pid, hp.u, hp.e, hp.g, hp.eg, hp.au, hp.se, hp.op.open_ (by omega) _ _ _⟩) h0
def fdF (l : List De) (fd : Int) : List De := l.filter fun x => x.fd != fd
def cfG (fd : Int) (t : Tb) (k : Nat) : Int × Tb := if (fdF (pAt t k).op fd).length = (pAt t k).op.length then (9, t) else (0, setP t k { pAt t k with op := fdF (pAt t k).op fd })
def cfR (t : Tb) (pid fd : Int) : Int × Tb := chR t pid (cfG fd t)
theorem VW.cf {t : Tb} (h : VW t) {pid fd : Int} (h0 : (cfR t pid fd).1 = 0) : VW (cfR t pid fd).2 :=
  h.ch (fun k hi _ _ h2 => by
    have hp := h.all k hi
    rw [cfG] at h2 ⊢
    split at h2
    · simp at h2
    rename_i c1
    rw [if_neg c1]
    exact h.set hi rfl rfl ⟨hp.pid, hp.u, hp.e, hp.g, hp.eg, hp.au, hp.se, hp.op.sub List.filter_sublist⟩) h0
def kiG (tg : Int) (ends : Bool) (t : Tb) (k : Nat) : Int × Tb :=
  if findI t tg < 0 then (3, t) else if tg = 1 ∨ ((pAt t k).euid ≠ 0 ∧ (pAt t k).euid ≠ (pAt t (findI t tg).toNat).uid) then (1, t) else if ends = true then (0, rmT t tg) else (0, t)
def kiR (t : Tb) (pid tg : Int) (ends : Bool) : Int × Tb := chR t pid (kiG tg ends t)
theorem xtR_eq {t : Tb} {pid : Int} (h : 0 ≤ findI t pid) (h1 : pid ≠ 1) : xtR t pid = (0, rmT t pid) := by
  rw [xtR, chR, if_neg (by omega), xtG, if_neg h1, if_neg (by simp)]
theorem VW.ki {t : Tb} (h : VW t) {pid tg : Int} {ends : Bool} (h0 : (kiR t pid tg ends).1 = 0) : VW (kiR t pid tg ends).2 :=
  h.ch (fun k hi _ _ h2 => by
    rw [kiG] at h2 ⊢
    split at h2
    · simp at h2
    rename_i c1
    split at h2
    · simp at h2
    rename_i c2
    rw [if_neg c1, if_neg c2]
    cases ends
    · rw [if_neg (by simp)]; exact h
    · rw [if_pos rfl]
      have he := xtR_eq (t := t) (pid := tg) (by omega) fun e => c2 (.inl e)
      have := (h.xt (pid := tg) (by rw [he])).1
      rw [he] at this
      exact this) h0
def putP (t : Tb) (p : Ps) : Tb := { t with ps := t.ps.map fun x => if x.pid = p.pid then p else x }
theorem VW.put {t : Tb} (h : VW t) {i : Nat} {p : Ps} (hi : i < t.ps.length) (hp : p.pid = (pAt t i).pid) : putP t p = setP t i p := by
  unfold putP setP
  congr 1
  refine List.ext_getElem (by simp) fun j h1 h2 => ?_
  have hj : j < t.ps.length := by simpa using h1
  rw [List.getElem_map, List.getElem_set]
  have e : t.ps[j] = pAt t j := by simp [pAt, hj]
  rw [e, hp]
  by_cases hij : i = j
  · subst hij; rw [if_pos rfl, if_pos rfl]
  · rw [if_neg hij, if_neg fun he => hij (h.inj hj hi he).symm]
theorem VW.get1 {t : Tb} (h : VW t) {pid : Int} (h1 : 0 ≤ findI t pid) : ∃ i, i < t.ps.length ∧ findI t pid = (i : Nat) ∧ (pAt t i).pid = pid ∧ getR t pid = (pAt t i, true) := by
  obtain ⟨i, hi, h4, h5, h6⟩ := findI_get h1
  exact ⟨i, hi, h4, h5, by rw [getR, if_neg (by omega), h4, Int.toNat_natCast]⟩
theorem VW_new (d i : Int) : VW (tnew d i) := by
  refine ⟨by simp [tnew], by simp [tnew], by simp [tnew], ⟨rfl, rfl⟩, fun i hi => ?_, fun i hi => ?_, fun i hi => ?_⟩
  · simp [tnew] at hi
  · obtain rfl : i = 0 := by simp [tnew] at hi; exact hi
    exact ⟨by simp [tnew, pAt, p1], rfl, rfl, rfl, rfl, by simp [tnew, pAt, p1], .inl rfl, OpW.nil⟩
  · simp [tnew] at hi
end Go.Proofs.YtkdblnejpmbnfaaGreat
namespace Go.Proofs.YtkdblnejpmbnfaaGreat
open Go Go.Lx
set_option linter.unusedSimpArgs false
set_option linter.unusedVariables false
set_option maxRecDepth 100000
set_option maxHeartbeats 1000000
def Ms (l : List Int) : LV := .sl 1 l.length (l.map (LV.int .i64))
def SB (b : Nat) (l : List Int) (a : Int) : Ent := .blk b [Ms l, .int .i64 a]
def okS (l : List Int) (a : Int) : Prop := l.length ≤ 200000000000000 ∧ (∀ n ∈ l, -9223372036854775808 ≤ n ∧ n ≤ 9223372036854775807) ∧ 0 ≤ a ∧ a ≤ 1000000000000
def nX (l : List Int) (a : Int) : Int := if a + 1 ≤ l.length then l.getD a.toNat 0 else (a + 1) * 7
def nV (l : List Int) (a n : Int) : Int := if (nX l a).tmod n < 0 then (nX l a).tmod n + n else (nX l a).tmod n
theorem nV_range (l : List Int) (a : Int) {n : Int} (hn : 1 ≤ n) : 0 ≤ nV l a n ∧ nV l a n < n := by
  unfold nV
  have h1 := Int.tmod_lt_of_pos (nX l a) (by omega : 0 < n)
  have h2 : -n < (nX l a).tmod n := Int.lt_tmod_of_pos (nX l a) (by omega)
  split <;> omega
theorem getD_memS {l : List Int} {i : Nat} (h : i < l.length) : l.getD i 0 ∈ l := by
  simp only [List.getD, List.getElem?_eq_getElem h, Option.getD_some]; exact List.getElem_mem h
theorem new_ (l : List Int) : NewsE Tryz.prog gl 6 [Ms l] 3000 fun r e => ∃ b, r = .ptr 3000 b 0 ∧ e = SB b l 0 := by
  refine NewsE.name (i := 3) (Q := fun r e => ∃ b, r = .ptr 3 b 0 ∧ e = SB b l 0) ?_ fun r e ⟨b, h2, h3⟩ => ⟨.ptr 3000 b 0, by subst h2; exact leV.ptr_name _ _ _ _, b, rfl, h3⟩
  refine fn_viewT Tryz.func6 t6 Tryz.ntmps6 (by simp) ?_
  unfold c6 r6 Ms
  simp (disch := first | exact dd | fail) only [go_sem]
  intro b
  exact ⟨_, [(3, SB b l 0)], leVH.names b, SB b l 0, rfl, b, rfl, rfl⟩
theorem n_ (id b : Nat) (l : List Int) (a n : Int) (hc : okS l a) (hn : 1 ≤ n ∧ n ≤ 1000000000) : ActsE Tryz.prog gl 22 [.ptr id b 0, .int .i64 n] id (SB b l a) fun r e => r = .int .i64 (nV l a n) ∧ e = SB b l (a + 1) := by
  refine fn_viewT Tryz.func22 t22 Tryz.ntmps22 (by simp) ?_
  obtain ⟨h1, h2, h3, h4⟩ := hc
  unfold c22 r22 SB Ms
  repeat' (first | (simp (disch := first | exact dd | fail) only [go_sem, getD_int, Nat.mul_one, List.length_map, Int.add_sub_cancel]) | (refine allI (fun b => ?_)) | (refine allT (fun τ => ?_)) | (refine brP (fun h => ?_) (fun h => ?_) <;> (try simp only [zgx, zbx] at h)))
  · omega
  · refine ⟨by omega, by omega, by omega, ?_⟩
    have e : nX l a = l.getD a.toNat 0 := by rw [nX, if_pos h]
    rw [← e]
    have hx : -n < (nX l a).tmod n ∧ (nX l a).tmod n < n := ⟨Int.lt_tmod_of_pos _ (by omega), Int.tmod_lt_of_pos _ (by omega)⟩
    repeat' (first | (simp (disch := first | exact dd | fail) only [go_sem]) | (refine allI (fun b => ?_)) | (refine allT (fun τ => ?_)) | (refine brP (fun h => ?_) (fun h => ?_) <;> (try simp only [zgx, zbx] at h)))
    · exact viewE_end (leV.refl _) (List.Sublist.refl _) ⟨by rw [nV, if_pos h], rfl⟩
    · exact viewE_end (leV.refl _) (List.Sublist.refl _) ⟨by rw [nV, if_neg (by omega)], rfl⟩
  · refine ⟨by omega, ?_⟩
    have e : nX l a = (a + 1) * 7 := by rw [nX, if_neg (by omega)]
    rw [← e]
    have hx : -n < (nX l a).tmod n ∧ (nX l a).tmod n < n := ⟨Int.lt_tmod_of_pos _ (by omega), Int.tmod_lt_of_pos _ (by omega)⟩
    repeat' (first | (simp (disch := first | exact dd | fail) only [go_sem]) | (refine allI (fun b => ?_)) | (refine allT (fun τ => ?_)) | (refine brP (fun h => ?_) (fun h => ?_) <;> (try simp only [zgx, zbx] at h)))
    · exact viewE_end (leV.refl _) (List.Sublist.refl _) ⟨by rw [nV, if_pos h], rfl⟩
    · exact viewE_end (leV.refl _) (List.Sublist.refl _) ⟨by rw [nV, if_neg (by omega)], rfl⟩
theorem range_ (id b : Nat) (l : List Int) (a x y : Int) (hc : okS l a) (hx : -1000000000 ≤ x ∧ x ≤ y ∧ y ≤ 100000000) (hd : y - x < 1000000000) : ActsE Tryz.prog gl 19 [.ptr id b 0, .int .i64 x, .int .i64 y] id (SB b l a) fun r e => r = .int .i64 (x + nV l a (y - x + 1)) ∧ e = SB b l (a + 1) := by
  refine fn_viewT Tryz.func19 t19 Tryz.ntmps19 (by simp) ?_
  have hr := nV_range l a (n := y - x + 1) (by omega)
  unfold c19 r19
  simp (disch := first | exact dd | fail) only [go_sem]
  first | refine actsE_U (n_ id b l a (y - x + 1) hc (by omega)) (by first | rfl | simp only [getH, if_true]) ?_ | refine actsE_T (n_ id b l a (y - x + 1) hc (by omega)) (by first | rfl | simp only [getH, if_true]) ?_ | refine actsE_N (n_ id b l a (y - x + 1) hc (by omega)) (by first | rfl | simp only [getH, if_true]) ?_ | refine actsE_of (n_ id b l a (y - x + 1) hc (by omega)) (by first | rfl | simp only [getH, if_true]) ?_
  rintro r e ⟨rfl, rfl⟩
  simp (disch := first | exact dd | fail) only [go_sem]
  exact viewE_end (leV.refl _) (List.Sublist.refl _) ⟨rfl, rfl⟩
def pickV (l : List Int) (a : Int) (ns : List Int) : Int := ns.getD (nV l a ns.length).toNat 0
theorem pickV_mem (l : List Int) (a : Int) (ns : List Int) (h0 : 0 < ns.length) : pickV l a ns ∈ ns := by
  have := nV_range l a (n := ns.length) (by omega)
  exact getD_memS (by omega)
theorem pick_ (id b : Nat) (l : List Int) (a : Int) (ns : List Int) (hc : okS l a) (h0 : 0 < ns.length) (hn : ns.length ≤ 1000) : ActsE Tryz.prog gl 31 [.ptr id b 0, .fsl 1 ns.length (ns.map (LV.int .i64))] id (SB b l a) fun r e => r = .int .i64 (pickV l a ns) ∧ e = SB b l (a + 1) := by
  refine fn_viewT Tryz.func31 t31 Tryz.ntmps31 (by simp) ?_
  have hr := nV_range l a (n := ns.length) (by omega)
  unfold c31 r31
  simp (disch := first | exact dd | fail) only [go_sem]
  first | refine actsE_U (n_ id b l a ns.length hc (by omega)) (by first | rfl | simp only [getH, if_true]) ?_ | refine actsE_T (n_ id b l a ns.length hc (by omega)) (by first | rfl | simp only [getH, if_true]) ?_ | refine actsE_N (n_ id b l a ns.length hc (by omega)) (by first | rfl | simp only [getH, if_true]) ?_ | refine actsE_of (n_ id b l a ns.length hc (by omega)) (by first | rfl | simp only [getH, if_true]) ?_
  rintro r e ⟨rfl, rfl⟩
  simp (disch := first | exact dd | fail) only [go_sem, getD_int, Nat.mul_one, List.length_map]
  exact ⟨by omega, by omega, viewE_end (leV.refl _) (List.Sublist.refl _) ⟨rfl, rfl⟩⟩
end Go.Proofs.YtkdblnejpmbnfaaGreat
namespace Go.Proofs.YtkdblnejpmbnfaaGreat
open Go Go.Lx
set_option linter.unusedSimpArgs false
set_option linter.unusedVariables false
set_option maxRecDepth 100000
set_option maxHeartbeats 4000000
theorem okS.at {l : List Int} {a a' : Int} (h : okS l a) (h1 : 0 ≤ a') (h2 : a' ≤ 1000000000000) : okS l a' := ⟨h.1, h.2.1, h1, h2⟩
def Gen (f : Nat) (args : List LV) (c : Int) (Q : LV → Prop) : Prop :=
  ∀ (id b : Nat) (l : List Int) (a : Int), okS l a → a + c ≤ 1000000000000 → ActsE Tryz.prog gl f (.ptr id b 0 :: args) id (SB b l a) fun r e => ∃ a', (a ≤ a' ∧ a' ≤ a + c) ∧ Q r ∧ e = SB b l a'
theorem Gen.mk {f : Nat} {args : List LV} {c : Int} {Q : LV → Prop} (h : ∀ (b : Nat) (l : List Int) (a : Int), okS l a → a + c ≤ 1000000000000 → LCalls Tryz.prog gl f (.ptr 1000 b 0 :: args) [(1000, SB b l a)] fun r H' => ∃ e, H' = [(1000, e)] ∧ ∃ a', (a ≤ a' ∧ a' ≤ a + c) ∧ Q r ∧ e = SB b l a') : Gen f args c Q :=
  fun id b l a hl ha => ActsE.name (i := 1000) (h b l a hl ha) ⟨leV.ptr_name _ _ _ _, leVs.refl _⟩
theorem gend {x r : LV} {H : Heap} {b : Nat} {l : List Int} {a a' c : Int} {Q : LV → Prop} (h : leV x r) (hs : [(1000, SB b l a')].Sublist H) (ha : a ≤ a' ∧ a' ≤ a + c) (hq : Q r) : ∃ r' H', leVH gl x H r' H' ∧ ∃ e, H' = [(1000, e)] ∧ ∃ a'', (a ≤ a'' ∧ a'' ≤ a + c) ∧ Q r' ∧ e = SB b l a'' :=
  ⟨r, _, leVH.of h ⟨_, hs, List.Perm.refl _⟩, _, rfl, a', ha, hq, rfl⟩
theorem gn (n : Int) (hn : 1 ≤ n ∧ n ≤ 1000000000) : Gen 22 [.int .i64 n] 1 fun r => ∃ v, (0 ≤ v ∧ v < n) ∧ r = .int .i64 v := fun id b l a hl _ =>
  (n_ id b l a n hl hn).mono fun r H ⟨e, h1, h2, h3⟩ => ⟨e, h1, a + 1, by omega, ⟨_, nV_range l a (by omega), h2⟩, h3⟩
theorem gr (x y : Int) (hx : -1000000000 ≤ x ∧ x ≤ y ∧ y ≤ 100000000 ∧ y - x < 1000000000) : Gen 19 [.int .i64 x, .int .i64 y] 1 fun r => ∃ v, (x ≤ v ∧ v ≤ y) ∧ r = .int .i64 v := fun id b l a hl _ =>
  (range_ id b l a x y hl (by omega) (by omega)).mono fun r H ⟨e, h1, h2, h3⟩ => ⟨e, h1, a + 1, by omega, ⟨_, by have := nV_range l a (n := y - x + 1) (by omega); omega, h2⟩, h3⟩
def isI : LV → Bool
  | .int .i64 _ => true
  | _ => false
def isS (k : Nat) : LV → Bool
  | .str s => decide (s.length ≤ k)
  | _ => false
theorem isI_get {cs : List LV} (h : cs.all isI = true) : ∃ ns : List Int, cs = ns.map (LV.int .i64) := by
  induction cs with
  | nil => exact ⟨[], rfl⟩
  | cons c cs ih =>
    simp only [List.all_cons, Bool.and_eq_true] at h
    obtain ⟨ns, rfl⟩ := ih h.2
    cases c <;> simp only [isI, Bool.false_eq_true, false_and] at h
    rename_i k n
    cases k <;> simp only [Bool.false_eq_true, false_and] at h
    exact ⟨n :: ns, rfl⟩
theorem gp (cs : List LV) (k : Nat) (h0 : 0 < k ∧ k ≤ 1000) (hk : cs.length = k) (hc : cs.all isI = true) : Gen 31 [.fsl 1 k cs] 1 fun r => ∃ v, LV.int .i64 v ∈ cs ∧ r = .int .i64 v := fun id b l a hl _ => by
  obtain ⟨ns, rfl⟩ := isI_get hc
  rw [List.length_map] at hk
  subst hk
  exact (pick_ id b l a ns hl h0.1 h0.2).mono fun r H ⟨e, h1, h2, h3⟩ => ⟨e, h1, a + 1, by omega, ⟨_, List.mem_map.2 ⟨_, pickV_mem l a ns h0.1, rfl⟩, h2⟩, h3⟩
theorem isS_get {k : Nat} {cs : List LV} (h : cs.all (isS k) = true) {i : Nat} (hi : i < cs.length) : ∃ s, s.length ≤ k ∧ LV.str s ∈ cs ∧ cs.getD i .any = .str s := by
  have hm : cs.getD i .any ∈ cs := getD_memA _ hi
  have := List.all_eq_true.1 h _ hm
  generalize cs.getD i .any = c at *
  cases c <;> simp only [isS, Bool.false_eq_true] at this
  exact ⟨_, by simpa using this, hm, rfl⟩
theorem gw (m : Nat) (cs : List LV) (k : Nat) (h0 : 0 < k ∧ k ≤ 1000) (hk : cs.length = k) (hc : cs.all (isS m) = true) : Gen 69 [.fsl 1 k cs] 1 fun r => ∃ s, (s.length ≤ m ∧ LV.str s ∈ cs) ∧ r = .str s := by
  refine Gen.mk fun b l a hl ha => ?_
  refine fn_viewT Tryz.func69 t69 Tryz.ntmps69 (by simp) ?_
  unfold c69 r69
  simp (disch := first | exact dd | fail) only [go_sem]
  first | refine actsE_U (gn k (by omega) 1000 b l a hl (by omega)) (by first | rfl | simp only [getH, if_true]) ?_ | refine actsE_T (gn k (by omega) 1000 b l a hl (by omega)) (by first | rfl | simp only [getH, if_true]) ?_ | refine actsE_N (gn k (by omega) 1000 b l a hl (by omega)) (by first | rfl | simp only [getH, if_true]) ?_ | refine actsE_of (gn k (by omega) 1000 b l a hl (by omega)) (by first | rfl | simp only [getH, if_true]) ?_
  rintro _ _ ⟨a', ha', ⟨v, hv, rfl⟩, rfl⟩
  obtain ⟨s, h1, h2, h3⟩ := isS_get hc (i := v.toNat) (by omega)
  simp (disch := first | exact dd | fail) only [go_sem, Nat.mul_one, h3]
  exact ⟨by omega, by omega, viewE_end (leV.refl _) (List.Sublist.refl _) ⟨a', ha', ⟨s, ⟨h1, h2⟩, rfl⟩, rfl⟩⟩
theorem memI {v : Int} {ns : List Int} (h : LV.int .i64 v ∈ ns.map (LV.int .i64)) : v ∈ ns := by simpa using h
theorem clean : Gen 48 [] 10 fun r => ∃ s, s.length ≤ 200 ∧ r = .str s := by
  refine Gen.mk fun b l a hl ha => ?_
  refine fn_viewT Tryz.func48 t48 Tryz.ntmps48 (by simp) ?_
  have hq := hl.2.2
  unfold c48 r48
  repeat' (first | (simp (disch := first | exact dd | fail) only [go_sem]) | (refine allI (fun b => ?_)) | (refine allT (fun τ => ?_)) | (refine brP (fun h => ?_) (fun h => ?_) <;> (try simp only [zgx, zbx] at h)) | (refine actsE_U (gn _ (by omega) 1000 _ _ _ (hl.at (by omega) (by omega)) (by omega)) rfl ?_; rintro _ _ ⟨_, _, ⟨_, _, rfl⟩, rfl⟩) | (refine actsE_T (gn _ (by omega) 1000 _ _ _ (hl.at (by omega) (by omega)) (by omega)) rfl ?_; rintro _ _ ⟨_, _, ⟨_, _, rfl⟩, rfl⟩) | (refine actsE_of (gn _ (by omega) 1000 _ _ _ (hl.at (by omega) (by omega)) (by omega)) rfl ?_; rintro _ _ ⟨_, _, ⟨_, _, rfl⟩, rfl⟩) | (refine actsE_U (gr _ _ (by omega) 1000 _ _ _ (hl.at (by omega) (by omega)) (by omega)) rfl ?_; rintro _ _ ⟨_, _, ⟨_, _, rfl⟩, rfl⟩) | (refine actsE_T (gr _ _ (by omega) 1000 _ _ _ (hl.at (by omega) (by omega)) (by omega)) rfl ?_; rintro _ _ ⟨_, _, ⟨_, _, rfl⟩, rfl⟩) | (refine actsE_of (gr _ _ (by omega) 1000 _ _ _ (hl.at (by omega) (by omega)) (by omega)) rfl ?_; rintro _ _ ⟨_, _, ⟨_, _, rfl⟩, rfl⟩) | (refine actsE_U (gp _ _ (by decide) (by rfl) (by rfl) 1000 _ _ _ (hl.at (by omega) (by omega)) (by omega)) rfl ?_; rintro _ _ ⟨_, _, ⟨_, _, rfl⟩, rfl⟩) | (refine actsE_T (gp _ _ (by decide) (by rfl) (by rfl) 1000 _ _ _ (hl.at (by omega) (by omega)) (by omega)) rfl ?_; rintro _ _ ⟨_, _, ⟨_, _, rfl⟩, rfl⟩) | (refine actsE_of (gp _ _ (by decide) (by rfl) (by rfl) 1000 _ _ _ (hl.at (by omega) (by omega)) (by omega)) rfl ?_; rintro _ _ ⟨_, _, ⟨_, _, rfl⟩, rfl⟩) | (refine actsE_U (gw 40 _ _ (by decide) (by rfl) (by rfl) 1000 _ _ _ (hl.at (by omega) (by omega)) (by omega)) rfl ?_; rintro _ _ ⟨_, _, ⟨_, _, rfl⟩, rfl⟩) | (refine actsE_T (gw 40 _ _ (by decide) (by rfl) (by rfl) 1000 _ _ _ (hl.at (by omega) (by omega)) (by omega)) rfl ?_; rintro _ _ ⟨_, _, ⟨_, _, rfl⟩, rfl⟩) | (refine actsE_of (gw 40 _ _ (by decide) (by rfl) (by rfl) 1000 _ _ _ (hl.at (by omega) (by omega)) (by omega)) rfl ?_; rintro _ _ ⟨_, _, ⟨_, _, rfl⟩, rfl⟩) | (apply And.intro; focus omega) | (refine callG_LU (fun hg => ?_) (fun hg => ?_) <;> (try simp only [hg])))
  rename_i a1 ha1 v hv
  have hv := memI (ns := [1, 1, 2, 2, 3]) hv
  have hv : 1 ≤ v ∧ v ≤ 3 := by simp at hv; omega
  refine loopI (ι := Int × Int × List UInt8) (fun y => (0 ≤ y.1 ∧ y.1 ≤ 3) ∧ (a1 ≤ y.2.1 ∧ y.2.1 ≤ a1 + 3 - y.1) ∧ y.2.2.length + 41 * y.1 ≤ 123) (fun y => [(4, .int .i64 y.1), (3, .str y.2.2), (2, .str []), (0, .ptr 1000 b 0)]) (fun y => [(1000, SB b l y.2.1)]) (fun y => y.1.toNat) (v, a1, []) (by dsimp only [List.length_nil]; omega) (Ents.envH (by simp [go_sem]) rfl) ?_
  rintro ⟨i, a2, s⟩ hi
  dsimp only at hi ⊢
  repeat' (first | (simp (disch := first | exact dd | fail) only [go_sem]) | (refine allI (fun b => ?_)) | (refine allT (fun τ => ?_)) | (refine brP (fun h => ?_) (fun h => ?_) <;> (try simp only [zgx, zbx] at h)) | (refine actsE_U (gn _ (by omega) 1000 _ _ _ (hl.at (by omega) (by omega)) (by omega)) rfl ?_; rintro _ _ ⟨_, _, ⟨_, _, rfl⟩, rfl⟩) | (refine actsE_T (gn _ (by omega) 1000 _ _ _ (hl.at (by omega) (by omega)) (by omega)) rfl ?_; rintro _ _ ⟨_, _, ⟨_, _, rfl⟩, rfl⟩) | (refine actsE_of (gn _ (by omega) 1000 _ _ _ (hl.at (by omega) (by omega)) (by omega)) rfl ?_; rintro _ _ ⟨_, _, ⟨_, _, rfl⟩, rfl⟩) | (refine actsE_U (gr _ _ (by omega) 1000 _ _ _ (hl.at (by omega) (by omega)) (by omega)) rfl ?_; rintro _ _ ⟨_, _, ⟨_, _, rfl⟩, rfl⟩) | (refine actsE_T (gr _ _ (by omega) 1000 _ _ _ (hl.at (by omega) (by omega)) (by omega)) rfl ?_; rintro _ _ ⟨_, _, ⟨_, _, rfl⟩, rfl⟩) | (refine actsE_of (gr _ _ (by omega) 1000 _ _ _ (hl.at (by omega) (by omega)) (by omega)) rfl ?_; rintro _ _ ⟨_, _, ⟨_, _, rfl⟩, rfl⟩) | (refine actsE_U (gp _ _ (by decide) (by rfl) (by rfl) 1000 _ _ _ (hl.at (by omega) (by omega)) (by omega)) rfl ?_; rintro _ _ ⟨_, _, ⟨_, _, rfl⟩, rfl⟩) | (refine actsE_T (gp _ _ (by decide) (by rfl) (by rfl) 1000 _ _ _ (hl.at (by omega) (by omega)) (by omega)) rfl ?_; rintro _ _ ⟨_, _, ⟨_, _, rfl⟩, rfl⟩) | (refine actsE_of (gp _ _ (by decide) (by rfl) (by rfl) 1000 _ _ _ (hl.at (by omega) (by omega)) (by omega)) rfl ?_; rintro _ _ ⟨_, _, ⟨_, _, rfl⟩, rfl⟩) | (refine actsE_U (gw 40 _ _ (by decide) (by rfl) (by rfl) 1000 _ _ _ (hl.at (by omega) (by omega)) (by omega)) rfl ?_; rintro _ _ ⟨_, _, ⟨_, _, rfl⟩, rfl⟩) | (refine actsE_T (gw 40 _ _ (by decide) (by rfl) (by rfl) 1000 _ _ _ (hl.at (by omega) (by omega)) (by omega)) rfl ?_; rintro _ _ ⟨_, _, ⟨_, _, rfl⟩, rfl⟩) | (refine actsE_of (gw 40 _ _ (by decide) (by rfl) (by rfl) 1000 _ _ _ (hl.at (by omega) (by omega)) (by omega)) rfl ?_; rintro _ _ ⟨_, _, ⟨_, _, rfl⟩, rfl⟩) | (apply And.intro; focus omega) | (refine callG_LU (fun hg => ?_) (fun hg => ?_) <;> (try simp only [hg])))
  · rename_i a3 ha3 w hw
    have hsl : ([47] ++ w : List UInt8).length = w.length + 1 := by simp [Nat.add_comm]
    have hsl2 : (s ++ ([47] ++ w)).length = s.length + (w.length + 1) := by rw [List.length_append, hsl]
    have hsl3 : (s ++ 47 :: w).length = s.length + (w.length + 1) := by rw [List.length_append, List.length_cons]
    exact ⟨⟨(i - 1, _, _), by dsimp only; omega⟩, by dsimp only; omega, Ents.envH ⟨leV.refl _, leV.refl _, leV.refl _, leV.refl _, trivial⟩ rfl⟩
  · (apply gend (leV.refl _); (focus (repeat (first | exact List.Sublist.refl _ | apply List.Sublist.cons))); (focus omega); exact ⟨_, by omega, rfl⟩)
end Go.Proofs.YtkdblnejpmbnfaaGreat
namespace Go.Proofs.YtkdblnejpmbnfaaGreat
open Go Go.Lx
set_option linter.unusedSimpArgs false
set_option linter.unusedVariables false
set_option maxRecDepth 100000
set_option maxHeartbeats 4000000
theorem rget (t : Tb) (pid : Int) (ht : okT t) : Pure Tryz.prog gl 11 [TbL t, .int .i64 pid] (.tup [.agg (PsC (getR t pid).1), .bool (getR t pid).2]) := by
  refine fn_pureT Tryz.func11 t11 Tryz.ntmps11 (by simp) ?_
  have hle := len_ps t.ps
  have hR : getR t pid = if findI t pid < 0 then (ps0, false) else (pAt t (findI t pid).toNat, true) := rfl
  unfold c11 r11
  rw [TbL_eq t]
  repeat' (first | (simp (disch := first | exact dd | fail) only [go_sem]) | (refine allI (fun b => ?_)) | (refine allT (fun τ => ?_)) | (refine brP (fun h => ?_) (fun h => ?_) <;> (try simp only [zgx, zbx] at h)) | (refine gd ?_) | fail)
  refine loopI (ι := Nat) (fun i => i ≤ t.ps.length ∧ ∀ j, j < i → (pAt t j).pid ≠ pid) (fun i => (6, .int .i64 i) :: _) (fun _ => _) (fun i => t.ps.length - i) 0 ⟨by omega, fun j hj => absurd hj (by omega)⟩ Ents.same ?_
  rintro i ⟨hi, hn⟩
  simp (disch := first | exact dd | fail) only [go_sem]
  refine brP (fun hb => ?_) (fun hb => ?_)
  · have hlt : i < t.ps.length := by simp only [decide_eq_true_eq] at hb; omega
    have e2 : ((t.ps.flatMap PsC).drop (i * 14)).take 14 = PsC (pAt t i) := take_rows (f := PsC) (fun _ => rfl) ps0 _ hlt
    have hcp := rcp (pAt t i) (ht.2 _ (pAt_mem hlt))
    have hf : (pAt t i).pid = pid → findI t pid = i := fun h => findI_is hlt h hn
    have e3 : (t.ps.flatMap PsC).getD (i * 14) .any = .int .i64 (pAt t i).pid := by
      rw [← Nat.add_zero (i * 14), getD_rows (f := PsC) (w := 14) (fun _ => rfl) (by omega) ps0 _ _ hlt]; rfl
    have hm := ht.1
    generalize hp : pAt t i = p at *
    rw [PsC_eq] at e2 hcp
    repeat' (first | (simp (disch := first | exact dd | fail) only [go_sem, e2, e3, zPs]) | (refine allI (fun b => ?_)) | (refine allT (fun τ => ?_)) | (refine brP (fun h => ?_) (fun h => ?_) <;> (try simp only [zgx, zbx] at h)) | refine call_U (hcp) ?_ | refine callG_U (fun _ => hcp) ?_ | refine call_T (hcp) ?_ | refine callG_T (fun _ => hcp) ?_ | refine call_N (hcp) ?_ | refine call_of (hcp) ?_ | refine callG_of (fun _ => hcp) ?_ | (refine gd ?_) | fail)
    · rename_i h
      rw [hR, hf h, if_neg (by omega), Int.toNat_natCast, hp]
      exact leV.refl _
    · rename_i h
      rw [← hp] at h
      exact ⟨⟨i + 1, by omega, fun j hj => (by omega : j < i ∨ j = i).elim (hn j) fun e => e ▸ h⟩, by dsimp only; omega, Ents.envH (by simp [go_sem]) rfl⟩
  · have hle : i = t.ps.length := by simp only [decide_eq_false_iff_not] at hb; omega
    repeat' (first | (simp (disch := first | exact dd | fail) only [go_sem]) | (refine allI (fun b => ?_)) | (refine allT (fun τ => ?_)) | (refine brP (fun h => ?_) (fun h => ?_) <;> (try simp only [zgx, zbx] at h)) | (refine gd ?_) | fail)
    have hf : findI t pid < 0 := by
      rcases Int.lt_or_le (findI t pid) 0 with h | h
      · exact h
      · obtain ⟨k, h1, h2, h3, h4⟩ := findI_get h
        exact absurd h3 (hn k (by omega))
    rw [hR, if_pos hf]
    exact leV.tup ⟨leV.agg ps0le, leV.refl _, trivial⟩
theorem rid (n : Int) : Pure Tryz.prog gl 76 [.int .i64 n] (.bool (idB n)) := by
  refine fn_pureT Tryz.func76 t76 Tryz.ntmps76 (by simp) ?_
  unfold c76 r76
  repeat' (first | (simp (disch := first | exact dd | fail) only [go_sem]) | (refine allI (fun b => ?_)) | (refine allT (fun τ => ?_)) | (refine brP (fun h => ?_) (fun h => ?_) <;> (try simp only [zgx, zbx] at h)) | (refine gd ?_) | fail)
  simp [idB, Bool.decide_and]
theorem gpid (t : Tb) (ht : t.ps.length ≤ 1000000) (h0 : 1 ≤ t.ps.length) : Gen 8 [TbL t] 2 fun r => ∃ v, True ∧ r = .int .i64 v := by
  refine Gen.mk fun b l a hl ha => ?_
  refine fn_viewT Tryz.func8 t8 Tryz.ntmps8 (by simp) ?_
  have hq := hl.2.2
  have hle := len_ps t.ps
  have d1 : ((t.ps.length : Int) == 0) = false := by rw [beq_eq_false_iff_ne]; omega
  have e3 : ∀ i, i < t.ps.length → (t.ps.flatMap PsC).getD (i * 14) .any = .int .i64 (pAt t i).pid := fun i h => by
    rw [← Nat.add_zero (i * 14), getD_rows (f := PsC) (w := 14) (fun _ => rfl) (by omega) ps0 _ _ h]; rfl
  unfold c8 r8
  rw [TbL_eq t]
  repeat' (first | (simp (disch := first | exact dd | fail) only [go_sem, d1, true_and]) | (refine allI (fun b => ?_)) | (refine allT (fun τ => ?_)) | (refine brP (fun h => ?_) (fun h => ?_) <;> (try simp only [zgx, zbx] at h)) | (refine actsE_U (gn _ (by omega) 1000 _ _ _ (hl.at (by omega) (by omega)) (by omega)) rfl ?_; rintro _ _ ⟨_, _, ⟨_, _, rfl⟩, rfl⟩) | (refine actsE_T (gn _ (by omega) 1000 _ _ _ (hl.at (by omega) (by omega)) (by omega)) rfl ?_; rintro _ _ ⟨_, _, ⟨_, _, rfl⟩, rfl⟩) | (refine actsE_of (gn _ (by omega) 1000 _ _ _ (hl.at (by omega) (by omega)) (by omega)) rfl ?_; rintro _ _ ⟨_, _, ⟨_, _, rfl⟩, rfl⟩) | (refine actsE_U (gr _ _ (by omega) 1000 _ _ _ (hl.at (by omega) (by omega)) (by omega)) rfl ?_; rintro _ _ ⟨_, _, ⟨_, _, rfl⟩, rfl⟩) | (refine actsE_T (gr _ _ (by omega) 1000 _ _ _ (hl.at (by omega) (by omega)) (by omega)) rfl ?_; rintro _ _ ⟨_, _, ⟨_, _, rfl⟩, rfl⟩) | (refine actsE_of (gr _ _ (by omega) 1000 _ _ _ (hl.at (by omega) (by omega)) (by omega)) rfl ?_; rintro _ _ ⟨_, _, ⟨_, _, rfl⟩, rfl⟩) | (refine actsE_U (gp _ _ (by decide) (by rfl) (by rfl) 1000 _ _ _ (hl.at (by omega) (by omega)) (by omega)) rfl ?_; rintro _ _ ⟨_, _, ⟨_, _, rfl⟩, rfl⟩) | (refine actsE_T (gp _ _ (by decide) (by rfl) (by rfl) 1000 _ _ _ (hl.at (by omega) (by omega)) (by omega)) rfl ?_; rintro _ _ ⟨_, _, ⟨_, _, rfl⟩, rfl⟩) | (refine actsE_of (gp _ _ (by decide) (by rfl) (by rfl) 1000 _ _ _ (hl.at (by omega) (by omega)) (by omega)) rfl ?_; rintro _ _ ⟨_, _, ⟨_, _, rfl⟩, rfl⟩) | (refine actsE_U (gw 40 _ _ (by decide) (by rfl) (by rfl) 1000 _ _ _ (hl.at (by omega) (by omega)) (by omega)) rfl ?_; rintro _ _ ⟨_, _, ⟨_, _, rfl⟩, rfl⟩) | (refine actsE_T (gw 40 _ _ (by decide) (by rfl) (by rfl) 1000 _ _ _ (hl.at (by omega) (by omega)) (by omega)) rfl ?_; rintro _ _ ⟨_, _, ⟨_, _, rfl⟩, rfl⟩) | (refine actsE_of (gw 40 _ _ (by decide) (by rfl) (by rfl) 1000 _ _ _ (hl.at (by omega) (by omega)) (by omega)) rfl ?_; rintro _ _ ⟨_, _, ⟨_, _, rfl⟩, rfl⟩) | (apply And.intro; focus omega) | (refine callG_LU (fun hg => ?_) (fun hg => ?_) <;> (try simp only [hg])))
  · (apply gend (leV.refl _); (focus (repeat (first | exact List.Sublist.refl _ | apply List.Sublist.cons))); (focus omega); exact ⟨_, rfl⟩)
  · rename_i v hv
    rw [e3 v.toNat (by omega)]
    repeat' (first | (simp (disch := first | exact dd | fail) only [go_sem, true_and]) | (refine allI (fun b => ?_)) | (refine allT (fun τ => ?_)) | (refine brP (fun h => ?_) (fun h => ?_) <;> (try simp only [zgx, zbx] at h)) | (refine actsE_U (gn _ (by omega) 1000 _ _ _ (hl.at (by omega) (by omega)) (by omega)) rfl ?_; rintro _ _ ⟨_, _, ⟨_, _, rfl⟩, rfl⟩) | (refine actsE_T (gn _ (by omega) 1000 _ _ _ (hl.at (by omega) (by omega)) (by omega)) rfl ?_; rintro _ _ ⟨_, _, ⟨_, _, rfl⟩, rfl⟩) | (refine actsE_of (gn _ (by omega) 1000 _ _ _ (hl.at (by omega) (by omega)) (by omega)) rfl ?_; rintro _ _ ⟨_, _, ⟨_, _, rfl⟩, rfl⟩) | (refine actsE_U (gr _ _ (by omega) 1000 _ _ _ (hl.at (by omega) (by omega)) (by omega)) rfl ?_; rintro _ _ ⟨_, _, ⟨_, _, rfl⟩, rfl⟩) | (refine actsE_T (gr _ _ (by omega) 1000 _ _ _ (hl.at (by omega) (by omega)) (by omega)) rfl ?_; rintro _ _ ⟨_, _, ⟨_, _, rfl⟩, rfl⟩) | (refine actsE_of (gr _ _ (by omega) 1000 _ _ _ (hl.at (by omega) (by omega)) (by omega)) rfl ?_; rintro _ _ ⟨_, _, ⟨_, _, rfl⟩, rfl⟩) | (refine actsE_U (gp _ _ (by decide) (by rfl) (by rfl) 1000 _ _ _ (hl.at (by omega) (by omega)) (by omega)) rfl ?_; rintro _ _ ⟨_, _, ⟨_, _, rfl⟩, rfl⟩) | (refine actsE_T (gp _ _ (by decide) (by rfl) (by rfl) 1000 _ _ _ (hl.at (by omega) (by omega)) (by omega)) rfl ?_; rintro _ _ ⟨_, _, ⟨_, _, rfl⟩, rfl⟩) | (refine actsE_of (gp _ _ (by decide) (by rfl) (by rfl) 1000 _ _ _ (hl.at (by omega) (by omega)) (by omega)) rfl ?_; rintro _ _ ⟨_, _, ⟨_, _, rfl⟩, rfl⟩) | (refine actsE_U (gw 40 _ _ (by decide) (by rfl) (by rfl) 1000 _ _ _ (hl.at (by omega) (by omega)) (by omega)) rfl ?_; rintro _ _ ⟨_, _, ⟨_, _, rfl⟩, rfl⟩) | (refine actsE_T (gw 40 _ _ (by decide) (by rfl) (by rfl) 1000 _ _ _ (hl.at (by omega) (by omega)) (by omega)) rfl ?_; rintro _ _ ⟨_, _, ⟨_, _, rfl⟩, rfl⟩) | (refine actsE_of (gw 40 _ _ (by decide) (by rfl) (by rfl) 1000 _ _ _ (hl.at (by omega) (by omega)) (by omega)) rfl ?_; rintro _ _ ⟨_, _, ⟨_, _, rfl⟩, rfl⟩) | (apply And.intro; focus omega) | (refine callG_LU (fun hg => ?_) (fun hg => ?_) <;> (try simp only [hg])))
    (apply gend (leV.refl _); (focus (repeat (first | exact List.Sublist.refl _ | apply List.Sublist.cons))); (focus omega); exact ⟨_, rfl⟩)
  · rename_i hg
    cases hg
end Go.Proofs.YtkdblnejpmbnfaaGreat
namespace Go.Proofs.YtkdblnejpmbnfaaGreat
open Go Go.Lx
set_option linter.unusedSimpArgs false
set_option linter.unusedVariables false
set_option maxRecDepth 100000
set_option maxHeartbeats 8000000
def fR (x : Ps × LV) : List LV := PsO x.1 x.2
theorem fR_len (x : Ps × LV) : (fR x).length = 14 := rfl
def rowL (ps : List Ps) (n : Nat) (o : LV) : List (Ps × LV) := (ps.map fun p => (p, DeS p.op)).set n (ps.getD n ps0, o)
theorem rowL_len (ps : List Ps) (n : Nat) (o : LV) : (rowL ps n o).length = ps.length := by simp [rowL]
theorem rowL_ne {ps : List Ps} {n k : Nat} {o : LV} (h : k < ps.length) (hn : k ≠ n) : (rowL ps n o).getD k (ps0, .any) = (ps.getD k ps0, DeS (ps.getD k ps0).op) := by
  simp [rowL, List.getD_eq_getElem?_getD, List.getElem?_set_ne (Ne.symm hn), List.getElem?_eq_getElem h]
theorem rowL_at {ps : List Ps} {n : Nat} {o : LV} (h : n < ps.length) : (rowL ps n o).getD n (ps0, .any) = (ps.getD n ps0, o) := by
  simp [rowL, List.getD_eq_getElem?_getD, h]
theorem rowL_take (ps : List Ps) {n k : Nat} (o o' : LV) (h : k ≤ n) : (rowL ps n o).take k = (rowL ps n o').take k := by
  rw [rowL, rowL, List.take_set_of_le h, List.take_set_of_le h]
theorem len_fR (l : List (Ps × LV)) : (l.flatMap fR).length = l.length * 14 := length_rows (f := fR) (w := 14) fR_len l
end Go.Proofs.YtkdblnejpmbnfaaGreat
namespace Go.Proofs.YtkdblnejpmbnfaaGreat
open Go Go.Lx
set_option linter.unusedSimpArgs false
set_option linter.unusedVariables false
set_option maxRecDepth 100000
set_option maxHeartbeats 8000000
def SzT (n m : Nat) (t : Tb) : Prop := t.ps.length ≤ n ∧ ∀ p ∈ t.ps, p.op.length ≤ m
theorem mapDe_le : ∀ ps : List Ps, leVs ((ps.map fun p => (p, DeS p.op)).flatMap fR) (ps.flatMap PsC)
  | [] => trivial
  | q :: ps => by
    rw [List.map_cons, List.flatMap_cons, List.flatMap_cons]
    exact leVs.app (leVs.refl _) (mapDe_le ps)
theorem rowL_le : ∀ (ps : List Ps) (i : Nat) (o : LV) (p' : Ps), i < ps.length → leVs (PsO (ps.getD i ps0) o) (PsC p') → leVs ((rowL ps i o).flatMap fR) ((ps.set i p').flatMap PsC)
  | [], i, o, p', h, _ => by simp at h
  | q :: ps, 0, o, p', _, h => by
    simp only [rowL, List.map_cons, List.set_cons_zero, List.getD_cons_zero, List.flatMap_cons] at h ⊢
    exact leVs.app h (mapDe_le ps)
  | q :: ps, i + 1, o, p', hi, h => by
    have ih := rowL_le ps i o p' (by simpa using hi) (by simpa using h)
    simp only [rowL, List.map_cons, List.set_cons_succ, List.getD_cons_succ, List.flatMap_cons] at ih ⊢
    exact leVs.app (leVs.refl _) ih
theorem rowL_put {ps : List Ps} {i k : Nat} {o o' : LV} (hi : i < ps.length) : putC (Sp ((rowL ps i o).flatMap fR) k) (i * 14 + 12) o' = Sp ((rowL ps i o').flatMap fR) k := by
  have hl := len_fR (rowL ps i o)
  rw [rowL_len] at hl
  rw [putC_Sp _ (by omega), putC_rows (f := fR) (w := 14) fR_len (ps0, .any) (ps.getD i ps0, o') (rowL ps i o) o' (by rw [rowL_len]; exact hi) (by omega) (by rw [rowL_at hi]; rfl)]
  rw [rowL, rowL, List.set_set]
end Go.Proofs.YtkdblnejpmbnfaaGreat
namespace Go.Proofs.YtkdblnejpmbnfaaGreat
open Go Go.Lx
set_option linter.unusedSimpArgs false
set_option linter.unusedVariables false
set_option maxRecDepth 100000
set_option maxHeartbeats 4000000
theorem leVH.ren {x r : LV} {H : Heap} {i : Nat} (j : Nat) {e : Ent} (h : leV x r) (hs : [(i, e)].Sublist H) : leVH gl x H r [(j, e)] := fun _ M HF _ v hI hv =>
  ⟨M, MLe.refl M, h M v hv, (hI.sub (hs.append_right HF)).names (by simp)⟩
theorem ins_eq {P Z R X Y : List LV} {p q : Nat} (hp : P.length = p) (hz : Z.length = X.length + Y.length) (hq : q = p + X.length) : List.take q (List.take p (P ++ Z ++ R) ++ X ++ List.drop (p + X.length) (P ++ Z ++ R)) ++ Y ++ List.drop (q + Y.length) (List.take p (P ++ Z ++ R) ++ X ++ List.drop (p + X.length) (P ++ Z ++ R)) = P ++ X ++ Y ++ R := by
  subst hp; subst hq
  have h1 : List.take P.length (P ++ Z ++ R) = P := by simp
  have h2 : List.drop (P.length + X.length) (P ++ Z ++ R) = List.drop X.length Z ++ R := by
    rw [List.append_assoc, ← List.drop_drop, List.drop_left, List.drop_append_of_le_length (by omega)]
  have h3 : (List.drop X.length Z).length = Y.length := by rw [List.length_drop, hz]; omega
  rw [h1, h2]
  have h4 : List.take (P.length + X.length) (P ++ X ++ (List.drop X.length Z ++ R)) = P ++ X := List.take_left' (by simp)
  have h5 : List.drop (P.length + X.length + Y.length) (P ++ X ++ (List.drop X.length Z ++ R)) = R := by
    rw [← List.append_assoc]
    exact List.drop_left' (by simp [h3]; omega)
  rw [h4, h5]
theorem drop_rows (l : List De) (i : Nat) : (l.drop i).flatMap DeC = (l.flatMap DeC).drop (i * 4) := by
  induction l generalizing i with
  | nil => simp
  | cons a l ih =>
    cases i with
    | zero => simp
    | succ i =>
      have h : (DeC a).length = 4 := rfl
      rw [List.drop_succ_cons, ih, List.flatMap_cons, List.drop_append, List.drop_eq_nil_of_le (show (DeC a).length ≤ (i + 1) * 4 by omega), h, show (i + 1) * 4 - 4 = i * 4 by omega, List.nil_append]
theorem take_rowsN (l : List De) (i : Nat) : (l.flatMap DeC).take (i * 4) = (l.take i).flatMap DeC := by
  induction l generalizing i with
  | nil => simp
  | cons a l ih =>
    cases i with
    | zero => simp
    | succ i =>
      have h : (DeC a).length = 4 := rfl
      rw [List.take_succ_cons, List.flatMap_cons, List.flatMap_cons, ← ih, List.take_append, List.take_of_length_le (show (DeC a).length ≤ (i + 1) * 4 by omega), h, show (i + 1) * 4 - 4 = i * 4 by omega]
theorem ins (b i : Nat) (l : List De) (x : De) (hi : i ≤ l.length) (hl : l.length ≤ 1000) : ActsE Tryz.prog gl 82 [.msl 6001 4 b 0 l.length l.length, .int .i64 i, .fsl 4 1 (DeC x)] 6001 (.blk b (l.flatMap DeC)) fun r e => ∃ b2 c2, l.length + 1 ≤ c2 ∧ r = .msl 6001 4 b2 0 (l.length + 1) c2 ∧ e = .blk b2 (Sp ((l.take i ++ x :: l.drop i).flatMap DeC) ((c2 - (l.length + 1)) * 4)) := by
  refine fn_viewT Tryz.func82 t82 Tryz.ntmps82 (by simp) ?_
  have hle := len_de l
  unfold c82 r82
  have hX : [LV.int .i64 x.fd, LV.int .i64 x.d, LV.int .i64 x.i, LV.int .i64 x.fl] = DeC x := rfl
  rw [DeC_eq]
  repeat' (first | (simp (disch := first | exact dd | fail) only [go_sem]) | (refine allI (fun b => ?_)) | (refine allT (fun τ => ?_)) | (refine brP (fun h => ?_) (fun h => ?_) <;> (try simp only [zgx, zbx] at h)) | (refine gd ?_) | fail)
  · obtain rfl : i = l.length := by omega
    refine .inl ⟨by omega, by omega, by simp only [roomy]; omega, fun b2 c2 hc => ⟨_, _, leVH.self _ _, _, rfl, b2, c2, hc, rfl, ?_⟩⟩
    rw [List.take_length, List.drop_length, List.take_of_length_le (by omega), hX]
    simp [Sp]
  · have hlt : i < l.length := by omega
    have z1 : ((l.length : Int) + 1 - i).toNat = l.length + 1 - i := by omega
    have z2 : ((i : Int) + 1).toNat = i + 1 := by omega
    have z3 : i + (l.length + 1 - i) = l.length + 1 := by omega
    have z4 : ¬ l.length = i := by omega
    have z5 : min 1 (l.length + 1 - i) = 1 := by omega
    simp only [Nat.sub_zero, z1, z2, z3, if_neg z4, z5, ite_self]
    refine .inr ?_
    refine ⟨?_, fun b2 c2 hc => ?_⟩
    · exact ⟨trivial, by omega, by omega, by simp only [roomy]; omega⟩
    have z6 : ¬ c2 = i := by omega
    have z7 : ¬ c2 = i + 1 := by omega
    have z8 : l.length + 1 - (i + 1) = l.length - i := by omega
    simp only [if_neg z6, if_neg z7, z8, Nat.min_self]
    have hX4 : List.take (1 * 4) [LV.int .i64 x.fd, LV.int .i64 x.d, LV.int .i64 x.i, LV.int .i64 x.fl] = DeC x := rfl
    have hY : List.take ((l.length - i) * 4) (List.take ((l.length - i) * 4) (List.drop (i * 4) (l.flatMap DeC))) = (l.drop i).flatMap DeC := by
      rw [List.take_take, Nat.min_self, List.take_of_length_le (by rw [List.length_drop, hle]; omega), ← drop_rows]
    have hP : List.take (i * 4) (l.flatMap DeC) = (l.take i).flatMap DeC := by rw [take_rowsN]
    have hPl : ((l.take i).flatMap DeC).length = i * 4 := by rw [len_de, List.length_take, Nat.min_eq_left hi]
    have hYl : ((l.drop i).flatMap DeC).length = (l.length - i) * 4 := by rw [len_de, List.length_drop]
    have hZl : (zeros [LV.int .i64 0, LV.int .i64 0, LV.int .i64 0, LV.int .i64 0] ((l.length + 1 - i) * 4)).length = (DeC x).length + ((l.drop i).flatMap DeC).length := by
      rw [hYl, show (DeC x).length = 4 from rfl]
      simp only [zeros, List.length_map, List.length_range]
      omega
    have hXl : (DeC x).length = 4 := rfl
    rw [hX4, hP, hY]
    generalize zeros [LV.int .i64 0, LV.int .i64 0, LV.int .i64 0, LV.int .i64 0] ((l.length + 1 - i) * 4) = Z at *
    have hE := ins_eq (P := (l.take i).flatMap DeC) (Z := Z) (R := List.replicate ((c2 - (l.length + 1)) * 4) LV.any) (X := DeC x) (Y := (l.drop i).flatMap DeC) (p := i * 4) (q := (i + 1) * 4) hPl hZl (by rw [hXl]; omega)
    rw [hE]
    refine ⟨by omega, ?_, by omega, by omega, by omega, ?_, ?_⟩
    · simp only [List.length_append, List.length_replicate, hPl, hZl, hXl, hYl]
      omega
    · simp only [List.length_append, List.length_replicate, List.length_take, List.length_drop, hPl, hZl, hXl, hYl]
      omega
    · refine ⟨_, _, leVH.ren 6001 (leV.msl_name _ 6001 _ _ _ _ _) sub1, _, rfl, b2, c2, hc, rfl, ?_⟩
      rw [Sp, List.flatMap_append, List.flatMap_cons]
      simp only [List.append_assoc]
  · omega
theorem cl11 (x : De) (b : Nat) (fd : Int) : Acts Tryz.prog gl 85 [.agg (DeC x), .ptr 5 b 0] [(5, .blk b [.int .i64 fd])] (.bool (x.fd == fd)) [(5, .blk b [.int .i64 fd])] := by
  refine fn_actsT Tryz.func85 t85 Tryz.ntmps85 (by simp) ?_
  unfold c85 r85
  rw [DeC_eq]
  repeat' (first | (simp (disch := first | exact dd | fail) only [go_sem]) | (refine allI (fun b => ?_)) | (refine allT (fun τ => ?_)) | (refine brP (fun h => ?_) (fun h => ?_) <;> (try simp only [zgx, zbx] at h)) | (refine gd ?_) | fail)
  exact acts_end (leV.refl _) (by simp)
def fdP (l : List De) (fd : Int) (i : Nat) : Bool := (l.getD i de0).fd == fd
def fdI (l : List De) (fd : Int) : Int := firstI l.length (fdP l fd)
theorem idxd (l : List De) (b bo c : Nat) (fd : Int) (hl : l.length ≤ 1000) : LCalls Tryz.prog gl 84 [.msl 6001 4 bo 0 l.length c, .clo 85 [.ptr 5 b 0]] [(6001, .blk bo (Sp (l.flatMap DeC) ((c - l.length) * 4))), (5, .blk b [.int .i64 fd])] fun r H => r = .int .i64 (fdI l fd) ∧ H = [(6001, .blk bo (Sp (l.flatMap DeC) ((c - l.length) * 4))), (5, .blk b [.int .i64 fd])] := by
  refine fn_viewT Tryz.func84 t84 Tryz.ntmps84 (by simp) ?_
  have hle := len_de l
  have hs := length_Sp (l.flatMap DeC) ((c - l.length) * 4)
  unfold c84 r84
  simp (disch := first | exact dd | fail) only [go_sem]
  refine loopI (ι := Nat) (fun i => i ≤ l.length ∧ ∀ j, j < i → fdP l fd j = false) (fun i => (8, .int .i64 i) :: _) (fun _ => _) (fun i => l.length - i) 0 ⟨by omega, fun j hj => absurd hj (by omega)⟩ Ents.same ?_
  intro i hi
  have hiB := hi.1
  simp (disch := first | exact dd | fail) only [go_sem]
  refine brP (fun hb => ?_) (fun hb => ?_)
  · have hlt : i < l.length := by simpa using hb
    have e2 : ((Sp (l.flatMap DeC) ((c - l.length) * 4)).drop (i * 4)).take 4 = DeC (l.getD i de0) := by
      rw [← take_rows (f := DeC) (w := 4) (fun _ => rfl) de0 l hlt, Sp, List.drop_append_of_le_length (by omega), List.take_append_of_le_length (by rw [List.length_drop]; omega)]
    have hf : fdP l fd i = ((l.getD i de0).fd == fd) := rfl
    have ha := cl11 (l.getD i de0) b fd
    generalize l.getD i de0 = p at *
    repeat' (first | (simp (disch := first | exact dd | fail) only [go_sem, e2]) | (refine allI (fun b => ?_)) | (refine allT (fun τ => ?_)) | (refine brP (fun h => ?_) (fun h => ?_) <;> (try simp only [zgx, zbx] at h)) | (refine gd ?_) | fail)
    refine ⟨by kernel_rfl, ?_⟩
    first | refine acts_U (ha) (by simp (disch := first | exact dd | fail) only [go_sem]) ?_ | refine acts_T (ha) (by simp (disch := first | exact dd | fail) only [go_sem]) ?_ | refine acts_N (ha) (by simp (disch := first | exact dd | fail) only [go_sem]) ?_ | refine acts_of (H1 := []) (ha) (by simp (disch := first | exact dd | fail) only [go_sem]) ?_
    repeat' (first | (simp (disch := first | exact dd | fail) only [go_sem]) | (refine allI (fun b => ?_)) | (refine allT (fun τ => ?_)) | (refine brP (fun h => ?_) (fun h => ?_) <;> (try simp only [zgx, zbx] at h)) | (refine gd ?_) | fail)
    · refine acts_end (leV.of_eq ?_) (by simp)
      rw [fdI, firstI_is hlt (by rw [hf]; simpa using h) hi.2]
    · have hf2 : fdP l fd i = false := by rw [hf]; simpa using h
      exact ⟨⟨i + 1, by omega, fun j hj => (by omega : j < i ∨ j = i).elim (fun h3 => hi.2 j h3) (fun h3 => h3 ▸ hf2)⟩, by dsimp only; omega, Ents.envH (by simp [go_sem]) rfl⟩
  · repeat' (first | (simp (disch := first | exact dd | fail) only [go_sem]) | (refine allI (fun b => ?_)) | (refine allT (fun τ => ?_)) | (refine brP (fun h => ?_) (fun h => ?_) <;> (try simp only [zgx, zbx] at h)) | (refine gd ?_) | fail)
    refine acts_end (leV.of_eq ?_) (by simp)
    rw [fdI, firstI_none fun j hj => hi.2 j (by simp only [decide_eq_false_iff_not] at hb; omega)]
theorem deld (b n c i j : Nat) (cs : List LV) (hc : cs.length = n * 4) (hn : n ≤ c) (hi : i ≤ j) (hj : j ≤ n) (hb : n ≤ 1000000000) :
    ActsE Tryz.prog gl 86 [.msl 6001 4 b 0 n c, .int .i64 i, .int .i64 j] 6001 (.blk b (Sp cs ((c - n) * 4))) fun r e => r = .msl 6001 4 b 0 (n - (j - i)) c ∧ e = .blk b (Sp (cs.take (i * 4) ++ cs.drop (j * 4)) ((c - (n - (j - i))) * 4)) := by
  refine fn_viewT Tryz.func86 t86 Tryz.ntmps86 (by simp) ?_
  unfold c86 r86
  simp (disch := first | exact dd | fail) only [go_sem]
  refine ⟨by omega, ?_⟩
  have hl : (Sp cs ((c - n) * 4)).length = c * 4 := by rw [length_Sp, hc]; omega
  repeat' (first | (simp (disch := first | exact dd | fail) only [go_sem]) | (refine allI (fun b => ?_)) | (refine allT (fun τ => ?_)) | (refine brP (fun h => ?_) (fun h => ?_) <;> (try simp only [zgx, zbx] at h)))
  · obtain rfl : i = j := by omega
    rw [Nat.sub_self, Nat.sub_zero, List.take_append_drop]
    exact viewE_end (leV.refl _) (List.Sublist.refl _) ⟨rfl, rfl⟩
  · have e0 : (if c = 0 then 0 else 0) = 0 := by split <;> rfl
    have e2 : ¬ c = i + (n - j) := by omega
    have e3 := cut_len hc hi hj
    have e4 : (Sp cs ((c - n) * 4)).take (i * 4) = cs.take (i * 4) := take_Sp_le (by rw [hc]; exact Nat.mul_le_mul_right _ (by omega))
    simp only [Nat.sub_zero, e0, if_neg e2, Nat.zero_add, take_drop_Sp hc hj hn, e4]
    refine ⟨by omega, by omega, by split <;> omega, rfl, .inr ?_⟩
    have e5 : n - (j - i) = i + (n - j) := by omega
    have e6 : (cs.drop (j * 4)).length = (n - j) * 4 := by rw [List.length_drop, hc, Nat.sub_mul]
    rw [e5, e6]
    refine ⟨by omega, by omega, by omega, ?_, ?_⟩
    · simp only [List.length_append, List.length_drop, List.length_take, hl, hc]
      omega
    rw [List.take_left' e3, List.append_assoc]
    refine ⟨_, [(6001, .blk b (Sp (cs.take (i * 4) ++ cs.drop (j * 4)) ((c - (i + (n - j))) * 4)))], leVH.le ⟨⟨rfl, leVs.sp ?_⟩, trivial⟩, _, rfl, rfl, rfl⟩
    simp only [List.length_append, List.length_drop, List.length_take, hl, hc, zeros, List.length_map, List.length_range]
    omega
end Go.Proofs.YtkdblnejpmbnfaaGreat
namespace Go.Proofs.YtkdblnejpmbnfaaGreat
open Go Go.Lx
set_option linter.unusedSimpArgs false
set_option linter.unusedVariables false
set_option maxRecDepth 100000
set_option maxHeartbeats 4000000
def OpQ (l : List De) (r : LV) (e : Ent) : Prop := ∃ b, r = .msl 6001 4 b 0 l.length l.length ∧ e = .blk b (l.flatMap DeC)
theorem cpdO (l : List De) (hl : l.length ≤ 1000) : NewsE Tryz.prog gl 93 [.sl 4 l.length (l.flatMap DeC), .fn 94] 6001 (OpQ l) := by
  refine NewsE.name (i := 13) (Q := fun r e => ∃ b, r = .msl 13 4 b 0 l.length l.length ∧ e = .blk b (l.flatMap DeC)) ?_ fun r e ⟨b, h1, h2⟩ => ⟨_, by subst h1; exact leV.msl_name _ 6001 _ _ _ _ _, b, rfl, h2⟩
  refine fn_viewT Tryz.func93 t93 Tryz.ntmps93 (by simp) ?_
  have hle := len_de l
  unfold c93 r93
  repeat' (first | (simp (disch := first | exact dd | fail) only [go_sem]) | (refine allI (fun b => ?_)) | (refine allT (fun τ => ?_)) | (refine brP (fun h => ?_) (fun h => ?_) <;> (try simp only [zgx, zbx] at h)) | (refine gd ?_) | fail)
  · have h0 : l = [] := List.length_eq_zero_iff.1 (by omega)
    subst h0
    exact ⟨_, _, leVH.ofNil 13 _ 4, _, rfl, 0, by simp, rfl⟩
  · refine .inr fun b => ?_
    refine loopI (ι := Nat) (fun y => y ≤ l.length) (fun y => [(16, .int .i64 y), (15, .int .i64 l.length), (14, .sl 4 l.length (l.flatMap DeC)), (5, .msl 13 4 b 0 y l.length), (1, .fn 94)]) (fun y => [(13, .blk b (Sp ((l.take y).flatMap DeC) ((l.length - y) * 4)))]) (fun y => l.length - y) 0 (by omega) (Ents.le (by simp [go_sem]) ⟨⟨rfl, leVs_any (by simp [zeros, Sp])⟩, trivial⟩) ?_
    intro i h1
    have htl : ((l.take i).flatMap DeC).length = i * 4 := by rw [len_de, List.length_take, Nat.min_eq_left h1]
    simp (disch := first | exact dd | fail) only [go_sem]
    refine brP (fun hb => ?_) (fun hb => ?_)
    · have hlt : i < l.length := by simpa using hb
      have e2 : ((l.flatMap DeC).drop (i * 4)).take 4 = DeC (l.getD i de0) := take_rows (f := DeC) (fun _ => rfl) de0 _ hlt
      have hts := take_succ_getD de0 l hlt
      have hc := cp1 (l.getD i de0)
      generalize l.getD i de0 = x at *
      rw [DeC_eq] at e2 hc
      repeat' (first | (simp (disch := first | exact dd | fail) only [go_sem, e2, zDe]) | (refine allI (fun b => ?_)) | (refine allT (fun τ => ?_)) | (refine brP (fun h => ?_) (fun h => ?_) <;> (try simp only [zgx, zbx] at h)) | (refine gd ?_) | fail)
      refine ⟨by kernel_rfl, ?_⟩
      first | refine call_U (hc) ?_ | refine call_T (hc) ?_ | refine call_N (hc) ?_ | refine call_of (hc) ?_
      repeat' (first | (simp (disch := first | exact dd | fail) only [go_sem, zDe]) | (refine allI (fun b => ?_)) | (refine allT (fun τ => ?_)) | (refine brP (fun h => ?_) (fun h => ?_) <;> (try simp only [zgx, zbx] at h)) | (refine gd ?_) | fail)
      refine .inr ⟨by omega, by rw [length_Sp, htl]; omega, ⟨i + 1, by omega⟩, by dsimp only; omega, Ents.sub (by simp [go_sem]) ⟨_, List.Sublist.cons _ (List.Sublist.refl _), ?_⟩⟩
      have hd : List.drop (i * 4 + 4) (Sp ((l.take i).flatMap DeC) ((l.length - i) * 4)) = List.replicate ((l.length - (i + 1)) * 4) LV.any := by
        rw [Sp, List.drop_append, List.drop_eq_nil_of_le (by omega), List.drop_replicate, List.nil_append, htl]
        congr 1
        omega
      dsimp only
      rw [take_Sp _ htl, hd, hts, List.flatMap_append, List.flatMap_singleton, DeC_eq, Sp]
    · have hlen : i = l.length := by simp only [decide_eq_false_iff_not] at hb; omega
      subst hlen
      repeat' (first | (simp (disch := first | exact dd | fail) only [go_sem]) | (refine allI (fun b => ?_)) | (refine allT (fun τ => ?_)) | (refine brP (fun h => ?_) (fun h => ?_) <;> (try simp only [zgx, zbx] at h)) | (refine gd ?_) | fail)
      rw [List.take_length, Nat.sub_self, Nat.zero_mul]
      exact ⟨_, _, leVH.self _ _, _, rfl, b, rfl, by simp [Sp]⟩
theorem cppO (p : Ps) (hp : p.op.length ≤ 1000) : NewsE Tryz.prog gl 59 [.agg (PsC p)] 6001 fun r e => ∃ b, r = .agg (PsO p (.msl 6001 4 b 0 p.op.length p.op.length)) ∧ e = .blk b (p.op.flatMap DeC) := by
  refine fn_viewT Tryz.func59 t59 Tryz.ntmps59 (by simp) ?_
  have hc := cpdO p.op hp
  unfold c59 r59
  rw [PsC_eq, DeS_eq]
  repeat' (first | (simp (disch := first | exact dd | fail) only [go_sem]) | (refine allI (fun b => ?_)) | (refine allT (fun τ => ?_)) | (refine brP (fun h => ?_) (fun h => ?_) <;> (try simp only [zgx, zbx] at h)) | (refine gd ?_) | fail)
  first | refine newsE_U (hc) ?_ | refine newsE_T (hc) ?_ | refine newsE_of (hc) ?_
  rintro _ _ ⟨b, rfl, rfl⟩
  repeat' (first | (simp (disch := first | exact dd | fail) only [go_sem]) | (refine allI (fun b => ?_)) | (refine allT (fun τ => ?_)) | (refine brP (fun h => ?_) (fun h => ?_) <;> (try simp only [zgx, zbx] at h)) | (refine gd ?_) | fail)
  exact viewE_end (leV.refl _) sub1 ⟨b, rfl, rfl⟩
theorem callRe {f : FuncId} {args : List LV} {K K' : LV → Heap → Prop} (h : LCalls Tryz.prog gl f args [] K) (hk : ∀ r H1, K r H1 → ∃ r' H2, leV r r' ∧ H1.map Prod.snd = H2.map Prod.snd ∧ K' r' H2) : LCalls Tryz.prog gl f args [] K' :=
  fun w0 M HF w vs hI hv => (h w0 M HF w vs hI hv).mono fun _ _ ⟨M', v, r, H1, h1, h2, h3, h4, h5⟩ => by
    obtain ⟨r', H2, h6, h7, h8⟩ := hk r H1 h5
    exact ⟨M', v, r', H2, h1, h2, h6 M' v h3, h4.names (by rw [List.map_append, List.map_append, h7]), h8⟩
theorem leVH.pubE {x y : LV} {H H' : Heap} (id : Nat) {b : Nat} {cs : List LV} (hH : getH H id = some (.blk b cs)) (ho : (pubV id b cs x).1) (h3 : (pubEnt id b cs (delH H id)).1) (h : leVH gl (pubV id b cs x).2 (pubEnt id b cs (delH H id)).2 y H') : leVH gl x H y H' := fun w0 M HF w v hI hv => by
  obtain ⟨p1, _⟩ := getH_perm hH
  obtain ⟨M', hM, hI', hc⟩ := (hI.perm (p1.append_right HF)).publish
  obtain ⟨M2, hM2, h2, hI2⟩ := h w0 M' HF w v (pubEnt_inv hc hI' h3) (pubV_sound hM hc hv ho)
  exact ⟨M2, hM.trans hM2, h2, hI2⟩
theorem leVH.frame {x y : LV} {H H1 : Heap} (h : leVH gl x H y H1) (R : Heap) : leVH gl x (H ++ R) y (H1 ++ R) := fun w0 M HF w v hI hv => by
  obtain ⟨M', h1, h2, h3⟩ := h w0 M (R ++ HF) w v (by rwa [← List.append_assoc]) hv
  exact ⟨M', h1, h2, by rwa [List.append_assoc]⟩
end Go.Proofs.YtkdblnejpmbnfaaGreat
namespace Go.Proofs.YtkdblnejpmbnfaaGreat
open Go Go.Lx
set_option linter.unusedSimpArgs false
set_option linter.unusedVariables false
set_option maxRecDepth 100000
set_option maxHeartbeats 8000000
theorem pubCs_map (id b : Nat) (cs : List LV) : ∀ xs : List LV, (pubCs id b cs xs).2 = xs.map (fun x => (pubC id b cs x).2) ∧ ((∀ x ∈ xs, (pubC id b cs x).1) → (pubCs id b cs xs).1)
  | [] => ⟨rfl, fun _ => trivial⟩
  | x :: r => by
    obtain ⟨h1, h2⟩ := pubCs_map id b cs r
    refine ⟨by rw [pubCs, h1]; rfl, fun h => ⟨h x (by simp), h2 fun y hy => h y (by simp [hy])⟩⟩
def opM (bo n c : Nat) : LV := .msl 6001 4 bo 0 n c
theorem rowL_pub {ps : List Ps} {i k bo c1 : Nat} {op : List De} (hi : i < ps.length) (hc : op.length ≤ c1) :
    (pubCs 6001 bo (Sp (op.flatMap DeC) ((c1 - op.length) * 4)) (Sp ((rowL ps i (opM bo op.length c1)).flatMap fR) k)).1 ∧ (pubCs 6001 bo (Sp (op.flatMap DeC) ((c1 - op.length) * 4)) (Sp ((rowL ps i (opM bo op.length c1)).flatMap fR) k)).2 = Sp ((rowL ps i (.sl 4 op.length (op.flatMap DeC))).flatMap fR) k := by
  have hl := len_de op
  generalize hcs : Sp (op.flatMap DeC) ((c1 - op.length) * 4) = cs
  have hcl : cs.length = op.length * 4 + (c1 - op.length) * 4 := by rw [← hcs, length_Sp, hl]
  obtain ⟨h1, h2⟩ := pubCs_map 6001 bo cs (Sp ((rowL ps i (opM bo op.length c1)).flatMap fR) k)
  have ho : pubC 6001 bo cs (opM bo op.length c1) = (bo = bo ∧ 0 + op.length * 4 ≤ cs.length ∧ op.length ≤ c1, .sl 4 op.length (op.flatMap DeC)) := by
    rw [opM, pubC, if_pos rfl, List.drop_zero, ← hcs, take_Sp _ hl]
  have hrow : ∀ p o, (fR (p, o)).map (fun x => (pubC 6001 bo cs x).2) = fR (p, (pubC 6001 bo cs o).2) := fun p o => rfl
  have hde : ∀ p : Ps, (pubC 6001 bo cs (DeS p.op)) = (True, DeS p.op) := fun p => rfl
  refine ⟨h2 fun x hx => ?_, ?_⟩
  · rcases List.mem_append.1 hx with hx | hx
    · obtain ⟨⟨p, o⟩, hm, hx⟩ := List.mem_flatMap.1 hx
      have hor : (pubC 6001 bo cs o).1 := by
        rcases List.mem_or_eq_of_mem_set hm with hm | hm
        · obtain ⟨q, _, hq⟩ := List.mem_map.1 hm
          rw [← (Prod.mk.inj hq).2, hde]; trivial
        · rw [(Prod.mk.inj hm).2, ho]
          exact ⟨rfl, by omega, hc⟩
      simp only [fR, PsO, List.mem_cons, List.not_mem_nil, or_false] at hx
      rcases hx with rfl | rfl | rfl | rfl | rfl | rfl | rfl | rfl | rfl | rfl | rfl | rfl | rfl | rfl
      all_goals first
        | exact hor
        | trivial
    · rw [(List.mem_replicate.1 hx).2]; trivial
  · rw [h1, Sp, Sp, List.map_append, List.map_replicate, List.map_flatMap]
    have hm : ∀ l : List (Ps × LV), l.flatMap (fun a => (fR a).map fun x => (pubC 6001 bo cs x).2) = (l.map fun a => (a.1, (pubC 6001 bo cs a.2).2)).flatMap fR := fun l => by
      rw [List.flatMap_map]; rfl
    rw [hm, rowL, List.map_set, List.map_map, rowL, ho]
    rfl
def CpP (l : List Ps) (n : Nat) (r : LV) (H : Heap) : Prop := ∃ b c bo, l.length ≤ c ∧ r = .msl 6000 14 b 0 l.length c ∧ H = [(6000, .blk b (Sp ((rowL l n (opM bo (l.getD n ps0).op.length (l.getD n ps0).op.length)).flatMap fR) ((c - l.length) * 14))), (6001, .blk bo ((l.getD n ps0).op.flatMap DeC))]
theorem cptW (l : List Ps) (n : Nat) (hn : n < l.length) (hl : l.length ≤ 1000 ∧ ∀ p ∈ l, p.op.length ≤ 1000) : LCalls Tryz.prog gl 111 [.sl 14 l.length (l.flatMap PsC), .fn 59] [] (CpP l n) := by
  refine callRe (K := fun r H => ∃ b c bo, l.length ≤ c ∧ r = .msl 13 14 b 0 l.length c ∧ H = [(13, .blk b (Sp ((rowL l n (opM bo (l.getD n ps0).op.length (l.getD n ps0).op.length)).flatMap fR) ((c - l.length) * 14))), (6001, .blk bo ((l.getD n ps0).op.flatMap DeC))]) ?_ fun r H1 ⟨b, c, bo, h0, h1, h2⟩ => ⟨_, _, by subst h1; exact leV.msl_name _ 6000 _ _ _ _ _, by subst h2; rfl, b, c, bo, h0, rfl, rfl⟩
  refine fn_viewT Tryz.func111 t111 Tryz.ntmps111 (by simp) ?_
  obtain ⟨hm, hp⟩ := hl
  have hle := len_ps l
  have hL := fun o => rowL_len l n o
  unfold c111 r111
  repeat' (first | (simp (disch := first | exact dd | fail) only [go_sem]) | (refine allI (fun b => ?_)) | (refine allT (fun τ => ?_)) | (refine brP (fun h => ?_) (fun h => ?_) <;> (try simp only [zgx, zbx] at h)) | (refine gd ?_) | fail)
  · omega
  · refine .inr fun b => ?_
    refine loopI (ι := Nat × Nat × Nat × Nat) (fun y => y.1 ≤ l.length ∧ y.1 ≤ y.2.2.1) (fun y => [(16, .int .i64 y.1), (15, .int .i64 l.length), (14, .sl 14 l.length (l.flatMap PsC)), (5, .msl 13 14 y.2.1 0 y.1 y.2.2.1), (1, .fn 59)]) (fun y => [(13, .blk y.2.1 (Sp (((rowL l n (opM y.2.2.2 (l.getD n ps0).op.length (l.getD n ps0).op.length)).take y.1).flatMap fR) ((y.2.2.1 - y.1) * 14))), (6001, .blk y.2.2.2 (if y.1 ≤ n then [] else (l.getD n ps0).op.flatMap DeC))]) (fun y => l.length - y.1) (0, b, l.length, 0) (by simp) ?_ ?_
    · refine Ents.emp 6001 (Ents.heap [(13, .blk b _), (6001, .blk 0 [])] (by simp [go_sem]) ⟨_, List.Sublist.refl _, List.Perm.swap _ _ _⟩ ⟨⟨rfl, leVs_any (by simp [zeros, Sp])⟩, ⟨rfl, by simp [leVs]⟩, trivial⟩)
    rintro ⟨i, b', c, bo⟩ ⟨h1, h2⟩
    dsimp only at h1 h2 ⊢
    have htl : (((rowL l n (opM bo (l.getD n ps0).op.length (l.getD n ps0).op.length)).take i).flatMap fR).length = i * 14 := by rw [len_fR, List.length_take, hL, Nat.min_eq_left h1]
    simp (disch := first | exact dd | fail) only [go_sem]
    refine brP (fun hb => ?_) (fun hb => ?_)
    · have hlt : i < l.length := by simpa using hb
      have e2 : ((l.flatMap PsC).drop (i * 14)).take 14 = PsC (l.getD i ps0) := take_rows (f := PsC) (fun _ => rfl) ps0 _ hlt
      have hts := fun o => take_succ_getD (ps0, .any) (rowL l n o) (i := i) (by rw [hL]; exact hlt)
      have hpp := hp _ (getD_memA ps0 hlt)
      by_cases hin : i = n
      · subst hin
        have hc := cppO (l.getD i ps0) hpp
        have hat := fun o => rowL_at (o := o) hlt
        have htk := fun o o' => rowL_take l (k := i) o o' (Nat.le_refl i)
        rw [if_pos (Nat.le_refl _)]
        generalize l.getD i ps0 = x at *
        rw [PsC_eq] at e2 hc
        repeat' (first | (simp (disch := first | exact dd | fail) only [go_sem, e2, zPs]) | (refine allI (fun b => ?_)) | (refine allT (fun τ => ?_)) | (refine brP (fun h => ?_) (fun h => ?_) <;> (try simp only [zgx, zbx] at h)) | (refine gd ?_) | fail)
        refine ⟨by kernel_rfl, ?_⟩
        first | refine newsE_U (hc) ?_ | refine newsE_T (hc) ?_ | refine newsE_of (hc) ?_
        rintro _ _ ⟨bo2, rfl, rfl⟩
        rw [PsO_eq]
        repeat' (first | (simp (disch := first | exact dd | fail) only [go_sem, zPs]) | (refine allI (fun b => ?_)) | (refine allT (fun τ => ?_)) | (refine brP (fun h => ?_) (fun h => ?_) <;> (try simp only [zgx, zbx] at h)) | (refine gd ?_) | fail)
        refine .inl ⟨by rw [length_Sp, htl]; omega, by rw [length_Sp, htl]; omega, by simp only [roomy]; omega, fun b2 c2 h3 => ?_⟩
        rw [take_Sp _ htl]
        refine ⟨⟨(i + 1, b2, c2, bo2), by dsimp only; omega⟩, by dsimp only; omega, Ents.sub (by simp [go_sem]) ⟨_, List.Sublist.cons_cons _ (List.Sublist.cons_cons _ (List.nil_sublist _)), List.Perm.of_eq ?_⟩⟩
        dsimp only
        rw [hts, hat, htk (opM bo2 x.op.length x.op.length) (opM bo x.op.length x.op.length), List.flatMap_append, List.flatMap_singleton, fR, PsO_eq, Sp, if_neg (by omega)]
        rfl
      · have hc := cpp (l.getD i ps0) (by omega)
        have hat := fun o => rowL_ne (o := o) hlt hin
        rw [show (if i ≤ n then [] else (l.getD n ps0).op.flatMap DeC) = (if i + 1 ≤ n then [] else (l.getD n ps0).op.flatMap DeC) by split <;> split <;> first | rfl | omega]
        generalize l.getD i ps0 = x at *
        rw [PsC_eq] at e2 hc
        repeat' (first | (simp (disch := first | exact dd | fail) only [go_sem, e2, zPs]) | (refine allI (fun b => ?_)) | (refine allT (fun τ => ?_)) | (refine brP (fun h => ?_) (fun h => ?_) <;> (try simp only [zgx, zbx] at h)) | (refine gd ?_) | fail)
        refine ⟨by kernel_rfl, ?_⟩
        first | refine call_U (hc) ?_ | refine call_T (hc) ?_ | refine call_N (hc) ?_ | refine call_of (hc) ?_
        repeat' (first | (simp (disch := first | exact dd | fail) only [go_sem, zPs]) | (refine allI (fun b => ?_)) | (refine allT (fun τ => ?_)) | (refine brP (fun h => ?_) (fun h => ?_) <;> (try simp only [zgx, zbx] at h)) | (refine gd ?_) | fail)
        refine .inl ⟨by rw [length_Sp, htl]; omega, by rw [length_Sp, htl]; omega, by simp only [roomy]; omega, fun b2 c2 h3 => ?_⟩
        rw [take_Sp _ htl]
        refine ⟨⟨(i + 1, b2, c2, bo), by dsimp only; omega⟩, by dsimp only; omega, Ents.sub (by simp [go_sem]) ⟨_, List.Sublist.cons_cons _ (List.Sublist.cons _ (List.Sublist.refl _)), List.Perm.of_eq ?_⟩⟩
        dsimp only
        rw [hts, hat, List.flatMap_append, List.flatMap_singleton, fR, PsO_eq, Sp]
    · have hlen : i = l.length := by simp only [decide_eq_false_iff_not] at hb; omega
      subst hlen
      repeat' (first | (simp (disch := first | exact dd | fail) only [go_sem]) | (refine allI (fun b => ?_)) | (refine allT (fun τ => ?_)) | (refine brP (fun h => ?_) (fun h => ?_) <;> (try simp only [zgx, zbx] at h)) | (refine gd ?_) | fail)
      rw [List.take_of_length_le (by rw [hL]; exact Nat.le_refl _), if_neg (by omega)]
      exact ⟨_, _, leVH.self _ _, b', c, bo, h2, rfl, rfl⟩
def ChW (bt : Nat) (t : Tb) (i : Nat) (l : List De) (b c bo c1 : Nat) : Heap := [(3, .blk bt [.int .i64 t.nx, .int .i64 t.ns, .msl 6000 14 b 0 t.ps.length c]), (6000, .blk b (Sp ((rowL t.ps i (opM bo l.length c1)).flatMap fR) ((c - t.ps.length) * 14))), (6001, .blk bo (Sp (l.flatMap DeC) ((c1 - l.length) * 4)))]
theorem ctabW (t : Tb) (n : Nat) (hn : n < t.ps.length) (ht : t.ps.length ≤ 1000 ∧ ∀ p ∈ t.ps, p.op.length ≤ 1000) : LCalls Tryz.prog gl 70 [TbL t] [] fun r H => ∃ b c bo, t.ps.length ≤ c ∧ r = .agg [.int .i64 t.nx, .int .i64 t.ns, .msl 6000 14 b 0 t.ps.length c] ∧ H = [(6000, .blk b (Sp ((rowL t.ps n (opM bo (t.ps.getD n ps0).op.length (t.ps.getD n ps0).op.length)).flatMap fR) ((c - t.ps.length) * 14))), (6001, .blk bo ((t.ps.getD n ps0).op.flatMap DeC))] := by
  refine fn_viewT Tryz.func70 t70 Tryz.ntmps70 (by simp) ?_
  have hc := cptW t.ps n hn ht
  unfold c70 r70
  rw [TbL_eq]
  repeat' (first | (simp (disch := first | exact dd | fail) only [go_sem]) | (refine allI (fun b => ?_)) | (refine allT (fun τ => ?_)) | (refine brP (fun h => ?_) (fun h => ?_) <;> (try simp only [zgx, zbx] at h)) | (refine gd ?_) | fail)
  first | refine newsQ_U (hc) ?_ | refine newsQ_T (hc) ?_ | refine newsQ_of (hc) ?_
  rintro _ _ ⟨b, c, bo, hbc, rfl, rfl⟩
  simp only [List.cons_append, List.nil_append]
  repeat' (first | (simp (disch := first | exact dd | fail) only [go_sem]) | (refine allI (fun b => ?_)) | (refine allT (fun τ => ?_)) | (refine brP (fun h => ?_) (fun h => ?_) <;> (try simp only [zgx, zbx] at h)) | (refine gd ?_) | fail)
  exact ⟨_, _, leVH.of (leV.refl _) ⟨_, List.Sublist.cons_cons _ (List.Sublist.cons_cons _ (List.nil_sublist _)), List.Perm.refl _⟩, b, c, bo, hbc, rfl, rfl⟩
def ClW (f : Nat) (caps : List LV) (Hc Hc' : Heap) (t : Tb) (i : Nat) (g : Int × List De) : Prop := ∀ bt b c bo, t.ps.length ≤ c →
  LCalls Tryz.prog gl f ([.ptr 3 bt 0, .ptr 6000 b (i * 14)] ++ caps) (ChW bt t i (t.ps.getD i ps0).op b c bo (t.ps.getD i ps0).op.length ++ Hc) fun v H => ∃ bo' c', g.2.length ≤ c' ∧ v = .int .i64 g.1 ∧ H = ChW bt t i g.2 b c bo' c' ++ Hc'
def chW (t : Tb) (i : Nat) (g : Int × List De) : Int × Tb := if g.1 ≠ 0 then (g.1, tb0) else (0, setP t i { t.ps.getD i ps0 with op := g.2 })
theorem changeW (t : Tb) (pid : Int) (i : Nat) (hi : i < t.ps.length) (hf : findI t pid = i) (ht : t.ps.length ≤ 1000 ∧ ∀ p ∈ t.ps, p.op.length ≤ 1000) (f : Nat) (caps : List LV) (Hc Hc' : Heap) (g : Int × List De) (hok : okF Tryz.prog f = true) (hg : ClW f caps Hc Hc' t i g) :
    LCalls Tryz.prog gl 23 [TbL t, .int .i64 pid, .clo f caps] Hc fun v H => v = .tup [TbL (chW t i g).2, .int .i64 (chW t i g).1] ∧ H = Hc' := by
  refine fn_viewT Tryz.func23 t23 Tryz.ntmps23 (by simp) ?_
  have hF := find t pid (by omega)
  have hc := ctabW t i hi ht
  have hR : chW t i g = if g.1 ≠ 0 then (g.1, tb0) else (0, setP t i { t.ps.getD i ps0 with op := g.2 }) := rfl
  rw [hf] at hF
  unfold c23 r23
  rw [TbL_eq t] at *
  repeat' (first | (simp (disch := first | exact dd | fail) only [go_sem]) | (refine allI (fun b => ?_)) | (refine allT (fun τ => ?_)) | (refine brP (fun h => ?_) (fun h => ?_) <;> (try simp only [zgx, zbx] at h)) | refine call_U (hF) ?_ | refine callG_U (fun _ => hF) ?_ | refine call_T (hF) ?_ | refine callG_T (fun _ => hF) ?_ | refine call_N (hF) ?_ | refine call_of (hF) ?_ | refine callG_of (fun _ => hF) ?_ | (refine gd ?_) | fail)
  · omega
  first | refine newsQ_U (hc) ?_ | refine newsQ_T (hc) ?_ | refine newsQ_of (hc) ?_
  rintro _ _ ⟨b, c, bo, hbc, rfl, rfl⟩
  simp only [List.cons_append, List.nil_append]
  repeat' (first | (simp (disch := first | exact dd | fail) only [go_sem]) | (refine allI (fun b => ?_)) | (refine allT (fun τ => ?_)) | (refine brP (fun h => ?_) (fun h => ?_) <;> (try simp only [zgx, zbx] at h)) | (refine gd ?_) | fail)
  rename_i b6 b3
  have hg' := hg b6 b c bo hbc
  rw [ChW, Nat.sub_self, Nat.zero_mul, show Sp ((t.ps.getD i ps0).op.flatMap DeC) 0 = (t.ps.getD i ps0).op.flatMap DeC by simp [Sp]] at hg'
  refine actsP_U (H2 := [(6, _)]) hg' (pick_perm rfl (pick_perm rfl (pick_perm rfl (List.perm_append_comm (l₁ := [(6, _)]) (l₂ := Hc))))) ?_
  rintro _ _ ⟨bo', c', h2, rfl, rfl⟩
  obtain ⟨e, q⟩ := g
  dsimp only at hR h2 ⊢
  rw [ChW]
  simp only [List.cons_append, List.nil_append]
  repeat' (first | (simp (disch := first | exact dd | fail) only [go_sem]) | (refine allI (fun b => ?_)) | (refine allT (fun τ => ?_)) | (refine brP (fun h => ?_) (fun h => ?_) <;> (try simp only [zgx, zbx] at h)) | (refine gd ?_) | fail)
  · rw [if_pos h] at hR
    rw [hR]
    exact ⟨.tup [TbL tb0, .int .i64 e], Hc', leVH.of (leV.tup ⟨tb0_le, leV.refl _, trivial⟩) ⟨_, List.Sublist.cons _ (List.Sublist.cons _ (List.Sublist.cons _ (List.Sublist.cons _ (List.Sublist.refl _)))), List.Perm.refl _⟩, rfl, rfl⟩
  · rw [if_neg (by simpa using h)] at hR
    rw [hR]
    refine ⟨.tup [TbL (setP t i { t.ps.getD i ps0 with op := q }), .int .i64 0], Hc', leVH.trans (leVH.of (leV.refl _) ⟨_, List.Sublist.cons _ (List.Sublist.cons _ (List.Sublist.refl _)), List.Perm.refl _⟩) (leVH.frame (H := [(6000, _), (6001, _)]) (H1 := []) ?_ Hc'), rfl, rfl⟩
    obtain ⟨p1, p2⟩ := rowL_pub (ps := t.ps) (i := i) (k := (c - t.ps.length) * 14) (bo := bo') (op := q) hi h2
    refine leVH.pubE 6001 rfl (by simp [go_sem]) (by exact ⟨p1, trivial⟩) ?_
    show leVH gl _ [(6000, .blk b (pubCs 6001 bo' _ _).2)] _ _
    rw [p2]
    have hl2 := len_fR (rowL t.ps i (.sl 4 q.length (q.flatMap DeC)))
    rw [rowL_len] at hl2
    refine leVH.pub 6000 rfl (by simp [go_sem, length_Sp, hl2]; omega) (leVH.of ?_ ⟨_, List.Sublist.refl _, List.Perm.refl _⟩)
    simp only [go_sem]
    rw [take_Sp _ hl2, setP, TbL_eq]
    refine leV.tup ⟨leV.agg ⟨leV.refl _, leV.refl _, ?_, trivial⟩, leV.refl _, trivial⟩
    dsimp only
    rw [List.length_set]
    exact leV.sl (rowL_le t.ps i _ _ hi ⟨leV.refl _, leV.refl _, leV.refl _, leV.refl _, leV.refl _, leV.refl _, leV.refl _, leV.refl _, leV.refl _, leV.refl _, leV.refl _, leV.refl _, leV.refl _, leV.refl _, trivial⟩)
end Go.Proofs.YtkdblnejpmbnfaaGreat
