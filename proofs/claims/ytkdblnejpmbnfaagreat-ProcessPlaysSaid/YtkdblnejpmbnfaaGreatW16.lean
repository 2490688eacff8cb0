/- Layer 5, plain: the sizes and the shape of files are kept. -/
import Derived.Test.YtkdblnejpmbnfaaGreatW15
namespace Go.Proofs.YtkdblnejpmbnfaaGreat.F
open Go Go.Lx
set_option linter.unusedSimpArgs false
set_option linter.unusedVariables false
structure DI (p q : Nat) (D : Dv) : Prop where
  nx : 2 ≤ D.nx ∧ D.nx ≤ 1073741824
  len : D.ns.length ≤ p
  nod : ∀ n ∈ D.ns, n.es.length ≤ q ∧ n.par < D.nx ∧ n.ino < D.nx ∧ ∀ e ∈ n.es, e.nm.length ≤ 12
  lu : ∀ x, ∃ j, LU (fnd D.ns) j x
  tg : ∀ n ∈ D.ns, n.tg.length ≤ 1000
theorem DI.mono {p q p' q' : Nat} {D : Dv} (h : DI p q D) (h1 : p ≤ p') (h2 : q ≤ q') : DI p' q' D := ⟨h.nx, by have := h.len; omega, fun n hn => by obtain ⟨a, b, c, d⟩ := h.nod n hn; exact ⟨by omega, b, c, d⟩, h.lu, h.tg⟩
theorem nAt_mem {ns : List No} {k : Nat} (h : k < ns.length) : nAt ns k ∈ ns := getD_memA no0 h
theorem fnd_k {ns : List No} {i : Int} {k : Nat} (h : ixI ns i = (k : Nat)) : k < ns.length ∧ fnd ns i = some (nAt ns k) ∧ (nAt ns k).ino = i := by
  rcases fnd_ix ns i with ⟨h1, _⟩ | ⟨j, h1, h2, h3, h4, _⟩
  · rw [h1] at h; omega
  · obtain rfl : j = k := by omega
    exact ⟨h1, h3, h4⟩
theorem fnd_setEs {ns : List No} {i : Int} {k : Nat} {es : List En} (h : ixI ns i = (k : Nat)) (y : Int) : fnd (setEs ns k es) y = if y = i then some { nAt ns k with es := es } else fnd ns y :=
  fnd_set (n' := { nAt ns k with es := es }) h (fnd_k h).1 (by exact (fnd_k h).2.2) y
theorem DI.es {p q : Nat} {D : Dv} (h : DI p q D) {i ino : Int} {k : Nat} {s : List UInt8} {es : List En} (hk : ixI D.ns i = (k : Nat)) (hR : EnR s ino (nAt D.ns k).es es) (hs : s.length ≤ 12) : DI p (q + 1) ⟨D.nx, setEs D.ns k es⟩ := by
  obtain ⟨hkl, hf, hi⟩ := fnd_k hk
  obtain ⟨a1, a2, a3, a4⟩ := h.nod _ (nAt_mem hkl)
  refine ⟨h.nx, by rw [setEs_len]; exact h.len, fun n hn => ?_, fun x => ?_, fun n hn => (List.mem_or_eq_of_mem_set hn).elim (h.tg n) fun e => by rw [e]; exact h.tg (nAt D.ns k) (nAt_mem hkl)⟩
  · rcases List.mem_or_eq_of_mem_set hn with hn | rfl
    · obtain ⟨b1, b2, b3, b4⟩ := h.nod n hn
      exact ⟨by omega, b2, b3, b4⟩
    · refine ⟨by have := hR.1; dsimp only; omega, a2, a3, fun e he => ?_⟩
      rcases hR.2 e he with h2 | rfl
      · exact a4 e h2
      · exact hs
  · obtain ⟨j, hj⟩ := h.lu x
    refine hj.mono fun y n' hn hk' => ?_
    rw [fnd_setEs hk] at hn
    split at hn
    · rename_i e
      cases hn
      exact ⟨nAt D.ns k, by rw [e]; exact hf, hk', rfl⟩
    · exact ⟨n', hn, hk', rfl⟩
theorem DI.drop {p q : Nat} {D : Dv} (h : DI p q D) {i : Int} {ns : List No} (hn : ns = D.ns ∨ ns = D.ns.filter (keepN i)) : DI p q ⟨D.nx, ns⟩ := by
  rcases hn with rfl | rfl
  · exact h
  · refine ⟨h.nx, Nat.le_trans (List.length_filter_le _ _) h.len, fun n hn => h.nod n (List.mem_filter.1 hn).1, fun x => ?_, fun n hn => h.tg n (List.mem_filter.1 hn).1⟩
    obtain ⟨j, hj⟩ := h.lu x
    refine hj.mono fun y n' hn hk' => ?_
    dsimp only at hn
    rw [fnd_filter] at hn
    split at hn
    · cases hn
    · exact ⟨n', hn, hk', rfl⟩
theorem DI.make {p q : Nat} {D : Dv} (h : DI p q D) {n : No} (hx : D.nx < 1073741824) (h1 : n.ino = D.nx) (h2 : n.par < D.nx) (h3 : n.es = []) (h4 : n.tg.length ≤ 1000) : DI (p + 1) q ⟨D.nx + 1, D.ns ++ [n]⟩ := by
  have hnx := h.nx
  refine ⟨by dsimp only; omega, by have := h.len; simp; omega, fun m hm => ?_, fun x => ?_, fun m hm => (List.mem_append.1 hm).elim (h.tg m) fun e => by rw [List.mem_singleton] at e; rw [e]; exact h4⟩
  · simp only [List.mem_append, List.mem_singleton] at hm
    rcases hm with hm | rfl
    · obtain ⟨a1, a2, a3, a4⟩ := h.nod m hm
      exact ⟨a1, by dsimp only; omega, by dsimp only; omega, a4⟩
    · rw [h3]; exact ⟨by simp, by dsimp only; omega, by dsimp only; omega, by simp⟩
  · have hold : ∀ y, y < D.nx → fnd (D.ns ++ [n]) y = fnd D.ns y := fun y hy => by
      rw [fnd_app, if_neg (by omega), Option.or_none]
    have key : ∀ j y, LU (fnd D.ns) j y → y < D.nx → LU (fnd (D.ns ++ [n])) j y := by
      intro j y hj
      induction hj with
      | top y hy => intro hlt; exact .top y (by rw [hold y hlt]; exact hy)
      | up y m k hg hk hy1 _ ih =>
        intro hlt
        exact .up y m k (by rw [hold y hlt]; exact hg) hk hy1 (ih (h.nod m (fnd_mem hg).1).2.1)
    have hnone : ∀ y, D.nx ≤ y → fnd D.ns y = none := fun y hy => by
      cases hf : fnd D.ns y with
      | none => rfl
      | some m =>
        obtain ⟨m1, m2⟩ := fnd_mem hf
        have := (h.nod m m1).2.2.1
        omega
    by_cases hlt : x < D.nx
    · obtain ⟨j, hj⟩ := h.lu x
      exact ⟨j, key j x hj hlt⟩
    · by_cases he : x = D.nx
      · by_cases hk : n.kind = 2 ∧ x ≠ 1
        · obtain ⟨j, hj⟩ := h.lu n.par
          refine ⟨j + 1, .up x n j ?_ hk.1 hk.2 (key j _ hj h2)⟩
          dsimp only
          rw [fnd_app, hnone x (by omega), if_pos (by omega)]; rfl
        · refine ⟨0, .top x (.inr fun m hm => ?_)⟩
          dsimp only at hm
          rw [fnd_app, hnone x (by omega), if_pos (by omega)] at hm
          cases hm
          exact fun hk' => hk ⟨hk', by omega⟩
      · refine ⟨0, .top x (.inr fun m hm => ?_)⟩
        dsimp only at hm
        rw [fnd_app, hnone x (by omega), if_neg (by omega)] at hm
        cases hm
def SP (g g' : Int → Option No) : Prop := ∀ x n', g' x = some n' → ∃ n, g x = some n ∧ n.kind = n'.kind ∧ n.par = n'.par
theorem SP.refl (g : Int → Option No) : SP g g := fun _ n h => ⟨n, h, rfl, rfl⟩
theorem SP.trans {g g' g'' : Int → Option No} (h : SP g g') (h' : SP g' g'') : SP g g'' := fun x n hn => by
  obtain ⟨m, h1, h2, h3⟩ := h' x n hn
  obtain ⟨l, h4, h5, h6⟩ := h x m h1
  exact ⟨l, h4, by rw [h5, h2], by rw [h6, h3]⟩
theorem SP.es {ns : List No} {i : Int} {k : Nat} {es : List En} (hk : ixI ns i = (k : Nat)) : SP (fnd ns) (fnd (setEs ns k es)) := fun x n' hn => by
  rw [fnd_setEs hk] at hn
  split at hn
  · rename_i e
    cases hn
    exact ⟨nAt ns k, by rw [e]; exact (fnd_k hk).2.1, rfl, rfl⟩
  · exact ⟨n', hn, rfl, rfl⟩
theorem SP.drop {ns ns' : List No} {i : Int} (hn : ns' = ns ∨ ns' = ns.filter (keepN i)) : SP (fnd ns) (fnd ns') := by
  rcases hn with rfl | rfl
  · exact SP.refl _
  · intro x n' hn
    rw [fnd_filter] at hn
    split at hn
    · cases hn
    · exact ⟨n', hn, rfl, rfl⟩
def setPar (ns : List No) (k : Nat) (to : Int) : List No := ns.set k { nAt ns k with par := to }
theorem DI.ren {p q p' q' : Nat} {D D2 : Dv} (h : DI p q D) (h2 : DI p' q' D2) (hs : SP (fnd D.ns) (fnd D2.ns)) {at_ to : Int} {k : Nat} (hk : ixI D2.ns at_ = (k : Nat)) (hto : to < D2.nx) (hp : p ≤ 16) (hno : ∀ j, j ≤ 16 → parN (fnd D.ns) j to ≠ at_) : DI p' q' ⟨D2.nx, setPar D2.ns k to⟩ := by
  obtain ⟨hkl, hf, hi⟩ := fnd_k hk
  obtain ⟨a1, a2, a3, a4⟩ := h2.nod _ (nAt_mem hkl)
  refine ⟨h2.nx, by simp only [setPar, List.length_set]; exact h2.len, fun n hn => ?_, fun x => ?_, fun n hn => (List.mem_or_eq_of_mem_set hn).elim (h2.tg n) fun e => by rw [e]; exact h2.tg (nAt D2.ns k) (nAt_mem hkl)⟩
  · rcases List.mem_or_eq_of_mem_set hn with hn | rfl
    · exact h2.nod n hn
    · exact ⟨a1, hto, a3, a4⟩
  · obtain ⟨j, hj⟩ := h.lu to
    have hjl := hj.le
    have hlen := h.len
    obtain ⟨m, hm, hmk, _⟩ := hs at_ _ hf
    have hmv := LU.move (g := fnd D.ns) (g' := fun x => if x = at_ then some { m with par := to } else fnd D.ns x) (at_ := at_) (to := to) (fun x hx => if_neg hx) (fun n' hn => by rw [if_pos rfl] at hn; cases hn; rfl) hj (fun i hi => hno i (by omega)) h.lu x
    obtain ⟨j', hj'⟩ := hmv
    refine hj'.mono fun y n' hn hk' => ?_
    dsimp only at hn
    rw [setPar, fnd_set hk hkl (by exact hi)] at hn
    split at hn
    · rename_i e
      cases hn
      exact ⟨_, if_pos e, by dsimp only at hk' ⊢; rw [hmk]; exact hk', rfl⟩
    · rename_i e
      obtain ⟨m2, b1, b2, b3⟩ := hs y n' hn
      exact ⟨m2, by rw [if_neg e]; exact b1, by rw [b2]; exact hk', b3⟩
theorem DI.at {p q : Nat} {D : Dv} (h : DI p q D) {i : Int} {k : Nat} {n : No} (hk : ixI D.ns i = (k : Nat)) (h1 : n.ino = i) (h2 : n.kind = (nAt D.ns k).kind) (h3 : n.par = (nAt D.ns k).par) (h4 : n.es = (nAt D.ns k).es) (h5 : n.tg = (nAt D.ns k).tg) : DI p q ⟨D.nx, D.ns.set k n⟩ := by
  obtain ⟨hkl, hf, hi⟩ := fnd_k hk
  obtain ⟨a1, a2, a3, a4⟩ := h.nod _ (nAt_mem hkl)
  refine ⟨h.nx, by rw [List.length_set]; exact h.len, fun m hm => ?_, fun x => ?_, fun m hm => (List.mem_or_eq_of_mem_set hm).elim (h.tg m) fun e => by rw [e, h5]; exact h.tg _ (nAt_mem hkl)⟩
  · rcases List.mem_or_eq_of_mem_set hm with hm | rfl
    · exact h.nod m hm
    · exact ⟨by rw [h4]; exact a1, by rw [h3]; exact a2, by rw [h1, ← hi]; exact a3, by rw [h4]; exact a4⟩
  · obtain ⟨j, hj⟩ := h.lu x
    refine hj.mono fun y n' hn hk' => ?_
    dsimp only at hn
    rw [fnd_set hk hkl h1] at hn
    split at hn
    · rename_i e
      cases hn
      exact ⟨_, e ▸ hf, by rw [← h2]; exact hk', h3.symm⟩
    · exact ⟨n', hn, hk', rfl⟩
structure FI (p q : Nat) (fs : List Dv) : Prop where
  len : 1 ≤ fs.length ∧ fs.length ≤ 3
  dev : ∀ d ∈ fs, DI p q d
theorem FI.mono {p q p' q' : Nat} {fs : List Dv} (h : FI p q fs) (h1 : p ≤ p') (h2 : q ≤ q') : FI p' q' fs := ⟨h.len, fun d hd => (h.dev d hd).mono h1 h2⟩
theorem FI.ok {p q : Nat} {fs : List Dv} (h : FI p q fs) (hp : p ≤ 1000) (hq : q ≤ 1000) : okF fs := by
  refine ⟨by have := h.len; omega, fun d hd => ?_⟩
  have hd := h.dev d hd
  exact ⟨by have := hd.len; omega, fun n hn => by have := (hd.nod n hn).1; omega⟩
theorem FI.set {p q : Nat} {fs : List Dv} (h : FI p q fs) {dv : Nat} {D : Dv} (hd : DI p q D) : FI p q (setD fs dv D) := by
  refine ⟨by rw [setD, List.length_set]; exact h.len, fun d hm => ?_⟩
  rcases List.mem_or_eq_of_mem_set hm with hm | rfl
  · exact h.dev d hm
  · exact hd
theorem FI.at {p q : Nat} {fs : List Dv} (h : FI p q fs) {dv : Nat} (hd : dv < fs.length) : DI p q (fs.getD dv dv0) := h.dev _ (getD_memA dv0 hd)
theorem setD_len (fs : List Dv) (dv : Nat) (D : Dv) : (setD fs dv D).length = fs.length := List.length_set
theorem setD_get {fs : List Dv} {dv : Nat} {D : Dv} (h : dv < fs.length) : (setD fs dv D).getD dv dv0 = D := getD_set h
theorem setD_set (fs : List Dv) (dv : Nat) (D D' : Dv) : setD (setD fs dv D) dv D' = setD fs dv D' := List.set_set ..
end Go.Proofs.YtkdblnejpmbnfaaGreat.F
namespace Go.Proofs.YtkdblnejpmbnfaaGreat.F
open Go Go.Lx
set_option linter.unusedSimpArgs false
set_option linter.unusedVariables false
set_option maxRecDepth 100000
set_option maxHeartbeats 8000000
theorem leVH.pubFo {fs : List Dv} {dv b c b1 c1 : Nat} {rest : List LV} {y : LV} {H' : Heap} (h : dv < fs.length) (hc : fs.length ≤ c) (hc1 : (fs.getD dv dv0).ns.length ≤ c1) (hk : leVH gl (.tup (FiL fs :: rest)) [] y H') : leVH gl (.tup (FoV b fs.length c :: rest)) (FoH fs dv b c b1 c1) y H' := by
  intro w0 M HF w v hI hv
  have hld := len_dv fs
  obtain ⟨M1, hM1, hI1, hc1'⟩ := (hI.perm (List.Perm.swap _ _ _)).publish
  have hX : dv * 2 + 1 < (fs.flatMap DvC).length := by omega
  have hI2 : Inv gl w0 M1 ((7000, .blk b (Sp (fs.flatMap DvC) ((c - fs.length) * 2))) :: HF) w := hI1.weaken fun k c' hk' => by
    by_cases hkk : k < (fs.flatMap DvC).length
    · rw [Sp, List.getElem?_append_left hkk] at hk'
      rw [Sp, List.getElem?_append_left (by rw [FoC_len _ h]; omega), FoC, putC_set _ hX, List.getElem?_set]
      split
      · rename_i e
        subst e
        refine ⟨_, rfl, fun v hv => ?_⟩
        have hS := len_no (fs.getD dv dv0).ns
        have hp := pubC_sound (id := 7001) (cs := Sp ((fs.getD dv dv0).ns.flatMap NoC) ((c1 - (fs.getD dv dv0).ns.length) * 8)) (MLe.refl M1) hc1' hv (by simp only [pubC, if_true, length_Sp, hS]; exact ⟨trivial, by omega, hc1⟩)
        have e2 : c' = .sl 8 (fs.getD dv dv0).ns.length ((fs.getD dv dv0).ns.flatMap NoC) := by
          have := getD_rows (f := DvC) (w := 2) (fun _ => rfl) (j := 1) (by omega) dv0 fs dv h
          rw [List.getD_eq_getElem?_getD, hk'] at this
          exact this
        rw [e2]
        have e3 : (pubC 7001 b1 (Sp ((fs.getD dv dv0).ns.flatMap NoC) ((c1 - (fs.getD dv dv0).ns.length) * 8)) (.msl 7001 8 b1 0 (fs.getD dv dv0).ns.length c1)).2 = .sl 8 (fs.getD dv dv0).ns.length ((fs.getD dv dv0).ns.flatMap NoC) := by
          simp only [pubC, if_true, List.drop_zero, Sp, ← hS, List.take_left]
        rwa [e3] at hp
      · exact ⟨c', hk', fun v hv => hv⟩
    · refine ⟨c', ?_, fun v hv => hv⟩
      rw [← hk', Sp, Sp, List.getElem?_append_right (by rw [FoC_len _ h]; omega), List.getElem?_append_right (by omega), FoC_len _ h, hld]
  obtain ⟨M2, hM2, hI3, hc2⟩ := hI2.publish
  simp only [RV, RVs] at hv
  obtain ⟨vs, rfl, u, us, rfl, h1, h2⟩ := hv
  have h3 := pubA_sound (id := 7000) (x := FoV b fs.length c) hM2 hc2 (RV.mono hM1 _ _ h1) (by simp [FoV, pubA, pubCs, pubC, length_Sp, hld]; omega)
  have e4 : (pubA 7000 b (Sp (fs.flatMap DvC) ((c - fs.length) * 2)) (FoV b fs.length c)).2 = FiL fs := by
    simp [FoV, pubA, pubCs, pubC, Sp, ← hld, FiL]
  rw [e4] at h3
  obtain ⟨M3, hM3, h5, h6⟩ := hk w0 M2 HF w _ hI3 (show RV M2 (.tup (FiL fs :: rest)) _ by simp only [RV, RVs]; exact ⟨_, rfl, u, us, rfl, h3, RVs.mono (hM1.trans hM2) _ _ h2⟩)
  exact ⟨M3, (hM1.trans hM2).trans hM3, h5, h6⟩
theorem LCalls.hle {f : FuncId} {args : List LV} {H H' : Heap} {K : LV → Heap → Prop} (hl : heapLe H H') (h : LCalls Tryz.prog gl f args H' K) : LCalls Tryz.prog gl f args H K :=
  fun w0 M HF w vs hI hv => h w0 M HF w vs (hl.inv hI) hv
theorem ixI_app {ns : List No} {i : Int} {k : Nat} (n : No) (h : ixI ns i = (k : Nat)) : ixI (ns ++ [n]) i = (k : Nat) := by
  rcases ixI_cases ns i with ⟨h1, _⟩ | ⟨j, h1, h2, h3, h4⟩
  · omega
  · obtain rfl : j = k := by omega
    have hA : ∀ m, m < ns.length → nAt (ns ++ [n]) m = nAt ns m := fun m hm => by simp [nAt, List.getD, List.getElem?_append_left hm]
    exact firstI_is (by simp; omega) (by rw [ixP, hA j h1]; simpa using h3) fun m hm => by rw [ixP, hA m (by omega)]; simpa using h4 m hm
structure FR where
  fs : List Dv
  ch : List Ch
  e : Int
def FRL (r : FR) : LV := .tup [FiL r.fs, ChS r.ch, .int .i64 r.e]
theorem FRL_eq (r : FR) : FRL r = .tup [FiL r.fs, ChS r.ch, .int .i64 r.e] := Eq.trans rfl rfl
theorem FR_err {e : Int} : leV (.tup [.agg [.fsl 1 0 []], .fsl 1 0 [], .int .i64 e]) (FRL ⟨[], [], e⟩) := leV.tup ⟨leV.agg ⟨leV.nil_sl _ _, trivial⟩, leV.nil_sl _ _, leV.refl _, trivial⟩
theorem dirB_at {fs : List Dv} {x : At} (h : dirB fs x = true) : ∃ dv k : Nat, x.d = dv ∧ dv < fs.length ∧ idx fs x = (k : Nat) ∧ k < (fs.getD dv dv0).ns.length ∧ ixI (fs.getD dv dv0).ns x.i = (k : Nat) ∧ (nAt (fs.getD dv dv0).ns k).kind = 2 ∧ (nAt (fs.getD dv dv0).ns k).ino = x.i := by
  rcases idx_cases fs x with h1 | ⟨⟨h0, h1⟩, i, h2, h3, h4⟩
  · simp [dirB, nodeR, h1] at h
  · have hI := h3
    rw [idx, if_neg (by omega)] at hI
    refine ⟨x.d.toNat, i, by omega, by omega, h3, h2, hI, ?_, h4⟩
    rw [dirB, nodeR, h3, if_neg (by omega), Int.toNat_natCast] at h
    simp only [Bool.true_and, beq_iff_eq, dAt] at h
    exact h
theorem fo_end {fs : List Dv} {dv b m c b1 c1 : Nat} {cv : LV} {ch : List Ch} {e : Int} {H : Heap} {Q : FR → Prop} (hm : fs.length = m) (h : dv < fs.length) (hc : fs.length ≤ c) (hc1 : (fs.getD dv dv0).ns.length ≤ c1) (hx : leV cv (ChS ch)) (hs : (FoH fs dv b c b1 c1).Sublist H) (hq : Q ⟨fs, ch, e⟩) :
    ∃ r' H', leVH gl (.tup [.agg [.msl 7000 2 b 0 m c], cv, .int .i64 e]) H r' H' ∧ (H' = [] ∧ ∃ r, Q r ∧ r' = FRL r) :=
  hm ▸ ⟨FRL ⟨fs, ch, e⟩, [], leVH.trans (leVH.of (leV.refl _) ⟨_, hs, List.Perm.refl _⟩) (leVH.pubFo h hc hc1 (leVH.of (leV.tup ⟨leV.refl _, hx, leV.refl _, trivial⟩) ⟨_, List.Sublist.refl _, List.Perm.refl _⟩)), rfl, _, hq, rfl⟩
theorem one_le (c : Ch) : leV (.fsl 7 1 (ChC c)) (ChS [c]) := by
  have h := leV.fsl_sl 7 1 (ChC c)
  rwa [show ChC c = [c].flatMap ChC by simp] at h
theorem mkH {fs : List Dv} {dv bo co b4 c4 : Nat} {D : Dv} {n : No} {par : Int} {CC : List LV} (hdv : dv < fs.length) (k1 : fs.length ≤ co) (h4 : D.ns.length + 1 ≤ c4) (hq3 : ∀ v ns', putC (putC CC (dv * 2 + 1) v) (dv * 2) (.int .i64 (D.nx + 1)) = Sp (FoC (setD fs dv ⟨D.nx + 1, ns'⟩) dv v) ((co - fs.length) * 2)) :
    heapLe [(7000, .blk bo (putC (putC CC (dv * 2 + 1) (.msl 7001 8 b4 0 (D.ns.length + 1) c4)) (dv * 2) (.int .i64 (D.nx + 1)))), (7001, .blk b4 (D.ns.flatMap NoC ++ [.int .i64 D.nx, .int .i64 n.kind, .int .i64 n.mode, .int .i64 n.uid, .int .i64 n.gid, .int .i64 par, .str n.tg, .fsl 1 0 []] ++ List.replicate ((c4 - (D.ns.length + 1)) * 8) .any))]
      (FoH (setD fs dv ⟨D.nx + 1, D.ns ++ [⟨D.nx, n.kind, n.mode, n.uid, n.gid, par, n.tg, []⟩]⟩) dv bo co b4 c4) := by
  rw [FoH_eq, setD_get hdv, setD_len]
  refine ⟨⟨rfl, leVs_eq ?_⟩, ⟨rfl, ?_⟩, trivial⟩
  · rw [hq3 _ (D.ns ++ [⟨D.nx, n.kind, n.mode, n.uid, n.gid, par, n.tg, []⟩])]
    simp
  · simp only [List.length_append, List.length_singleton, List.flatMap_append, List.flatMap_singleton, Sp]
    exact leVs.app (leVs.app (leVs.refl _) ⟨leV.refl _, leV.refl _, leV.refl _, leV.refl _, leV.refl _, leV.refl _, leV.refl _, leV.nil_sl _ _, trivial⟩) (leVs.refl _)
theorem make (fs : List Dv) (x : At) (s : List UInt8) (n : No) (q : Nat) (hf : FI 16 q fs) (hp : q ≤ 900) (hs : s.length ≤ 1000000000) (ht : n.tg.length ≤ 1000) :
    PureE Tryz.prog gl 148 [FiL fs, AtL x, .str s, .agg (NoO n (.fsl 1 0 []))] fun v => ∃ r : FR, (r.e = 0 → FI 16 (q + 2) r.fs ∧ r.fs.length = fs.length ∧ r.ch.length = 1) ∧ v = FRL r := by
  refine fn_viewT Tryz.func148 t148 Tryz.ntmps148 (by simp) ?_
  have hF := hf.ok (by omega) (by omega)
  have hl := hf.len
  have hld := len_dv fs
  have c1 := place fs x s hF hs
  have c2 := plain n (.fsl 1 0 []) (by omega)
  have c3 := look fs x s hF
  have c4 := full fs x hF
  unfold c148 r148
  unfold NoO at c2 ⊢
  rw [FiL_eq, AtL_eq] at *
  repeat' (first | (simp (disch := first | exact dd | fail) only [go_sem]) | (refine allI (fun b => ?_)) | (refine allT (fun τ => ?_)) | (refine brP (fun h => ?_) (fun h => ?_) <;> (try simp only [zgx, zbx] at h)) | (refine pureE_U c1 ?_; rintro _ ⟨e, he, rfl⟩) | (refine gd ?_) | fail)
  refine callG_LU (fun hg => ?_) (fun hg => ?_)
  · obtain rfl : e = 0 := by simpa using hg
    obtain ⟨hd, hs12⟩ := he rfl
    obtain ⟨dv, k, hxd, hdv, hix, hkl, hixI, hkind, hino⟩ := dirB_at hd
    obtain ⟨d, i⟩ := x
    dsimp only at hxd hino hixI
    subst hxd
    refine pureE_U c2 ?_
    rintro _ ⟨pl, rfl⟩
    have g1 := getD_rows (f := DvC) (w := 2) (fun _ => rfl) (j := 0) (by omega) dv0 fs dv hdv
    have g2 : ((fs.flatMap DvC).drop (dv * 2)).take 2 = DvC (fs.getD dv dv0) := take_rows (f := DvC) (w := 2) (fun _ => rfl) dv0 _ hdv
    have hcp := copyO fs dv hdv hF
    have hDI := hf.at hdv
    generalize hD : fs.getD dv dv0 = D at *
    rw [DvC_eq] at g1 g2
    simp only [List.getD_cons_zero, List.getD_cons_succ, Nat.add_zero] at g1
    have hnx := hDI.nx
    rw [FiL_eq] at hcp
    have hg := fun v => FoC_v (fs := fs) v hdv
    have hFl := fun v => FoC_len (fs := fs) v hdv
    have hn := fun v => FoC_nx (fs := fs) v hdv
    repeat' (first | (simp (disch := first | exact dd | fail) only [go_sem, g1, g2, AtL_eq, zDv]) | (refine allI (fun b => ?_)) | (refine allT (fun τ => ?_)) | (refine brP (fun h => ?_) (fun h => ?_) <;> (try simp only [zgx, zbx] at h)) | refine call_U (c4) ?_ | refine callG_U (fun _ => c4) ?_ | refine call_T (c4) ?_ | refine callG_T (fun _ => c4) ?_ | refine call_N (c4) ?_ | refine call_of (c4) ?_ | refine callG_of (fun _ => c4) ?_ | (refine pureE_U c3 ?_; rintro _ ⟨r1, hr1, rfl⟩) | (refine gd ?_) | fail)
    · exact pureE_end FR_err ⟨⟨[], [], 22⟩, fun h => by simp at h, rfl⟩
    · exact pureE_end FR_err ⟨⟨[], [], 17⟩, fun h => by simp at h, rfl⟩
    · exact pureE_end FR_err ⟨⟨[], [], 28⟩, fun h => by simp at h, rfl⟩
    · obtain ⟨⟨hl16, hnx16⟩, -⟩ := h
      first | refine newsQ_U (hcp) ?_ | refine newsQ_T (hcp) ?_ | refine newsQ_of (hcp) ?_
      rintro _ _ ⟨bo, co, bn, cn, k1, k2, rfl, rfl⟩
      rw [FoV_eq, FoH_eq, hD]
      have hln := len_no D.ns
      have hFS := length_Sp (FoC fs dv (.msl 7001 8 bn 0 D.ns.length cn)) ((co - fs.length) * 2)
      rw [hFl] at hFS
      have hgS : (Sp (FoC fs dv (.msl 7001 8 bn 0 D.ns.length cn)) ((co - fs.length) * 2)).getD (dv * 2 + 1) .any = _ := (getSp (by rw [hFl]; omega)).trans (hg _)
      have hq1 : ∀ v, (putC (Sp (FoC fs dv (.msl 7001 8 bn 0 D.ns.length cn)) ((co - fs.length) * 2)) (dv * 2 + 1) v).getD (dv * 2) .any = .int .i64 D.nx := fun v => by
        rw [putC_Sp _ (by rw [hFl]; omega), FoC_put hdv, getSp (by rw [hFl]; omega), hn, hD]
      have hq2 : ∀ v, (putC (Sp (FoC fs dv (.msl 7001 8 bn 0 D.ns.length cn)) ((co - fs.length) * 2)) (dv * 2 + 1) v).length = fs.length * 2 + (co - fs.length) * 2 := fun v => by
        rw [putC_len _ (by omega), hFS]
      have hq3 : ∀ v ns', putC (putC (Sp (FoC fs dv (.msl 7001 8 bn 0 D.ns.length cn)) ((co - fs.length) * 2)) (dv * 2 + 1) v) (dv * 2) (.int .i64 (D.nx + 1)) = Sp (FoC (setD fs dv ⟨D.nx + 1, ns'⟩) dv v) ((co - fs.length) * 2) := fun v ns' => by
        rw [putC_Sp _ (by rw [hFl]; omega), FoC_put hdv, putC_Sp _ (by rw [hFl]; omega), setD, FoC_set hdv]
      generalize Sp (FoC fs dv (.msl 7001 8 bn 0 D.ns.length cn)) ((co - fs.length) * 2) = CC at *
      have hpi : i < D.nx := by have := (hDI.nod _ (nAt_mem hkl)).2.2.1; omega
      have hDm : ∀ par : Int, par < D.nx → DI 16 q ⟨D.nx + 1, D.ns ++ [⟨D.nx, n.kind, n.mode, n.uid, n.gid, par, n.tg, []⟩]⟩ := fun par hpar =>
        DI.make (p := 15) ⟨hDI.nx, by omega, hDI.nod, hDI.lu, hDI.tg⟩ (by omega) rfl hpar rfl ht
      have hOk : ∀ (par : Int) (b4 c4 : Nat), D.ns.length + 1 ≤ c4 → par < D.nx → OkO (setD fs dv ⟨D.nx + 1, D.ns ++ [⟨D.nx, n.kind, n.mode, n.uid, n.gid, par, n.tg, []⟩]⟩) dv co c4 := fun par b4 c4 h4 hpar =>
        ⟨(hf.set (hDm par hpar)).ok (by omega) (by omega), by rw [setD_len]; exact hdv, by rw [setD_len]; exact k1, by rw [setD_get hdv]; simp; omega⟩
      have hIx : ∀ N, idx (setD fs dv ⟨D.nx + 1, D.ns ++ [N]⟩) ⟨dv, i⟩ = (k : Nat) := fun N => by
        rw [idx, if_neg (by rw [setD_len]; dsimp only; omega), dAt_nat, setD_get hdv]
        exact ixI_app N hixI
      have c5 := one ⟨dv, i⟩ s ⟨0, 0⟩ ⟨dv, D.nx⟩
      rw [AtL_eq, AtL_eq, AtL_eq] at c5
      have hln := len_no D.ns
      have hSS := length_Sp (D.ns.flatMap NoC) ((cn - D.ns.length) * 8)
      simp only [List.cons_append, List.nil_append]
      repeat' (first | (simp (disch := first | exact dd | fail) only [go_sem, zNo, hgS, putC_eq, hq1, hq2, hFS]) | (refine allI (fun b => ?_)) | (refine allT (fun τ => ?_)) | (refine brP (fun h => ?_) (fun h => ?_) <;> (try simp only [zgx, zbx] at h)) | (refine gd ?_) | fail)
      all_goals
        refine .inl ⟨by omega, by omega, by simp only [roomy]; omega, fun b4 c4 h4 => ?_⟩
        rw [take_Sp _ hln]
        repeat' (first | (simp (disch := first | exact dd | fail) only [go_sem, zNo, hgS, putC_eq, hq1, hq2, hFS]) | (refine allI (fun b => ?_)) | (refine allT (fun τ => ?_)) | (refine brP (fun h => ?_) (fun h => ?_) <;> (try simp only [zgx, zbx] at h)) | (refine gd ?_) | fail)
      · have hm := mkH (n := n) (bo := bo) (b4 := b4) (par := i) hdv k1 h4 hq3
        have he := enterO (setD fs dv ⟨D.nx + 1, D.ns ++ [⟨D.nx, n.kind, n.mode, n.uid, n.gid, i, n.tg, []⟩]⟩) dv i s D.nx bo co b4 c4 (hOk (i) b4 c4 h4 hpi) k (hIx _) (by rw [setD_get hdv]; simp; omega)
        simp only [setD_len, setD_get hdv, setD_set, FoV_eq, AtL_eq] at he
        refine actsP_U (LCalls.hle hm he) (pick_perm rfl (pick_perm rfl (List.Perm.refl _))) ?_
        rintro _ _ ⟨es, hR, rfl⟩
        rw [FoH_eq]
        simp only [List.cons_append, List.nil_append]
        repeat' (first | (simp (disch := first | exact dd | fail) only [go_sem]) | (refine allI (fun b => ?_)) | (refine allT (fun τ => ?_)) | (refine brP (fun h => ?_) (fun h => ?_) <;> (try simp only [zgx, zbx] at h)) | refine call_U (c5) ?_ | refine callG_U (fun _ => c5) ?_ | refine call_T (c5) ?_ | refine callG_T (fun _ => c5) ?_ | refine call_N (c5) ?_ | refine call_of (c5) ?_ | refine callG_of (fun _ => c5) ?_ | (refine gd ?_) | fail)
        have hD2 := (hDm (i) hpi).es (i := i) (ino := D.nx) (k := k) (ixI_app _ hixI) hR hs12
        refine fo_end (fs := setD fs dv ⟨D.nx + 1, setEs (D.ns ++ [⟨D.nx, n.kind, n.mode, n.uid, n.gid, i, n.tg, []⟩]) k es⟩) (dv := dv) (b := bo) (c := co) (b1 := b4) (c1 := c4) (e := 0) (ch := [⟨⟨dv, i⟩, s, ⟨0, 0⟩, ⟨dv, D.nx⟩⟩]) (Q := fun r => r.e = 0 → FI 16 (q + 2) r.fs ∧ r.fs.length = fs.length ∧ r.ch.length = 1) (setD_len _ _ _) (by rw [setD_len]; exact hdv) (by rw [setD_len]; exact k1) (by rw [setD_get hdv, setEs_len]; simp; omega) (one_le _) (by rw [FoH_eq]; repeat (first | exact List.Sublist.refl _ | apply List.Sublist.cons)) (fun _ => ⟨(hf.mono (by omega) (by omega)).set (hD2.mono (by omega) (by omega)), setD_len _ _ _, rfl⟩)
      · have hm := mkH (n := n) (bo := bo) (b4 := b4) (par := 0) hdv k1 h4 hq3
        have he := enterO (setD fs dv ⟨D.nx + 1, D.ns ++ [⟨D.nx, n.kind, n.mode, n.uid, n.gid, 0, n.tg, []⟩]⟩) dv i s D.nx bo co b4 c4 (hOk (0) b4 c4 h4 (by omega)) k (hIx _) (by rw [setD_get hdv]; simp; omega)
        simp only [setD_len, setD_get hdv, setD_set, FoV_eq, AtL_eq] at he
        refine actsP_U (LCalls.hle hm he) (pick_perm rfl (pick_perm rfl (List.Perm.refl _))) ?_
        rintro _ _ ⟨es, hR, rfl⟩
        rw [FoH_eq]
        simp only [List.cons_append, List.nil_append]
        repeat' (first | (simp (disch := first | exact dd | fail) only [go_sem]) | (refine allI (fun b => ?_)) | (refine allT (fun τ => ?_)) | (refine brP (fun h => ?_) (fun h => ?_) <;> (try simp only [zgx, zbx] at h)) | refine call_U (c5) ?_ | refine callG_U (fun _ => c5) ?_ | refine call_T (c5) ?_ | refine callG_T (fun _ => c5) ?_ | refine call_N (c5) ?_ | refine call_of (c5) ?_ | refine callG_of (fun _ => c5) ?_ | (refine gd ?_) | fail)
        have hD2 := (hDm (0) (by omega)).es (i := i) (ino := D.nx) (k := k) (ixI_app _ hixI) hR hs12
        refine fo_end (fs := setD fs dv ⟨D.nx + 1, setEs (D.ns ++ [⟨D.nx, n.kind, n.mode, n.uid, n.gid, 0, n.tg, []⟩]) k es⟩) (dv := dv) (b := bo) (c := co) (b1 := b4) (c1 := c4) (e := 0) (ch := [⟨⟨dv, i⟩, s, ⟨0, 0⟩, ⟨dv, D.nx⟩⟩]) (Q := fun r => r.e = 0 → FI 16 (q + 2) r.fs ∧ r.fs.length = fs.length ∧ r.ch.length = 1) (setD_len _ _ _) (by rw [setD_len]; exact hdv) (by rw [setD_len]; exact k1) (by rw [setD_get hdv, setEs_len]; simp; omega) (one_le _) (by rw [FoH_eq]; repeat (first | exact List.Sublist.refl _ | apply List.Sublist.cons)) (fun _ => ⟨(hf.mono (by omega) (by omega)).set (hD2.mono (by omega) (by omega)), setD_len _ _ _, rfl⟩)
  · have he0 : (e == 0) = false := hg
    have hen : e ≠ 0 := by simpa using hg
    have he1 : (e != 0) = true := by simp [hen]
    repeat' (first | (simp (disch := first | exact dd | fail) only [go_sem, he0, he1, un_any, pick_0a0]) | (refine allI (fun b => ?_)) | (refine allT (fun τ => ?_)) | (refine brP (fun h => ?_) (fun h => ?_) <;> (try simp only [zgx, zbx] at h)) | (refine gd ?_) | fail)
    exact pureE_end FR_err ⟨⟨[], [], e⟩, fun h => absurd h hen, rfl⟩
end Go.Proofs.YtkdblnejpmbnfaaGreat.F
namespace Go.Proofs.YtkdblnejpmbnfaaGreat.F
open Go Go.Lx
set_option linter.unusedSimpArgs false
set_option linter.unusedVariables false
set_option maxRecDepth 100000
set_option maxHeartbeats 8000000
theorem OkO.set {fs : List Dv} {dv c c1 : Nat} {D : Dv} (h : dv < fs.length) (hc : fs.length ≤ c) {q : Nat} (hf : FI 16 q (setD fs dv D)) (hq : q ≤ 1000) (hl : D.ns.length ≤ c1) : OkO (setD fs dv D) dv c c1 :=
  ⟨hf.ok (by omega) hq, by rw [setD_len]; exact h, by rw [setD_len]; exact hc, by rw [setD_get h]; exact hl⟩
theorem idx_of {fs : List Dv} {dv k : Nat} {i : Int} (h : dv < fs.length) (hk : ixI (fs.getD dv dv0).ns i = (k : Nat)) : idx fs ⟨dv, i⟩ = (k : Nat) := by
  rw [idx, if_neg (by dsimp only; omega), dAt_nat]; exact hk
theorem link (fs : List Dv) (x : At) (s : List UInt8) (y : At) (q : Nat) (hf : FI 16 q fs) (hp : q ≤ 900) (hs : s.length ≤ 1000000000) :
    PureE Tryz.prog gl 132 [FiL fs, AtL x, .str s, AtL y] fun v => ∃ r : FR, (r.e = 0 → FI 16 (q + 2) r.fs ∧ r.fs.length = fs.length ∧ r.ch.length = 1) ∧ v = FRL r := by
  refine fn_viewT Tryz.func132 t132 Tryz.ntmps132 (by simp) ?_
  have hF := hf.ok (by omega) (by omega)
  have hl := hf.len
  have c1 := place fs x s hF hs
  have c3 := look fs x s hF
  have c2 := node fs y hF
  have c4 := full fs x hF
  generalize nodeR fs y = R at *
  obtain ⟨n, nb⟩ := R
  dsimp only at c2
  rw [NoC_eq] at c2
  unfold c132 r132
  rw [FiL_eq, AtL_eq, AtL_eq] at *
  repeat' (first | (simp (disch := first | exact dd | fail) only [go_sem, AtL_eq]) | (refine allI (fun b => ?_)) | (refine allT (fun τ => ?_)) | (refine brP (fun h => ?_) (fun h => ?_) <;> (try simp only [zgx, zbx] at h)) | refine call_U (c2) ?_ | refine callG_U (fun _ => c2) ?_ | refine call_T (c2) ?_ | refine callG_T (fun _ => c2) ?_ | refine call_U (c4) ?_ | refine callG_U (fun _ => c4) ?_ | refine call_T (c4) ?_ | refine callG_T (fun _ => c4) ?_ | refine call_N (c2) ?_ | refine call_of (c2) ?_ | refine callG_of (fun _ => c2) ?_ | refine call_N (c4) ?_ | refine call_of (c4) ?_ | refine callG_of (fun _ => c4) ?_ | (refine pureE_U c1 ?_; rintro _ ⟨e, he, rfl⟩) | (refine pureE_U c3 ?_; rintro _ ⟨r1, hr1, rfl⟩) | (refine gd ?_) | fail)
  all_goals first
    | (refine pureE_end FR_err ⟨⟨[], [], _⟩, fun h0 => ?_, rfl⟩; first | (simp at h0; done) | (dsimp only at h0; first | exact absurd h0 (by assumption) | omega))
    | skip
  have he0 : e = 0 := by
    have hq : (e != 0) = false := by assumption
    simpa using hq
  obtain ⟨hd, hs12⟩ := he he0
  obtain ⟨dv, k, hxd, hdv, hix, hkl, hixI, hkind, hino⟩ := dirB_at hd
  obtain ⟨d, i⟩ := x
  dsimp only at hxd hino hixI
  subst hxd
  have hcp := copyO fs dv hdv hF
  rw [FiL_eq] at hcp
  first | refine newsQ_U (hcp) ?_ | refine newsQ_T (hcp) ?_ | refine newsQ_of (hcp) ?_
  rintro _ _ ⟨bo, co, bn, cn, k1, k2, rfl, rfl⟩
  have he2 := enterO fs dv i s y.i bo co bn cn ⟨hF, hdv, k1, k2⟩ k hix hkl
  have c5 := one ⟨dv, i⟩ s ⟨0, 0⟩ y
  have hDI := hf.at hdv
  rw [FoH_eq] at he2
  rw [AtL_eq, AtL_eq, AtL_eq] at c5
  rw [FoV_eq, FoH_eq]
  rw [FoV_eq, AtL_eq] at he2
  try simp only [List.cons_append, List.nil_append]
  repeat' (first | (simp (disch := first | exact dd | fail) only [go_sem]) | (refine allI (fun b => ?_)) | (refine allT (fun τ => ?_)) | (refine brP (fun h => ?_) (fun h => ?_) <;> (try simp only [zgx, zbx] at h)) | (refine gd ?_) | fail)
  refine actsP_U he2 (pick_perm rfl (pick_perm rfl (List.Perm.refl _))) ?_
  rintro _ _ ⟨es, hR, rfl⟩
  have hD2 := hDI.es (i := i) (ino := y.i) hixI hR hs12
  have hf2 : FI 16 (q + 1) (setD fs dv ⟨(fs.getD dv dv0).nx, setEs (fs.getD dv dv0).ns k es⟩) := (hf.mono (by omega) (by omega)).set hD2
  rw [FoH_eq]
  try simp only [List.cons_append, List.nil_append]
  repeat' (first | (simp (disch := first | exact dd | fail) only [go_sem]) | (refine allI (fun b => ?_)) | (refine allT (fun τ => ?_)) | (refine brP (fun h => ?_) (fun h => ?_) <;> (try simp only [zgx, zbx] at h)) | refine call_U (c5) ?_ | refine callG_U (fun _ => c5) ?_ | refine call_T (c5) ?_ | refine callG_T (fun _ => c5) ?_ | refine call_N (c5) ?_ | refine call_of (c5) ?_ | refine callG_of (fun _ => c5) ?_ | (refine gd ?_) | fail)
  exact fo_end (dv := dv) (b := bo) (c := co) (b1 := bn) (c1 := cn) (e := 0) (setD_len _ _ _) (by rw [setD_len]; exact hdv) (by rw [setD_len]; exact k1) (by rw [setD_get hdv]; simp only [setEs_len]; omega) (one_le _) (by rw [FoH_eq]; repeat (first | exact List.Sublist.refl _ | apply List.Sublist.cons)) (fun _ => ⟨hf2.mono (by omega) (by omega), setD_len _ _ _, rfl⟩)
theorem unlink (fs : List Dv) (x : At) (s : List UInt8) (q : Nat) (hf : FI 16 q fs) (hp : q ≤ 900) (hs : s.length ≤ 1000000000) :
    PureE Tryz.prog gl 134 [FiL fs, AtL x, .str s] fun v => ∃ r : FR, (r.e = 0 → FI 16 (q + 2) r.fs ∧ r.fs.length = fs.length ∧ r.ch.length = 1) ∧ v = FRL r := by
  refine fn_viewT Tryz.func134 t134 Tryz.ntmps134 (by simp) ?_
  have hF := hf.ok (by omega) (by omega)
  have hl := hf.len
  have c1 := place fs x s hF hs
  have c3 := look fs x s hF
  have c2 := fun y => dir fs y hF
  unfold c134 r134
  rw [FiL_eq, AtL_eq] at *
  repeat' (first | (simp (disch := first | exact dd | fail) only [go_sem, AtL_eq]) | (refine allI (fun b => ?_)) | (refine allT (fun τ => ?_)) | (refine brP (fun h => ?_) (fun h => ?_) <;> (try simp only [zgx, zbx] at h)) | refine call_U (c2 _) ?_ | refine callG_U (fun _ => c2 _) ?_ | refine call_T (c2 _) ?_ | refine callG_T (fun _ => c2 _) ?_ | refine call_N (c2 _) ?_ | refine call_of (c2 _) ?_ | refine callG_of (fun _ => c2 _) ?_ | (refine pureE_U c1 ?_; rintro _ ⟨e, he, rfl⟩) | (refine pureE_U c3 ?_; rintro _ ⟨r1, hr1, rfl⟩) | (refine gd ?_) | fail)
  all_goals first
    | (refine pureE_end FR_err ⟨⟨[], [], _⟩, fun h0 => ?_, rfl⟩; first | (simp at h0; done) | (dsimp only at h0; first | exact absurd h0 (by assumption) | omega))
    | skip
  have he0 : e = 0 := by
    have hq : (e != 0) = false := by assumption
    simpa using hq
  obtain ⟨hd, hs12⟩ := he he0
  obtain ⟨dv, k, hxd, hdv, hix, hkl, hixI, hkind, hino⟩ := dirB_at hd
  obtain ⟨d, i⟩ := x
  dsimp only at hxd hino hixI
  subst hxd
  have hrd : r1.1.d = (dv : Int) := hr1 (by
    have hq : (r1.2 != 0) = false := by assumption
    simpa using hq)
  have hcp := copyO fs dv hdv hF
  rw [FiL_eq] at hcp
  first | refine newsQ_U (hcp) ?_ | refine newsQ_T (hcp) ?_ | refine newsQ_of (hcp) ?_
  rintro _ _ ⟨bo, co, bn, cn, k1, k2, rfl, rfl⟩
  have he2 := enterO fs dv i s 0 bo co bn cn ⟨hF, hdv, k1, k2⟩ k hix hkl
  have c5 := one ⟨dv, i⟩ s ⟨dv, r1.1.i⟩ ⟨0, 0⟩
  have hDI := hf.at hdv
  rw [FoH_eq] at he2
  rw [AtL_eq, AtL_eq, AtL_eq] at c5
  rw [FoV_eq, FoH_eq]
  rw [FoV_eq, AtL_eq] at he2
  try simp only [List.cons_append, List.nil_append]
  repeat' (first | (simp (disch := first | exact dd | fail) only [go_sem]) | (refine allI (fun b => ?_)) | (refine allT (fun τ => ?_)) | (refine brP (fun h => ?_) (fun h => ?_) <;> (try simp only [zgx, zbx] at h)) | (refine gd ?_) | fail)
  refine actsP_U he2 (pick_perm rfl (pick_perm rfl (List.Perm.refl _))) ?_
  rintro _ _ ⟨es, hR, rfl⟩
  have hD2 := hDI.es (i := i) (ino := 0) hixI hR hs12
  have hf2 : FI 16 (q + 1) (setD fs dv ⟨(fs.getD dv dv0).nx, setEs (fs.getD dv dv0).ns k es⟩) := (hf.mono (by omega) (by omega)).set hD2
  have hd2 := dropO (setD fs dv ⟨(fs.getD dv dv0).nx, setEs (fs.getD dv dv0).ns k es⟩) dv r1.1.i bo co bn cn (OkO.set hdv k1 hf2 (by omega) (by rw [setEs_len]; exact k2))
  simp only [setD_len, setD_get hdv, setD_set, FoV_eq, AtL_eq] at hd2
  rw [FoH_eq] at hd2
  rw [FoH_eq]
  try simp only [List.cons_append, List.nil_append]
  repeat' (first | (simp (disch := first | exact dd | fail) only [go_sem, hrd]) | (refine allI (fun b => ?_)) | (refine allT (fun τ => ?_)) | (refine brP (fun h => ?_) (fun h => ?_) <;> (try simp only [zgx, zbx] at h)) | (refine gd ?_) | fail)
  refine actsP_U hd2 (pick_perm rfl (pick_perm rfl (List.Perm.refl _))) ?_
  rintro _ _ ⟨ns3, bn3, cn3, hn1, hn2, rfl⟩
  have hf3 : FI 16 (q + 1) (setD fs dv ⟨(fs.getD dv dv0).nx, ns3⟩) := (hf.mono (by omega) (by omega)).set (hD2.drop hn2)
  rw [FoH_eq]
  try simp only [List.cons_append, List.nil_append]
  repeat' (first | (simp (disch := first | exact dd | fail) only [go_sem, hrd]) | (refine allI (fun b => ?_)) | (refine allT (fun τ => ?_)) | (refine brP (fun h => ?_) (fun h => ?_) <;> (try simp only [zgx, zbx] at h)) | refine call_U (c5) ?_ | refine callG_U (fun _ => c5) ?_ | refine call_T (c5) ?_ | refine callG_T (fun _ => c5) ?_ | refine call_N (c5) ?_ | refine call_of (c5) ?_ | refine callG_of (fun _ => c5) ?_ | (refine gd ?_) | fail)
  exact fo_end (dv := dv) (b := bo) (c := co) (b1 := bn3) (c1 := cn3) (e := 0) (setD_len _ _ _) (by rw [setD_len]; exact hdv) (by rw [setD_len]; exact k1) (by rw [setD_get hdv]; exact hn1) (one_le _) (by rw [FoH_eq]; repeat (first | exact List.Sublist.refl _ | apply List.Sublist.cons)) (fun _ => ⟨hf3.mono (by omega) (by omega), setD_len _ _ _, rfl⟩)
theorem rmdir (fs : List Dv) (x : At) (s : List UInt8) (q : Nat) (hf : FI 16 q fs) (hp : q ≤ 900) (hs : s.length ≤ 1000000000) :
    PureE Tryz.prog gl 136 [FiL fs, AtL x, .str s] fun v => ∃ r : FR, (r.e = 0 → FI 16 (q + 2) r.fs ∧ r.fs.length = fs.length ∧ r.ch.length = 1) ∧ v = FRL r := by
  refine fn_viewT Tryz.func136 t136 Tryz.ntmps136 (by simp) ?_
  have hF := hf.ok (by omega) (by omega)
  have hl := hf.len
  have c1 := place fs x s hF hs
  have c3 := look fs x s hF
  have c2 := fun y => dir fs y hF
  have c4 := fun y => empty fs y hF
  unfold c136 r136
  rw [FiL_eq, AtL_eq] at *
  repeat' (first | (simp (disch := first | exact dd | fail) only [go_sem, AtL_eq]) | (refine allI (fun b => ?_)) | (refine allT (fun τ => ?_)) | (refine brP (fun h => ?_) (fun h => ?_) <;> (try simp only [zgx, zbx] at h)) | refine call_U (c2 _) ?_ | refine callG_U (fun _ => c2 _) ?_ | refine call_T (c2 _) ?_ | refine callG_T (fun _ => c2 _) ?_ | refine call_U (c4 _) ?_ | refine callG_U (fun _ => c4 _) ?_ | refine call_T (c4 _) ?_ | refine callG_T (fun _ => c4 _) ?_ | refine call_N (c2 _) ?_ | refine call_of (c2 _) ?_ | refine callG_of (fun _ => c2 _) ?_ | refine call_N (c4 _) ?_ | refine call_of (c4 _) ?_ | refine callG_of (fun _ => c4 _) ?_ | (refine pureE_U c1 ?_; rintro _ ⟨e, he, rfl⟩) | (refine pureE_U c3 ?_; rintro _ ⟨r1, hr1, rfl⟩) | (refine gd ?_) | fail)
  all_goals first
    | (refine pureE_end FR_err ⟨⟨[], [], _⟩, fun h0 => ?_, rfl⟩; first | (simp at h0; done) | (dsimp only at h0; first | exact absurd h0 (by assumption) | omega))
    | skip
  have he0 : e = 0 := by
    have hq : (e != 0) = false := by assumption
    simpa using hq
  obtain ⟨hd, hs12⟩ := he he0
  obtain ⟨dv, k, hxd, hdv, hix, hkl, hixI, hkind, hino⟩ := dirB_at hd
  obtain ⟨d, i⟩ := x
  dsimp only at hxd hino hixI
  subst hxd
  have hrd : r1.1.d = (dv : Int) := hr1 (by
    have hq : (r1.2 != 0) = false := by assumption
    simpa using hq)
  have hcp := copyO fs dv hdv hF
  rw [FiL_eq] at hcp
  first | refine newsQ_U (hcp) ?_ | refine newsQ_T (hcp) ?_ | refine newsQ_of (hcp) ?_
  rintro _ _ ⟨bo, co, bn, cn, k1, k2, rfl, rfl⟩
  have he2 := enterO fs dv i s 0 bo co bn cn ⟨hF, hdv, k1, k2⟩ k hix hkl
  have c5 := one ⟨dv, i⟩ s ⟨dv, r1.1.i⟩ ⟨0, 0⟩
  have hDI := hf.at hdv
  rw [FoH_eq] at he2
  rw [AtL_eq, AtL_eq, AtL_eq] at c5
  rw [FoV_eq, FoH_eq]
  rw [FoV_eq, AtL_eq] at he2
  try simp only [List.cons_append, List.nil_append]
  repeat' (first | (simp (disch := first | exact dd | fail) only [go_sem]) | (refine allI (fun b => ?_)) | (refine allT (fun τ => ?_)) | (refine brP (fun h => ?_) (fun h => ?_) <;> (try simp only [zgx, zbx] at h)) | (refine gd ?_) | fail)
  refine actsP_U he2 (pick_perm rfl (pick_perm rfl (List.Perm.refl _))) ?_
  rintro _ _ ⟨es, hR, rfl⟩
  have hD2 := hDI.es (i := i) (ino := 0) hixI hR hs12
  have hf2 : FI 16 (q + 1) (setD fs dv ⟨(fs.getD dv dv0).nx, setEs (fs.getD dv dv0).ns k es⟩) := (hf.mono (by omega) (by omega)).set hD2
  have hd2 := dropO (setD fs dv ⟨(fs.getD dv dv0).nx, setEs (fs.getD dv dv0).ns k es⟩) dv r1.1.i bo co bn cn (OkO.set hdv k1 hf2 (by omega) (by rw [setEs_len]; exact k2))
  simp only [setD_len, setD_get hdv, setD_set, FoV_eq, AtL_eq] at hd2
  rw [FoH_eq] at hd2
  rw [FoH_eq]
  try simp only [List.cons_append, List.nil_append]
  repeat' (first | (simp (disch := first | exact dd | fail) only [go_sem, hrd]) | (refine allI (fun b => ?_)) | (refine allT (fun τ => ?_)) | (refine brP (fun h => ?_) (fun h => ?_) <;> (try simp only [zgx, zbx] at h)) | (refine gd ?_) | fail)
  refine actsP_U hd2 (pick_perm rfl (pick_perm rfl (List.Perm.refl _))) ?_
  rintro _ _ ⟨ns3, bn3, cn3, hn1, hn2, rfl⟩
  have hf3 : FI 16 (q + 1) (setD fs dv ⟨(fs.getD dv dv0).nx, ns3⟩) := (hf.mono (by omega) (by omega)).set (hD2.drop hn2)
  rw [FoH_eq]
  try simp only [List.cons_append, List.nil_append]
  repeat' (first | (simp (disch := first | exact dd | fail) only [go_sem, hrd]) | (refine allI (fun b => ?_)) | (refine allT (fun τ => ?_)) | (refine brP (fun h => ?_) (fun h => ?_) <;> (try simp only [zgx, zbx] at h)) | refine call_U (c5) ?_ | refine callG_U (fun _ => c5) ?_ | refine call_T (c5) ?_ | refine callG_T (fun _ => c5) ?_ | refine call_N (c5) ?_ | refine call_of (c5) ?_ | refine callG_of (fun _ => c5) ?_ | (refine gd ?_) | fail)
  exact fo_end (dv := dv) (b := bo) (c := co) (b1 := bn3) (c1 := cn3) (e := 0) (setD_len _ _ _) (by rw [setD_len]; exact hdv) (by rw [setD_len]; exact k1) (by rw [setD_get hdv]; exact hn1) (one_le _) (by rw [FoH_eq]; repeat (first | exact List.Sublist.refl _ | apply List.Sublist.cons)) (fun _ => ⟨hf3.mono (by omega) (by omega), setD_len _ _ _, rfl⟩)
end Go.Proofs.YtkdblnejpmbnfaaGreat.F
namespace Go.Proofs.YtkdblnejpmbnfaaGreat.F
open Go Go.Lx
set_option linter.unusedSimpArgs false
set_option linter.unusedVariables false
set_option maxRecDepth 100000
set_option maxHeartbeats 8000000
theorem parN_succ (g : Int → Option No) : ∀ (k : Nat) (x : Int), parN g (k + 1) x = parF g (parN g k x)
  | 0, _ => rfl
  | k + 1, x => by
    have := parN_succ g k (parF g x)
    rw [parN, this]; rfl
theorem nodeR_par {fs : List Dv} {dv : Nat} (c : Int) (h : dv < fs.length) : (nodeR fs ⟨dv, c⟩).1.par = parF (fnd (fs.getD dv dv0).ns) c := by
  have hI : idx fs ⟨dv, c⟩ = ixI (fs.getD dv dv0).ns c := by rw [idx, if_neg (by dsimp only; omega), dAt_nat]
  rw [nodeR, hI, dAt_nat, parF]
  rcases fnd_ix (fs.getD dv dv0).ns c with ⟨h1, h2⟩ | ⟨i, h1, h2, h3, _⟩
  · rw [h1, h2, if_pos (by omega)]; rfl
  · rw [h2, h3, if_neg (by omega), Int.toNat_natCast]
theorem below (fs : List Dv) (dv : Nat) (i : Int) (y : At) (hf : okF fs) (hdv : dv < fs.length) : PureE Tryz.prog gl 156 [FiL fs, AtL ⟨dv, i⟩, AtL y] fun v => ∃ b : Bool, (b = false → y.d = dv → ∀ j, j ≤ 16 → parN (fnd (fs.getD dv dv0).ns) j i ≠ y.i) ∧ v = .bool b := by
  refine fn_viewT Tryz.func156 t156 Tryz.ntmps156 (by simp) ?_
  have c1 := fun c => node fs ⟨dv, c⟩ hf
  have hP := fun c => nodeR_par c hdv
  have hS := fun k => parN_succ (fnd (fs.getD dv dv0).ns) k i
  unfold c156 r156
  simp only [AtL_eq] at c1
  rw [FiL_eq, AtL_eq, AtL_eq] at *
  repeat' (first | (simp (disch := first | exact dd | fail) only [go_sem]) | (refine allI (fun b => ?_)) | (refine allT (fun τ => ?_)) | (refine brP (fun h => ?_) (fun h => ?_) <;> (try simp only [zgx, zbx] at h)) | (refine gd ?_) | fail)
  rename_i b3 b4
  refine loopI (ι := Nat) (fun k => k ≤ 17 ∧ (y.d = dv → ∀ j, j < k → parN (fnd (fs.getD dv dv0).ns) j i ≠ y.i)) (fun k => [(7, .int .i64 k), (6, .bool false), (5, .ptr 5 b 0), (4, .ptr 4 b4 0), (3, .ptr 3 b3 0)]) (fun k => [(5, .blk b [.int .i64 y.d, .int .i64 y.i]), (4, .blk b4 [.int .i64 dv, .int .i64 (parN (fnd (fs.getD dv dv0).ns) k i)]), (3, .blk b3 [.sl 2 fs.length (fs.flatMap DvC)])]) (fun k => 17 - k) 0 ⟨by omega, fun _ j hj => absurd hj (by omega)⟩ (Ents.envH (by simp [go_sem]) rfl) ?_
  rintro k ⟨hk, hj⟩
  have c1 := c1 (parN (fnd (fs.getD dv dv0).ns) k i)
  have hP := hP (parN (fnd (fs.getD dv dv0).ns) k i)
  have hS := hS k
  rw [← hP] at hS
  generalize hcur : parN (fnd (fs.getD dv dv0).ns) k i = cur at *
  generalize nodeR fs ⟨dv, cur⟩ = R at *
  obtain ⟨n, nb⟩ := R
  dsimp only at c1 hS
  rw [NoC_eq] at c1
  repeat' (first | (simp (disch := first | exact dd | fail) only [go_sem, zNo]) | (refine allI (fun b => ?_)) | (refine allT (fun τ => ?_)) | (refine brP (fun h => ?_) (fun h => ?_) <;> (try simp only [zgx, zbx] at h)) | refine call_U (c1) ?_ | refine callG_U (fun _ => c1) ?_ | refine call_T (c1) ?_ | refine callG_T (fun _ => c1) ?_ | refine call_N (c1) ?_ | refine call_of (c1) ?_ | refine callG_of (fun _ => c1) ?_ | (refine gd ?_) | fail)
  · exact pureE_end (leV.refl _) ⟨true, by simp, rfl⟩
  · rename_i hq hne
    refine ⟨⟨k + 1, by omega, fun hyd j hjk => ?_⟩, by dsimp only; omega, Ents.sub (by simp [go_sem]) ⟨_, List.Sublist.cons _ (List.Sublist.refl _), List.Perm.of_eq (by dsimp only; rw [hS])⟩⟩
    rcases (by omega : j < k ∨ j = k) with h1 | rfl
    · exact hj hyd j h1
    · rw [hcur]
      intro e
      exact h.elim (fun h => h hyd.symm) (fun h => h e)
  · refine pureE_end (leV.refl _) ⟨false, fun _ hyd j hjk => ?_, rfl⟩
    have hk17 : k = 17 := by omega
    exact hj hyd j (by omega)
theorem drop_Sp {cs : List LV} {k n : Nat} (h : n ≤ cs.length) : (Sp cs k).drop n = Sp (cs.drop n) k := by rw [Sp, Sp, List.drop_append_of_le_length h]
theorem rows8 {ns : List No} {k z : Nat} {n : No} (h : k < ns.length) : (Sp (ns.flatMap NoC) z).take (k * 8) ++ NoC n ++ (Sp (ns.flatMap NoC) z).drop (k * 8 + 8) = Sp ((ns.set k n).flatMap NoC) z := by
  have hl := len_no ns
  have : (k + 1) * 8 ≤ ns.length * 8 := Nat.mul_le_mul_right 8 h
  have e1 : (Sp (ns.flatMap NoC) z).take (k * 8) = (ns.take k).flatMap NoC := by
    rw [take_Sp_le (by omega), taken_rows (f := NoC) (w := 8) (fun _ => rfl)]
  have e2 : (Sp (ns.flatMap NoC) z).drop (k * 8 + 8) = Sp ((ns.drop (k + 1)).flatMap NoC) z := by
    rw [drop_Sp (by omega), show k * 8 + 8 = (k + 1) * 8 by omega, Go.Lx.drop_rows (f := NoC) (w := 8) (fun _ => rfl)]
  rw [e1, e2, List.set_eq_take_append_cons_drop, if_pos h, List.flatMap_append, List.flatMap_cons]
  simp [Sp]
def F2L (r : List Dv × Int) : LV := .tup [FiL r.1, .int .i64 r.2]
theorem fo_end2 {fs : List Dv} {dv b m c b1 c1 : Nat} {e : Int} {H : Heap} {Q : List Dv × Int → Prop} (hm : fs.length = m) (h : dv < fs.length) (hc : fs.length ≤ c) (hc1 : (fs.getD dv dv0).ns.length ≤ c1) (hs : (FoH fs dv b c b1 c1).Sublist H) (hq : Q (fs, e)) :
    ∃ r' H', leVH gl (.tup [.agg [.msl 7000 2 b 0 m c], .int .i64 e]) H r' H' ∧ (H' = [] ∧ ∃ r, Q r ∧ r' = F2L r) :=
  hm ▸ ⟨F2L (fs, e), [], leVH.trans (leVH.of (leV.refl _) ⟨_, hs, List.Perm.refl _⟩) (leVH.pubFo h hc hc1 (leVH.of (leV.refl _) ⟨_, List.Sublist.refl _, List.Perm.refl _⟩)), rfl, _, hq, rfl⟩
theorem F2_err {e : Int} : leV (.tup [.agg [.fsl 1 0 []], .int .i64 e]) (F2L ([], e)) := leV.tup ⟨leV.agg ⟨leV.nil_sl _ _, trivial⟩, leV.refl _, trivial⟩
theorem nodeR_tg {fs : List Dv} {x : At} {p q : Nat} (hf : FI p q fs) : (nodeR fs x).1.tg.length ≤ 1000 := by
  rw [nodeR]
  rcases idx_cases fs x with h | ⟨⟨h0, h1⟩, i, h2, h3, h4⟩
  · rw [h, if_pos (by omega)]; simp [no0]
  · rw [h3, if_neg (by omega), Int.toNat_natCast]
    exact (hf.dev _ (getD_memA dv0 (by omega))).tg _ (nAt_mem h2)
theorem set (fs : List Dv) (x : At) (mode uid gid : Int) (q : Nat) (hf : FI 16 q fs) (hp : q ≤ 900) :
    PureE Tryz.prog gl 138 [FiL fs, AtL x, .int .i64 mode, .int .i64 uid, .int .i64 gid] fun v => ∃ r : List Dv × Int, (r.2 = 0 → FI 16 q r.1 ∧ r.1.length = fs.length) ∧ v = F2L r := by
  refine fn_viewT Tryz.func138 t138 Tryz.ntmps138 (by simp) ?_
  have hF := hf.ok (by omega) (by omega)
  have hl := hf.len
  have c1 := node fs x hF
  have htg := nodeR_tg (x := x) hf
  unfold c138 r138
  rcases idx_cases fs x with hi | ⟨⟨h0, h1⟩, k, hkl, hix, hino⟩
  · have hR : nodeR fs x = (no0, false) := by rw [nodeR, hi, if_pos (by omega)]
    rw [hR, NoC_eq] at c1
    rw [FiL_eq, AtL_eq] at *
    repeat' (first | (simp (disch := first | exact dd | fail) only [go_sem]) | (refine allI (fun b => ?_)) | (refine allT (fun τ => ?_)) | (refine brP (fun h => ?_) (fun h => ?_) <;> (try simp only [zgx, zbx] at h)) | refine call_U (c1) ?_ | refine callG_U (fun _ => c1) ?_ | refine call_T (c1) ?_ | refine callG_T (fun _ => c1) ?_ | refine call_N (c1) ?_ | refine call_of (c1) ?_ | refine callG_of (fun _ => c1) ?_ | (refine gd ?_) | fail)
    exact pureE_end F2_err ⟨([], 2), fun h => by simp at h, rfl⟩
  · have hR : nodeR fs x = (nAt (dAt fs x.d).ns k, true) := by rw [nodeR, hix, if_neg (by omega), Int.toNat_natCast]
    rw [hR] at c1 htg
    obtain ⟨d, i⟩ := x
    dsimp only at h0 h1 hino hkl c1 htg
    obtain ⟨dv, rfl⟩ : ∃ dv : Nat, d = (dv : Int) := ⟨d.toNat, by omega⟩
    have hdv : dv < fs.length := by omega
    rw [dAt_nat] at *
    have hixI : ixI (fs.getD dv dv0).ns i = (k : Nat) := by
      rw [idx, if_neg (by dsimp only; omega), dAt_nat] at hix; exact hix
    have hDI := hf.at hdv
    have hN : ∀ n', DI 16 q ⟨(fs.getD dv dv0).nx, (fs.getD dv dv0).ns.set k n'⟩ → FI 16 q (setD fs dv ⟨(fs.getD dv dv0).nx, (fs.getD dv dv0).ns.set k n'⟩) := fun n' h => hf.set h
    have hD2 : DI 16 q ⟨(fs.getD dv dv0).nx, (fs.getD dv dv0).ns.set k { nAt (fs.getD dv dv0).ns k with mode := mode, uid := uid, gid := gid }⟩ := hDI.at hixI hino rfl rfl rfl rfl
    have hr8 := fun z => rows8 (n := { nAt (fs.getD dv dv0).ns k with mode := mode, uid := uid, gid := gid }) (z := z) hkl
    have hcp := copyO fs dv hdv hF
    have hH := fun b c b1 c1 n' => FoH_ns (b := b) (c := c) (b1 := b1) (c1 := c1) (ns' := (fs.getD dv dv0).ns.set k n') hdv (by simp)
    have hg := fun v => FoC_v (fs := fs) v hdv
    have hFl := fun v => FoC_len (fs := fs) v hdv
    have hes := (hF.2 _ (getD_memA dv0 hdv)).2 _ (nAt_mem hkl)
    generalize hn : nAt (fs.getD dv dv0).ns k = n at *
    generalize hD : fs.getD dv dv0 = D at *
    have c2 := plain { n with mode := mode, uid := uid, gid := gid } (.sl 2 n.es.length (n.es.flatMap EnC)) (by dsimp only; omega)
    unfold NoO at c2
    rw [NoC_eq] at c1
    rw [NoC_eq] at hr8
    have hln := len_no D.ns
    rw [FiL_eq, AtL_eq] at *
    repeat' (first | (simp (disch := first | exact dd | fail) only [go_sem]) | (refine allI (fun b => ?_)) | (refine allT (fun τ => ?_)) | (refine brP (fun h => ?_) (fun h => ?_) <;> (try simp only [zgx, zbx] at h)) | refine call_U (c1) ?_ | refine callG_U (fun _ => c1) ?_ | refine call_T (c1) ?_ | refine callG_T (fun _ => c1) ?_ | refine call_N (c1) ?_ | refine call_of (c1) ?_ | refine callG_of (fun _ => c1) ?_ | (refine pureE_U c2 ?_; rintro _ ⟨pl, rfl⟩) | (refine gd ?_) | fail)
    · exact pureE_end F2_err ⟨([], 22), fun h => by simp at h, rfl⟩
    · first | refine newsQ_U (hcp) ?_ | refine newsQ_T (hcp) ?_ | refine newsQ_of (hcp) ?_
      rintro _ _ ⟨bo, co, bn, cn, k1, k2, rfl, rfl⟩
      have hX := ixO fs dv i bo co bn cn ⟨hF, hdv, k1, by rw [hD]; exact k2⟩
      rw [hix, FoH_eq, hD, FoV_eq, AtL_eq] at hX
      rw [FoV_eq, FoH_eq, hD]
      have hFS := length_Sp (FoC fs dv (.msl 7001 8 bn 0 D.ns.length cn)) ((co - fs.length) * 2)
      rw [hFl] at hFS
      have hgS : (Sp (FoC fs dv (.msl 7001 8 bn 0 D.ns.length cn)) ((co - fs.length) * 2)).getD (dv * 2 + 1) .any = _ := (getSp (by rw [hFl]; omega)).trans (hg _)
      have hSS := length_Sp (D.ns.flatMap NoC) ((cn - D.ns.length) * 8)
      have hkk : (k + 1) * 8 ≤ D.ns.length * 8 := Nat.mul_le_mul_right 8 hkl
      try simp only [List.cons_append, List.nil_append]
      repeat' (first | (simp (disch := first | exact dd | fail) only [go_sem, hgS, hFS, zNo]) | (refine allI (fun b => ?_)) | (refine allT (fun τ => ?_)) | (refine brP (fun h => ?_) (fun h => ?_) <;> (try simp only [zgx, zbx] at h)) | (refine gd ?_) | fail)
      refine actsQ_of hX (pick_perm rfl (pick_perm rfl (List.Perm.refl _))) ?_
      rintro _ _ ⟨rfl, rfl⟩
      try simp only [List.cons_append, List.nil_append]
      repeat' (first | (simp (disch := first | exact dd | fail) only [go_sem, hgS, hFS, zNo]) | (refine allI (fun b => ?_)) | (refine allT (fun τ => ?_)) | (refine brP (fun h => ?_) (fun h => ?_) <;> (try simp only [zgx, zbx] at h)) | (refine gd ?_) | fail)
      rw [hr8]
      exact fo_end2 (fs := setD fs dv ⟨D.nx, D.ns.set k { n with mode := mode, uid := uid, gid := gid }⟩) (dv := dv) (b1 := bn) (c1 := cn) (setD_len _ _ _) (by rw [setD_len]; exact hdv) (by rw [setD_len]; exact k1) (by rw [setD_get hdv]; simp; omega) (by rw [hH]; exact List.Sublist.cons_cons _ (List.Sublist.cons_cons _ (List.nil_sublist _))) (fun _ => ⟨hN _ hD2, setD_len _ _ _⟩)
end Go.Proofs.YtkdblnejpmbnfaaGreat.F
namespace Go.Proofs.YtkdblnejpmbnfaaGreat.F
open Go Go.Lx
set_option linter.unusedSimpArgs false
set_option linter.unusedVariables false
set_option maxRecDepth 100000
set_option maxHeartbeats 8000000
theorem pick_a0 (b : Bool) : pickQ (.bool false) .any (.bool b) = (True, .bool b) := by simp [pickQ, LV.v, LV.g]
theorem ixI_setEs {ns : List No} {k : Nat} {es : List En} (h : k < ns.length) (i : Int) : ixI (setEs ns k es) i = ixI ns i := by
  have hA : ∀ j, (nAt (setEs ns k es) j).ino = (nAt ns j).ino := fun j => by
    simp only [setEs, nAt, List.getD, List.getElem?_set]
    by_cases e : k = j
    · subst e; simp [h]
    · rw [if_neg e]
  have hP : ixP (setEs ns k es) i = ixP ns i := funext fun j => by rw [ixP, ixP, hA]
  rw [ixI, ixI, hP, setEs_len]
theorem ixI_keep {ns ns' : List No} {i o : Int} {k : Nat} (h : ixI ns i = (k : Nat)) (hn : ns' = ns ∨ ns' = ns.filter (keepN o)) (hne : o ≠ i) : ∃ k' : Nat, ixI ns' i = (k' : Nat) := by
  have hf := (fnd_k h).2.1
  have hf' : fnd ns' i = some (nAt ns k) := by
    rcases hn with rfl | rfl
    · exact hf
    · rw [fnd_filter, if_neg (fun e => hne e.symm)]; exact hf
  rcases fnd_ix ns' i with ⟨_, h2⟩ | ⟨k', _, h2, _⟩
  · rw [h2] at hf'; cases hf'
  · exact ⟨k', h2⟩
theorem setPar_rows {ns : List No} {k z : Nat} {to : Int} (h : k < ns.length) : putC (Sp (ns.flatMap NoC) z) (k * 8 + 5) (.int .i64 to) = Sp ((setPar ns k to).flatMap NoC) z := by
  have hl := len_no ns
  have : (k + 1) * 8 ≤ ns.length * 8 := Nat.mul_le_mul_right 8 h
  rw [putC_Sp _ (by omega), putC_rows (f := NoC) (w := 8) (fun _ => rfl) no0 { nAt ns k with par := to } ns _ h (by omega) (Eq.trans rfl rfl), setPar]
theorem two_le {i : Nat} {τ : Tok} (c d : Ch) : leV (.osl i τ 7 2 (ChC c ++ ChC d)) (ChS [c, d]) := by
  have h := leV.osl_sl i τ 7 2 (ChC c ++ ChC d)
  rwa [show ChC c ++ ChC d = [c, d].flatMap ChC by simp] at h
theorem rename (fs : List Dv) (x : At) (s : List UInt8) (y : At) (s2 : List UInt8) (q : Nat) (hf : FI 16 q fs) (hp : q ≤ 900) (hs : s.length ≤ 1000000000) (hs2 : s2.length ≤ 1000000000) :
    PureE Tryz.prog gl 137 [FiL fs, AtL x, .str s, AtL y, .str s2] fun v => ∃ r : FR, (r.e = 0 → FI 16 (q + 2) r.fs ∧ r.fs.length = fs.length) ∧ v = FRL r := by
  refine fn_viewT Tryz.func137 t137 Tryz.ntmps137 (by simp) ?_
  have hF := hf.ok (by omega) (by omega)
  have hl := hf.len
  have c1 := place2 fs x s hF hs
  have c2 := place2 fs y s2 hF hs2
  have c3 := look fs x s hF
  have c4 := look fs y s2 hF
  have c5 := fun z => dir fs z hF
  have c6 := fun z => empty fs z hF
  have c7 := full fs y hF
  have c8 := copyF fs hF
  have c9 := fun dv i z h => below fs dv i z hF h
  unfold c137 r137
  simp only [AtL_eq] at c5 c6 c9
  rw [FiL_eq, AtL_eq, AtL_eq] at *
  repeat' (first | (simp (disch := first | exact dd | fail) only [go_sem, AtL_eq]) | (refine allI (fun b => ?_)) | (refine allT (fun τ => ?_)) | (refine brP (fun h => ?_) (fun h => ?_) <;> (try simp only [zgx, zbx] at h)) | (refine pureE_of c1 ?_; rintro _ ⟨e1, ⟨he1, hv1⟩, rfl⟩) | (refine pureE_of c2 ?_; rintro _ ⟨e2, ⟨he2, hv2⟩, rfl⟩) | (refine gd ?_) | fail)
  rename_i b5 b6 b8
  refine loopI (ι := Nat) (fun k => k ≤ 3 ∧ (1 ≤ k → e1 ≠ 2 ∧ e2 ≠ 2) ∧ (2 ≤ k → e1 ≠ 20 ∧ e2 ≠ 20) ∧ (3 ≤ k → e1 ≠ 22 ∧ e2 ≠ 22)) (fun k => (16, .int .i64 k) :: _) (fun _ => _) (fun k => 3 - k) 0 (by omega) Ents.same ?_
  rintro k ⟨hk, hk1, hk2, hk3⟩
  rcases (by omega : k = 0 ∨ k = 1 ∨ k = 2 ∨ k = 3) with rfl | rfl | rfl | rfl
  · repeat' (first | (simp (disch := first | exact dd | fail) only [go_sem]) | (refine allI (fun b => ?_)) | (refine allT (fun τ => ?_)) | (refine brP (fun h => ?_) (fun h => ?_) <;> (try simp only [zgx, zbx] at h)) | (refine gd ?_) | fail)
    · exact pureE_end FR_err ⟨⟨[], [], 2⟩, fun h => by simp at h, rfl⟩
    · exact ⟨⟨1, by omega, by omega, by omega, by omega⟩, by dsimp only; omega, Ents.envH (by simp [go_sem]) rfl⟩
  · repeat' (first | (simp (disch := first | exact dd | fail) only [go_sem]) | (refine allI (fun b => ?_)) | (refine allT (fun τ => ?_)) | (refine brP (fun h => ?_) (fun h => ?_) <;> (try simp only [zgx, zbx] at h)) | (refine gd ?_) | fail)
    · exact pureE_end FR_err ⟨⟨[], [], 20⟩, fun h => by simp at h, rfl⟩
    · exact ⟨⟨2, by omega, by omega, by omega, by omega⟩, by dsimp only; omega, Ents.envH (by simp [go_sem]) rfl⟩
  · repeat' (first | (simp (disch := first | exact dd | fail) only [go_sem]) | (refine allI (fun b => ?_)) | (refine allT (fun τ => ?_)) | (refine brP (fun h => ?_) (fun h => ?_) <;> (try simp only [zgx, zbx] at h)) | (refine gd ?_) | fail)
    · exact pureE_end FR_err ⟨⟨[], [], 22⟩, fun h => by simp at h, rfl⟩
    · exact ⟨⟨3, by omega, by omega, by omega, by omega⟩, by dsimp only; omega, Ents.envH (by simp [go_sem]) rfl⟩
  · obtain rfl : e1 = 0 := by omega
    obtain rfl : e2 = 0 := by omega
    obtain ⟨hd1, hs12⟩ := he1 rfl
    obtain ⟨hd2, hs22⟩ := he2 rfl
    obtain ⟨dv, k, hxd, hdv, hix, hkl, hixI, hkind, hino⟩ := dirB_at hd1
    obtain ⟨dv2, kk, hyd, hdv2, hix2, hkl2, hixI2, hkind2, hino2⟩ := dirB_at hd2
    obtain ⟨d, i⟩ := x
    obtain ⟨d2, i2⟩ := y
    dsimp only at hxd hino hixI hyd hino2 hixI2
    subst hxd
    subst hyd
    have c9 := fun z => c9 dv2 i2 z hdv2
    repeat' (first | (simp (disch := first | exact dd | fail) only [go_sem, AtL_eq]) | (refine allI (fun b => ?_)) | (refine allT (fun τ => ?_)) | (refine brP (fun h => ?_) (fun h => ?_) <;> (try simp only [zgx, zbx] at h)) | refine call_U (c5 _) ?_ | refine callG_U (fun _ => c5 _) ?_ | refine call_T (c5 _) ?_ | refine callG_T (fun _ => c5 _) ?_ | refine call_U (c7) ?_ | refine callG_U (fun _ => c7) ?_ | refine call_T (c7) ?_ | refine callG_T (fun _ => c7) ?_ | refine call_U (c8) ?_ | refine callG_U (fun _ => c8) ?_ | refine call_T (c8) ?_ | refine callG_T (fun _ => c8) ?_ | refine call_U (c6 _) ?_ | refine callG_U (fun _ => c6 _) ?_ | refine call_T (c6 _) ?_ | refine callG_T (fun _ => c6 _) ?_ | refine call_N (c5 _) ?_ | refine call_of (c5 _) ?_ | refine callG_of (fun _ => c5 _) ?_ | refine call_N (c7) ?_ | refine call_of (c7) ?_ | refine callG_of (fun _ => c7) ?_ | refine call_N (c8) ?_ | refine call_of (c8) ?_ | refine callG_of (fun _ => c8) ?_ | refine call_N (c6 _) ?_ | refine call_of (c6 _) ?_ | refine callG_of (fun _ => c6 _) ?_ | (refine pureE_U c3 ?_; rintro _ ⟨r1, hr1, rfl⟩) | (refine pureE_U c4 ?_; rintro _ ⟨r2, hr2, rfl⟩) | (refine gd ?_) | fail)
    all_goals first
      | (refine pureE_end FR_err ⟨⟨[], [], _⟩, fun h0 => ?_, rfl⟩; first | (simp at h0; done) | (dsimp only at h0; first | exact absurd h0 (by assumption) | omega))
      | skip
    obtain rfl : dv2 = dv := by
      have hq : ((dv : Int) != dv2) = false := by assumption
      simp only [bne_eq_false_iff_eq] at hq
      omega
    have hrd : r1.1.d = (dv2 : Int) := hr1 (by
      have hq : (r1.2 != 0) = false := by assumption
      simpa using hq)
    have c10 := fun z => one ⟨dv2, i⟩ s z ⟨0, 0⟩
    have c11 := fun z w => one ⟨dv2, i2⟩ s2 z w
    simp only [AtL_eq] at c10 c11
    replace c10 := c10 ⟨dv2, r1.1.i⟩
    generalize hmv : dirB fs r1.1 = mv at *
    cases mv
    · refine callG_LU (fun hg => by cases hg) (fun _ => ?_)
      repeat' (first | (simp (disch := first | exact dd | fail) only [go_sem, AtL_eq, un_any, pick_a0, pick_0a0]) | (refine allI (fun b => ?_)) | (refine allT (fun τ => ?_)) | (refine brP (fun h => ?_) (fun h => ?_) <;> (try simp only [zgx, zbx] at h)) | refine call_U (c5 _) ?_ | refine callG_U (fun _ => c5 _) ?_ | refine call_T (c5 _) ?_ | refine callG_T (fun _ => c5 _) ?_ | refine call_U (c7) ?_ | refine callG_U (fun _ => c7) ?_ | refine call_T (c7) ?_ | refine callG_T (fun _ => c7) ?_ | refine call_U (c6 _) ?_ | refine callG_U (fun _ => c6 _) ?_ | refine call_T (c6 _) ?_ | refine callG_T (fun _ => c6 _) ?_ | refine call_N (c5 _) ?_ | refine call_of (c5 _) ?_ | refine callG_of (fun _ => c5 _) ?_ | refine call_N (c7) ?_ | refine call_of (c7) ?_ | refine callG_of (fun _ => c7) ?_ | refine call_N (c6 _) ?_ | refine call_of (c6 _) ?_ | refine callG_of (fun _ => c6 _) ?_ | (refine pureE_U c4 ?_; rintro _ ⟨r2, hr2, rfl⟩) | (refine gd ?_) | fail)
      all_goals first
        | (refine pureE_end FR_err ⟨⟨[], [], _⟩, fun h0 => ?_, rfl⟩; first | (simp at h0; done) | (dsimp only at h0; first | exact absurd h0 (by assumption) | omega))
        | skip
      · refine call_U c8 ?_
        repeat' (first | (simp (disch := first | exact dd | fail) only [go_sem]) | (refine allI (fun b => ?_)) | (refine allT (fun τ => ?_)) | (refine brP (fun h => ?_) (fun h => ?_) <;> (try simp only [zgx, zbx] at h)) | (refine gd ?_) | fail)
        exact pureE_end (r := FRL ⟨fs, [], 0⟩) (leV.tup ⟨leV.refl _, leV.nil_sl _ _, leV.refl _, trivial⟩) ⟨⟨fs, [], 0⟩, fun _ => ⟨hf.mono (by omega) (by omega), rfl⟩, rfl⟩
      · have hq0 : r2.2 = 0 := by assumption
        have hE : (r2.2 == 0) = true := by simp [hq0]
        have hrd2 : r2.1.d = (dv2 : Int) := hr2 hq0
        have hcp := copyO fs dv2 hdv hF
        rw [FiL_eq] at hcp
        first | refine newsQ_U (hcp) ?_ | refine newsQ_T (hcp) ?_ | refine newsQ_of (hcp) ?_
        rintro _ _ ⟨bo, co, bn, cn, k1, k2, rfl, rfl⟩
        have hDI := hf.at hdv
        have hw1 := enterO fs dv2 i s 0 bo co bn cn ⟨hF, hdv, k1, k2⟩ k hix hkl
        rw [FoH_eq, FoV_eq, AtL_eq] at hw1
        rw [FoV_eq, FoH_eq]
        try simp only [List.cons_append, List.nil_append]
        repeat' (first | (simp (disch := first | exact dd | fail) only [go_sem, hrd]) | (refine allI (fun b => ?_)) | (refine allT (fun τ => ?_)) | (refine brP (fun h => ?_) (fun h => ?_) <;> (try simp only [zgx, zbx] at h)) | (refine gd ?_) | fail)
        refine actsP_U hw1 (pick_perm rfl (pick_perm rfl (List.Perm.refl _))) ?_
        rintro _ _ ⟨es, hR, rfl⟩
        have hD1 := hDI.es (i := i) (ino := 0) hixI hR hs12
        have hf1 : FI 16 (q + 1) (setD fs dv2 ⟨(fs.getD dv2 dv0).nx, setEs (fs.getD dv2 dv0).ns k es⟩) := (hf.mono (by omega) (by omega)).set hD1
        have hx2 : ixI (setEs (fs.getD dv2 dv0).ns k es) i2 = (kk : Nat) := (ixI_setEs hkl i2).trans hixI2
        have hw2 := enterO (setD fs dv2 ⟨(fs.getD dv2 dv0).nx, setEs (fs.getD dv2 dv0).ns k es⟩) dv2 i2 s2 r1.1.i bo co bn cn (OkO.set hdv k1 hf1 (by omega) (by rw [setEs_len]; exact k2)) kk (idx_of (by rw [setD_len]; exact hdv) (by rw [setD_get hdv]; exact hx2)) (by rw [setD_get hdv, setEs_len]; exact hkl2)
        simp only [setD_len, setD_get hdv, setD_set, FoV_eq, AtL_eq] at hw2
        rw [FoH_eq] at hw2 ⊢
        try simp only [List.cons_append, List.nil_append]
        repeat' (first | (simp (disch := first | exact dd | fail) only [go_sem, hrd]) | (refine allI (fun b => ?_)) | (refine allT (fun τ => ?_)) | (refine brP (fun h => ?_) (fun h => ?_) <;> (try simp only [zgx, zbx] at h)) | (refine gd ?_) | fail)
        refine actsP_U hw2 (pick_perm rfl (pick_perm rfl (List.Perm.refl _))) ?_
        rintro _ _ ⟨es2, hR2, rfl⟩
        have hD2 := hD1.es (i := i2) (ino := r1.1.i) hx2 hR2 hs22
        have hsp : SP (fnd (fs.getD dv2 dv0).ns) (fnd (setEs (setEs (fs.getD dv2 dv0).ns k es) kk es2)) := (SP.es hixI).trans (SP.es hx2)
        have k4 : (setEs (setEs (fs.getD dv2 dv0).ns k es) kk es2).length ≤ cn := by rw [setEs_len, setEs_len]; exact k2
        dsimp only at hD2
        have hix3 : ∀ j, ixI (setEs (setEs (fs.getD dv2 dv0).ns k es) kk es2) j = ixI (fs.getD dv2 dv0).ns j := fun j => (ixI_setEs (by rw [setEs_len]; exact hkl2) j).trans (ixI_setEs hkl j)
        generalize setEs (setEs (fs.getD dv2 dv0).ns k es) kk es2 = ns2 at *
        have hf2 : FI 16 (q + 2) (setD fs dv2 ⟨(fs.getD dv2 dv0).nx, ns2⟩) := (hf.mono (by omega) (by omega)).set hD2
        have hw3 := dropO (setD fs dv2 ⟨(fs.getD dv2 dv0).nx, ns2⟩) dv2 r2.1.i bo co bn cn (OkO.set hdv k1 hf2 (by omega) k4)
        simp only [setD_len, setD_get hdv, setD_set, FoV_eq, AtL_eq] at hw3
        rw [FoH_eq] at hw3 ⊢
        try simp only [List.cons_append, List.nil_append]
        repeat' (first | (simp (disch := first | exact dd | fail) only [go_sem, hrd, hrd2, hE]) | (refine allI (fun b => ?_)) | (refine allT (fun τ => ?_)) | (refine brP (fun h => ?_) (fun h => ?_) <;> (try simp only [zgx, zbx] at h)) | (refine gd ?_) | fail)
        refine actsP_U hw3 (pick_perm rfl (pick_perm rfl (List.Perm.refl _))) ?_
        rintro _ _ ⟨ns3, bn, cn, k4, hn2, rfl⟩
        have hD3 := hD2.drop hn2
        replace hsp := hsp.trans (SP.drop hn2)
        dsimp only at hD3
        rw [FoH_eq]
        try simp only [List.cons_append, List.nil_append]
        repeat' (first | (simp (disch := first | exact dd | fail) only [go_sem, hrd, hE, hrd2]) | (refine allI (fun b => ?_)) | (refine allT (fun τ => ?_)) | (refine brP (fun h => ?_) (fun h => ?_) <;> (try simp only [zgx, zbx] at h)) | refine call_U (c10) ?_ | refine callG_U (fun _ => c10) ?_ | refine call_T (c10) ?_ | refine callG_T (fun _ => c10) ?_ | refine call_U (c11 ⟨dv2, r2.1.i⟩ ⟨dv2, r1.1.i⟩) ?_ | refine callG_U (fun _ => c11 ⟨dv2, r2.1.i⟩ ⟨dv2, r1.1.i⟩) ?_ | refine call_T (c11 ⟨dv2, r2.1.i⟩ ⟨dv2, r1.1.i⟩) ?_ | refine callG_T (fun _ => c11 ⟨dv2, r2.1.i⟩ ⟨dv2, r1.1.i⟩) ?_ | refine call_N (c10) ?_ | refine call_of (c10) ?_ | refine callG_of (fun _ => c10) ?_ | refine call_N (c11 ⟨dv2, r2.1.i⟩ ⟨dv2, r1.1.i⟩) ?_ | refine call_of (c11 ⟨dv2, r2.1.i⟩ ⟨dv2, r1.1.i⟩) ?_ | refine callG_of (fun _ => c11 ⟨dv2, r2.1.i⟩ ⟨dv2, r1.1.i⟩) ?_ | (refine gd ?_) | fail)
        refine ⟨by simp only [roomy]; omega, fun τ => ?_⟩
        repeat' (first | (simp (disch := first | exact dd | fail) only [go_sem]) | (refine allI (fun b => ?_)) | (refine allT (fun τ => ?_)) | (refine brP (fun h => ?_) (fun h => ?_) <;> (try simp only [zgx, zbx] at h)) | (refine gd ?_) | fail)
        exact fo_end (fs := setD fs dv2 ⟨(fs.getD dv2 dv0).nx, ns3⟩) (dv := dv2) (b1 := bn) (c1 := cn) (setD_len _ _ _) (by rw [setD_len]; exact hdv) (by rw [setD_len]; exact k1) (by rw [setD_get hdv]; exact k4) (two_le _ _) (by rw [FoH_eq]; repeat (first | exact List.Sublist.refl _ | apply List.Sublist.cons)) (fun _ => ⟨(hf.mono (by omega) (by omega)).set hD3, setD_len _ _ _⟩)
      · have hq0 : ¬ r2.2 = 0 := by assumption
        have hE : (r2.2 == 0) = false := by simp [hq0]
        have hcp := copyO fs dv2 hdv hF
        rw [FiL_eq] at hcp
        first | refine newsQ_U (hcp) ?_ | refine newsQ_T (hcp) ?_ | refine newsQ_of (hcp) ?_
        rintro _ _ ⟨bo, co, bn, cn, k1, k2, rfl, rfl⟩
        have hDI := hf.at hdv
        have hw1 := enterO fs dv2 i s 0 bo co bn cn ⟨hF, hdv, k1, k2⟩ k hix hkl
        rw [FoH_eq, FoV_eq, AtL_eq] at hw1
        rw [FoV_eq, FoH_eq]
        try simp only [List.cons_append, List.nil_append]
        repeat' (first | (simp (disch := first | exact dd | fail) only [go_sem, hrd]) | (refine allI (fun b => ?_)) | (refine allT (fun τ => ?_)) | (refine brP (fun h => ?_) (fun h => ?_) <;> (try simp only [zgx, zbx] at h)) | (refine gd ?_) | fail)
        refine actsP_U hw1 (pick_perm rfl (pick_perm rfl (List.Perm.refl _))) ?_
        rintro _ _ ⟨es, hR, rfl⟩
        have hD1 := hDI.es (i := i) (ino := 0) hixI hR hs12
        have hf1 : FI 16 (q + 1) (setD fs dv2 ⟨(fs.getD dv2 dv0).nx, setEs (fs.getD dv2 dv0).ns k es⟩) := (hf.mono (by omega) (by omega)).set hD1
        have hx2 : ixI (setEs (fs.getD dv2 dv0).ns k es) i2 = (kk : Nat) := (ixI_setEs hkl i2).trans hixI2
        have hw2 := enterO (setD fs dv2 ⟨(fs.getD dv2 dv0).nx, setEs (fs.getD dv2 dv0).ns k es⟩) dv2 i2 s2 r1.1.i bo co bn cn (OkO.set hdv k1 hf1 (by omega) (by rw [setEs_len]; exact k2)) kk (idx_of (by rw [setD_len]; exact hdv) (by rw [setD_get hdv]; exact hx2)) (by rw [setD_get hdv, setEs_len]; exact hkl2)
        simp only [setD_len, setD_get hdv, setD_set, FoV_eq, AtL_eq] at hw2
        rw [FoH_eq] at hw2 ⊢
        try simp only [List.cons_append, List.nil_append]
        repeat' (first | (simp (disch := first | exact dd | fail) only [go_sem, hrd]) | (refine allI (fun b => ?_)) | (refine allT (fun τ => ?_)) | (refine brP (fun h => ?_) (fun h => ?_) <;> (try simp only [zgx, zbx] at h)) | (refine gd ?_) | fail)
        refine actsP_U hw2 (pick_perm rfl (pick_perm rfl (List.Perm.refl _))) ?_
        rintro _ _ ⟨es2, hR2, rfl⟩
        have hD2 := hD1.es (i := i2) (ino := r1.1.i) hx2 hR2 hs22
        have hsp : SP (fnd (fs.getD dv2 dv0).ns) (fnd (setEs (setEs (fs.getD dv2 dv0).ns k es) kk es2)) := (SP.es hixI).trans (SP.es hx2)
        have k4 : (setEs (setEs (fs.getD dv2 dv0).ns k es) kk es2).length ≤ cn := by rw [setEs_len, setEs_len]; exact k2
        dsimp only at hD2
        have hix3 : ∀ j, ixI (setEs (setEs (fs.getD dv2 dv0).ns k es) kk es2) j = ixI (fs.getD dv2 dv0).ns j := fun j => (ixI_setEs (by rw [setEs_len]; exact hkl2) j).trans (ixI_setEs hkl j)
        generalize setEs (setEs (fs.getD dv2 dv0).ns k es) kk es2 = ns2 at *
        have hD3 := hD2
        obtain ⟨ns3, hn2⟩ : ∃ ns3, ns3 = ns2 := ⟨_, rfl⟩
        rw [← hn2] at hD3 hsp k4 ⊢
        rw [FoH_eq]
        try simp only [List.cons_append, List.nil_append]
        repeat' (first | (simp (disch := first | exact dd | fail) only [go_sem, hrd, hE]) | (refine allI (fun b => ?_)) | (refine allT (fun τ => ?_)) | (refine brP (fun h => ?_) (fun h => ?_) <;> (try simp only [zgx, zbx] at h)) | refine call_U (c10) ?_ | refine callG_U (fun _ => c10) ?_ | refine call_T (c10) ?_ | refine callG_T (fun _ => c10) ?_ | refine call_U (c11 r2.1 ⟨dv2, r1.1.i⟩) ?_ | refine callG_U (fun _ => c11 r2.1 ⟨dv2, r1.1.i⟩) ?_ | refine call_T (c11 r2.1 ⟨dv2, r1.1.i⟩) ?_ | refine callG_T (fun _ => c11 r2.1 ⟨dv2, r1.1.i⟩) ?_ | refine call_N (c10) ?_ | refine call_of (c10) ?_ | refine callG_of (fun _ => c10) ?_ | refine call_N (c11 r2.1 ⟨dv2, r1.1.i⟩) ?_ | refine call_of (c11 r2.1 ⟨dv2, r1.1.i⟩) ?_ | refine callG_of (fun _ => c11 r2.1 ⟨dv2, r1.1.i⟩) ?_ | (refine gd ?_) | fail)
        refine ⟨by simp only [roomy]; omega, fun τ => ?_⟩
        repeat' (first | (simp (disch := first | exact dd | fail) only [go_sem]) | (refine allI (fun b => ?_)) | (refine allT (fun τ => ?_)) | (refine brP (fun h => ?_) (fun h => ?_) <;> (try simp only [zgx, zbx] at h)) | (refine gd ?_) | fail)
        exact fo_end (fs := setD fs dv2 ⟨(fs.getD dv2 dv0).nx, ns3⟩) (dv := dv2) (b1 := bn) (c1 := cn) (setD_len _ _ _) (by rw [setD_len]; exact hdv) (by rw [setD_len]; exact k1) (by rw [setD_get hdv]; exact k4) (two_le _ _) (by rw [FoH_eq]; repeat (first | exact List.Sublist.refl _ | apply List.Sublist.cons)) (fun _ => ⟨(hf.mono (by omega) (by omega)).set hD3, setD_len _ _ _⟩)
    · refine callG_LU (fun _ => ?_) (fun hg => by cases hg)
      refine pureE_U (c9 r1.1) ?_
      rintro _ ⟨bl, hbl, rfl⟩
      repeat' (first | (simp (disch := first | exact dd | fail) only [go_sem, AtL_eq, un_any, pick_a0, pick_0a0]) | (refine allI (fun b => ?_)) | (refine allT (fun τ => ?_)) | (refine brP (fun h => ?_) (fun h => ?_) <;> (try simp only [zgx, zbx] at h)) | refine call_U (c5 _) ?_ | refine callG_U (fun _ => c5 _) ?_ | refine call_T (c5 _) ?_ | refine callG_T (fun _ => c5 _) ?_ | refine call_U (c7) ?_ | refine callG_U (fun _ => c7) ?_ | refine call_T (c7) ?_ | refine callG_T (fun _ => c7) ?_ | refine call_U (c6 _) ?_ | refine callG_U (fun _ => c6 _) ?_ | refine call_T (c6 _) ?_ | refine callG_T (fun _ => c6 _) ?_ | refine call_N (c5 _) ?_ | refine call_of (c5 _) ?_ | refine callG_of (fun _ => c5 _) ?_ | refine call_N (c7) ?_ | refine call_of (c7) ?_ | refine callG_of (fun _ => c7) ?_ | refine call_N (c6 _) ?_ | refine call_of (c6 _) ?_ | refine callG_of (fun _ => c6 _) ?_ | (refine pureE_U c4 ?_; rintro _ ⟨r2, hr2, rfl⟩) | (refine gd ?_) | fail)
      all_goals first
        | (refine pureE_end FR_err ⟨⟨[], [], _⟩, fun h0 => ?_, rfl⟩; first | (simp at h0; done) | (dsimp only at h0; first | exact absurd h0 (by assumption) | omega))
        | skip
      · refine call_U c8 ?_
        repeat' (first | (simp (disch := first | exact dd | fail) only [go_sem]) | (refine allI (fun b => ?_)) | (refine allT (fun τ => ?_)) | (refine brP (fun h => ?_) (fun h => ?_) <;> (try simp only [zgx, zbx] at h)) | (refine gd ?_) | fail)
        exact pureE_end (r := FRL ⟨fs, [], 0⟩) (leV.tup ⟨leV.refl _, leV.nil_sl _ _, leV.refl _, trivial⟩) ⟨⟨fs, [], 0⟩, fun _ => ⟨hf.mono (by omega) (by omega), rfl⟩, rfl⟩
      · have hq0 : r2.2 = 0 := by assumption
        have hE : (r2.2 == 0) = true := by simp [hq0]
        have hrd2 : r2.1.d = (dv2 : Int) := hr2 hq0
        have hcp := copyO fs dv2 hdv hF
        rw [FiL_eq] at hcp
        first | refine newsQ_U (hcp) ?_ | refine newsQ_T (hcp) ?_ | refine newsQ_of (hcp) ?_
        rintro _ _ ⟨bo, co, bn, cn, k1, k2, rfl, rfl⟩
        have hDI := hf.at hdv
        have hw1 := enterO fs dv2 i s 0 bo co bn cn ⟨hF, hdv, k1, k2⟩ k hix hkl
        rw [FoH_eq, FoV_eq, AtL_eq] at hw1
        rw [FoV_eq, FoH_eq]
        try simp only [List.cons_append, List.nil_append]
        repeat' (first | (simp (disch := first | exact dd | fail) only [go_sem, hrd]) | (refine allI (fun b => ?_)) | (refine allT (fun τ => ?_)) | (refine brP (fun h => ?_) (fun h => ?_) <;> (try simp only [zgx, zbx] at h)) | (refine gd ?_) | fail)
        refine actsP_U hw1 (pick_perm rfl (pick_perm rfl (List.Perm.refl _))) ?_
        rintro _ _ ⟨es, hR, rfl⟩
        have hD1 := hDI.es (i := i) (ino := 0) hixI hR hs12
        have hf1 : FI 16 (q + 1) (setD fs dv2 ⟨(fs.getD dv2 dv0).nx, setEs (fs.getD dv2 dv0).ns k es⟩) := (hf.mono (by omega) (by omega)).set hD1
        have hx2 : ixI (setEs (fs.getD dv2 dv0).ns k es) i2 = (kk : Nat) := (ixI_setEs hkl i2).trans hixI2
        have hw2 := enterO (setD fs dv2 ⟨(fs.getD dv2 dv0).nx, setEs (fs.getD dv2 dv0).ns k es⟩) dv2 i2 s2 r1.1.i bo co bn cn (OkO.set hdv k1 hf1 (by omega) (by rw [setEs_len]; exact k2)) kk (idx_of (by rw [setD_len]; exact hdv) (by rw [setD_get hdv]; exact hx2)) (by rw [setD_get hdv, setEs_len]; exact hkl2)
        simp only [setD_len, setD_get hdv, setD_set, FoV_eq, AtL_eq] at hw2
        rw [FoH_eq] at hw2 ⊢
        try simp only [List.cons_append, List.nil_append]
        repeat' (first | (simp (disch := first | exact dd | fail) only [go_sem, hrd]) | (refine allI (fun b => ?_)) | (refine allT (fun τ => ?_)) | (refine brP (fun h => ?_) (fun h => ?_) <;> (try simp only [zgx, zbx] at h)) | (refine gd ?_) | fail)
        refine actsP_U hw2 (pick_perm rfl (pick_perm rfl (List.Perm.refl _))) ?_
        rintro _ _ ⟨es2, hR2, rfl⟩
        have hD2 := hD1.es (i := i2) (ino := r1.1.i) hx2 hR2 hs22
        have hsp : SP (fnd (fs.getD dv2 dv0).ns) (fnd (setEs (setEs (fs.getD dv2 dv0).ns k es) kk es2)) := (SP.es hixI).trans (SP.es hx2)
        have k4 : (setEs (setEs (fs.getD dv2 dv0).ns k es) kk es2).length ≤ cn := by rw [setEs_len, setEs_len]; exact k2
        dsimp only at hD2
        have hix3 : ∀ j, ixI (setEs (setEs (fs.getD dv2 dv0).ns k es) kk es2) j = ixI (fs.getD dv2 dv0).ns j := fun j => (ixI_setEs (by rw [setEs_len]; exact hkl2) j).trans (ixI_setEs hkl j)
        generalize setEs (setEs (fs.getD dv2 dv0).ns k es) kk es2 = ns2 at *
        have hf2 : FI 16 (q + 2) (setD fs dv2 ⟨(fs.getD dv2 dv0).nx, ns2⟩) := (hf.mono (by omega) (by omega)).set hD2
        have hw3 := dropO (setD fs dv2 ⟨(fs.getD dv2 dv0).nx, ns2⟩) dv2 r2.1.i bo co bn cn (OkO.set hdv k1 hf2 (by omega) k4)
        simp only [setD_len, setD_get hdv, setD_set, FoV_eq, AtL_eq] at hw3
        rw [FoH_eq] at hw3 ⊢
        try simp only [List.cons_append, List.nil_append]
        repeat' (first | (simp (disch := first | exact dd | fail) only [go_sem, hrd, hrd2, hE]) | (refine allI (fun b => ?_)) | (refine allT (fun τ => ?_)) | (refine brP (fun h => ?_) (fun h => ?_) <;> (try simp only [zgx, zbx] at h)) | (refine gd ?_) | fail)
        refine actsP_U hw3 (pick_perm rfl (pick_perm rfl (List.Perm.refl _))) ?_
        rintro _ _ ⟨ns3, bn, cn, k4, hn2, rfl⟩
        have hD3 := hD2.drop hn2
        replace hsp := hsp.trans (SP.drop hn2)
        dsimp only at hD3
        have hf3 : FI 16 (q + 2) (setD fs dv2 ⟨(fs.getD dv2 dv0).nx, ns3⟩) := (hf.mono (by omega) (by omega)).set hD3
        have hat : dirB fs ⟨dv2, r1.1.i⟩ = true := by rw [← hrd]; exact hmv
        obtain ⟨_, ka, hxa, _, _, hkla, hixa, _, _⟩ := dirB_at hat
        obtain rfl := Int.ofNat.inj hxa
        dsimp only at hixa
        obtain ⟨k3, hk3⟩ : ∃ k3 : Nat, ixI ns3 r1.1.i = (k3 : Nat) := ixI_keep (by rw [hix3]; exact hixa) hn2 (by omega)
        obtain ⟨hk3l, _, _⟩ := fnd_k hk3
        have hto : i2 < (fs.getD dv2 dv0).nx := by have := (hDI.nod _ (nAt_mem hkl2)).2.2.1; omega
        have hD4 := DI.ren hDI hD3 hsp hk3 hto (Nat.le_refl 16) (hbl (by assumption) hrd)
        have hX := ixO (setD fs dv2 ⟨(fs.getD dv2 dv0).nx, ns3⟩) dv2 r1.1.i bo co bn cn (OkO.set hdv k1 hf3 (by omega) k4)
        rw [idx_of (k := k3) (by rw [setD_len]; exact hdv) (by rw [setD_get hdv]; exact hk3)] at hX
        simp only [setD_len, FoV_eq, AtL_eq] at hX
        have hFn := FoH_ns (b := bo) (c := co) (b1 := bn) (c1 := cn) (fs := setD fs dv2 ⟨(fs.getD dv2 dv0).nx, ns3⟩) (ns' := setPar ns3 k3 i2) (by rw [setD_len]; exact hdv) (by rw [setD_get hdv]; simp [setPar])
        have hpr := fun z => setPar_rows (z := z) (to := i2) hk3l
        rw [FoH_eq] at hX ⊢
        simp only [setD_get hdv, setD_set, setD_len] at hX hFn ⊢
        have hgS := (getSp (k := (co - fs.length) * 2) (by rw [FoC_len _ (by rw [setD_len]; exact hdv), setD_len]; omega)).trans (FoC_v (fs := setD fs dv2 ⟨(fs.getD dv2 dv0).nx, ns3⟩) (.msl 7001 8 bn 0 ns3.length cn) (by rw [setD_len]; exact hdv))
        have hFS := length_Sp (FoC (setD fs dv2 ⟨(fs.getD dv2 dv0).nx, ns3⟩) dv2 (.msl 7001 8 bn 0 ns3.length cn)) ((co - fs.length) * 2)
        rw [FoC_len _ (by rw [setD_len]; exact hdv), setD_len] at hFS
        have hln := len_no ns3
        have hSS := length_Sp (ns3.flatMap NoC) ((cn - ns3.length) * 8)
        have hkk8 : (k3 + 1) * 8 ≤ ns3.length * 8 := Nat.mul_le_mul_right 8 hk3l
        try simp only [List.cons_append, List.nil_append]
        repeat' (first | (simp (disch := first | exact dd | fail) only [go_sem, hrd, hE, hrd2, hgS, hFS]) | (refine allI (fun b => ?_)) | (refine allT (fun τ => ?_)) | (refine brP (fun h => ?_) (fun h => ?_) <;> (try simp only [zgx, zbx] at h)) | (refine gd ?_) | fail)
        refine actsQ_of hX (pick_perm rfl (pick_perm rfl (List.Perm.refl _))) ?_
        rintro _ _ ⟨rfl, rfl⟩
        try simp only [List.cons_append, List.nil_append]
        repeat' (first | (simp (disch := first | exact dd | fail) only [go_sem, hrd, hE, hrd2, hgS, hFS, putC_eq]) | (refine allI (fun b => ?_)) | (refine allT (fun τ => ?_)) | (refine brP (fun h => ?_) (fun h => ?_) <;> (try simp only [zgx, zbx] at h)) | refine call_U (c10) ?_ | refine callG_U (fun _ => c10) ?_ | refine call_T (c10) ?_ | refine callG_T (fun _ => c10) ?_ | refine call_U (c11 ⟨dv2, r2.1.i⟩ ⟨dv2, r1.1.i⟩) ?_ | refine callG_U (fun _ => c11 ⟨dv2, r2.1.i⟩ ⟨dv2, r1.1.i⟩) ?_ | refine call_T (c11 ⟨dv2, r2.1.i⟩ ⟨dv2, r1.1.i⟩) ?_ | refine callG_T (fun _ => c11 ⟨dv2, r2.1.i⟩ ⟨dv2, r1.1.i⟩) ?_ | refine call_N (c10) ?_ | refine call_of (c10) ?_ | refine callG_of (fun _ => c10) ?_ | refine call_N (c11 ⟨dv2, r2.1.i⟩ ⟨dv2, r1.1.i⟩) ?_ | refine call_of (c11 ⟨dv2, r2.1.i⟩ ⟨dv2, r1.1.i⟩) ?_ | refine callG_of (fun _ => c11 ⟨dv2, r2.1.i⟩ ⟨dv2, r1.1.i⟩) ?_ | (refine gd ?_) | fail)
        rw [hpr]
        refine ⟨by simp only [roomy]; omega, fun τ => ?_⟩
        repeat' (first | (simp (disch := first | exact dd | fail) only [go_sem]) | (refine allI (fun b => ?_)) | (refine allT (fun τ => ?_)) | (refine brP (fun h => ?_) (fun h => ?_) <;> (try simp only [zgx, zbx] at h)) | (refine gd ?_) | fail)
        exact fo_end (fs := setD fs dv2 ⟨(fs.getD dv2 dv0).nx, setPar ns3 k3 i2⟩) (dv := dv2) (b1 := bn) (c1 := cn) (setD_len _ _ _) (by rw [setD_len]; exact hdv) (by rw [setD_len]; exact k1) (by rw [setD_get hdv]; simp only [setPar, List.length_set]; exact k4) (two_le _ _) (by rw [hFn]; repeat (first | exact List.Sublist.refl _ | apply List.Sublist.cons_cons | apply List.Sublist.cons)) (fun _ => ⟨(hf.mono (by omega) (by omega)).set hD4, setD_len _ _ _⟩)
      · have hq0 : ¬ r2.2 = 0 := by assumption
        have hE : (r2.2 == 0) = false := by simp [hq0]
        have hcp := copyO fs dv2 hdv hF
        rw [FiL_eq] at hcp
        first | refine newsQ_U (hcp) ?_ | refine newsQ_T (hcp) ?_ | refine newsQ_of (hcp) ?_
        rintro _ _ ⟨bo, co, bn, cn, k1, k2, rfl, rfl⟩
        have hDI := hf.at hdv
        have hw1 := enterO fs dv2 i s 0 bo co bn cn ⟨hF, hdv, k1, k2⟩ k hix hkl
        rw [FoH_eq, FoV_eq, AtL_eq] at hw1
        rw [FoV_eq, FoH_eq]
        try simp only [List.cons_append, List.nil_append]
        repeat' (first | (simp (disch := first | exact dd | fail) only [go_sem, hrd]) | (refine allI (fun b => ?_)) | (refine allT (fun τ => ?_)) | (refine brP (fun h => ?_) (fun h => ?_) <;> (try simp only [zgx, zbx] at h)) | (refine gd ?_) | fail)
        refine actsP_U hw1 (pick_perm rfl (pick_perm rfl (List.Perm.refl _))) ?_
        rintro _ _ ⟨es, hR, rfl⟩
        have hD1 := hDI.es (i := i) (ino := 0) hixI hR hs12
        have hf1 : FI 16 (q + 1) (setD fs dv2 ⟨(fs.getD dv2 dv0).nx, setEs (fs.getD dv2 dv0).ns k es⟩) := (hf.mono (by omega) (by omega)).set hD1
        have hx2 : ixI (setEs (fs.getD dv2 dv0).ns k es) i2 = (kk : Nat) := (ixI_setEs hkl i2).trans hixI2
        have hw2 := enterO (setD fs dv2 ⟨(fs.getD dv2 dv0).nx, setEs (fs.getD dv2 dv0).ns k es⟩) dv2 i2 s2 r1.1.i bo co bn cn (OkO.set hdv k1 hf1 (by omega) (by rw [setEs_len]; exact k2)) kk (idx_of (by rw [setD_len]; exact hdv) (by rw [setD_get hdv]; exact hx2)) (by rw [setD_get hdv, setEs_len]; exact hkl2)
        simp only [setD_len, setD_get hdv, setD_set, FoV_eq, AtL_eq] at hw2
        rw [FoH_eq] at hw2 ⊢
        try simp only [List.cons_append, List.nil_append]
        repeat' (first | (simp (disch := first | exact dd | fail) only [go_sem, hrd]) | (refine allI (fun b => ?_)) | (refine allT (fun τ => ?_)) | (refine brP (fun h => ?_) (fun h => ?_) <;> (try simp only [zgx, zbx] at h)) | (refine gd ?_) | fail)
        refine actsP_U hw2 (pick_perm rfl (pick_perm rfl (List.Perm.refl _))) ?_
        rintro _ _ ⟨es2, hR2, rfl⟩
        have hD2 := hD1.es (i := i2) (ino := r1.1.i) hx2 hR2 hs22
        have hsp : SP (fnd (fs.getD dv2 dv0).ns) (fnd (setEs (setEs (fs.getD dv2 dv0).ns k es) kk es2)) := (SP.es hixI).trans (SP.es hx2)
        have k4 : (setEs (setEs (fs.getD dv2 dv0).ns k es) kk es2).length ≤ cn := by rw [setEs_len, setEs_len]; exact k2
        dsimp only at hD2
        have hix3 : ∀ j, ixI (setEs (setEs (fs.getD dv2 dv0).ns k es) kk es2) j = ixI (fs.getD dv2 dv0).ns j := fun j => (ixI_setEs (by rw [setEs_len]; exact hkl2) j).trans (ixI_setEs hkl j)
        generalize setEs (setEs (fs.getD dv2 dv0).ns k es) kk es2 = ns2 at *
        have hD3 := hD2
        obtain ⟨ns3, hn2⟩ : ∃ ns3, ns3 = ns2 := ⟨_, rfl⟩
        rw [← hn2] at hD3 hsp k4 ⊢
        have hf3 : FI 16 (q + 2) (setD fs dv2 ⟨(fs.getD dv2 dv0).nx, ns3⟩) := (hf.mono (by omega) (by omega)).set hD3
        have hat : dirB fs ⟨dv2, r1.1.i⟩ = true := by rw [← hrd]; exact hmv
        obtain ⟨_, ka, hxa, _, _, hkla, hixa, _, _⟩ := dirB_at hat
        obtain rfl := Int.ofNat.inj hxa
        dsimp only at hixa
        obtain ⟨k3, hk3⟩ : ∃ k3 : Nat, ixI ns3 r1.1.i = (k3 : Nat) := ⟨ka, by rw [hn2, hix3]; exact hixa⟩
        obtain ⟨hk3l, _, _⟩ := fnd_k hk3
        have hto : i2 < (fs.getD dv2 dv0).nx := by have := (hDI.nod _ (nAt_mem hkl2)).2.2.1; omega
        have hD4 := DI.ren hDI hD3 hsp hk3 hto (Nat.le_refl 16) (hbl (by assumption) hrd)
        have hX := ixO (setD fs dv2 ⟨(fs.getD dv2 dv0).nx, ns3⟩) dv2 r1.1.i bo co bn cn (OkO.set hdv k1 hf3 (by omega) k4)
        rw [idx_of (k := k3) (by rw [setD_len]; exact hdv) (by rw [setD_get hdv]; exact hk3)] at hX
        simp only [setD_len, FoV_eq, AtL_eq] at hX
        have hFn := FoH_ns (b := bo) (c := co) (b1 := bn) (c1 := cn) (fs := setD fs dv2 ⟨(fs.getD dv2 dv0).nx, ns3⟩) (ns' := setPar ns3 k3 i2) (by rw [setD_len]; exact hdv) (by rw [setD_get hdv]; simp [setPar])
        have hpr := fun z => setPar_rows (z := z) (to := i2) hk3l
        rw [FoH_eq] at hX ⊢
        simp only [setD_get hdv, setD_set, setD_len] at hX hFn ⊢
        have hgS := (getSp (k := (co - fs.length) * 2) (by rw [FoC_len _ (by rw [setD_len]; exact hdv), setD_len]; omega)).trans (FoC_v (fs := setD fs dv2 ⟨(fs.getD dv2 dv0).nx, ns3⟩) (.msl 7001 8 bn 0 ns3.length cn) (by rw [setD_len]; exact hdv))
        have hFS := length_Sp (FoC (setD fs dv2 ⟨(fs.getD dv2 dv0).nx, ns3⟩) dv2 (.msl 7001 8 bn 0 ns3.length cn)) ((co - fs.length) * 2)
        rw [FoC_len _ (by rw [setD_len]; exact hdv), setD_len] at hFS
        have hln := len_no ns3
        have hSS := length_Sp (ns3.flatMap NoC) ((cn - ns3.length) * 8)
        have hkk8 : (k3 + 1) * 8 ≤ ns3.length * 8 := Nat.mul_le_mul_right 8 hk3l
        try simp only [List.cons_append, List.nil_append]
        repeat' (first | (simp (disch := first | exact dd | fail) only [go_sem, hrd, hE, hgS, hFS]) | (refine allI (fun b => ?_)) | (refine allT (fun τ => ?_)) | (refine brP (fun h => ?_) (fun h => ?_) <;> (try simp only [zgx, zbx] at h)) | (refine gd ?_) | fail)
        refine actsQ_of hX (pick_perm rfl (pick_perm rfl (List.Perm.refl _))) ?_
        rintro _ _ ⟨rfl, rfl⟩
        try simp only [List.cons_append, List.nil_append]
        repeat' (first | (simp (disch := first | exact dd | fail) only [go_sem, hrd, hE, hgS, hFS, putC_eq]) | (refine allI (fun b => ?_)) | (refine allT (fun τ => ?_)) | (refine brP (fun h => ?_) (fun h => ?_) <;> (try simp only [zgx, zbx] at h)) | refine call_U (c10) ?_ | refine callG_U (fun _ => c10) ?_ | refine call_T (c10) ?_ | refine callG_T (fun _ => c10) ?_ | refine call_U (c11 r2.1 ⟨dv2, r1.1.i⟩) ?_ | refine callG_U (fun _ => c11 r2.1 ⟨dv2, r1.1.i⟩) ?_ | refine call_T (c11 r2.1 ⟨dv2, r1.1.i⟩) ?_ | refine callG_T (fun _ => c11 r2.1 ⟨dv2, r1.1.i⟩) ?_ | refine call_N (c10) ?_ | refine call_of (c10) ?_ | refine callG_of (fun _ => c10) ?_ | refine call_N (c11 r2.1 ⟨dv2, r1.1.i⟩) ?_ | refine call_of (c11 r2.1 ⟨dv2, r1.1.i⟩) ?_ | refine callG_of (fun _ => c11 r2.1 ⟨dv2, r1.1.i⟩) ?_ | (refine gd ?_) | fail)
        rw [hpr]
        refine ⟨by simp only [roomy]; omega, fun τ => ?_⟩
        repeat' (first | (simp (disch := first | exact dd | fail) only [go_sem]) | (refine allI (fun b => ?_)) | (refine allT (fun τ => ?_)) | (refine brP (fun h => ?_) (fun h => ?_) <;> (try simp only [zgx, zbx] at h)) | (refine gd ?_) | fail)
        exact fo_end (fs := setD fs dv2 ⟨(fs.getD dv2 dv0).nx, setPar ns3 k3 i2⟩) (dv := dv2) (b1 := bn) (c1 := cn) (setD_len _ _ _) (by rw [setD_len]; exact hdv) (by rw [setD_len]; exact k1) (by rw [setD_get hdv]; simp only [setPar, List.length_set]; exact k4) (two_le _ _) (by rw [hFn]; repeat (first | exact List.Sublist.refl _ | apply List.Sublist.cons_cons | apply List.Sublist.cons)) (fun _ => ⟨(hf.mono (by omega) (by omega)).set hD4, setD_len _ _ _⟩)
end Go.Proofs.YtkdblnejpmbnfaaGreat.F
