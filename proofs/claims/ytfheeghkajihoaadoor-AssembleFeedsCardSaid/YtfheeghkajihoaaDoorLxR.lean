/- More of the engine: dummy tokens, families of tokens, what was made is let go, bits of uint64. (Chapter 23's Sk and Sm have some of it themselves: they do not import this.) -/
import Derived.Test.YtfheeghkajihoaaDoorLxO
namespace Go.Lx
open Go
set_option linter.unusedSimpArgs false
set_option linter.unusedVariables false
variable {P : Program} {gl : Glob}
theorem Ents.dummyE {env env' : Env} {H : Heap} (id : Nat) (h : envLe env env') : Ents gl env H env' ((id, .tok ⟨0, 0, 0⟩) :: H) := Ents.mk h.get fun _ _ _ _ hI => hI.dummy id 0
theorem leVH.pubF {id sz b n : Nat} {cs : List LV} (hl : cs.length = n * sz) : leVH gl (.msl id sz b 0 n n) [(id, .blk b cs)] (.fsl sz n cs) [] := fun w0 M HF w v hI hv => by
  obtain ⟨M', hM, hI', hc⟩ := hI.publish
  simp only [RV] at hv
  refine ⟨M', hM, ?_, hI'⟩
  simp only [RV]
  rcases hv with hv | ⟨rfl, _, ad, hv⟩
  · exact ⟨hl, .inl ⟨b, 0, hv, hc⟩⟩
  · exact ⟨hl, .inr ⟨ad, hv, rfl⟩⟩
/-- what was made is let go -/
theorem NewsE.drop {f : FuncId} {args : List LV} {id : Nat} {Q : LV → Ent → Prop} {r' : LV} (h : NewsE P gl f args id Q) (hq : ∀ r e, Q r e → leV r r') : Pure P gl f args r' :=
  fun w0 M HF w vs hI hv => (h w0 M HF w vs hI hv).mono fun _ _ ⟨M', v, r, H', h1, h2, h3, h4, e', h5, h6⟩ =>
    ⟨M', v, r', [], h1, h2, hq r e' h6 M' v h3, h4.sub (by subst h5; simp), rfl, rfl⟩
theorem ofInt_u64 {a : Int} (h : 0 ≤ a) (h' : a < 18446744073709551616) : (BitVec.ofInt (IntKind.bits .u64) a).toNat = a.toNat := by
  show (BitVec.ofInt 64 a).toNat = a.toNat
  simp only [BitVec.toNat_ofInt]
  omega
theorem or_u64 {a b : Int} (ha : 0 ≤ a) (ha' : a < 18446744073709551616) (hb : 0 ≤ b) (hb' : b < 18446744073709551616) : bitop .or .u64 a b = ((a.toNat ||| b.toNat : Nat) : Int) := by
  simp only [bitop, BitVec.toNat_or]
  rw [ofInt_u64 ha ha', ofInt_u64 hb hb']
  have h1 : a.toNat ||| b.toNat < 2 ^ 64 := Nat.or_lt_two_pow (by omega) (by omega)
  exact wrap_u64 (by omega) (by omega)
theorem shl_u64 {a : Int} {k : Nat} (ha : 0 ≤ a) (hk : k ≤ 64) (h : a * 2 ^ k < 18446744073709551616) : shl .u64 a k = a * 2 ^ k := by
  simp only [shl, IntKind.bits, Int.toNat_natCast]
  rw [Nat.min_eq_left hk]
  have : 0 ≤ a * 2 ^ k := Int.mul_nonneg ha (Int.le_of_lt (Int.pow_pos (by omega)))
  exact wrap_u64 (by omega) (by omega)
theorem or_shl {a c : Int} {k : Nat} (ha : 0 ≤ a) (hk : k ≤ 64) (h : a * 2 ^ k < 18446744073709551616) (hc : 0 ≤ c) (hc' : c < 2 ^ k) : bitop .or .u64 (shl .u64 a k) c = a * 2 ^ k + c := by
  rw [shl_u64 ha hk h]
  have h1 : 0 ≤ a * 2 ^ k := Int.mul_nonneg ha (Int.le_of_lt (Int.pow_pos (by omega)))
  have h2 : (2 : Int) ^ k ≤ 2 ^ 64 := by
    have : 2 ^ k ≤ 2 ^ 64 := Nat.pow_le_pow_right (by omega) hk
    exact_mod_cast this
  rw [or_u64 h1 h hc (by omega)]
  obtain ⟨n, rfl⟩ := Int.eq_ofNat_of_zero_le ha
  obtain ⟨m, rfl⟩ := Int.eq_ofNat_of_zero_le hc
  have hm : m < 2 ^ k := by exact_mod_cast hc'
  have e : ((n : Int) * 2 ^ k).toNat = n <<< k := by
    rw [Nat.shiftLeft_eq]
    have : ((n : Int) * 2 ^ k) = ((n * 2 ^ k : Nat) : Int) := by simp
    rw [this, Int.toNat_natCast]
  rw [e, Int.toNat_natCast, ← Nat.shiftLeft_add_eq_or_of_lt hm, Nat.shiftLeft_eq]
  simp
/-- a family of spare cells, one label each -/
def toks (τ : Nat → Tok) (a : Nat) : Nat → Heap
  | 0 => []
  | m + 1 => (5000 + a, .tok (τ a)) :: toks τ (a + 1) m
def updT (τ : Nat → Tok) (k : Nat) (t : Tok) : Nat → Tok := fun j => if j = k then t else τ j
theorem getH_toks (τ : Nat → Tok) (k : Nat) : ∀ (m a : Nat), a ≤ k → k < a + m → getH (toks τ a m) (5000 + k) = some (.tok (τ k))
  | 0, a, h, h' => by omega
  | m + 1, a, h, h' => by
    simp only [toks, getH]
    by_cases e : a = k
    · subst e; simp
    · rw [if_neg (by omega)]
      exact getH_toks τ k m (a + 1) (by omega) (by omega)
theorem toks_upd (τ : Nat → Tok) (k : Nat) (t : Tok) : ∀ (m a : Nat), k < a → toks (updT τ k t) a m = toks τ a m
  | 0, _, _ => rfl
  | m + 1, a, h => by
    simp only [toks, updT]
    rw [if_neg (by omega), toks_upd τ k t m (a + 1) (by omega)]
theorem delH_toks (τ : Nat → Tok) (k : Nat) (t : Tok) : ∀ (m a : Nat), a ≤ k → k < a + m → ((5000 + k, Ent.tok t) :: delH (toks τ a m) (5000 + k)).Perm (toks (updT τ k t) a m)
  | 0, a, h, h' => by omega
  | m + 1, a, h, h' => by
    simp only [toks, delH]
    by_cases e : a = k
    · subst e
      rw [if_pos rfl, toks_upd τ a t m (a + 1) (by omega)]
      simp [updT]
    · rw [if_neg (by omega)]
      have e2 : updT τ k t a = τ a := by simp [updT, e]
      rw [e2]
      exact (List.Perm.swap _ _ _).trans ((delH_toks τ k t m (a + 1) (by omega) (by omega)).cons _)
theorem getH_left {id : Nat} {e : Ent} : ∀ {H R : Heap}, getH H id = some e → getH (H ++ R) id = some e
  | [], R, h => by simp [getH] at h
  | (i, e0) :: H, R, h => by
    simp only [List.cons_append, getH] at h ⊢
    split at h
    · rename_i hi; rw [if_pos hi]; exact h
    · rename_i hi; rw [if_neg hi]; exact getH_left h
theorem delH_left {id : Nat} {e : Ent} : ∀ {H R : Heap}, getH H id = some e → delH (H ++ R) id = delH H id ++ R
  | [], R, h => by simp [getH] at h
  | (i, e0) :: H, R, h => by
    simp only [getH, List.cons_append, delH] at h ⊢
    split at h
    · rename_i hi; rw [if_pos hi, if_pos hi]
    · rename_i hi; rw [if_neg hi, if_neg hi, delH_left h]; rfl
theorem appOsl {id sz bytes m i n : Nat} {t : Tok} {cs ys : List LV} {H : Heap} {K : LV → Heap → Prop} (hg : getH H i = some (.tok t)) (hr : roomy (n + m) bytes) (h : ∀ τ, K (.osl i τ sz (n + m) (cs ++ ys)) ((i, .tok τ) :: delH H i)) : appV id sz bytes m (.osl i t sz n cs) ys H K := by
  simp only [appV, hg]
  exact ⟨⟨trivial, trivial, hr⟩, h⟩
theorem EntsT.drop {env tmp : Env} {H H' : Heap} (hs : H'.Sublist H) : EntsT gl env tmp H env tmp H' := fun _ _ _ M HF _ _ hI hF => ⟨M, MLe.refl M, hF, hI.sub (hs.append_right HF)⟩
/-- a cell of a row, where the rows are of one width -/
theorem getD_rows {α : Type} {f : α → List LV} {w : Nat} (hf : ∀ a, (f a).length = w) {j : Nat} (hj : j < w) (d : α) : ∀ (l : List α) (i : Nat), i < l.length → (l.flatMap f).getD (i * w + j) .any = (f (l.getD i d)).getD j .any
  | [], i, h => by simp at h
  | a :: l, 0, _ => by
    simp only [List.flatMap_cons, Nat.zero_mul, Nat.zero_add]
    have h2 : j < (f a).length := by rw [hf]; exact hj
    simp [List.getD, List.getElem?_append_left h2]
  | a :: l, i + 1, h => by
    have ih := getD_rows hf hj d l i (by simpa using h)
    simp only [List.flatMap_cons]
    have e : (i + 1) * w + j = (f a).length + (i * w + j) := by rw [hf, Nat.add_mul]; omega
    rw [e]
    simp only [List.getD, List.getElem?_append_right (Nat.le_add_right _ _), Nat.add_sub_cancel_left] at ih ⊢
    simpa using ih
theorem length_rows {α : Type} {f : α → List LV} {w : Nat} (hf : ∀ a, (f a).length = w) : ∀ l : List α, (l.flatMap f).length = l.length * w
  | [] => by simp
  | a :: l => by simp [List.flatMap_cons, hf, length_rows hf l, Nat.add_mul]; omega
theorem Inv.dummies {w0 : World} {M : Imm} {H : Heap} {w : World} (h : Inv gl w0 M H w) : ∀ (m a : Nat), Inv gl w0 M (toks (fun _ => ⟨0, 0, 0⟩) a m ++ H) w
  | 0, _ => h
  | m + 1, a => (Inv.dummies h m (a + 1)).dummy (5000 + a) 0
/-- the cells of a block seen otherwise, with as many dummy tokens as wanted -/
theorem Ents.rows {env env' : Env} {H : Heap} {i b : Nat} {cs cs' : List LV} (m a : Nat) (he : envLe env env') (hc : ∀ (k : Nat) (c' : LV), cs'[k]? = some c' → ∃ c, cs[k]? = some c ∧ leV c c') : Ents gl env ((i, .blk b cs) :: H) env' ((i, .blk b cs') :: (toks (fun _ => ⟨0, 0, 0⟩) a m ++ H)) :=
  Ents.mk he.get fun w0 M HF w hI => by
    have h1 : Inv gl w0 M ((i, .blk b cs') :: (H ++ HF)) w := hI.weaken fun k c' hk => by
      obtain ⟨c, h1, h2⟩ := hc k c' hk
      exact ⟨c, h1, fun v hv => h2 M v hv⟩
    have h2 := h1.dummies m a
    refine h2.perm ?_
    rw [List.cons_append, List.append_assoc]
    exact List.perm_middle
/-- the block of an argument becomes immutable before the call -/
theorem LCalls.pub {f : FuncId} {args : List LV} {H : Heap} {K : LV → Heap → Prop} (id : Nat) {b : Nat} {cs : List LV} (hH : getH H id = some (.blk b cs)) (ho : (pubAs id b cs args).1) (h : LCalls P gl f (pubAs id b cs args).2 (delH H id) K) : LCalls P gl f args H K := fun w0 M HF w vs hI hv => by
  obtain ⟨p1, _⟩ := getH_perm hH
  obtain ⟨M', hM, hI', hc⟩ := (hI.perm (p1.append_right HF)).publish
  exact (h w0 M' HF w vs hI' (pubAs_sound hM hc hv ho)).mono fun _ _ ⟨M2, v, r, H', h1, h2, h3, h4, h5⟩ => ⟨M2, v, r, H', hM.trans h1, h2, h3, h4, h5⟩
/-- what is owned, seen otherwise; names are but names -/
def entLe : Ent → Ent → Prop
  | .blk b cs, .blk b' cs' => b = b' ∧ leVs cs cs'
  | .tok t, .tok t' => t = t'
  | .map b es, .map b' es' => b = b' ∧ es = es'
  | _, _ => False
def heapLe : Heap → Heap → Prop
  | [], [] => True
  | (_, e) :: H, (_, e') :: H' => entLe e e' ∧ heapLe H H'
  | _, _ => False
theorem leVs.get : ∀ {xs ys : List LV}, leVs xs ys → ∀ (i : Nat) (y : LV), ys[i]? = some y → ∃ x, xs[i]? = some x ∧ leV x y
  | [], [], _, i, y, h => by simp at h
  | x :: xs, [], hl, i, y, h => by simp at h
  | [], z :: ys, hl, i, y, h => hl.elim
  | x :: xs, z :: ys, hl, 0, y, h => by
    simp only [List.getElem?_cons_zero, Option.some.injEq] at h
    subst h
    exact ⟨x, rfl, hl.1⟩
  | x :: xs, z :: ys, hl, i + 1, y, h => by
    simp only [List.getElem?_cons_succ] at h ⊢
    exact leVs.get hl.2 i y h
theorem heapLe.inv {w0 : World} {M : Imm} {w : World} : ∀ {H H' R : Heap}, heapLe H H' → Inv gl w0 M (H ++ R) w → Inv gl w0 M (H' ++ R) w
  | [], [], R, _, h => h
  | [], _ :: _, R, hl, h => hl.elim
  | _ :: _, [], R, hl, h => hl.elim
  | (i, e) :: H, (i', e') :: H', R, hl, h => by
    obtain ⟨h1, h2⟩ := hl
    have h3 : Inv gl w0 M ((i', e') :: (H ++ R)) w := by
      cases e with
      | blk b cs => cases e' with
        | blk b' cs' =>
          obtain ⟨rfl, h4⟩ := h1
          exact Inv.weaken h fun k c' hk => by
            obtain ⟨c, h5, h6⟩ := h4.get k c' hk
            exact ⟨c, h5, fun v hv => h6 M v hv⟩
        | tok t => exact h1.elim
        | map b' es => exact h1.elim
      | tok t => cases e' with
        | blk b' cs' => exact h1.elim
        | tok t' =>
          obtain rfl : t = t' := h1
          exact h.names (by simp)
        | map b' es => exact h1.elim
      | map b es => cases e' with
        | blk b' cs' => exact h1.elim
        | tok t' => exact h1.elim
        | map b' es' =>
          obtain ⟨rfl, rfl⟩ := h1
          exact h.names (by simp)
    have h4 : Inv gl w0 M (H ++ ((i', e') :: R)) w := h3.perm List.perm_middle.symm
    exact (heapLe.inv h2 h4).perm List.perm_middle
theorem Ents.trans {e1 e2 e3 : Env} {H1 H2 H3 : Heap} (h : Ents gl e1 H1 e2 H2) (h' : Ents gl e2 H2 e3 H3) : Ents gl e1 H1 e3 H3 := fun vv n w0 M HF w a hI hF => by
  obtain ⟨M1, a1, a2, a3⟩ := h vv n w0 M HF w a hI hF
  obtain ⟨M2, b1, b2, b3⟩ := h' vv n w0 M1 HF w a a3 a2
  exact ⟨M2, a1.trans b1, b2, b3⟩
theorem Ents.heap {env env' : Env} {H H' : Heap} (H2 : Heap) (he : envLe env env') (hs : ∃ H1 : Heap, H1.Sublist H ∧ H1.Perm H2) (hl : heapLe H2 H') : Ents gl env H env' H' :=
  Ents.mk he.get fun _ _ HF _ hI => by
    obtain ⟨H1, h1, h2⟩ := hs
    exact hl.inv ((hI.sub (h1.append_right HF)).perm (h2.append_right HF))
/-- the resources in the order of the text -/
theorem Ents.le {env env' : Env} {H H' : Heap} (he : envLe env env') (hl : heapLe H H') : Ents gl env H env' H' := Ents.heap H he ⟨H, List.Sublist.refl _, List.Perm.refl _⟩ hl
/-- a dummy token first -/
theorem Ents.dum {env env' : Env} {H H' : Heap} (id : Nat) (h : Ents gl env ((id, .tok ⟨0, 0, 0⟩) :: H) env' H') : Ents gl env H env' H' := fun vv n w0 M HF w a hI hF => h vv n w0 M HF w a (hI.dummy id 0) hF
end Go.Lx
