/- Regions that draw their order. -/
import Derived.Test.YtpcacgmconokdaaDoorLxJ
namespace Go.Lx
open RowKit

section
variable {vv : Nat → Bool} {P : Program} {gl : Glob} {n : Nat}

/-! ### What must come before -/
theorem testBit_or_pow (s b k j : Nat) : (s ||| 2 ^ k ||| b).testBit j = (s.testBit j || decide (k = j) || b.testBit j) := by
  simp [Nat.testBit_or, Nat.testBit_two_pow]

theorem fold_after {acc : Array Nat} {j : Nat} : ∀ (l : List Edge) (s : Nat), (l.foldl (fun s e => if Region.binds .any e then s ||| 2 ^ e.on ||| acc.getD e.on 0 else s) s).testBit j = true →
    s.testBit j = true ∨ ∃ e ∈ l, Region.binds .any e = true ∧ (e.on = j ∨ (acc.getD e.on 0).testBit j = true)
  | [], s, h => .inl h
  | e :: l, s, h => by
    simp only [List.foldl_cons] at h
    rcases fold_after l _ h with h1 | ⟨e', h2, h3⟩
    · by_cases hb : Region.binds .any e = true
      · rw [if_pos hb, testBit_or_pow] at h1
        simp only [Bool.or_eq_true, decide_eq_true_eq] at h1
        rcases h1 with (h1 | h1) | h1
        · exact .inl h1
        · exact .inr ⟨e, by simp, hb, .inl h1⟩
        · exact .inr ⟨e, by simp, hb, .inr h1⟩
      · rw [if_neg hb] at h1; exact .inl h1
    · exact .inr ⟨e', List.mem_cons_of_mem _ h2, h3⟩

def befStep (acc : Array Nat) (o : Oper) : Array Nat := acc.push (o.after.foldl (fun s e => if Region.binds .any e then s ||| 2 ^ e.on ||| acc.getD e.on 0 else s) 0)

theorem before_fold : ∀ (l : List Oper) (acc : Array Nat), (∀ k, k < acc.size → (l.foldl befStep acc).getD k 0 = acc.getD k 0) ∧ (l.foldl befStep acc).size = acc.size + l.length ∧
    ∀ (i : Nat) (o : Oper), l[i]? = some o → ∃ acc' : Array Nat, (∀ k, k < acc.size + i → acc'.getD k 0 = (l.foldl befStep acc).getD k 0) ∧ acc'.size = acc.size + i ∧ (l.foldl befStep acc).getD (acc.size + i) 0 = (o.after.foldl (fun s e => if Region.binds .any e then s ||| 2 ^ e.on ||| acc'.getD e.on 0 else s) 0)
  | [], acc => ⟨fun _ _ => rfl, by simp, by simp⟩
  | o :: l, acc => by
    obtain ⟨h1, h2, h3⟩ := before_fold l (befStep acc o)
    have hsz : (befStep acc o).size = acc.size + 1 := by simp [befStep]
    have hold : ∀ k, k < acc.size → (befStep acc o).getD k 0 = acc.getD k 0 := by
      intro k hk
      simp only [befStep, Array.getD_eq_getD_getElem?]
      rw [Array.getElem?_push, if_neg (by omega)]
    refine ⟨fun k hk => ?_, ?_, fun i o' ho => ?_⟩
    · rw [List.foldl_cons, h1 k (by omega), hold k hk]
    · rw [List.foldl_cons, h2, hsz]; simp; omega
    · cases i with
      | zero =>
        simp only [List.getElem?_cons_zero, Option.some.injEq] at ho
        subst ho
        refine ⟨acc, fun k hk => ?_, by simp, ?_⟩
        · rw [List.foldl_cons, h1 k (by omega), hold k (by omega)]
        · rw [List.foldl_cons, Nat.add_zero, h1 acc.size (by omega)]
          simp [befStep, Array.getD_eq_getD_getElem?]
      | succ i =>
        simp only [List.getElem?_cons_succ] at ho
        obtain ⟨acc', a1, a2, a3⟩ := h3 i o' ho
        refine ⟨acc', fun k hk => ?_, by omega, ?_⟩
        · rw [List.foldl_cons]; exact a1 k (by omega)
        · rw [List.foldl_cons, show acc.size + (i + 1) = (befStep acc o).size + i by omega]; exact a3

theorem before_spec {ops : Array Oper} {i j : Nat} {o : Oper} (ho : ops[i]? = some o) (hback : backOK ops = true) (h : ((Region.before ops).getD i 0).testBit j = true) :
    ∃ e ∈ o.after.toList, Region.binds .any e = true ∧ (e.on = j ∨ ((Region.before ops).getD e.on 0).testBit j = true) := by
  have hb : Region.before ops = ops.toList.foldl befStep #[] := by
    unfold Region.before
    rw [← Array.foldl_toList]
    rfl
  obtain ⟨_, _, h3⟩ := before_fold ops.toList #[]
  obtain ⟨acc', a1, a2, a3⟩ := h3 i o (by simpa using ho)
  simp only [List.size_toArray, List.length_nil, Nat.zero_add] at a1 a2 a3
  rw [hb, a3, ← Array.foldl_toList] at h
  rcases fold_after o.after.toList 0 h with h4 | ⟨e, h5, h6, h7⟩
  · simp at h4
  · refine ⟨e, h5, h6, h7.imp id fun h8 => ?_⟩
    have hlt : e.on < i := by
      simp only [backOK, List.all_eq_true] at hback
      have := hback (o, i) (by
        rw [List.mem_zipIdx_iff_getElem?]; simpa using ho)
      simp only [Array.all_eq_true'] at this
      have := this e (by simpa using h5)
      rw [h6] at this
      simpa using this
    rw [hb, ← a1 e.on hlt]; exact h8

/-! ### The value of a slot when some operations have been carried out -/
def cur (l : List (Option Nat × LV)) (fl : Nat → Bool) (k : Nat) (t : Nat) (x : LV) : LV :=
  match l with
  | [] => x
  | (d, v) :: r => cur r fl (k + 1) t (if fl k && d == some t then v else x)

theorem cur_congr {fl fl' : Nat → Bool} {t : Nat} : ∀ (l : List (Option Nat × LV)) (k : Nat) (x : LV), (∀ i d v, l[i]? = some (d, v) → d = some t → fl (k + i) = fl' (k + i)) → cur l fl k t x = cur l fl' k t x
  | [], _, _, _ => rfl
  | (d, v) :: r, k, x, h => by
    simp only [cur]
    have h0 : (fl k && d == some t) = (fl' k && d == some t) := by
      by_cases hd : d = some t
      · have := h 0 d v (by simp) hd; simp at this; rw [this]
      · have : (d == some t) = false := by simpa using hd
        simp [this]
    rw [h0]
    refine cur_congr r (k + 1) _ fun i d' v' hi hd => ?_
    have := h (i + 1) d' v' (by simpa using hi) hd
    rwa [show k + 1 + i = k + (i + 1) by omega]

/-- the last one that writes the slot decides -/
theorem cur_last {fl : Nat → Bool} {t : Nat} : ∀ (l : List (Option Nat × LV)) (k : Nat) (x : LV) (i : Nat) (v : LV), l[i]? = some (some t, v) → fl (k + i) = true → (∀ i' v', i < i' → l[i']? = some (some t, v') → fl (k + i') = false) → cur l fl k t x = v
  | [], _, _, _, _, h, _, _ => by simp at h
  | (d, w) :: r, k, x, i, v, h, hf, hl => by
    simp only [cur]
    cases i with
    | zero =>
      simp only [List.getElem?_cons_zero, Option.some.injEq, Prod.mk.injEq] at h
      obtain ⟨rfl, rfl⟩ := h
      have hf0 : fl k = true := by simpa using hf
      simp only [hf0, beq_self_eq_true, Bool.and_self, if_true]
      have : ∀ (r : List (Option Nat × LV)) (k : Nat) (y : LV), (∀ i' v', r[i']? = some (some t, v') → fl (k + i') = false) → cur r fl k t y = y := by
        intro r
        induction r with
        | nil => intro _ _ _; rfl
        | cons p r ih =>
          intro k y hh
          obtain ⟨d, v⟩ := p
          simp only [cur]
          have : (fl k && d == some t) = false := by
            by_cases hd : d = some t
            · have := hh 0 v (by simp [hd]); simp at this; simp [this]
            · simp [hd]
          rw [this]
          simp only [Bool.false_eq_true, if_false]
          exact ih (k + 1) y fun i' v' hi => by
            have := hh (i' + 1) v' (by simpa using hi)
            rwa [show k + 1 + i' = k + (i' + 1) by omega]
      exact this r (k + 1) w fun i' v' hi => by
        have := hl (i' + 1) v' (by omega) (by simpa using hi)
        rwa [show k + 1 + i' = k + (i' + 1) by omega]
    | succ i =>
      simp only [List.getElem?_cons_succ] at h
      refine cur_last r (k + 1) _ i v h (by rwa [show k + 1 + i = k + (i + 1) by omega]) fun i' v' hi hh => ?_
      have := hl (i' + 1) v' (by omega) (by simpa using hh)
      rwa [show k + 1 + i' = k + (i' + 1) by omega]

/-- in the order of the text -/
def getVT (vv : Nat → Bool) (env tmp : Env) (t : Nat) : LV := if vv t then get env t else get tmp t

theorem getVT_put {env tmp : Env} {d : Option Nat} {v : LV} {t : Nat} : getVT vv (putE env (vv (d.getD 0)) d v) (putT tmp (vv (d.getD 0)) d v) t = if d = some t then v else getVT vv env tmp t := by
  cases d with
  | none => simp [putE, putT]
  | some d =>
    simp only [Option.getD_some, Option.some.injEq, getVT]
    cases hd : vv d with
    | true =>
      simp only [putE, putT, get]
      by_cases e : d = t
      · subst e; simp [hd]
      · simp [e]
    | false =>
      simp only [putE, putT, get]
      by_cases e : d = t
      · subst e; simp [hd]
      · simp [e]

/-! ### One operation, whatever else has been carried out -/
def OpOK (_vv : Nat → Bool) (P : Program) (gl : Glob) (n : Nat) (H : Heap) (ops : Array Oper) (o : Oper) (ss : List Nat) (E : Nat → LV) (lv : LV) : Prop :=
  o.dst.getD 0 < n ∧ ∀ (w0 : World) (M : Imm) (HF : Heap) (w : World) (a : Act), a.tmps.size = n → a.defers = [] → Inv gl w0 M (H ++ HF) w → (∀ t ∈ ss, RV M (E t) (a.tmps.getD t undef)) → Came P gl w0 M HF ops o a w fun r H' => r = lv ∧ H' = H

theorem get_restr {ss : List Nat} {env : Env} {t : Nat} : get (restr ss env) t = if t ∈ ss then get env t else .any := by
  induction ss with
  | nil => simp [restr, get]
  | cons s r ih =>
    simp only [restr, List.map_cons, get] at ih ⊢
    by_cases e : s = t
    · subst e; simp
    · rw [if_neg e, ih]
      have : t ≠ s := fun h => e h.symm
      simp [this]

theorem Fr.restr {env tmp : Env} {M : Imm} {a : Act} {ss : List Nat} (hs : a.tmps.size = n) (hd : a.defers = []) (h : ∀ t ∈ ss, RV M (getVT vv env tmp t) (a.tmps.getD t undef)) : Fr vv n (restr ss env) (restr ss tmp) M a := by
  refine ⟨hs, hd, fun t ht => ?_, fun t ht => ?_⟩
  · rw [get_restr]
    split
    · rename_i hm; simpa [getVT, ht] using h t hm
    · simp [RV]
  · rw [get_restr]
    split
    · rename_i hm; simpa [getVT, ht] using h t hm
    · simp [RV]

theorem stepD_sound {H : Heap} {ops : Array Oper} {o : Oper} {lo : LOper} {ss : List Nat} {env tmp : Env} (ht : trOper vv P n ops o = some lo) {K : LV → Prop} (ho : stepD P gl lo (ev gl (restr ss env) (restr ss tmp)) H K) :
    lo.dst = o.dst ∧ lo.var = vv (o.dst.getD 0) ∧ ∃ lv, K lv ∧ OpOK vv P gl n H ops o ss (getVT vv env tmp) lv := by
  -- what 'stepD' says is a case of 'stepG'
  have key : ∀ (lv : LV), (∀ K' : LV → Heap → Prop, K' lv H → stepG P gl lo (ev gl (restr ss env) (restr ss tmp)) H K') → K lv → lo.dst = o.dst ∧ lo.var = vv (o.dst.getD 0) ∧ ∃ lv, K lv ∧ OpOK vv P gl n H ops o ss (getVT vv env tmp) lv := by
    intro lv hst hk
    have hinfo : lo.dst = o.dst ∧ o.dst.getD 0 < n ∧ lo.var = vv (o.dst.getD 0) := by
      unfold trOper at ht
      split at ht
      · rename_i hd
        split at ht
        · split at ht
          · cases ht; exact ⟨rfl, hd, rfl⟩
          · split at ht
            · split at ht
              · cases ht; exact ⟨rfl, hd, rfl⟩
              · cases ht
            · cases ht
        · cases ht
      · cases ht
    refine ⟨hinfo.1, hinfo.2.2, lv, hk, hinfo.2.1, fun w0 M HF w a hs hd hI hr => ?_⟩
    exact (stepG_sound (K := fun r H' => r = lv ∧ H' = H) hI (Fr.restr hs hd hr) ht (hst _ ⟨rfl, rfl⟩)).2.2.2
  unfold stepD at ho
  split at ho
  · rename_i hg
    split at ho
    · rename_i f args hop
      obtain ⟨h1, r, h2, h3⟩ := ho
      refine key r (fun K' hk => ?_) h3
      unfold stepG
      rw [hg]
      simp only [hop]
      exact ⟨h1, LCalls.pure h2 hk⟩
    · rename_i sz m z parts hop
      obtain ⟨h1, h4⟩ := ho
      refine key _ (fun K' hk => ?_) h4
      unfold stepG
      rw [hg]
      simp only [hop]
      exact ⟨h1, hk⟩
    · rename_i hnc hnm
      refine key _ (fun K' hk => ?_) ho.2
      unfold stepG
      rw [hg]
      simp only
      have h1 := ho.1
      cases hop : lo.op <;> rw [hop] at h1 hk <;> first
        | exact ⟨h1, hk⟩
        | exact h1.elim
  · rename_i s want hg
    split at ho
    · rename_i f args hop
      obtain ⟨⟨h1, h2, h3⟩, r, h4, h5⟩ := ho
      refine key _ (fun K' hk => ?_) h5
      unfold stepG
      rw [hg]
      simp only [hop]
      exact ⟨⟨h1, h2, h3⟩, .inl ⟨r, h4, hk⟩⟩
    · rename_i hnc
      split at ho
      · rename_i h0
        obtain ⟨h1, h4⟩ := ho
        refine key _ (fun K' hk => ?_) h4
        unfold stepG
        rw [hg]
        simp only
        cases hop : lo.op <;> rw [hop] at h0 h1 hk <;> first
          | (simp [isQuiet] at h0; done)
          | exact ⟨h1, hk⟩
      · exact ho.elim

/-! ### All of them, in whatever order -/
/-- the operations of the region with what they yield -/
def AllOK (vv : Nat → Bool) (P : Program) (gl : Glob) (n : Nat) (H : Heap) (ops : Array Oper) (E : Nat → LV) (ys : List (Option Nat × LV)) : Prop :=
  ys.length = ops.size ∧ ∀ (i : Nat) (o : Oper) (d : Option Nat) (lv : LV), ops[i]? = some o → ys[i]? = some (d, lv) → d = o.dst ∧ OpOK vv P gl n H ops o (looks ops o) (fun t => cur ys (fun j => decide (j < i)) 0 t (E t)) lv

theorem cur_take {t : Nat} : ∀ (ys : List (Option Nat × LV)) (i k : Nat) (x : LV), cur ys (fun j => decide (j < k + i)) k t x = cur (ys.take i) (fun _ => true) k t x
  | [], i, k, x => by simp [cur]
  | (d, v) :: r, 0, k, x => by
    simp only [Nat.add_zero, List.take_zero, cur]
    have : ∀ (r : List (Option Nat × LV)) (m : Nat) (x : LV), k ≤ m → cur r (fun j => decide (j < k)) m t x = x := by
      intro r
      induction r with
      | nil => intro _ _ _; rfl
      | cons p r ih =>
        intro m x hm
        obtain ⟨d, v⟩ := p
        simp only [cur]
        have e : decide (m < k) = false := by simp; omega
        simp only [e, Bool.false_and, Bool.false_eq_true, if_false]
        exact ih (m + 1) x (by omega)
    have e : decide (k < k) = false := by simp
    simp only [e, Bool.false_and, Bool.false_eq_true, if_false]
    exact this r (k + 1) x (by omega)
  | (d, v) :: r, i + 1, k, x => by
    simp only [List.take_succ_cons, cur]
    have e : decide (k < k + (i + 1)) = true := by simp
    have := cur_take (t := t) r i (k + 1) (if (true && d == some t) = true then v else x)
    have e2 : (fun j => decide (j < k + (i + 1))) = fun j => decide (j < k + 1 + i) := by
      funext j
      rw [show k + (i + 1) = k + 1 + i by omega]
    simp only [e]
    rw [e2]
    exact this

theorem execD_all {H : Heap} {ops : Array Oper} {K : Env → Prop} : ∀ (l : List Oper) (ll : List LOper) (env tmp : Env), trOpers vv P n ops l = some ll → execD P gl H ((l.map (looks ops)).zip ll) K env tmp →
    ∃ ys env' tmp', ys.length = l.length ∧ K env' ∧ (∀ t, getVT vv env' tmp' t = cur ys (fun _ => true) 0 t (getVT vv env tmp t)) ∧
      ∀ (i : Nat) (o : Oper) (d : Option Nat) (lv : LV), l[i]? = some o → ys[i]? = some (d, lv) → d = o.dst ∧ OpOK vv P gl n H ops o (looks ops o) (fun t => cur (ys.take i) (fun _ => true) 0 t (getVT vv env tmp t)) lv
  | [], ll, env, tmp, ht, ho => by
    simp only [trOpers, Option.some.injEq] at ht
    subst ht
    exact ⟨[], env, tmp, rfl, ho, fun t => rfl, by simp⟩
  | o :: r, ll, env, tmp, ht, ho => by
    simp only [trOpers] at ht
    split at ht
    · rename_i lo lr h1 h2
      cases ht
      simp only [List.map_cons, List.zip_cons_cons, execD] at ho
      obtain ⟨e1, e2, lv, hk, hok⟩ := stepD_sound h1 ho
      rw [e1, e2] at hk
      obtain ⟨ys, env', tmp', a1, a2, a3, a4⟩ := execD_all r lr _ _ h2 hk
      have shift : ∀ (ys : List (Option Nat × LV)) (k : Nat) (t : Nat) (x : LV), cur ys (fun _ => true) (k + 1) t x = cur ys (fun _ => true) k t x := by
        intro ys
        induction ys with
        | nil => intro _ _ _; rfl
        | cons p r ih => intro k t x; obtain ⟨d, v⟩ := p; simp only [cur]; exact ih (k + 1) t _
      refine ⟨(o.dst, lv) :: ys, env', tmp', by simp [a1], a2, fun t => ?_, fun i o' d lv' hi hy => ?_⟩
      · rw [a3 t, getVT_put]
        simp only [cur, Bool.true_and, Nat.zero_add]
        rw [shift]
        congr 1
        simp
      · cases i with
        | zero =>
          simp only [List.getElem?_cons_zero, Option.some.injEq, Prod.mk.injEq] at hi hy
          obtain ⟨rfl, rfl⟩ := hy
          subst hi
          exact ⟨rfl, by simpa [cur] using hok⟩
        | succ i =>
          simp only [List.getElem?_cons_succ] at hi hy
          obtain ⟨b1, b2⟩ := a4 i o' d lv' hi hy
          refine ⟨b1, ?_⟩
          have : (fun t => cur (((o.dst, lv) :: ys).take (i + 1)) (fun _ => true) 0 t (getVT vv env tmp t)) = fun t => cur (ys.take i) (fun _ => true) 0 t (getVT vv (putE env (vv (o.dst.getD 0)) o.dst lv) (putT tmp (vv (o.dst.getD 0)) o.dst lv) t) := by
            funext t
            rw [getVT_put]
            simp only [List.take_succ_cons, cur, Bool.true_and, Nat.zero_add]
            rw [shift]
            congr 1
            simp
          rw [this]; exact b2
    · cases ht

/-- how many are still to come -/
def todo (N : Nat) (listed : Array Bool) : Nat := ((List.range N).filter fun i => !listed.getD i true).length

theorem filter_lt {p p' : Nat → Bool} {i : Nat} : ∀ (l : List Nat), (∀ j ∈ l, p' j = true → p j = true) → i ∈ l → p i = true → p' i = false → (l.filter p').length < (l.filter p).length
  | [], _, h, _, _ => by simp at h
  | x :: l, h1, h2, h3, h4 => by
    have hle : ∀ l : List Nat, (∀ j ∈ l, p' j = true → p j = true) → (l.filter p').length ≤ (l.filter p).length := by
      intro l
      induction l with
      | nil => intro _; simp
      | cons y l ih =>
        intro h
        have := ih (fun j hj => h j (List.mem_cons_of_mem _ hj))
        simp only [List.filter_cons]
        by_cases e : p' y = true
        · rw [if_pos e, if_pos (h y (by simp) e)]; simp; exact this
        · rw [if_neg e]
          split
          · simp; omega
          · exact this
    simp only [List.filter_cons]
    rcases List.mem_cons.1 h2 with rfl | h2
    · rw [if_neg (by simp [h4]), if_pos h3]
      have := hle l (fun j hj => h1 j (List.mem_cons_of_mem _ hj))
      simp; omega
    · have ih := filter_lt l (fun j hj => h1 j (List.mem_cons_of_mem _ hj)) h2 h3 h4
      by_cases e : p' x = true
      · rw [if_pos e, if_pos (h1 x (by simp) e)]; simp; exact ih
      · rw [if_neg e]
        split
        · simp; omega
        · exact ih

theorem mem_ready {md : Region.Mode} {ops : Array Oper} {listed : Array Bool} {i : Nat} : i ∈ Region.ready md ops listed ↔ i < ops.size ∧ listed.getD i true = false ∧ ∃ o, ops[i]? = some o ∧ ∀ e ∈ o.after.toList, Region.binds md e = true → listed.getD e.on false = true := by
  simp only [Region.ready, List.mem_filter, List.mem_range, Bool.and_eq_true, Bool.not_eq_true']
  refine and_congr_right fun hi => and_congr_right fun _ => ?_
  rw [Array.getElem?_eq_getElem hi]
  simp only [Option.map_some, Option.getD_some, Array.all_eq_true', Bool.or_eq_true, Bool.not_eq_true', Option.some.injEq, exists_eq_left']
  constructor
  · intro h e he hb
    rcases h e (by simpa using he) with h | h
    · rw [hb] at h; cases h
    · exact h
  · intro h e he
    cases hb : Region.binds md e with
    | false => exact .inl rfl
    | true => exact .inr (h e (by simpa using he) hb)

theorem binds_any {md : Region.Mode} {e : Edge} (h : Region.binds .any e = true) : Region.binds md e = true := by
  obtain ⟨on, g⟩ := e
  cases g <;> simp_all [Region.binds]

/-- if nothing is ready, all are listed -/
theorem topo_all {md : Region.Mode} {ops : Array Oper} {listed : Array Bool} (hsz : listed.size = ops.size) (ht : topoOK md ops = true) (hr : Region.ready md ops listed = []) : ∀ i, i < ops.size → listed.getD i false = true := by
  simp only [topoOK, Bool.and_eq_true, List.all_eq_true, List.mem_range] at ht
  have key : ∀ (l seen : List Nat), topoL md ops seen l = true → (∀ i ∈ seen, listed.getD i false = true) → ∀ i ∈ l, listed.getD i false = true := by
    intro l
    induction l with
    | nil => intro seen _ _ i hi; simp at hi
    | cons x l ih =>
      intro seen h hs i hi
      simp only [topoL, Bool.and_eq_true] at h
      have hx : listed.getD x false = true := by
        cases ho : ops[x]? with
        | none => rw [ho] at h; simp at h
        | some o =>
          rw [ho] at h
          simp only [Option.map_some, Option.getD_some, Array.all_eq_true', Bool.or_eq_true, Bool.not_eq_true'] at h
          have hlt : x < ops.size := (Array.getElem?_eq_some_iff.1 ho).1
          cases hb : listed.getD x false with
          | true => rfl
          | false =>
            have hmem : x ∈ Region.ready md ops listed := by
              rw [mem_ready]
              refine ⟨hlt, ?_, o, ho, fun e he hbd => ?_⟩
              · rw [Array.getD_eq_getD_getElem?, Array.getElem?_eq_getElem (by omega)] at hb ⊢; exact hb
              · rcases h.1 e (by simpa using he) with h' | h'
                · rw [hbd] at h'; cases h'
                · exact hs e.on (by simpa using h')
            rw [hr] at hmem; simp at hmem
      rcases List.mem_cons.1 hi with rfl | hi
      · exact hx
      · exact ih (x :: seen) h.2 (fun j hj => (List.mem_cons.1 hj).elim (fun e => by rw [e]; exact hx) (fun h => hs j h)) i hi
  intro i hi
  exact key _ [] ht.1 (by simp) i (by simpa using ht.2 i hi)

theorem back_lt {ops : Array Oper} (hback : backOK ops = true) {i : Nat} {o : Oper} (ho : ops[i]? = some o) {e : Edge} (he : e ∈ o.after.toList) (hb : Region.binds .any e = true) : e.on < i := by
  simp only [backOK, List.all_eq_true] at hback
  have := hback (o, i) (by rw [List.mem_zipIdx_iff_getElem?]; simpa using ho)
  simp only [Array.all_eq_true'] at this
  have := this e (by simpa using he)
  rw [hb] at this
  simpa using this

theorem order_spec {ops : Array Oper} {b : Array Nat} (hord : orderOK ops b = true) {i j : Nat} {p r : Oper} (hp : ops[i]? = some p) (hr : ops[j]? = some r) (hne : i ≠ j) {d : Nat} (hd : r.dst = some d) (hl : p.dst = some d ∨ d ∈ looks ops p) :
    (j < i → (b.getD i 0).testBit j = true) ∧ (i < j → (b.getD j 0).testBit i = true) := by
  simp only [orderOK, List.all_eq_true] at hord
  have := hord (p, i) (by rw [List.mem_zipIdx_iff_getElem?]; simpa using hp) (r, j) (by rw [List.mem_zipIdx_iff_getElem?]; simpa using hr)
  simp only [hd, Bool.or_eq_true, beq_iff_eq, hne, false_or] at this
  rw [if_pos (by rcases hl with h | h <;> simp [h])] at this
  constructor
  · intro h; rwa [if_pos h] at this
  · intro h; rwa [if_neg (by omega)] at this

theorem before_oob {ops : Array Oper} {i j : Nat} (h : ops.size ≤ i) : ((Region.before ops).getD i 0).testBit j = false := by
  have hb : Region.before ops = ops.toList.foldl befStep #[] := by
    unfold Region.before
    rw [← Array.foldl_toList]
    rfl
  obtain ⟨_, h2, _⟩ := before_fold ops.toList #[]
  have hs : (Region.before ops).size = ops.size := by rw [hb, h2]; simp
  have : (Region.before ops).getD i 0 = 0 := by
    rw [Array.getD_eq_getD_getElem?, Array.getElem?_eq_none (by omega)]; rfl
  rw [this]; simp

theorem anyOrder {md : Region.Mode} {w0 : World} {HF H : Heap} {M0 : Imm} {ops : Array Oper} (htopo : topoOK md ops = true) {Q : Exit → Act → World → Prop} {E : Nat → LV} {ys : List (Option Nat × LV)} (hall : AllOK vv P gl n H ops E ys) (hback : backOK ops = true) (hord : orderOK ops (Region.before ops) = true)
    (hQ : ∀ M a w, MLe M0 M → a.tmps.size = n → a.defers = [] → Inv gl w0 M (H ++ HF) w → (∀ t, RV M (cur ys (fun _ => true) 0 t (E t)) (a.tmps.getD t undef)) → Q .normal a w) :
    ∀ (fuel : Nat) (listed : Array Bool) (M : Imm) (a : Act) (w : World), todo ops.size listed ≤ fuel → listed.size = ops.size → (∀ i j, listed.getD i false = true → ((Region.before ops).getD i 0).testBit j = true → listed.getD j false = true) →
      MLe M0 M → a.tmps.size = n → a.defers = [] → Inv gl w0 M (H ++ HF) w → (∀ t, RV M (cur ys (fun j => listed.getD j false) 0 t (E t)) (a.tmps.getD t undef)) → wpAny P md ops Q fuel listed a w := by
  have fin : ∀ (listed : Array Bool) (M : Imm) (a : Act) (w : World), listed.size = ops.size → Region.ready md ops listed = [] → MLe M0 M → a.tmps.size = n → a.defers = [] → Inv gl w0 M (H ++ HF) w → (∀ t, RV M (cur ys (fun j => listed.getD j false) 0 t (E t)) (a.tmps.getD t undef)) → Q .normal a w := by
    intro listed M a w hsz hr hM h1 h2 hI hv
    have hallL := topo_all hsz htopo hr
    refine hQ M a w hM h1 h2 hI fun t => ?_
    have : cur ys (fun _ => true) 0 t (E t) = cur ys (fun j => listed.getD j false) 0 t (E t) := cur_congr ys 0 (E t) fun i d v hi _ => by
      have hlt : i < ops.size := by
        rw [← hall.1]
        exact (List.getElem?_eq_some_iff.1 hi).1
      rw [Nat.zero_add, hallL i hlt]
    rw [this]; exact hv t
  intro fuel
  induction fuel with
  | zero =>
    intro listed M a w hf hsz hcl hM h1 h2 hI hv
    have hr : Region.ready md ops listed = [] := by
      rw [List.eq_nil_iff_forall_not_mem]
      intro i hi
      rw [mem_ready] at hi
      have : i ∈ (List.range ops.size).filter fun i => !listed.getD i true := by
        rw [List.mem_filter]; exact ⟨List.mem_range.2 hi.1, by simpa using hi.2.1⟩
      have hpos := List.length_pos_of_mem this
      simp only [todo] at hf
      omega
    exact ⟨hr, fin listed M a w hsz hr hM h1 h2 hI hv⟩
  | succ fuel ih =>
    intro listed M a w hf hsz hcl hM h1 h2 hI hv
    refine ⟨fun hr => fin listed M a w hsz hr hM h1 h2 hI hv, fun i hi => ?_⟩
    rw [mem_ready] at hi
    obtain ⟨hio, hil, o, ho, hedges⟩ := hi
    have hil' : listed.getD i false = false := by
      rw [Array.getD_eq_getD_getElem?, Array.getElem?_eq_getElem (by omega)] at hil ⊢; exact hil
    obtain ⟨d, lv, hy⟩ : ∃ d lv, ys[i]? = some (d, lv) := by
      have hlt : i < ys.length := by rw [hall.1]; exact hio
      exact ⟨ys[i].1, ys[i].2, by rw [List.getElem?_eq_getElem hlt]⟩
    obtain ⟨rfl, hdn, hop⟩ := hall.2 i o d lv ho hy
    -- all that must come before it has come
    have hbef : ∀ j, ((Region.before ops).getD i 0).testBit j = true → listed.getD j false = true := by
      intro j hj
      obtain ⟨e, he, hb, h⟩ := before_spec ho hback hj
      rcases h with rfl | h
      · exact hedges e he (binds_any hb)
      · exact hcl e.on j (hedges e he (binds_any hb)) h
    -- what comes behind it has not come
    have hnot : ∀ k, ((Region.before ops).getD k 0).testBit i = true → listed.getD k false = false := by
      intro k hk
      cases hb : listed.getD k false with
      | false => rfl
      | true => have := hcl k i hb hk; rw [hil'] at this; cases this
    have hslots : ∀ t ∈ looks ops o, RV M (cur ys (fun j => decide (j < i)) 0 t (E t)) (a.tmps.getD t undef) := by
      intro t ht
      have : cur ys (fun j => decide (j < i)) 0 t (E t) = cur ys (fun j => listed.getD j false) 0 t (E t) := cur_congr ys 0 (E t) fun k d v hk hd => by
        rw [Nat.zero_add]
        have hko : k < ops.size := by rw [← hall.1]; exact (List.getElem?_eq_some_iff.1 hk).1
        obtain ⟨e1, _⟩ := hall.2 k ops[k] d v (by simp) hk
        rw [hd] at e1
        by_cases hik : i = k
        · subst hik; simp [hil']
        · have hs := order_spec hord ho (j := k) (r := ops[k]) (by simp) hik e1.symm (.inr ht)
          rcases Nat.lt_or_ge k i with h | h
          · rw [hbef k (hs.1 h)]; simp [h]
          · rw [hnot k (hs.2 (by omega))]; simp; omega
      rw [this]; exact hv t
    have hcame := hop w0 M HF w a h1 h2 hI hslots (wpAny P md ops Q fuel (listed.setIfInBounds i true)) Q (fun M' v r H' w' hM' hrv hI' hk => by
      obtain ⟨rfl, rfl⟩ := hk
      have hget : ∀ j, (listed.setIfInBounds i true).getD j false = if j = i then true else listed.getD j false := by
        intro j
        simp only [Array.getD_eq_getD_getElem?]
        by_cases e : j = i
        · subst e; simp [hsz, hio]
        · rw [Array.getElem?_setIfInBounds_ne (fun h => e h.symm), if_neg e]
      refine ih (listed.setIfInBounds i true) M' (a.put o.dst v) w' ?_ (by simp [hsz]) ?_ (hM.trans hM') ?_ ?_ hI' ?_
      · have hlt := filter_lt (p := fun j => !listed.getD j true) (p' := fun j => !(listed.setIfInBounds i true).getD j true) (i := i) (List.range ops.size) (fun j hj h => by
            simp only [Bool.not_eq_true'] at h ⊢
            simp only [Array.getD_eq_getD_getElem?] at h ⊢
            by_cases e : j = i
            · subst e; simp [hsz, hio] at h
            · rw [Array.getElem?_setIfInBounds_ne (fun h => e h.symm)] at h; exact h) (List.mem_range.2 hio) (by simpa using hil) (by simp [Array.getD_eq_getD_getElem?, hsz, hio])
        simp only [todo] at hf ⊢
        omega
      · intro k j hk hb
        rw [hget] at hk ⊢
        split at hk
        · rename_i e; subst e
          rw [hbef j hb]; simp
        · rw [hcl k j hk hb]; simp
      · cases hd : o.dst <;> simp [Act.put, h1]
      · cases hd : o.dst <;> simp [Act.put, h2]
      · intro t
        by_cases hdt : o.dst = some t
        · -- the slot that it writes
          have hcur : cur ys (fun j => (listed.setIfInBounds i true).getD j false) 0 t (E t) = r := by
            refine cur_last ys 0 (E t) i r (by rw [hy, hdt]) (by rw [Nat.zero_add, hget, if_pos rfl]) fun k v' hik hk => ?_
            have hko : k < ops.size := by rw [← hall.1]; exact (List.getElem?_eq_some_iff.1 hk).1
            obtain ⟨e1, _⟩ := hall.2 k ops[k] (some t) v' (by simp) hk
            have hs := order_spec hord ho (j := k) (r := ops[k]) (by simp) (by omega) e1.symm (.inl hdt)
            rw [Nat.zero_add, hget, if_neg (by omega)]
            exact hnot k (hs.2 hik)
          rw [hcur, hdt, put_getD (by rw [h1]; rw [hdt] at hdn; simpa using hdn), if_pos rfl]
          exact hrv
        · have hcur : cur ys (fun j => (listed.setIfInBounds i true).getD j false) 0 t (E t) = cur ys (fun j => listed.getD j false) 0 t (E t) := cur_congr ys 0 (E t) fun k d v' hk hd => by
            rw [Nat.zero_add, hget, if_neg]
            intro e
            subst e
            rw [hy] at hk
            cases hk
            exact hdt hd
          rw [hcur]
          have : (a.put o.dst v).tmps.getD t undef = a.tmps.getD t undef := by
            cases hd : o.dst with
            | none => rfl
            | some d =>
              rw [put_getD (by rw [h1]; rw [hd] at hdn; simpa using hdn), if_neg]
              intro e; subst e; exact hdt hd
          rw [this]
          exact RV.mono hM' _ _ (hv t))
    unfold wpOp
    simp only [ho]
    exact hcame

theorem execD_sound {w0 : World} {HF H : Heap} {M : Imm} {id : Nat} {ops : Array Oper} {ll : List LOper} {Q : Ex → Env → Heap → Prop} {env : Env} {a : Act} {w : World} (hdraw : drawOK P ops = true) (ht : trOpers vv P n ops ops.toList = some ll)
    (hI : Inv gl w0 M (H ++ HF) w) (hF : Fr vv n env [] M a) (ho : execD P gl H ((ops.toList.map (looks ops)).zip ll) (fun env => Q .normal env H) env []) : (Code.region id ops true).wp P (RQ vv gl n w0 M HF Q) a w := by
  obtain ⟨ys, env', tmp', a1, a2, a3, a4⟩ := execD_all ops.toList ll env [] ht ho
  have hall : AllOK vv P gl n H ops (getVT vv env []) ys := by
    refine ⟨by simpa using a1, fun i o d lv hi hy => ?_⟩
    obtain ⟨b1, b2⟩ := a4 i o d lv (by simpa using hi) hy
    refine ⟨b1, ?_⟩
    have : (fun t => cur ys (fun j => decide (j < i)) 0 t (getVT vv env [] t)) = fun t => cur (ys.take i) (fun _ => true) 0 t (getVT vv env [] t) := by
      funext t
      have := cur_take (t := t) ys i 0 (getVT vv env [] t)
      simpa using this
    rw [this]; exact b2
  simp only [drawOK, Bool.and_eq_true] at hdraw
  obtain ⟨⟨hback, hord⟩, htopo⟩ := hdraw
  have main : ∀ md, topoOK md ops = true → wpAny P md ops (RQ vv gl n w0 M HF Q) ops.size (Array.replicate ops.size false) a { w with drawn := w.drawn + 1 } := by
    intro md hmd
    refine anyOrder (M0 := M) hmd hall hback hord ?_ ops.size _ M a _ ?_ (by simp) ?_ (MLe.refl M) hF.size hF.defers (hI.drew _) ?_
    · intro M' a' w' hM h1 h2 hI' hv
      refine ⟨.normal, M', env', H, rfl, hM, ⟨h1, h2, fun t ht => ?_, fun _ _ => by simp [get, RV]⟩, hI', a2⟩
      have := hv t
      rw [← a3 t] at this
      simpa [getVT, ht] using this
    · simp only [todo]
      exact Nat.le_trans (List.length_filter_le _ _) (by simp)
    · intro i j hi
      exfalso
      rw [Array.getD_eq_getD_getElem?] at hi
      simp only [Array.getElem?_replicate] at hi
      split at hi <;> simp at hi
    · intro t
      have : cur ys (fun j => (Array.replicate ops.size false).getD j false) 0 t (getVT vv env [] t) = getVT vv env [] t := by
        have e : (fun j => (Array.replicate ops.size false).getD j false) = fun _ => false := by
          funext j
          rw [Array.getD_eq_getD_getElem?]
          simp only [Array.getElem?_replicate]
          split <;> rfl
        rw [e]
        have : ∀ (ys : List (Option Nat × LV)) (k : Nat) (x : LV), cur ys (fun _ => false) k t x = x := by
          intro ys
          induction ys with
          | nil => intro _ _; rfl
          | cons p r ih => intro k x; obtain ⟨d, v⟩ := p; simp only [cur, Bool.false_and, Bool.false_eq_true, if_false]; exact ih _ _
        exact this ys 0 _
      rw [this]
      cases hvt : vv t with
      | true => simpa [getVT, hvt] using hF.vars t hvt
      | false => simpa [getVT, hvt] using hF.tmps t hvt
  refine wp_region_draw fun t => ?_
  unfold Region.schedule
  split
  · rename_i hc
    rw [if_pos hc] at htopo
    exact wpAny_sound ops.size t _ a _ (main .any htopo)
  · rename_i hc
    rw [if_neg hc] at htopo
    simp only [Bool.and_eq_true] at htopo
    split
    · exact wpAny_sound ops.size _ _ a _ (main .text htopo.1)
    · exact wpAny_sound ops.size _ _ a _ (main .gc htopo.2)

end
end Go.Lx
