/- Regions that draw their order. -/
import Derived.Test.YtkdblnejpmbnfaaGreatW04
namespace Go.Lx
set_option linter.unusedSimpArgs false
set_option linter.unusedVariables false
open RowKit
section
variable {vv : Nat → Bool} {P : Program} {gl : Glob} {n : Nat}
theorem testBit_or_pow (s b k j : Nat) : (s ||| 2 ^ k ||| b).testBit j = (s.testBit j || decide (k = j) || b.testBit j) := by
  simp [Nat.testBit_or, Nat.testBit_two_pow]
theorem fold_after {acc : Array Nat} {j : Nat} : ∀ (l : List Edge) (s : Nat), (l.foldl (fun s e => if Region.binds .any e then s ||| 2 ^ e.on ||| acc.getD e.on 0 else s) s).testBit j = true →
    s.testBit j = true ∨ ∃ e ∈ l, Region.binds .any e = true ∧ (e.on = j ∨ (acc.getD e.on 0).testBit j = true)
  | [], s, h => .inl h
  | e :: l, s, h => by
    simp only [List.foldl_cons] at h
    rcases fold_after l _ h with h1 | ⟨e', h2, h3⟩
    · by_cases hb : Region.binds .any e = true
      · rw [if_pos hb, testBit_or_pow] at h1
        simp only [Bool.or_eq_true, decide_eq_true_eq] at h1
        rcases h1 with (h1 | h1) | h1
        · exact .inl h1
        · exact .inr ⟨e, by simp, hb, .inl h1⟩
        · exact .inr ⟨e, by simp, hb, .inr h1⟩
      · rw [if_neg hb] at h1; exact .inl h1
    · exact .inr ⟨e', List.mem_cons_of_mem _ h2, h3⟩
def befStep (acc : Array Nat) (o : Oper) : Array Nat := acc.push (o.after.foldl (fun s e => if Region.binds .any e then s ||| 2 ^ e.on ||| acc.getD e.on 0 else s) 0)
theorem before_fold : ∀ (l : List Oper) (acc : Array Nat), (∀ k, k < acc.size → (l.foldl befStep acc).getD k 0 = acc.getD k 0) ∧ (l.foldl befStep acc).size = acc.size + l.length ∧
    ∀ (i : Nat) (o : Oper), l[i]? = some o → ∃ acc' : Array Nat, (∀ k, k < acc.size + i → acc'.getD k 0 = (l.foldl befStep acc).getD k 0) ∧ acc'.size = acc.size + i ∧ (l.foldl befStep acc).getD (acc.size + i) 0 = (o.after.foldl (fun s e => if Region.binds .any e then s ||| 2 ^ e.on ||| acc'.getD e.on 0 else s) 0)
  | [], acc => ⟨fun _ _ => rfl, by simp, by simp⟩
  | o :: l, acc => by
    obtain ⟨h1, h2, h3⟩ := before_fold l (befStep acc o)
    have hsz : (befStep acc o).size = acc.size + 1 := by simp [befStep]
    have hold : ∀ k, k < acc.size → (befStep acc o).getD k 0 = acc.getD k 0 := by
      intro k hk
      simp only [befStep, Array.getD_eq_getD_getElem?]
      rw [Array.getElem?_push, if_neg (by omega)]
    refine ⟨fun k hk => ?_, ?_, fun i o' ho => ?_⟩
    · rw [List.foldl_cons, h1 k (by omega), hold k hk]
    · rw [List.foldl_cons, h2, hsz]; simp; omega
    · cases i with
      | zero =>
        simp only [List.getElem?_cons_zero, Option.some.injEq] at ho
        subst ho
        refine ⟨acc, fun k hk => ?_, by simp, ?_⟩
        · rw [List.foldl_cons, h1 k (by omega), hold k (by omega)]
        · rw [List.foldl_cons, Nat.add_zero, h1 acc.size (by omega)]
          simp [befStep, Array.getD_eq_getD_getElem?]
      | succ i =>
        simp only [List.getElem?_cons_succ] at ho
        obtain ⟨acc', a1, a2, a3⟩ := h3 i o' ho
        refine ⟨acc', fun k hk => ?_, by omega, ?_⟩
        · rw [List.foldl_cons]; exact a1 k (by omega)
        · rw [List.foldl_cons, show acc.size + (i + 1) = (befStep acc o).size + i by omega]; exact a3
theorem before_spec {ops : Array Oper} {i j : Nat} {o : Oper} (ho : ops[i]? = some o) (hback : backOK ops = true) (h : ((Region.before ops).getD i 0).testBit j = true) :
    ∃ e ∈ o.after.toList, Region.binds .any e = true ∧ (e.on = j ∨ ((Region.before ops).getD e.on 0).testBit j = true) := by
  have hb : Region.before ops = ops.toList.foldl befStep #[] := by
    unfold Region.before
    rw [← Array.foldl_toList]
    rfl
  obtain ⟨_, _, h3⟩ := before_fold ops.toList #[]
  obtain ⟨acc', a1, a2, a3⟩ := h3 i o (by simpa using ho)
  simp only [List.size_toArray, List.length_nil, Nat.zero_add] at a1 a2 a3
  rw [hb, a3, ← Array.foldl_toList] at h
  rcases fold_after o.after.toList 0 h with h4 | ⟨e, h5, h6, h7⟩
  · simp at h4
  · refine ⟨e, h5, h6, h7.imp id fun h8 => ?_⟩
    have hlt : e.on < i := by
      simp only [backOK, List.all_eq_true] at hback
      have := hback (o, i) (by
        rw [List.mem_zipIdx_iff_getElem?]; simpa using ho)
      simp only [Array.all_eq_true'] at this
      have := this e (by simpa using h5)
      rw [h6] at this
      simpa using this
    rw [hb, ← a1 e.on hlt]; exact h8
def cur (l : List (Option Nat × LV)) (fl : Nat → Bool) (k : Nat) (t : Nat) (x : LV) : LV :=
  match l with
  | [] => x
  | (d, v) :: r => cur r fl (k + 1) t (if fl k && d == some t then v else x)
theorem cur_congr {fl fl' : Nat → Bool} {t : Nat} : ∀ (l : List (Option Nat × LV)) (k : Nat) (x : LV), (∀ i d v, l[i]? = some (d, v) → d = some t → fl (k + i) = fl' (k + i)) → cur l fl k t x = cur l fl' k t x
  | [], _, _, _ => rfl
  | (d, v) :: r, k, x, h => by
    simp only [cur]
    have h0 : (fl k && d == some t) = (fl' k && d == some t) := by
      by_cases hd : d = some t
      · have := h 0 d v (by simp) hd; simp at this; rw [this]
      · have : (d == some t) = false := by simpa using hd
        simp [this]
    rw [h0]
    refine cur_congr r (k + 1) _ fun i d' v' hi hd => ?_
    have := h (i + 1) d' v' (by simpa using hi) hd
    rwa [show k + 1 + i = k + (i + 1) by omega]
theorem cur_last {fl : Nat → Bool} {t : Nat} : ∀ (l : List (Option Nat × LV)) (k : Nat) (x : LV) (i : Nat) (v : LV), l[i]? = some (some t, v) → fl (k + i) = true → (∀ i' v', i < i' → l[i']? = some (some t, v') → fl (k + i') = false) → cur l fl k t x = v
  | [], _, _, _, _, h, _, _ => by simp at h
  | (d, w) :: r, k, x, i, v, h, hf, hl => by
    simp only [cur]
    cases i with
    | zero =>
      simp only [List.getElem?_cons_zero, Option.some.injEq, Prod.mk.injEq] at h
      obtain ⟨rfl, rfl⟩ := h
      have hf0 : fl k = true := by simpa using hf
      simp only [hf0, beq_self_eq_true, Bool.and_self, if_true]
      have : ∀ (r : List (Option Nat × LV)) (k : Nat) (y : LV), (∀ i' v', r[i']? = some (some t, v') → fl (k + i') = false) → cur r fl k t y = y := by
        intro r
        induction r with
        | nil => intro _ _ _; rfl
        | cons p r ih =>
          intro k y hh
          obtain ⟨d, v⟩ := p
          simp only [cur]
          have : (fl k && d == some t) = false := by
            by_cases hd : d = some t
            · have := hh 0 v (by simp [hd]); simp at this; simp [this]
            · simp [hd]
          rw [this]
          simp only [Bool.false_eq_true, if_false]
          exact ih (k + 1) y fun i' v' hi => by
            have := hh (i' + 1) v' (by simpa using hi)
            rwa [show k + 1 + i' = k + (i' + 1) by omega]
      exact this r (k + 1) w fun i' v' hi => by
        have := hl (i' + 1) v' (by omega) (by simpa using hi)
        rwa [show k + 1 + i' = k + (i' + 1) by omega]
    | succ i =>
      simp only [List.getElem?_cons_succ] at h
      refine cur_last r (k + 1) _ i v h (by rwa [show k + 1 + i = k + (i + 1) by omega]) fun i' v' hi hh => ?_
      have := hl (i' + 1) v' (by omega) (by simpa using hh)
      rwa [show k + 1 + i' = k + (i' + 1) by omega]
def getVT (vv : Nat → Bool) (env tmp : Env) (t : Nat) : LV := if vv t then get env t else get tmp t
theorem getVT_put {env tmp : Env} {d : Option Nat} {v : LV} {t : Nat} : getVT vv (putE env (vv (d.getD 0)) d v) (putT tmp (vv (d.getD 0)) d v) t = if d = some t then v else getVT vv env tmp t := by
  cases d with
  | none => simp [putE, putT]
  | some d =>
    simp only [Option.getD_some, Option.some.injEq, getVT]
    cases hd : vv d with
    | true =>
      simp only [putE, putT, get]
      by_cases e : d = t
      · subst e; simp [hd]
      · simp [e]
    | false =>
      simp only [putE, putT, get]
      by_cases e : d = t
      · subst e; simp [hd]
      · simp [e]
def OpOK (_vv : Nat → Bool) (P : Program) (gl : Glob) (n : Nat) (H : Heap) (ops : Array Oper) (o : Oper) (ss : List Nat) (E : Nat → LV) (lv : LV) : Prop :=
  o.dst.getD 0 < n ∧ ∀ (w0 : World) (M : Imm) (HF : Heap) (w : World) (a : Act), a.tmps.size = n → a.defers = [] → Inv gl w0 M (H ++ HF) w → (∀ t ∈ ss, RV M (E t) (a.tmps.getD t undef)) → Came P gl w0 M HF ops o a w fun r H' => r = lv ∧ H' = H
theorem get_restr {ss : List Nat} {env : Env} {t : Nat} : get (restr ss env) t = if t ∈ ss then get env t else .any := by
  induction ss with
  | nil => simp [restr, get]
  | cons s r ih =>
    simp only [restr, List.map_cons, get] at ih ⊢
    by_cases e : s = t
    · subst e; simp
    · rw [if_neg e, ih]
      have : t ≠ s := fun h => e h.symm
      simp [this]
theorem Fr.restr {env tmp : Env} {M : Imm} {a : Act} {ss : List Nat} (hs : a.tmps.size = n) (hd : a.defers = []) (h : ∀ t ∈ ss, RV M (getVT vv env tmp t) (a.tmps.getD t undef)) : Fr vv n (restr ss env) (restr ss tmp) M a := by
  refine ⟨hs, hd, fun t ht => ?_, fun t ht => ?_⟩
  · rw [get_restr]
    split
    · rename_i hm; simpa [getVT, ht] using h t hm
    · simp [RV]
  · rw [get_restr]
    split
    · rename_i hm; simpa [getVT, ht] using h t hm
    · simp [RV]
theorem trOper_info {ops : Array Oper} {o : Oper} {lo : LOper} (ht : trOper vv P n ops o = some lo) : lo.dst = o.dst ∧ o.dst.getD 0 < n ∧ lo.var = vv (o.dst.getD 0) := by
  unfold trOper at ht
  split at ht
  · rename_i hd
    split at ht
    · split at ht
      · cases ht; exact ⟨rfl, hd, rfl⟩
      · split at ht
        · split at ht
          · cases ht; exact ⟨rfl, hd, rfl⟩
          · cases ht
        · cases ht
    · cases ht
  · cases ht
theorem stepD_sound {H : Heap} {ops : Array Oper} {o : Oper} {lo : LOper} {ss : List Nat} {env tmp : Env} (ht : trOper vv P n ops o = some lo) {K : LV → Prop} (ho : stepD lo (ev gl (restr ss env) (restr ss tmp)) H K) :
    ∃ lv, K lv ∧ OpOK vv P gl n H ops o ss (getVT vv env tmp) lv := by
  have hinfo := trOper_info ht
  -- what 'stepD' says is a case of 'stepG'
  have key : ∀ (lv : LV), (∀ K' : LV → Heap → Prop, K' lv H → stepG P gl lo (ev gl (restr ss env) (restr ss tmp)) H K') → K lv → ∃ lv, K lv ∧ OpOK vv P gl n H ops o ss (getVT vv env tmp) lv := by
    intro lv hst hk
    refine ⟨lv, hk, hinfo.2.1, fun w0 M HF w a hs hd hI hr => ?_⟩
    exact (stepG_sound (K := fun r H' => r = lv ∧ H' = H) hI (Fr.restr hs hd hr) ht (hst _ ⟨rfl, rfl⟩)).2.2.2
  unfold stepD at ho
  split at ho
  · rename_i hg
    split at ho
    · rename_i sz m z parts hop
      obtain ⟨h1, h4⟩ := ho
      refine key _ (fun K' hk => ?_) h4
      unfold stepG
      rw [hg]
      simp only [hop]
      exact ⟨h1, hk⟩
    · rename_i sz m z parts hop
      obtain ⟨h1, h4⟩ := ho
      refine key _ (fun K' hk => ?_) h4
      unfold stepG
      rw [hg]
      simp only [hop]
      exact ⟨h1, hk⟩
    · rename_i x hop
      obtain ⟨h1, h4⟩ := ho
      refine key _ (fun K' hk => ?_) h4
      unfold stepG
      rw [hg]
      simp only [hop]
      exact ⟨h1, hk⟩
    · rename_i x hop
      obtain ⟨h1, h4⟩ := ho
      refine ⟨_, h4, hinfo.2.1, fun w0 M HF w a hs hd hI hr => ?_⟩
      have hF := Fr.restr (vv := vv) (env := env) (tmp := tmp) hs hd hr
      unfold trOper at ht
      split at ht
      · split at ht
        · rename_i lop hlop
          split at ht
          · rename_i hgn
            cases ht
            simp only at hop hg
            subst hop
            refine Came.of_after (by simp [Region.wanted, hgn]) ?_
            have hst := step_sound (P := P) (gl := gl) (id := 0) (K := fun r H' => ∃ τ, r = .osl 0 τ 1 _ _ ∧ H' = (0, .tok τ) :: H) hI hF hlop (by
              exact ⟨h1, fun τ => ⟨τ, rfl, rfl⟩⟩)
            refine hst.impH ?_
            rintro M' v r H' w' hv hI' ⟨τ, rfl, rfl⟩
            refine ⟨_, H, ?_, hI'.sub (List.sublist_cons_self _ _), rfl, rfl⟩
            simp only [RV] at hv ⊢
            refine ⟨hv.1, hv.2.imp ?_ ?_⟩
            · rintro ⟨b, o, cap, e1, e2, e3, _⟩
              exact ⟨b, o, cap, e1, e2, e3⟩
            · rintro ⟨a, e1, e2⟩
              exact ⟨a, 0, e1, e2⟩
          · split at ht
            · split at ht
              · cases ht; cases hg
              · cases ht
            · cases ht
        · cases ht
      · cases ht
    · rename_i hnc hnm
      refine key _ (fun K' hk => ?_) ho.2
      unfold stepG
      rw [hg]
      simp only
      have h1 := ho.1
      cases hop : lo.op <;> rw [hop] at h1 hk <;> first
        | exact ⟨h1, hk⟩
        | exact h1.elim
  · rename_i s want hg
    split at ho
    · rename_i sz m z parts hop
      obtain ⟨⟨h1, h2⟩, h4⟩ := ho
      refine ⟨_, h4, hinfo.2.1, fun w0 M HF w a hs hd hI hr => ?_⟩
      have hst : stepG P gl lo (ev gl (restr ss env) (restr ss tmp)) H (fun r H' => H' = H ∧ ((gBool (ev gl (restr ss env) (restr ss tmp) s) want).2 = true → r = (mkSQ (ev gl (restr ss env) (restr ss tmp)) sz m z parts).2) ∧ ((gBool (ev gl (restr ss env) (restr ss tmp) s) want).2 = false → r = .opt false .any)) := by
        unfold stepG
        rw [hg]
        simp only [hop, isQuiet, Bool.false_eq_true, if_false]
        refine ⟨h1, fun hb => ?_, fun hb => ⟨trivial, fun h => (by rw [hb] at h; cases h), fun _ => trivial⟩⟩
        exact ⟨h2 hb, rfl, fun _ => rfl, fun h => (by rw [hb] at h; cases h)⟩
      refine (stepG_sound hI (Fr.restr hs hd hr) ht hst).2.2.2.impH ?_
      rintro M' v r H' w' hv hI' ⟨rfl, k1, k2⟩
      refine ⟨_, H', ?_, hI', rfl, rfl⟩
      cases hb : (gBool (ev gl (restr ss env) (restr ss tmp) s) want).2 with
      | true =>
        obtain rfl := k1 hb
        simp only [quietG, hb, RV]
        exact ⟨fun _ => hv, fun h => (by cases h)⟩
      | false =>
        obtain rfl := k2 hb
        simp only [RV] at hv
        simp only [quietG, hb, RV]
        exact ⟨fun h => (by cases h), hv.2⟩
    · rename_i hnm
      split at ho
      · rename_i h0
        obtain ⟨h1, h4⟩ := ho
        refine key _ (fun K' hk => ?_) h4
        unfold stepG
        rw [hg]
        simp only
        cases hop : lo.op <;> rw [hop] at h0 h1 hk <;> first
          | (simp [isQuiet] at h0; done)
          | exact ⟨h1, hk⟩
      · exact ho.elim
theorem q_free {op : LOp} (h : memFree op = true) (ρ : X → LV) (H H' : Heap) : q op ρ H = q op ρ H' := by
  cases op <;> first | rfl | (simp [memFree] at h; done)
def dval (o : LOper) (ρ : X → LV) (H : Heap) : Prop × LV :=
  match o.guard with
  | none => match o.op with
    | .mkS sz n z parts => (gParts ρ parts ∧ z.length = sz ∧ (fillQ (zeros z (n * sz)) (vParts ρ parts)).1, .fsl sz n (fillQ (zeros z (n * sz)) (vParts ρ parts)).2)
    | .mkN sz n z parts => (gParts ρ parts ∧ z.length = sz ∧ (fillQ (zeros z (n * sz)) (vParts ρ parts)).1, .nsl sz n (fillQ (zeros z (n * sz)) (vParts ρ parts)).2)
    | .cvS x => ((ρ x).g ∧ (cvQ (ρ x).v).1, (cvQ (ρ x).v).2)
    | .s2b x => ((ρ x).g ∧ (strQ (ρ x).v).1, .sl 1 (strQ (ρ x).v).2.length ((strQ (ρ x).v).2.map fun u => .int .u8 u.toNat))
    | op => q op ρ H
  | some (s, want) => match o.op with
    | .mkS sz n z parts => quietG (ρ s) want (mkSQ ρ sz n z parts)
    | op => if isQuiet op then quietG (ρ s) want (q op ρ H) else (False, .any)
theorem stepD_eq (o : LOper) (ρ : X → LV) (H : Heap) (K : LV → Prop) : stepD o ρ H K = ((dval o ρ H).1 ∧ K (dval o ρ H).2) := by
  obtain ⟨dst, var, guard, op⟩ := o
  cases guard with
  | none => cases op <;> rfl
  | some s =>
    obtain ⟨s, want⟩ := s
    unfold stepD dval
    dsimp only
    cases op <;> dsimp only [isQuiet] <;> first
      | rfl
      | simp
theorem dval_sound {H : Heap} {ops : Array Oper} {o : Oper} {lo : LOper} {ss : List Nat} {env tmp : Env} (ht : trOper vv P n ops o = some lo) (ho : (dval lo (ev gl (restr ss env) (restr ss tmp)) H).1) :
    OpOK vv P gl n H ops o ss (getVT vv env tmp) (dval lo (ev gl (restr ss env) (restr ss tmp)) H).2 := by
  obtain ⟨lv, rfl, h⟩ := stepD_sound (K := fun v => v = (dval lo (ev gl (restr ss env) (restr ss tmp)) H).2) (P := P) (gl := gl) ht (by rw [stepD_eq]; exact ⟨ho, rfl⟩)
  exact h
theorem dval_free {lo : LOper} (h : memFree lo.op = true) (ρ : X → LV) (H H' : Heap) : dval lo ρ H = dval lo ρ H' := by
  unfold dval
  split
  · split
    · rfl
    · rfl
    · rfl
    · rfl
    · exact q_free h ρ H H'
  · split
    · rfl
    · rw [q_free h ρ H H']
def at_ (its : List DIt) (k : Nat) : Nat := ((its[k]?).map (·.i)).getD 0
def ItemOK (vv : Nat → Bool) (P : Program) (n : Nat) (ops : Array Oper) (x : DIt) (o : Oper) : Prop := ops[x.i]? = some o ∧ trOper vv P n ops o = some x.o ∧ x.ss = looks ops o
theorem trOpers_get {ops : Array Oper} : ∀ (l : List Oper) (ll : List LOper), trOpers vv P n ops l = some ll → ∀ (i : Nat) (lo : LOper), ll[i]? = some lo → ∃ o, l[i]? = some o ∧ trOper vv P n ops o = some lo
  | [], ll, h, i, lo, hi => by simp only [trOpers, Option.some.injEq] at h; subst h; simp at hi
  | o :: l, ll, h, i, lo, hi => by
    simp only [trOpers] at h
    split at h
    · rename_i x xs h1 h2
      cases h
      cases i with
      | zero => simp at hi; subst hi; exact ⟨o, by simp, h1⟩
      | succ i => simpa using trOpers_get l xs h2 i lo (by simpa using hi)
    · cases h
theorem mkItems_get {ops : Array Oper} {ls : List LOper} {b : Array Nat} (hl : trOpers vv P n ops ops.toList = some ls) : ∀ (l kept : List Nat) (its : List DIt), mkItems ops ls.toArray b kept l = some its → ∀ (k : Nat) (x : DIt), its[k]? = some x → ∃ o, ItemOK vv P n ops x o
  | [], kept, its, h, k, x, hx => by simp only [mkItems, Option.some.injEq] at h; subst h; simp at hx
  | i :: l, kept, its, h, k, x, hx => by
    simp only [mkItems] at h
    split at h
    · rename_i o lo h1 h2
      split at h
      · rename_i r hr
        cases h
        cases k with
        | zero =>
          simp only [List.getElem?_cons_zero, Option.some.injEq] at hx
          subst hx
          obtain ⟨o', ho', ht⟩ := trOpers_get _ _ hl i lo (by simpa using h2)
          have : o' = o := by
            have e : ops[i]? = some o' := by simpa using ho'
            rw [e] at h1; exact Option.some.inj h1
          subst this
          exact ⟨o', h1, ht, rfl⟩
        | succ k => exact mkItems_get hl l _ r hr k x (by simpa using hx)
      · cases h
    · cases h
theorem okKeep_get {b : Array Nat} {x : DIt} : ∀ {its : List DIt}, okKeep b x its = true → ∀ (j : Nat) (y : DIt), its[j]? = some y → isEff y.o.op = true → x.i ∈ y.pend ∨ ∃ m z, m ≤ j ∧ its[m]? = some z ∧ isEff z.o.op = true ∧ (b.getD z.i 0).testBit x.i = true
  | [], _, j, y, hy, _ => by simp at hy
  | u :: r, h, j, y, hy, he => by
    simp only [okKeep] at h
    split at h
    · rename_i hu
      simp only [Bool.or_eq_true, Bool.and_eq_true, List.contains_iff_mem] at h
      rcases h with h | ⟨h1, h2⟩
      · exact .inr ⟨0, u, by omega, rfl, hu, h⟩
      · cases j with
        | zero =>
          simp only [List.getElem?_cons_zero, Option.some.injEq] at hy
          subst hy
          exact .inl h1
        | succ j => exact (okKeep_get h2 j y (by simpa using hy) he).imp (fun h => h) fun ⟨m, z, h6, h7, h8⟩ => ⟨m + 1, z, by omega, by simpa using h7, h8⟩
    · rename_i hu
      cases j with
      | zero =>
        simp only [List.getElem?_cons_zero, Option.some.injEq] at hy
        subst hy
        exact absurd he hu
      | succ j => exact (okKeep_get h j y (by simpa using hy) he).imp (fun h => h) fun ⟨m, z, h6, h7, h8⟩ => ⟨m + 1, z, by omega, by simpa using h7, h8⟩
theorem canon_get {b : Array Nat} : ∀ (its : List DIt), canonOK b its = true → ∀ (k j : Nat) (x y : DIt), its[k]? = some x → its[j]? = some y → k < j →
    (b.getD x.i 0).testBit y.i = false ∧ x.i ≠ y.i ∧ (isEff x.o.op = true → (b.getD y.i 0).testBit x.i = true ∨ y.new = true) ∧ (x.keep = true → isEff y.o.op = true → x.i ∈ y.pend ∨ ∃ m z, m ≤ j ∧ its[m]? = some z ∧ isEff z.o.op = true ∧ (b.getD z.i 0).testBit x.i = true) ∧ (x.new = true → y.new = true → x.o.dst ≠ y.o.dst)
  | [], _, k, j, x, y, hx, _, _ => by simp at hx
  | z :: r, h, k, j, x, y, hx, hy, hlt => by
    simp only [canonOK, Bool.and_eq_true, List.all_eq_true] at h
    cases j with
    | zero => omega
    | succ j =>
      simp only [List.getElem?_cons_succ] at hy
      cases k with
      | zero =>
        simp only [List.getElem?_cons_zero, Option.some.injEq] at hx
        subst hx
        have := h.1.1.1 y (List.mem_of_getElem? hy)
        simp only [Bool.and_eq_true, Bool.or_eq_true, Bool.not_eq_true', bne_iff_ne, ne_eq, List.contains_iff_mem] at this
        obtain ⟨⟨⟨h1, h2⟩, h3⟩, h5⟩ := this
        refine ⟨h1, h2, fun he => ?_, fun hk he => ?_, fun hx hy => ?_⟩
        · rcases h3 with (h3 | h3) | h3
          · rw [he] at h3; cases h3
          · exact .inl h3
          · exact .inr h3
        · have h4 := h.1.1.2
          simp only [Bool.or_eq_true, Bool.not_eq_true'] at h4
          rcases h4 with h4 | h4
          · rw [hk] at h4; cases h4
          · rcases okKeep_get h4 j y hy he with h6 | ⟨m, z, h6, h7, h8⟩
            · exact .inl h6
            · exact .inr ⟨m + 1, z, by omega, by simpa using h7, h8⟩
        · rcases h5 with (h5 | h5) | h5
          · rw [hx] at h5; cases h5
          · rw [hy] at h5; cases h5
          · exact h5
      | succ k =>
        obtain ⟨a1, a2, a3, a4, a5⟩ := canon_get r h.2 k j x y (by simpa using hx) hy (by omega)
        exact ⟨a1, a2, a3, fun hk he => (a4 hk he).imp (fun h => h) fun ⟨m, z, h6, h7, h8⟩ => ⟨m + 1, z, by omega, by simpa using h7, h8⟩, a5⟩
theorem canon_one {b : Array Nat} : ∀ (its : List DIt), canonOK b its = true → ∀ (k : Nat) (x : DIt), its[k]? = some x → isEff x.o.op = true ∨ x.keep = true ∨ memFree x.o.op = true
  | [], _, k, x, hx => by simp at hx
  | z :: r, h, k, x, hx => by
    simp only [canonOK, Bool.and_eq_true] at h
    cases k with
    | zero =>
      simp only [List.getElem?_cons_zero, Option.some.injEq] at hx
      subst hx
      have := h.1.2
      simp only [Bool.or_eq_true] at this
      rcases this with (h | h) | h
      · exact .inl h
      · exact .inr (.inl h)
      · exact .inr (.inr h)
    | succ k => exact canon_one r h.2 k x (by simpa using hx)
theorem mem_keepL {pend : List Nat} {g : Lg} : ∀ {lg : List Lg}, g ∈ lg → g.i ∈ pend → g ∈ keepL pend lg
  | [], h, _ => by simp at h
  | x :: r, h, hp => by
    simp only [keepL]
    rcases List.mem_cons.1 h with rfl | h
    · rw [if_pos (by simpa using hp)]; simp
    · split
      · exact List.mem_cons_of_mem _ (mem_keepL h hp)
      · exact mem_keepL h hp
theorem recheck_mem {H : Heap} : ∀ {lg : List Lg}, recheck gl H lg → ∀ g ∈ lg, stepD g.o (ev gl g.env g.tmp) H (fun v => v = g.v)
  | [], _, g, hg => by simp at hg
  | x :: r, h, g, hg => by
    rcases List.mem_cons.1 hg with rfl | hg
    · exact h.1
    · exact recheck_mem h.2 g hg
def todo (N : Nat) (listed : Array Bool) : Nat := ((List.range N).filter fun i => !listed.getD i true).length
theorem filter_lt {p p' : Nat → Bool} {i : Nat} : ∀ (l : List Nat), (∀ j ∈ l, p' j = true → p j = true) → i ∈ l → p i = true → p' i = false → (l.filter p').length < (l.filter p).length
  | [], _, h, _, _ => by simp at h
  | x :: l, h1, h2, h3, h4 => by
    have hle : ∀ l : List Nat, (∀ j ∈ l, p' j = true → p j = true) → (l.filter p').length ≤ (l.filter p).length := by
      intro l
      induction l with
      | nil => intro _; simp
      | cons y l ih =>
        intro h
        have := ih (fun j hj => h j (List.mem_cons_of_mem _ hj))
        simp only [List.filter_cons]
        by_cases e : p' y = true
        · rw [if_pos e, if_pos (h y (by simp) e)]; simp; exact this
        · rw [if_neg e]
          split
          · simp; omega
          · exact this
    simp only [List.filter_cons]
    rcases List.mem_cons.1 h2 with rfl | h2
    · rw [if_neg (by simp [h4]), if_pos h3]
      have := hle l (fun j hj => h1 j (List.mem_cons_of_mem _ hj))
      simp; omega
    · have ih := filter_lt l (fun j hj => h1 j (List.mem_cons_of_mem _ hj)) h2 h3 h4
      by_cases e : p' x = true
      · rw [if_pos e, if_pos (h1 x (by simp) e)]; simp; exact ih
      · rw [if_neg e]
        split
        · simp; omega
        · exact ih
theorem mem_ready {md : Region.Mode} {ops : Array Oper} {listed : Array Bool} {i : Nat} : i ∈ Region.ready md ops listed ↔ i < ops.size ∧ listed.getD i true = false ∧ ∃ o, ops[i]? = some o ∧ ∀ e ∈ o.after.toList, Region.binds md e = true → listed.getD e.on false = true := by
  simp only [Region.ready, List.mem_filter, List.mem_range, Bool.and_eq_true, Bool.not_eq_true']
  refine and_congr_right fun hi => and_congr_right fun _ => ?_
  rw [Array.getElem?_eq_getElem hi]
  simp only [Option.map_some, Option.getD_some, Array.all_eq_true', Bool.or_eq_true, Bool.not_eq_true', Option.some.injEq, exists_eq_left']
  constructor
  · intro h e he hb
    rcases h e (by simpa using he) with h | h
    · rw [hb] at h; cases h
    · exact h
  · intro h e he
    cases hb : Region.binds md e with
    | false => exact .inl rfl
    | true => exact .inr (h e (by simpa using he) hb)
theorem binds_any {md : Region.Mode} {e : Edge} (h : Region.binds .any e = true) : Region.binds md e = true := by
  obtain ⟨on, g⟩ := e
  cases g <;> simp_all [Region.binds]
theorem topo_all {md : Region.Mode} {ops : Array Oper} {listed : Array Bool} (hsz : listed.size = ops.size) (ht : topoOK md ops = true) (hr : Region.ready md ops listed = []) : ∀ i, i < ops.size → listed.getD i false = true := by
  simp only [topoOK, Bool.and_eq_true, List.all_eq_true, List.mem_range] at ht
  have key : ∀ (l seen : List Nat), topoL md ops seen l = true → (∀ i ∈ seen, listed.getD i false = true) → ∀ i ∈ l, listed.getD i false = true := by
    intro l
    induction l with
    | nil => intro seen _ _ i hi; simp at hi
    | cons x l ih =>
      intro seen h hs i hi
      simp only [topoL, Bool.and_eq_true] at h
      have hx : listed.getD x false = true := by
        cases ho : ops[x]? with
        | none => rw [ho] at h; simp at h
        | some o =>
          rw [ho] at h
          simp only [Option.map_some, Option.getD_some, Array.all_eq_true', Bool.or_eq_true, Bool.not_eq_true'] at h
          have hlt : x < ops.size := (Array.getElem?_eq_some_iff.1 ho).1
          cases hb : listed.getD x false with
          | true => rfl
          | false =>
            have hmem : x ∈ Region.ready md ops listed := by
              rw [mem_ready]
              refine ⟨hlt, ?_, o, ho, fun e he hbd => ?_⟩
              · rw [Array.getD_eq_getD_getElem?, Array.getElem?_eq_getElem (by omega)] at hb ⊢; exact hb
              · rcases h.1 e (by simpa using he) with h' | h'
                · rw [hbd] at h'; cases h'
                · exact hs e.on (by simpa using h')
            rw [hr] at hmem; simp at hmem
      rcases List.mem_cons.1 hi with rfl | hi
      · exact hx
      · exact ih (x :: seen) h.2 (fun j hj => (List.mem_cons.1 hj).elim (fun e => by rw [e]; exact hx) (fun h => hs j h)) i hi
  intro i hi
  exact key _ [] ht.1 (by simp) i (by simpa using ht.2 i hi)
theorem order_spec {ops : Array Oper} {b : Array Nat} (hord : orderOK ops b = true) {i j : Nat} {p r : Oper} (hp : ops[i]? = some p) (hr : ops[j]? = some r) (hne : i ≠ j) {d : Nat} (hd : r.dst = some d) (hl : p.dst = some d ∨ d ∈ looks ops p) :
    (j < i → (b.getD i 0).testBit j = true) ∧ (i < j → (b.getD j 0).testBit i = true) := by
  simp only [orderOK, List.all_eq_true] at hord
  have := hord (p, i) (by rw [List.mem_zipIdx_iff_getElem?]; simpa using hp) (r, j) (by rw [List.mem_zipIdx_iff_getElem?]; simpa using hr)
  simp only [hd, Bool.or_eq_true, beq_iff_eq, hne, false_or] at this
  rw [if_pos (by rcases hl with h | h <;> simp [h])] at this
  constructor
  · intro h; rwa [if_pos h] at this
  · intro h; rwa [if_neg (by omega)] at this
theorem cur_snoc {fl : Nat → Bool} {t : Nat} : ∀ (ys : List (Option Nat × LV)) (k : Nat) (x : LV) (d : Option Nat) (v : LV), cur (ys ++ [(d, v)]) fl k t x = if fl (k + ys.length) && d == some t then v else cur ys fl k t x
  | [], k, x, d, v => by simp [cur]
  | (d', v') :: r, k, x, d, v => by
    simp only [List.cons_append, cur, List.length_cons]
    rw [cur_snoc r (k + 1)]
    rw [show k + 1 + r.length = k + (r.length + 1) by omega]
def eaH (EA : List (Nat × Nat × List LV)) : Heap := EA.map fun e => (0, .blk e.2.1 e.2.2)
theorem DIt.new_eff {x : DIt} (h : x.new = true) : isEff x.o.op = true := by
  obtain ⟨i, ss, keep, pend, ⟨dst, var, guard, op⟩⟩ := x
  simp only [DIt.new, Bool.and_eq_true, isNew] at h
  obtain ⟨h1, _⟩ := h
  split at h1
  · rename_i h2
    simp only [LOper.mk.injEq] at h2
    obtain ⟨_, _, _, rfl⟩ := h2
    rfl
  · cases h1
theorem DIt.new_get {x : DIt} (h : x.new = true) : ∃ d cs, x.o.dst = some d ∧ x.o.guard = none ∧ x.o.op = .zero cs ∧ x.ss = [] := by
  obtain ⟨i, ss, keep, pend, ⟨dst, var, guard, op⟩⟩ := x
  simp only [DIt.new, Bool.and_eq_true, isNew, List.isEmpty_iff] at h
  obtain ⟨h1, h3⟩ := h
  split at h1
  · rename_i h2
    simp only [LOper.mk.injEq] at h2
    obtain ⟨rfl, _, rfl, rfl⟩ := h2
    exact ⟨_, _, rfl, rfl, rfl, h3⟩
  · cases h1
structure St (vv : Nat → Bool) (P : Program) (gl : Glob) (n : Nat) (w0 : World) (HF : Heap) (M0 : Imm) (ops : Array Oper) (its : List DIt) (E : Nat → LV) (K : Env → Heap → Prop)
    (p : Nat) (ys : List (Option Nat × LV)) (env tmp : Env) (lg : List Lg) (H : Heap) (EA : List (Nat × Nat × List LV)) (listed : Array Bool) (M : Imm) (a : Act) (w : World) : Prop where
  len : ys.length = p
  ple : p ≤ its.length
  vals : ∀ t, getVT vv env tmp t = cur ys (fun _ => true) 0 t (E t)
  dsts : ∀ (k : Nat) d v x o, ys[k]? = some (d, v) → its[k]? = some x → ops[x.i]? = some o → d = o.dst
  rest : execE P gl (its.drop p) K lg env tmp H
  lsz : listed.size = ops.size
  closed : ∀ i j, listed.getD i false = true → ((Region.before ops).getD i 0).testBit j = true → listed.getD j false = true
  late : ∀ (k : Nat) x, p ≤ k → its[k]? = some x → listed.getD x.i false = true → x.new = true ∧ ∃ b cs d, x.o.op = .zero cs ∧ x.o.dst = some d ∧ (k, b, cs) ∈ EA ∧ a.tmps.getD d undef = .pointer (some ⟨b, 0, none⟩)
  effs : ∀ (k : Nat) x, k < p → its[k]? = some x → isEff x.o.op = true → listed.getD x.i false = true
  todo : ∀ (k : Nat) x o d v, k < p → its[k]? = some x → ops[x.i]? = some o → ys[k]? = some (d, v) → listed.getD x.i false = false →
    OpOK vv P gl n H ops o (looks ops o) (fun t => cur ys (fun j => decide (j < k)) 0 t (E t)) v ∧
    (x.keep = false → ∀ H', OpOK vv P gl n H' ops o (looks ops o) (fun t => cur ys (fun j => decide (j < k)) 0 t (E t)) v) ∧
    (x.keep = true → ∃ g ∈ lg, ∃ env' tmp', g.i = x.i ∧ g.o = x.o ∧ g.v = v ∧ g.env = restr x.ss env' ∧ g.tmp = restr x.ss tmp' ∧ ∀ t, getVT vv env' tmp' t = cur ys (fun j => decide (j < k)) 0 t (E t))
  mle : MLe M0 M
  asz : a.tmps.size = n
  dfr : a.defers = []
  inv : Inv gl w0 M (H ++ (eaH EA ++ HF)) w
  slots : ∀ t, (∀ (k : Nat) x, p ≤ k → its[k]? = some x → listed.getD x.i false = true → x.o.dst ≠ some t) → RV M (cur ys (fun k => listed.getD (at_ its k) false) 0 t (E t)) (a.tmps.getD t undef)
section
variable {w0 : World} {HF : Heap} {M0 : Imm} {ops : Array Oper} {its : List DIt} {E : Nat → LV} {K : Env → Heap → Prop}
theorem cur_lt_snoc {ys : List (Option Nat × LV)} {d : Option Nat} {v : LV} {k t : Nat} {x : LV} (hk : k ≤ ys.length) : cur (ys ++ [(d, v)]) (fun j => decide (j < k)) 0 t x = cur ys (fun j => decide (j < k)) 0 t x := by
  rw [cur_snoc]
  have : decide (0 + ys.length < k) = false := by simp; omega
  simp only [this, Bool.false_and, Bool.false_eq_true, if_false]
theorem cur_lt_all {ys : List (Option Nat × LV)} {t : Nat} {x : LV} : cur ys (fun j => decide (j < ys.length)) 0 t x = cur ys (fun _ => true) 0 t x :=
  cur_congr ys 0 x fun i d v hi _ => by
    have := (List.getElem?_eq_some_iff.1 hi).1
    simp [this]
theorem St.quiet (hitems : ∀ (k : Nat) x, its[k]? = some x → ∃ o, ItemOK vv P n ops x o) (hcan : canonOK (Region.before ops) its = true) {p : Nat} {ys : List (Option Nat × LV)} {env tmp : Env} {lg : List Lg} {H : Heap} {EA : List (Nat × Nat × List LV)} {listed : Array Bool} {M : Imm} {a : Act} {w : World}
    (h : St vv P gl n w0 HF M0 ops its E K p ys env tmp lg H EA listed M a w) {x : DIt} (hx : its[p]? = some x) (he : isEff x.o.op = false) :
    ∃ ys' env' tmp' lg', St vv P gl n w0 HF M0 ops its E K (p + 1) ys' env' tmp' lg' H EA listed M a w := by
  obtain ⟨o, ho, htr, hss⟩ := hitems p x hx
  have hp : p < its.length := (List.getElem?_eq_some_iff.1 hx).1
  have hdrop : its.drop p = x :: its.drop (p + 1) := by
    rw [List.drop_eq_getElem_cons hp]
    congr 1
    rw [List.getElem?_eq_getElem hp] at hx
    exact Option.some.inj hx
  have hr := h.rest
  rw [hdrop] at hr
  simp only [execE, he, Bool.false_eq_true, if_false] at hr
  have hinfo := trOper_info htr
  rw [stepD_eq] at hr
  obtain ⟨hg, hk⟩ := hr
  have hok := dval_sound (P := P) (gl := gl) htr hg
  have hokAll : x.keep = false → ∀ H', OpOK vv P gl n H' ops o x.ss (getVT vv env tmp) (dval x.o (ev gl (restr x.ss env) (restr x.ss tmp)) H).2 := by
    intro hkeep H'
    have hm : memFree x.o.op = true := by
      rcases canon_one its hcan p x hx with h1 | h1 | h1
      · rw [he] at h1; cases h1
      · rw [hkeep] at h1; cases h1
      · exact h1
    rw [dval_free hm _ H H'] at hg ⊢
    exact dval_sound (P := P) (gl := gl) htr hg
  generalize (dval x.o (ev gl (restr x.ss env) (restr x.ss tmp)) H).2 = lv at *
  have hE : (fun t => cur (ys ++ [(o.dst, lv)]) (fun j => decide (j < p)) 0 t (E t)) = getVT vv env tmp := by
    funext t
    rw [cur_lt_snoc (by rw [h.len]; exact Nat.le_refl _), ← h.len, cur_lt_all, h.vals]
  refine ⟨ys ++ [(o.dst, lv)], _, _, _, ⟨by simp [h.len], hp, fun t => ?_, fun k d v x' o' hy hx' ho' => ?_, hk, h.lsz, h.closed, fun k x' hk' hx' => h.late k x' (by omega) hx', fun k x' hk' hx' he' => ?_, fun k x' o' d v hk' hx' ho' hy hl => ?_, h.mle, h.asz, h.dfr, h.inv, fun t hearly => ?_⟩⟩
  · rw [hinfo.1, hinfo.2.2, getVT_put, cur_snoc, h.vals]
    simp
  · rcases Nat.lt_or_ge k ys.length with hlt | hge
    · rw [List.getElem?_append_left hlt] at hy
      exact h.dsts k d v x' o' hy hx' ho'
    · have hkp : k = p := by
        have := (List.getElem?_eq_some_iff.1 hy).1
        simp [h.len] at this hge; omega
      subst hkp
      rw [List.getElem?_append_right hge, h.len, Nat.sub_self] at hy
      simp only [List.getElem?_cons_zero, Option.some.injEq, Prod.mk.injEq] at hy
      rw [hx] at hx'; cases hx'
      rw [ho] at ho'; cases ho'
      exact hy.1.symm
  · rcases Nat.lt_or_ge k p with hlt | hge
    · exact h.effs k x' hlt hx' he'
    · have hkp : k = p := by omega
      subst hkp
      rw [hx] at hx'; cases hx'
      rw [he] at he'; cases he'
  · rcases Nat.lt_or_ge k p with hlt | hge
    · rw [List.getElem?_append_left (by rw [h.len]; exact hlt)] at hy
      obtain ⟨h1, h2, h3⟩ := h.todo k x' o' d v hlt hx' ho' hy hl
      have hc : (fun t => cur (ys ++ [(o.dst, lv)]) (fun j => decide (j < k)) 0 t (E t)) = fun t => cur ys (fun j => decide (j < k)) 0 t (E t) := by
        funext t
        rw [cur_lt_snoc (by rw [h.len]; omega)]
      rw [hc]
      refine ⟨h1, h2, fun hkeep => ?_⟩
      obtain ⟨g, hg1, env', tmp', hg2⟩ := h3 hkeep
      refine ⟨g, ?_, env', tmp', hg2.1, hg2.2.1, hg2.2.2.1, hg2.2.2.2.1, hg2.2.2.2.2.1, fun t => ?_⟩
      · split
        · exact List.mem_cons_of_mem _ hg1
        · exact hg1
      · rw [hg2.2.2.2.2.2 t, cur_lt_snoc (by rw [h.len]; omega)]
    · have hkp : k = p := by omega
      subst hkp
      rw [hx] at hx'; cases hx'
      rw [ho] at ho'; cases ho'
      rw [List.getElem?_append_right (by rw [h.len]; exact Nat.le_refl _), h.len, Nat.sub_self] at hy
      simp only [List.getElem?_cons_zero, Option.some.injEq, Prod.mk.injEq] at hy
      obtain ⟨_, rfl⟩ := hy
      rw [hE, ← hss]
      refine ⟨hok, hokAll, fun hkeep => ?_⟩
      rw [if_pos hkeep]
      exact ⟨_, List.mem_cons_self .., env, tmp, rfl, rfl, rfl, rfl, rfl, fun t => (congrFun hE t).symm⟩
  · rw [cur_snoc]
    have hl : listed.getD x.i false = false := by
      cases hb : listed.getD x.i false with
      | false => rfl
      | true => have := DIt.new_eff (h.late p x (Nat.le_refl _) hx hb).1; rw [he] at this; cases this
    have : listed.getD (at_ its (0 + ys.length)) false = false := by
      rw [Nat.zero_add, h.len]
      simp only [at_, hx, Option.map_some, Option.getD_some]
      exact hl
    simp only [this, Bool.false_and, Bool.false_eq_true, if_false]
    refine h.slots t fun k' x' hk' hx' hl' => ?_
    rcases Nat.lt_or_ge p k' with h1 | h1
    · exact hearly k' x' h1 hx' hl'
    · have : k' = p := by omega
      subst this
      rw [hx] at hx'; cases hx'
      rw [hl] at hl'; cases hl'
theorem St.pass (hitems : ∀ (k : Nat) x, its[k]? = some x → ∃ o, ItemOK vv P n ops x o) (hcan : canonOK (Region.before ops) its = true) {p : Nat} {ys : List (Option Nat × LV)} {env tmp : Env} {lg : List Lg} {H : Heap} {EA : List (Nat × Nat × List LV)} {listed : Array Bool} {M : Imm} {a : Act} {w : World}
    (h : St vv P gl n w0 HF M0 ops its E K p ys env tmp lg H EA listed M a w) {x : DIt} (hx : its[p]? = some x) (he : listed.getD x.i false = true) :
    ∃ ys' env' tmp' lg' H' EA', St vv P gl n w0 HF M0 ops its E K (p + 1) ys' env' tmp' lg' H' EA' listed M a w := by
  obtain ⟨o, ho, htr, hss⟩ := hitems p x hx
  have hp : p < its.length := (List.getElem?_eq_some_iff.1 hx).1
  have hdrop : its.drop p = x :: its.drop (p + 1) := by
    rw [List.drop_eq_getElem_cons hp]
    congr 1
    rw [List.getElem?_eq_getElem hp] at hx
    exact Option.some.inj hx
  have hinfo := trOper_info htr
  obtain ⟨hnew, b, cs, d, hop, hd, hmem, hval⟩ := h.late p x (Nat.le_refl _) hx he
  have heff := DIt.new_eff hnew
  have hgd : x.o.guard = none := by obtain ⟨_, _, _, h1, _⟩ := DIt.new_get hnew; exact h1
  have hr := h.rest
  rw [hdrop] at hr
  simp only [execE, heff, if_true] at hr
  unfold stepG at hr
  rw [hgd, hop] at hr
  have hdd : x.o.dst.getD 0 = d := by rw [hd]; rfl
  simp only [step, hdd] at hr
  obtain ⟨hre, hrest⟩ := hr b
  have hod : o.dst = some d := by rw [← hinfo.1]; exact hd
  rw [hinfo.1, hinfo.2.2] at hrest
  obtain ⟨EA', hperm⟩ : ∃ EA', EA.Perm ((p, b, cs) :: EA') := by
    obtain ⟨l1, l2, rfl⟩ := List.append_of_mem hmem
    exact ⟨l1 ++ l2, List.perm_middle⟩
  have hEA : ∀ k' b' cs', k' ≠ p → (k', b', cs') ∈ EA → (k', b', cs') ∈ EA' := fun k' b' cs' hne hm => by
    rcases List.mem_cons.1 (hperm.mem_iff.1 hm) with h1 | h1
    · cases h1; exact absurd rfl hne
    · exact h1
  have hinv : Inv gl w0 M ((d, .blk b cs) :: H ++ (eaH EA' ++ HF)) w := by
    have h1 : (eaH EA).Perm (eaH ((p, b, cs) :: EA')) := hperm.map _
    have h2 : Inv gl w0 M (H ++ (eaH ((p, b, cs) :: EA') ++ HF)) w := h.inv.perm ((h1.append_right HF).append_left H)
    have h3 : Inv gl w0 M ((0, .blk b cs) :: (H ++ (eaH EA' ++ HF))) w := h2.perm (by simp only [eaH, List.map_cons, List.cons_append]; exact List.perm_middle)
    exact h3.names (by simp)
  refine ⟨ys ++ [(o.dst, .ptr d b 0)], _, _, keepL x.pend lg, (d, .blk b cs) :: H, EA', ⟨by simp [h.len], hp, fun t => ?_, fun k' d' v' x' o' hy' hx' ho' => ?_, hrest, h.lsz, h.closed, fun k' x' hk' hx' hl' => ?_, fun k' x' hk' hx' he' => ?_, fun k' x' o' d' v' hk' hx' ho' hy' hl' => ?_, h.mle, h.asz, h.dfr, hinv, fun t hearly => ?_⟩⟩
  · rw [getVT_put, cur_snoc, h.vals]
    simp
  · rcases Nat.lt_or_ge k' ys.length with hlt | hge
    · rw [List.getElem?_append_left hlt] at hy'
      exact h.dsts k' d' v' x' o' hy' hx' ho'
    · have hkk : k' = p := by
        have := (List.getElem?_eq_some_iff.1 hy').1
        simp [h.len] at this hge; omega
      subst hkk
      rw [List.getElem?_append_right hge, h.len, Nat.sub_self] at hy'
      simp only [List.getElem?_cons_zero, Option.some.injEq, Prod.mk.injEq] at hy'
      rw [hx] at hx'; cases hx'
      rw [ho] at ho'; cases ho'
      exact hy'.1.symm
  · obtain ⟨h1, b', cs', d', h2, h3, h4, h5⟩ := h.late k' x' (by omega) hx' hl'
    exact ⟨h1, b', cs', d', h2, h3, hEA k' b' cs' (by omega) h4, h5⟩
  · rcases Nat.lt_or_ge k' p with hlt | hge
    · exact h.effs k' x' hlt hx' he'
    · have : k' = p := by omega
      subst this
      rw [hx] at hx'; cases hx'
      exact he
  · have hlt : k' < p := by
      rcases Nat.lt_or_ge k' p with hlt | hge
      · exact hlt
      · have : k' = p := by omega
        subst this
        rw [hx] at hx'; cases hx'
        rw [he] at hl'; cases hl'
    rw [List.getElem?_append_left (by rw [h.len]; exact hlt)] at hy'
    obtain ⟨h1, h2, h3⟩ := h.todo k' x' o' d' v' hlt hx' ho' hy' hl'
    have hc : (fun t => cur (ys ++ [(o.dst, LV.ptr d b 0)]) (fun j => decide (j < k')) 0 t (E t)) = fun t => cur ys (fun j => decide (j < k')) 0 t (E t) := by
      funext t
      rw [cur_lt_snoc (by rw [h.len]; omega)]
    rw [hc]
    cases hkeep : x'.keep with
    | false => exact ⟨h2 hkeep _, fun _ => h2 hkeep, (fun h => by cases h)⟩
    | true =>
      obtain ⟨g, hg, env', tmp', g1, g2, g3, g4, g5, g6⟩ := h3 hkeep
      have hpend : x'.i ∈ x.pend := by
        rcases (canon_get its hcan k' p x' x hx' hx hlt).2.2.2.1 hkeep heff with h4 | ⟨m, z, hm, hz, hze, hzb⟩
        · exact h4
        · have hzl : listed.getD z.i false = true := by
            rcases Nat.lt_or_ge m p with h5 | h5
            · exact h.effs m z h5 hz hze
            · have : m = p := by omega
              subst this
              rw [hx] at hz; cases hz
              exact he
          have := h.closed _ _ hzl hzb
          rw [hl'] at this; cases this
      have hmem := mem_keepL hg (by rw [g1]; exact hpend)
      have hchk := recheck_mem hre g hmem
      rw [g2, g4, g5, stepD_eq] at hchk
      obtain ⟨o2, ho2, htr2, hss2⟩ := hitems k' x' hx'
      rw [ho'] at ho2; cases ho2
      have hok := dval_sound (P := P) (gl := gl) htr2 hchk.1
      rw [hchk.2, g3, hss2] at hok
      have hE : getVT vv env' tmp' = fun t => cur ys (fun j => decide (j < k')) 0 t (E t) := funext g6
      rw [hE] at hok
      refine ⟨hok, (fun h => by cases h), fun _ => ⟨g, hmem, env', tmp', g1, g2, g3, g4, g5, fun t => ?_⟩⟩
      rw [g6 t, cur_lt_snoc (by rw [h.len]; omega)]
  · rw [cur_snoc, Nat.zero_add, h.len]
    have hl2 : listed.getD (at_ its p) false = true := by
      simp only [at_, hx, Option.map_some, Option.getD_some]
      exact he
    rw [hl2, Bool.true_and, hod]
    by_cases hdt : d = t
    · subst hdt
      simp only [beq_self_eq_true, if_true, RV]
      exact hval
    · have : (some d == some t) = false := by simpa using hdt
      rw [this]
      simp only [Bool.false_eq_true, if_false]
      refine h.slots t fun k' x' hk' hx' hl' => ?_
      rcases Nat.lt_or_ge p k' with h1 | h1
      · exact hearly k' x' h1 hx' hl'
      · have : k' = p := by omega
        subst this
        rw [hx] at hx'; cases hx'
        rw [hd]
        simpa using hdt
theorem St.advance (hitems : ∀ (k : Nat) x, its[k]? = some x → ∃ o, ItemOK vv P n ops x o) (hcan : canonOK (Region.before ops) its = true) : ∀ (f p : Nat) (ys : List (Option Nat × LV)) (env tmp : Env) (lg : List Lg) (H : Heap) (EA : List (Nat × Nat × List LV)) (listed : Array Bool) (M : Imm) (a : Act) (w : World), its.length - p ≤ f →
    St vv P gl n w0 HF M0 ops its E K p ys env tmp lg H EA listed M a w →
    ∃ p' ys' env' tmp' lg' H' EA', St vv P gl n w0 HF M0 ops its E K p' ys' env' tmp' lg' H' EA' listed M a w ∧ (p' = its.length ∨ ∃ x, its[p']? = some x ∧ isEff x.o.op = true ∧ listed.getD x.i false = false)
  | 0, p, ys, env, tmp, lg, H, EA, listed, M, a, w, hf, h => ⟨p, ys, env, tmp, lg, H, EA, h, .inl (by have := h.ple; omega)⟩
  | f + 1, p, ys, env, tmp, lg, H, EA, listed, M, a, w, hf, h => by
    by_cases hp : p = its.length
    · exact ⟨p, ys, env, tmp, lg, H, EA, h, .inl hp⟩
    · have hlt : p < its.length := by have := h.ple; omega
      cases he : isEff its[p].o.op with
      | true =>
        cases hl : listed.getD its[p].i false with
        | false => exact ⟨p, ys, env, tmp, lg, H, EA, h, .inr ⟨its[p], by simp, he, hl⟩⟩
        | true =>
          obtain ⟨ys', env', tmp', lg', H', EA', h'⟩ := h.pass hitems hcan (x := its[p]) (by simp) hl
          exact St.advance hitems hcan f (p + 1) ys' env' tmp' lg' H' EA' listed M a w (by omega) h'
      | false =>
        obtain ⟨ys', env', tmp', lg', h'⟩ := h.quiet hitems hcan (x := its[p]) (by simp) he
        exact St.advance hitems hcan f (p + 1) ys' env' tmp' lg' H EA listed M a w (by omega) h'
theorem at_of {k : Nat} {x : DIt} (hx : its[k]? = some x) : at_ its k = x.i := by simp [at_, hx]
theorem listed_set {listed : Array Bool} {i : Nat} (hi : i < listed.size) (j : Nat) : (listed.setIfInBounds i true).getD j false = if j = i then true else listed.getD j false := by
  simp only [Array.getD_eq_getD_getElem?]
  by_cases e : j = i
  · subst e; simp [hi]
  · rw [Array.getElem?_setIfInBounds_ne (fun h => e h.symm), if_neg e]
theorem todo_lt {listed : Array Bool} {i fuel : Nat} (hsz : listed.size = ops.size) (hio : i < ops.size) (hil : listed.getD i true = false) (hf : Lx.todo ops.size listed ≤ fuel + 1) : Lx.todo ops.size (listed.setIfInBounds i true) ≤ fuel := by
  have hlt := filter_lt (p := fun j => !listed.getD j true) (p' := fun j => !(listed.setIfInBounds i true).getD j true) (i := i) (List.range ops.size) (fun j hj h => by
      simp only [Bool.not_eq_true'] at h ⊢
      simp only [Array.getD_eq_getD_getElem?] at h ⊢
      by_cases e : j = i
      · subst e; simp [hsz, hio] at h
      · rw [Array.getElem?_setIfInBounds_ne (fun h => e h.symm)] at h; exact h) (List.mem_range.2 hio) (by simpa using hil) (by simp [Array.getD_eq_getD_getElem?, hsz, hio])
  simp only [Lx.todo] at hf ⊢
  omega
theorem anyOrder {md : Region.Mode} (htopo : topoOK md ops = true) (hback : backOK ops = true) (hord : orderOK ops (Region.before ops) = true) (hitems : ∀ (k : Nat) x, its[k]? = some x → ∃ o, ItemOK vv P n ops x o) (hcan : canonOK (Region.before ops) its = true) (hall : ∀ i, i < ops.size → ∃ (k : Nat) (x : DIt), its[k]? = some x ∧ x.i = i)
    {Q : Exit → Act → World → Prop} (hQ : ∀ M a w env H, MLe M0 M → Fr vv n env [] M a → Inv gl w0 M (H ++ HF) w → K env H → Q .normal a w) :
    ∀ (fuel : Nat) (p : Nat) (ys : List (Option Nat × LV)) (env tmp : Env) (lg : List Lg) (H : Heap) (EA : List (Nat × Nat × List LV)) (listed : Array Bool) (M : Imm) (a : Act) (w : World), Lx.todo ops.size listed ≤ fuel → St vv P gl n w0 HF M0 ops its E K p ys env tmp lg H EA listed M a w → (p = its.length ∨ ∃ x, its[p]? = some x ∧ isEff x.o.op = true ∧ listed.getD x.i false = false) → wpAny P md ops Q fuel listed a w := by
  have fin : ∀ (p : Nat) (ys : List (Option Nat × LV)) (env tmp : Env) (lg : List Lg) (H : Heap) (EA : List (Nat × Nat × List LV)) (listed : Array Bool) (M : Imm) (a : Act) (w : World), St vv P gl n w0 HF M0 ops its E K p ys env tmp lg H EA listed M a w → (p = its.length ∨ ∃ x, its[p]? = some x ∧ isEff x.o.op = true ∧ listed.getD x.i false = false) → Region.ready md ops listed = [] → Q .normal a w := by
    intro p ys env tmp lg H EA listed M a w h hp hr
    have hallL := topo_all h.lsz htopo hr
    have hpe : p = its.length := by
      rcases hp with hp | ⟨x, hx, _, hxl⟩
      · exact hp
      · obtain ⟨o, ho, _⟩ := hitems p x hx
        have := hallL x.i (Array.getElem?_eq_some_iff.1 ho).1
        rw [hxl] at this; cases this
    have hK := h.rest
    rw [hpe, List.drop_length] at hK
    simp only [execE] at hK
    refine hQ M a w env H h.mle ⟨h.asz, h.dfr, fun t ht => ?_, fun _ _ => by simp [get, RV]⟩ (h.inv.sub ((List.Sublist.refl H).append (List.sublist_append_right (eaH EA) HF))) hK
    have hs := h.slots t fun k' x' hk' hx' _ => by
      have := (List.getElem?_eq_some_iff.1 hx').1
      omega
    have e : cur ys (fun k => listed.getD (at_ its k) false) 0 t (E t) = cur ys (fun _ => true) 0 t (E t) := cur_congr ys 0 (E t) fun k d v hk _ => by
      rw [Nat.zero_add]
      have hlt : k < its.length := by rw [← hpe, ← h.len]; exact (List.getElem?_eq_some_iff.1 hk).1
      obtain ⟨o, ho, _⟩ := hitems k its[k] (by simp [hlt])
      rw [at_of (x := its[k]) (by simp [hlt])]
      exact hallL _ (Array.getElem?_eq_some_iff.1 ho).1
    rw [e, ← h.vals] at hs
    simpa [getVT, ht] using hs
  intro fuel
  induction fuel with
  | zero =>
    intro p ys env tmp lg H EA listed M a w hf h hp
    have hr : Region.ready md ops listed = [] := by
      rw [List.eq_nil_iff_forall_not_mem]
      intro i hi
      rw [mem_ready] at hi
      have : i ∈ (List.range ops.size).filter fun i => !listed.getD i true := by
        rw [List.mem_filter]; exact ⟨List.mem_range.2 hi.1, by simpa using hi.2.1⟩
      have hpos := List.length_pos_of_mem this
      simp only [Lx.todo] at hf
      omega
    exact ⟨hr, fin p ys env tmp lg H EA listed M a w h hp hr⟩
  | succ fuel ih =>
    intro p ys env tmp lg H EA listed M a w hf h hp
    refine ⟨fun hr => fin p ys env tmp lg H EA listed M a w h hp hr, fun i hi => ?_⟩
    rw [mem_ready] at hi
    obtain ⟨hio, hil, o, ho, hedges⟩ := hi
    have hil' : listed.getD i false = false := by
      rw [Array.getD_eq_getD_getElem?, Array.getElem?_eq_getElem (by rw [h.lsz]; exact hio)] at hil ⊢; exact hil
    obtain ⟨k, x, hx, hxi⟩ := hall i hio
    obtain ⟨o', ho', htr, hss⟩ := hitems k x hx
    rw [hxi, ho] at ho'
    cases ho'
    have hinfo := trOper_info htr
    -- all that must come before it has come
    have hbef : ∀ j, ((Region.before ops).getD i 0).testBit j = true → listed.getD j false = true := by
      intro j hj
      obtain ⟨e, he, hb, h'⟩ := before_spec ho hback hj
      rcases h' with rfl | h'
      · exact hedges e he (binds_any hb)
      · exact h.closed e.on j (hedges e he (binds_any hb)) h'
    -- what comes behind it has not come
    have hnot : ∀ k, ((Region.before ops).getD k 0).testBit i = true → listed.getD k false = false := by
      intro k hk
      cases hb : listed.getD k false with
      | false => rfl
      | true => have := h.closed k i hb hk; rw [hil'] at this; cases this
    -- it lies among what is known, or is the next effect, or is a new block
    have hkp : k < p ∨ (k = p ∧ isEff x.o.op = true ∧ x.new = false) ∨ (p ≤ k ∧ x.new = true) := by
      rcases hp with hp | ⟨y, hy, hye, hyl⟩
      · have := (List.getElem?_eq_some_iff.1 hx).1; left; omega
      · rcases Nat.lt_trichotomy k p with hlt | heq | hgt
        · exact .inl hlt
        · subst heq; rw [hy] at hx; cases hx
          cases hn : x.new with
          | false => exact .inr (.inl ⟨rfl, hye, rfl⟩)
          | true => exact .inr (.inr ⟨Nat.le_refl _, rfl⟩)
        · rcases (canon_get its hcan p k y x hy hx hgt).2.2.1 hye with hc | hc
          · exfalso
            rw [hxi] at hc
            have := hbef _ hc
            rw [hyl] at this; cases this
          · exact .inr (.inr ⟨by omega, hc⟩)
    -- what is next is still next
    have hp' : ∀ (p : Nat), (p = its.length ∨ ∃ x, its[p]? = some x ∧ isEff x.o.op = true ∧ listed.getD x.i false = false) → p ≠ k → (p = its.length ∨ ∃ x, its[p]? = some x ∧ isEff x.o.op = true ∧ (listed.setIfInBounds i true).getD x.i false = false) := by
      intro p hp hpk
      refine hp.imp (fun h => h) fun ⟨y, hy, hye, hyl⟩ => ⟨y, hy, hye, ?_⟩
      rw [listed_set (listed := listed) (i := i) (by rw [h.lsz]; exact hio), if_neg]
      · exact hyl
      · intro e
        rcases Nat.lt_or_gt_of_ne hpk with h1 | h1
        · have := (canon_get its hcan p k y x hy hx h1).2.1
          rw [hxi] at this; exact this e
        · have := (canon_get its hcan k p x y hx hy h1).2.1
          rw [hxi] at this; exact this e.symm
    have hget := listed_set (listed := listed) (i := i) (by rw [h.lsz]; exact hio)
    -- writers of a slot, earlier and later in the order
    have wr : ∀ (k' : Nat) (d : Option Nat) (v : LV) (t : Nat), ys[k']? = some (d, v) → d = some t → (o.dst = some t ∨ t ∈ looks ops o) → k' ≠ k → (k' < k → listed.getD (at_ its k') false = true) ∧ (k < k' → listed.getD (at_ its k') false = false) := by
      intro k' d v t hy hd hl hne
      have hk' : k' < its.length := by
        have h1 := (List.getElem?_eq_some_iff.1 hy).1
        have h2 := h.ple
        rw [h.len] at h1; omega
      obtain ⟨o2, ho2, _⟩ := hitems k' its[k'] (by simp [hk'])
      have hd2 := h.dsts k' d v its[k'] o2 hy (by simp [hk']) ho2
      rw [hd] at hd2
      have hne2 : i ≠ its[k'].i := by
        intro e
        rcases Nat.lt_or_gt_of_ne hne with hlt | hgt
        · have := (canon_get its hcan k' k its[k'] x (by simp [hk']) hx hlt).2.1
          rw [hxi] at this; exact this e.symm
        · have := (canon_get its hcan k k' x its[k'] hx (by simp [hk']) hgt).2.1
          rw [hxi] at this; exact this e
      have hs := order_spec hord ho ho2 hne2 hd2.symm (by rcases hl with hl | hl; (exact .inl hl); (exact .inr hl))
      rw [at_of (x := its[k']) (by simp [hk'])]
      constructor
      · intro hlt
        have hc := (canon_get its hcan k' k its[k'] x (by simp [hk']) hx hlt).1
        rw [hxi] at hc
        rcases Nat.lt_or_ge its[k'].i i with h1 | h1
        · exact hbef _ (hs.1 h1)
        · have := hs.2 (by omega)
          rw [hc] at this; cases this
      · intro hgt
        have hc := (canon_get its hcan k k' x its[k'] hx (by simp [hk']) hgt).1
        rw [hxi] at hc
        rcases Nat.lt_or_ge its[k'].i i with h1 | h1
        · have := hs.1 h1
          rw [hc] at this; cases this
        · exact hnot _ (hs.2 (by omega))
    have noEarly : k ≤ p → ∀ t, (o.dst = some t ∨ t ∈ looks ops o) → ∀ (k' : Nat) x', p ≤ k' → its[k']? = some x' → listed.getD x'.i false = true → x'.o.dst ≠ some t := by
      intro hkle t ht k' x' hk' hx' hl' hd'
      obtain ⟨o2, ho2, htr2, _⟩ := hitems k' x' hx'
      have hd2 : o2.dst = some t := by rw [← (trOper_info htr2).1]; exact hd'
      have hkk : k < k' := by
        rcases Nat.lt_or_ge k k' with h1 | h1
        · exact h1
        · have : k' = k := by omega
          subst this
          rw [hx] at hx'; cases hx'
          rw [hxi, hil'] at hl'; cases hl'
      have hc := canon_get its hcan k k' x x' hx hx' hkk
      rw [hxi] at hc
      have hs := order_spec hord ho ho2 hc.2.1 hd2 ht
      rcases Nat.lt_or_ge x'.i i with h1 | h1
      · have := hs.1 h1
        rw [hc.1] at this; cases this
      · have := hs.2 (by have := hc.2.1; omega)
        have := h.closed _ _ hl' this
        rw [hil'] at this; cases this
    have hslots : ∀ t ∈ looks ops o, k ≤ p → RV M (cur ys (fun j => decide (j < k)) 0 t (E t)) (a.tmps.getD t undef) := by
      intro t ht hkle
      have : cur ys (fun j => decide (j < k)) 0 t (E t) = cur ys (fun j => listed.getD (at_ its j) false) 0 t (E t) := cur_congr ys 0 (E t) fun k' d v hk' hd => by
        rw [Nat.zero_add]
        by_cases hkk : k' = k
        · subst hkk; rw [at_of hx, hxi, hil']; simp
        · obtain ⟨h1, h2⟩ := wr k' d v t hk' hd (.inr ht) hkk
          rcases Nat.lt_or_gt_of_ne hkk with hlt | hgt
          · rw [h1 hlt]; simp [hlt]
          · rw [h2 hgt]; simp; omega
      rw [this]; exact h.slots t (noEarly hkle t (.inr ht))
    have hclosed' : ∀ i' j, (listed.setIfInBounds i true).getD i' false = true → ((Region.before ops).getD i' 0).testBit j = true → (listed.setIfInBounds i true).getD j false = true := by
      intro i' j hk hb
      rw [hget] at hk ⊢
      split at hk
      · rename_i e; subst e
        rw [hbef j hb]; simp
      · rw [h.closed i' j hk hb]; simp
    -- the slots behind it, for the values 'ys2' in which it has the value 'r'
    have hslots' : ∀ (ys2 : List (Option Nat × LV)) (M' : Imm) (v : Value) (r : LV), MLe M M' → RV M' r v → ys2[k]? = some (o.dst, r) → (∀ k' : Nat, k' ≠ k → ys2[k']? = ys[k']?) → ∀ t, (o.dst ≠ some t → RV M (cur ys2 (fun j => listed.getD (at_ its j) false) 0 t (E t)) (a.tmps.getD t undef)) →
        RV M' (cur ys2 (fun j => (listed.setIfInBounds i true).getD (at_ its j) false) 0 t (E t)) ((a.put o.dst v).tmps.getD t undef) := by
      intro ys2 M' v r hM' hrv hyk hsame t hold
      have hfl : ∀ k', k' ≠ k → (∃ x', its[k']? = some x') → (listed.setIfInBounds i true).getD (at_ its k') false = listed.getD (at_ its k') false := by
        intro k' hne ⟨x', hx'⟩
        rw [hget, if_neg]
        rw [at_of hx']
        intro e
        rcases Nat.lt_or_gt_of_ne hne with hlt | hgt
        · have := (canon_get its hcan k' k x' x hx' hx hlt).2.1
          rw [hxi] at this; exact this e
        · have := (canon_get its hcan k k' x x' hx hx' hgt).2.1
          rw [hxi] at this; exact this e.symm
      have hex : ∀ k' d v', k' ≠ k → ys2[k']? = some (d, v') → ∃ x', its[k']? = some x' := by
        intro k' d v' hne hy
        rw [hsame k' hne] at hy
        have h1 := (List.getElem?_eq_some_iff.1 hy).1
        have h2 := h.ple
        rw [h.len] at h1
        exact ⟨its[k']'(by omega), by simp⟩
      by_cases hdt : o.dst = some t
      · -- the slot that it writes
        have hcur : cur ys2 (fun j => (listed.setIfInBounds i true).getD (at_ its j) false) 0 t (E t) = r := by
          refine cur_last ys2 0 (E t) k r (by rw [hyk, hdt]) (by rw [Nat.zero_add, at_of hx, hxi, hget, if_pos rfl]) fun k' v' hik hk' => ?_
          rw [Nat.zero_add, hfl k' (by omega) (hex k' _ _ (by omega) hk')]
          have hk2 := hk'
          rw [hsame k' (by omega)] at hk2
          exact (wr k' (some t) v' t hk2 rfl (.inl hdt) (by omega)).2 hik
        rw [hcur, hdt, put_getD (by rw [h.asz]; have := hinfo.2.1; rw [hdt] at this; simpa using this), if_pos rfl]
        exact hrv
      · have hcur : cur ys2 (fun j => (listed.setIfInBounds i true).getD (at_ its j) false) 0 t (E t) = cur ys2 (fun j => listed.getD (at_ its j) false) 0 t (E t) := cur_congr ys2 0 (E t) fun k' d v' hk' hd => by
          rw [Nat.zero_add]
          by_cases hkk : k' = k
          · subst hkk
            rw [hyk] at hk'
            cases hk'
            exact absurd hd hdt
          · exact hfl k' hkk (hex k' _ _ hkk hk')
        rw [hcur]
        have : (a.put o.dst v).tmps.getD t undef = a.tmps.getD t undef := by
          cases hd : o.dst with
          | none => rfl
          | some d =>
            rw [put_getD (by rw [h.asz]; have := hinfo.2.1; rw [hd] at this; simpa using this), if_neg]
            intro e; subst e; exact hdt hd
        rw [this]
        exact RV.mono hM' _ _ (hold hdt)
    have hput : ∀ (v : Value) (t : Nat), o.dst ≠ some t → (a.put o.dst v).tmps.getD t undef = a.tmps.getD t undef := by
      intro v t hdt
      cases hd : o.dst with
      | none => rfl
      | some d =>
        rw [put_getD (by rw [h.asz]; have := hinfo.2.1; rw [hd] at this; simpa using this), if_neg]
        intro e; subst e; exact hdt hd
    -- the new blocks that came early stay
    have hlate : k ≤ p → ∀ (v : Value) (k' : Nat) x', p ≤ k' → k ≠ k' → its[k']? = some x' → (listed.setIfInBounds i true).getD x'.i false = true → x'.new = true ∧ ∃ b cs d, x'.o.op = .zero cs ∧ x'.o.dst = some d ∧ (k', b, cs) ∈ EA ∧ (a.put o.dst v).tmps.getD d undef = .pointer (some ⟨b, 0, none⟩) := by
      intro hkle v k' x' hk' hne hx' hl'
      rw [hget, if_neg] at hl'
      · obtain ⟨h1, b, cs, d, h2, h3, h4, h5⟩ := h.late k' x' hk' hx' hl'
        refine ⟨h1, b, cs, d, h2, h3, h4, ?_⟩
        rw [hput]
        · exact h5
        · intro e
          exact noEarly hkle d (.inl e) k' x' hk' hx' hl' h3
      · intro e
        have := (canon_get its hcan k k' x x' hx hx' (by omega)).2.1
        rw [hxi] at this; exact this e.symm
    unfold wpOp
    simp only [ho]
    rcases hkp with hkp | ⟨rfl, heff, hnnew⟩ | ⟨hple, hnew⟩
    · -- one of which the value is known
      obtain ⟨d, lv, hy⟩ : ∃ d lv, ys[k]? = some (d, lv) := by
        have hky : k < ys.length := by rw [h.len]; exact hkp
        exact ⟨ys[k].1, ys[k].2, by rw [List.getElem?_eq_getElem hky]⟩
      have hd := h.dsts k d lv x o hy hx (by rw [hxi]; exact ho)
      subst hd
      obtain ⟨hok, _, _⟩ := h.todo k x o _ lv hkp hx (by rw [hxi]; exact ho) hy (by rw [hxi]; exact hil')
      refine hok.2 w0 M (eaH EA ++ HF) w a h.asz h.dfr h.inv (fun t ht => hslots t ht (by omega)) (wpAny P md ops Q fuel (listed.setIfInBounds i true)) Q (fun M' v r H' w' hM' hrv hI' hk' => ?_)
      obtain ⟨rfl, rfl⟩ := hk'
      refine ih p ys env tmp lg H' EA (listed.setIfInBounds i true) M' (a.put o.dst v) w' (todo_lt h.lsz hio hil hf) ⟨h.len, h.ple, h.vals, h.dsts, h.rest, by simp [h.lsz], hclosed', fun k' x' hk' hx' hl' => hlate (by omega) v k' x' hk' (by omega) hx' hl', fun k' x' hk' hx' he' => ?_, fun k' x' o' d' v' hk' hx' ho' hy' hl' => ?_, h.mle.trans hM', ?_, ?_, hI', fun t hearly => ?_⟩ (hp' p hp (by omega))
      · rw [hget]
        split
        · rfl
        · exact h.effs k' x' hk' hx' he'
      · rw [hget] at hl'
        split at hl'
        · cases hl'
        · exact h.todo k' x' o' d' v' hk' hx' ho' hy' hl'
      · cases hd : o.dst <;> simp [Act.put, h.asz]
      · cases hd : o.dst <;> simp [Act.put, h.dfr]
      · refine hslots' ys M' v r hM' hrv hy (fun _ _ => rfl) t fun _ => h.slots t fun k' x' hk' hx' hl' => hearly k' x' hk' hx' ?_
        rw [hget]
        split
        · rfl
        · exact hl'
    · -- the next effect
      have hklt : k < its.length := (List.getElem?_eq_some_iff.1 hx).1
      have hdrop : its.drop k = x :: its.drop (k + 1) := by
        rw [List.drop_eq_getElem_cons hklt]
        congr 1
        rw [List.getElem?_eq_getElem hklt] at hx
        exact Option.some.inj hx
      have hr := h.rest
      rw [hdrop] at hr
      simp only [execE, heff, if_true] at hr
      have hyk : ∀ t, cur ys (fun j => decide (j < k)) 0 t (E t) = getVT vv env tmp t := fun t => by
        rw [← h.len, cur_lt_all, h.vals]
      have hF := Fr.restr (vv := vv) (env := env) (tmp := tmp) (ss := x.ss) h.asz h.dfr (fun t ht => by
        rw [← hyk t]
        exact hslots t (by rw [← hss]; exact ht) (Nat.le_refl _))
      have hst := (stepG_sound h.inv hF htr hr).2.2.2
      refine hst (wpAny P md ops Q fuel (listed.setIfInBounds i true)) Q (fun M' v r H' w' hM' hrv hI' hk' => ?_)
      obtain ⟨hre, hrest⟩ := hk'
      rw [hinfo.1, hinfo.2.2] at hrest
      have h2 : St vv P gl n w0 HF M0 ops its E K (k + 1) (ys ++ [(o.dst, r)]) (putE env (vv (o.dst.getD 0)) o.dst r) (putT tmp (vv (o.dst.getD 0)) o.dst r) (keepL x.pend lg) H' EA (listed.setIfInBounds i true) M' (a.put o.dst v) w' := by
        refine ⟨by simp [h.len], hklt, fun t => ?_, fun k' d' v' x' o' hy' hx' ho' => ?_, hrest, by simp [h.lsz], hclosed', fun k' x' hk' hx' hl' => hlate (Nat.le_refl _) v k' x' (by omega) (by omega) hx' hl', fun k' x' hk' hx' he' => ?_, fun k' x' o' d' v' hk' hx' ho' hy' hl' => ?_, h.mle.trans hM', ?_, ?_, hI', fun t hearly => ?_⟩
        · rw [getVT_put, cur_snoc, h.vals]
          simp
        · rcases Nat.lt_or_ge k' ys.length with hlt | hge
          · rw [List.getElem?_append_left hlt] at hy'
            exact h.dsts k' d' v' x' o' hy' hx' ho'
          · have hkk : k' = k := by
              have := (List.getElem?_eq_some_iff.1 hy').1
              simp [h.len] at this hge; omega
            subst hkk
            rw [List.getElem?_append_right hge, h.len, Nat.sub_self] at hy'
            simp only [List.getElem?_cons_zero, Option.some.injEq, Prod.mk.injEq] at hy'
            rw [hx] at hx'; cases hx'
            rw [hxi, ho] at ho'; cases ho'
            exact hy'.1.symm
        · rw [hget]
          split
          · rfl
          · rename_i hne
            rcases Nat.lt_or_ge k' k with hlt | hge
            · exact h.effs k' x' hlt hx' he'
            · have : k' = k := by omega
              subst this
              rw [hx] at hx'; cases hx'
              exact absurd hxi hne
        · rw [hget] at hl'
          split at hl'
          · cases hl'
          · rename_i hne
            have hlt : k' < k := by
              rcases Nat.lt_or_ge k' k with hlt | hge
              · exact hlt
              · exfalso
                have : k' = k := by omega
                subst this
                rw [hx] at hx'; cases hx'
                exact hne hxi
            rw [List.getElem?_append_left (by rw [h.len]; exact hlt)] at hy'
            obtain ⟨h1, h2, h3⟩ := h.todo k' x' o' d' v' hlt hx' ho' hy' hl'
            have hc : (fun t => cur (ys ++ [(o.dst, r)]) (fun j => decide (j < k')) 0 t (E t)) = fun t => cur ys (fun j => decide (j < k')) 0 t (E t) := by
              funext t
              rw [cur_lt_snoc (by rw [h.len]; omega)]
            rw [hc]
            cases hkeep : x'.keep with
            | false => exact ⟨h2 hkeep H', fun _ => h2 hkeep, (fun h => by cases h)⟩
            | true =>
              obtain ⟨g, hg, env', tmp', g1, g2, g3, g4, g5, g6⟩ := h3 hkeep
              -- it is not bound to come before: so it is looked at again
              have hpend : x'.i ∈ x.pend := by
                rcases (canon_get its hcan k' k x' x hx' hx hlt).2.2.2.1 hkeep heff with h4 | ⟨m, z, hm, hz, hze, hzb⟩
                · exact h4
                · rcases Nat.lt_or_ge m k with h5 | h5
                  · have := h.closed _ _ (h.effs m z h5 hz hze) hzb
                    rw [hl'] at this; cases this
                  · have : m = k := by omega
                    subst this
                    rw [hx] at hz; cases hz
                    rw [hxi] at hzb
                    have := hbef _ hzb
                    rw [hl'] at this; cases this
              have hmem := mem_keepL hg (by rw [g1]; exact hpend)
              have hchk := recheck_mem hre g hmem
              rw [g2, g4, g5, stepD_eq] at hchk
              obtain ⟨o2, ho2, htr2, hss2⟩ := hitems k' x' hx'
              rw [ho'] at ho2; cases ho2
              have hok := dval_sound (P := P) (gl := gl) htr2 hchk.1
              rw [hchk.2, g3, hss2] at hok
              have hE : getVT vv env' tmp' = fun t => cur ys (fun j => decide (j < k')) 0 t (E t) := funext g6
              rw [hE] at hok
              refine ⟨hok, (fun h => by cases h), fun _ => ⟨g, hmem, env', tmp', g1, g2, g3, g4, g5, fun t => ?_⟩⟩
              rw [g6 t, cur_lt_snoc (by rw [h.len]; omega)]
        · cases hd : o.dst <;> simp [Act.put, h.asz]
        · cases hd : o.dst <;> simp [Act.put, h.dfr]
        · refine hslots' (ys ++ [(o.dst, r)]) M' v r hM' hrv (by rw [List.getElem?_append_right (by rw [h.len]; exact Nat.le_refl _), h.len, Nat.sub_self]; rfl) (fun k' hne => ?_) t (fun hdt => ?_)
          · rcases Nat.lt_or_ge k' ys.length with hlt | hge
            · rw [List.getElem?_append_left hlt]
            · rw [List.getElem?_append_right hge, List.getElem?_eq_none hge, List.getElem?_eq_none]
              rw [h.len] at hge ⊢; simp; omega
          · rw [cur_snoc]
            have : listed.getD (at_ its (0 + ys.length)) false = false := by
              rw [Nat.zero_add, h.len, at_of hx, hxi, hil']
            simp only [this, Bool.false_and, Bool.false_eq_true, if_false]
            refine h.slots t fun k' x' hk' hx' hl' => ?_
            rcases Nat.lt_or_ge k k' with h1 | h1
            · refine hearly k' x' (by omega) hx' ?_
              rw [hget]
              split
              · rfl
              · exact hl'
            · have : k' = k := by omega
              subst this
              rw [hx] at hx'; cases hx'
              rw [hxi, hil'] at hl'; cases hl'
      obtain ⟨p', ys', env', tmp', lg', H2, EA2, h3, hp2⟩ := St.advance hitems hcan _ _ _ _ _ _ _ _ _ _ _ _ (Nat.le_refl _) h2
      exact ih p' ys' env' tmp' lg' H2 EA2 (listed.setIfInBounds i true) M' (a.put o.dst v) w' (todo_lt h.lsz hio hil hf) h3 hp2
    · -- a new block, before its turn or at it
      obtain ⟨d, cs, hd, hgd, hop, hss0⟩ := DIt.new_get hnew
      have hod : o.dst = some d := by rw [← hinfo.1]; exact hd
      have hF : Fr vv n [] [] M a := ⟨h.asz, h.dfr, fun t _ => by simp [get, RV], fun t _ => by simp [get, RV]⟩
      have hI0 : Inv gl w0 M ([] ++ (H ++ (eaH EA ++ HF))) w := h.inv
      have hst := (stepG_sound (K := fun r H' => ∃ b, r = .ptr d b 0 ∧ H' = [(d, .blk b cs)]) hI0 hF htr (by
        unfold stepG
        rw [hgd, hop, hd]
        simp only [step, Option.getD_some]
        exact fun b => ⟨b, rfl, rfl⟩)).2.2.2
      refine hst (wpAny P md ops Q fuel (listed.setIfInBounds i true)) Q (fun M' v r H' w' hM' hrv hI' hk' => ?_)
      obtain ⟨b, rfl, rfl⟩ := hk'
      simp only [RV] at hrv
      have hinv : Inv gl w0 M' (H ++ (eaH ((k, b, cs) :: EA) ++ HF)) w' := by
        have h1 : Inv gl w0 M' ((0, .blk b cs) :: (H ++ (eaH EA ++ HF))) w' := hI'.names (by simp)
        exact h1.perm (by simp only [eaH, List.map_cons, List.cons_append]; exact List.perm_middle.symm)
      have hsv : (a.put o.dst v).tmps.getD d undef = .pointer (some ⟨b, 0, none⟩) := by
        rw [hod, put_getD (by rw [h.asz]; have := hinfo.2.1; rw [hod] at this; simpa using this), if_pos rfl]
        exact hrv
      have h2 : St vv P gl n w0 HF M0 ops its E K p ys env tmp lg H ((k, b, cs) :: EA) (listed.setIfInBounds i true) M' (a.put o.dst v) w' := by
        refine ⟨h.len, h.ple, h.vals, h.dsts, h.rest, by simp [h.lsz], hclosed', fun k' x' hk' hx' hl' => ?_, fun k' x' hk' hx' he' => ?_, fun k' x' o' d' v' hk' hx' ho' hy' hl' => ?_, h.mle.trans hM', ?_, ?_, hinv, fun t hearly => ?_⟩
        · by_cases hkk : k' = k
          · subst hkk
            rw [hx] at hx'; cases hx'
            exact ⟨hnew, b, cs, d, hop, hd, List.mem_cons_self .., hsv⟩
          · have hne : x'.i ≠ i := by
              intro e
              rcases Nat.lt_or_gt_of_ne hkk with h1 | h1
              · have := (canon_get its hcan k' k x' x hx' hx h1).2.1
                rw [hxi] at this; exact this e
              · have := (canon_get its hcan k k' x x' hx hx' h1).2.1
                rw [hxi] at this; exact this e.symm
            rw [hget, if_neg hne] at hl'
            obtain ⟨h1, b', cs', d', h2, h3, h4, h5⟩ := h.late k' x' hk' hx' hl'
            refine ⟨h1, b', cs', d', h2, h3, List.mem_cons_of_mem _ h4, ?_⟩
            rw [hput]
            · exact h5
            · rw [hod]
              intro e
              rcases Nat.lt_or_gt_of_ne hkk with h6 | h6
              · exact (canon_get its hcan k' k x' x hx' hx h6).2.2.2.2 h1 hnew (by rw [h3, hd, e])
              · exact (canon_get its hcan k k' x x' hx hx' h6).2.2.2.2 hnew h1 (by rw [h3, hd, e])
        · rw [hget]
          split
          · rfl
          · exact h.effs k' x' hk' hx' he'
        · rw [hget] at hl'
          split at hl'
          · cases hl'
          · exact h.todo k' x' o' d' v' hk' hx' ho' hy' hl'
        · cases hd : o.dst <;> simp [Act.put, h.asz]
        · cases hd : o.dst <;> simp [Act.put, h.dfr]
        · have hdt : o.dst ≠ some t := by
            rw [hod, ← hd]
            exact hearly k x hple hx (by rw [hget, if_pos hxi])
          rw [hput v t hdt]
          have e : cur ys (fun j => (listed.setIfInBounds i true).getD (at_ its j) false) 0 t (E t) = cur ys (fun j => listed.getD (at_ its j) false) 0 t (E t) := cur_congr ys 0 (E t) fun k' d' v' hk' _ => by
            rw [Nat.zero_add, hget, if_neg]
            have h1 := (List.getElem?_eq_some_iff.1 hk').1
            have h2 := h.ple
            rw [h.len] at h1
            have hx' : its[k']? = some (its[k']'(by omega)) := by simp
            rw [at_of hx']
            have := (canon_get its hcan k' k _ x hx' hx (by omega)).2.1
            rw [hxi] at this; exact this
          rw [e]
          refine RV.mono hM' _ _ (h.slots t fun k' x' hk' hx' hl' => hearly k' x' hk' hx' ?_)
          rw [hget]
          split
          · rfl
          · exact hl'
      obtain ⟨p', ys', env', tmp', lg', H2, EA2, h3, hp2⟩ := St.advance hitems hcan _ _ _ _ _ _ _ _ _ _ _ _ (Nat.le_refl _) h2
      exact ih p' ys' env' tmp' lg' H2 EA2 (listed.setIfInBounds i true) M' (a.put o.dst v) w' (todo_lt h.lsz hio hil hf) h3 hp2
end
theorem execE_sound {w0 : World} {HF H : Heap} {M : Imm} {id : Nat} {ops : Array Oper} {ll : List LOper} {its : List DIt} {kept l : List Nat} {Q : Ex → Env → Heap → Prop} {env : Env} {a : Act} {w : World} (hdraw : drawOK P ops = true) (ht : trOpers vv P n ops ops.toList = some ll) (hmk : mkItems ops ll.toArray (Region.before ops) kept l = some its) (hlen : ((List.range ops.size).all fun i => its.any fun x => x.i == i) = true) (hcan : canonOK (Region.before ops) its = true)
    (hI : Inv gl w0 M (H ++ HF) w) (hF : Fr vv n env [] M a) (ho : execE P gl its (Q .normal) [] env [] H) : (Code.region id ops true).wp P (RQ vv gl n w0 M HF Q) a w := by
  have hitems := mkItems_get (P := P) ht l kept its hmk
  -- every operation has its place
  have hall : ∀ i, i < ops.size → ∃ (k : Nat) (x : DIt), its[k]? = some x ∧ x.i = i := by
    intro i hi
    simp only [List.all_eq_true, List.mem_range, List.any_eq_true, beq_iff_eq] at hlen
    obtain ⟨x, hx, hxi⟩ := hlen i hi
    obtain ⟨k, hk⟩ := List.getElem?_of_mem hx
    exact ⟨k, x, hk, hxi⟩
  simp only [drawOK, Bool.and_eq_true] at hdraw
  obtain ⟨⟨hback, hord⟩, htopo⟩ := hdraw
  have main : ∀ md, topoOK md ops = true → wpAny P md ops (RQ vv gl n w0 M HF Q) ops.size (Array.replicate ops.size false) a { w with drawn := w.drawn + 1 } := by
    intro md hmd
    have hno : ∀ j, (Array.replicate ops.size false).getD j false = false := by
      intro j
      rw [Array.getD_eq_getD_getElem?]
      simp only [Array.getElem?_replicate]
      split <;> rfl
    have h0 : St vv P gl n w0 HF M ops its (getVT vv env []) (Q .normal) 0 [] env [] [] H [] (Array.replicate ops.size false) M a { w with drawn := w.drawn + 1 } := by
      refine ⟨rfl, Nat.zero_le _, fun t => by simp [cur], fun k d v x o hy => by simp at hy, by simpa using ho, by simp, fun i j hi => ?_, fun k x _ _ hl => (by rw [hno] at hl; cases hl), fun k x hk => by omega, fun k x o d v hk => by omega, MLe.refl M, hF.size, hF.defers, hI.drew _, fun t _ => ?_⟩
      · rw [hno] at hi; cases hi
      · simp only [cur]
        cases hvt : vv t with
        | true => simpa [getVT, hvt] using hF.vars t hvt
        | false => simpa [getVT, hvt] using hF.tmps t hvt
    obtain ⟨p', ys', env', tmp', lg', H1, EA1, h1, hp'⟩ := St.advance hitems hcan _ _ _ _ _ _ _ _ _ _ _ _ (Nat.le_refl _) h0
    refine anyOrder (M0 := M) hmd hback hord hitems hcan hall (fun M' a' w' env' H' hM hF' hI' hk => ⟨.normal, M', env', H', rfl, hM, hF', hI', hk⟩) ops.size p' ys' env' tmp' lg' H1 EA1 _ M a _ ?_ h1 hp'
    simp only [Lx.todo]
    exact Nat.le_trans (List.length_filter_le _ _) (by simp)
  refine wp_region_draw fun t => ?_
  unfold Region.schedule
  split
  · rename_i hc
    rw [if_pos hc] at htopo
    exact wpAny_sound ops.size t _ a _ (main .any htopo)
  · rename_i hc
    rw [if_neg hc] at htopo
    simp only [Bool.and_eq_true] at htopo
    split
    · exact wpAny_sound ops.size _ _ a _ (main .text htopo.1)
    · exact wpAny_sound ops.size _ _ a _ (main .gc htopo.2)
end
end Go.Lx
