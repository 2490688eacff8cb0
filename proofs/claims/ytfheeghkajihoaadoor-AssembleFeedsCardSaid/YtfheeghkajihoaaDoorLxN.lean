/- Loops, calls and ends, as they are used. -/
import Derived.Test.YtfheeghkajihoaaDoorLxM
namespace Go.Lx
set_option linter.unusedSimpArgs false
set_option linter.unusedVariables false

section
variable {P : Program} {gl : Glob}

theorem loopI {c : LCode} {Q : Ex → Env → Heap → Prop} {env : Env} {H : Heap} {ι : Type} (p : ι → Prop) (I : ι → Env) (J : ι → Heap) (μ : ι → Nat) (i0 : ι) (hp : p i0) (h0 : Ents gl env H (I i0) (J i0))
    (hr : ∀ i (hi : p i), wpL P gl c (loopQ gl (fun i : {i : ι // p i} => I i.1) (fun i => J i.1) (fun i => μ i.1) ⟨i, hi⟩ Q) (I i) (J i)) : LoopL gl (wpL P gl c) Q env H :=
  ⟨{i : ι // p i}, fun i => I i.1, fun i => J i.1, fun i => μ i.1, ⟨i0, hp⟩, h0, fun i => hr i.1 i.2⟩

theorem loopN {Q : Ex → Env → Heap → Prop} {env : Env} {H : Heap} {ι : Type} {p : ι → Prop} {I : ι → Env} {J : ι → Heap} {μ : ι → Nat} {i : {i : ι // p i}} (i' : ι) (hp : p i') (hμ : μ i' < μ i.1) (h : Ents gl env H (I i') (J i')) :
    loopQ gl (fun i : {i : ι // p i} => I i.1) (fun i => J i.1) (fun i => μ i.1) i Q .normal env H := ⟨⟨i', hp⟩, hμ, h⟩

theorem leV_int {k k' : IntKind} {a b : Int} : leV (.int k a) (.int k' b) ↔ k = k' ∧ a = b := by
  constructor
  · intro h
    have := h ⟨fun _ _ => none, fun _ => False⟩ (.int k a) (by simp [RV])
    simpa [RV] using this
  · rintro ⟨rfl, rfl⟩; exact leV.refl _
theorem leV_bool {a b : Bool} : leV (.bool a) (.bool b) ↔ a = b := by
  constructor
  · intro h
    have := h ⟨fun _ _ => none, fun _ => False⟩ (.bool a) (by simp [RV])
    simpa [RV] using this
  · rintro rfl; exact leV.refl _
theorem leV_str {a b : List UInt8} : leV (.str a) (.str b) ↔ a = b := by
  constructor
  · intro h
    have := h ⟨fun _ _ => none, fun _ => False⟩ (.string ⟨a.toArray⟩) (by simp [RV])
    simpa [RV] using this
  · rintro rfl; exact leV.refl _
theorem leV_self {x : LV} : leV x x ↔ True := ⟨fun _ => trivial, fun _ => leV.refl x⟩
theorem leV_any {x : LV} : leV x .any ↔ True := ⟨fun _ => trivial, fun _ => leV.any x⟩

theorem brT {F : Env → Heap → Prop} {env : Env} {H : Heap} {b : Prop} : Branch (True, true) (Susp F env H) b = F env H := by simp [Branch, Susp]
theorem brF {F : Env → Heap → Prop} {env : Env} {H : Heap} {a : Prop} : Branch (True, false) a (Susp F env H) = F env H := by simp [Branch, Susp]
/-- Both ways. -/
theorem brS {c : Prop × Bool} {F G : Env → Heap → Prop} {env env' : Env} {H H' : Heap} (h : c.1) (h1 : c.2 = true → F env H) (h2 : c.2 = false → G env' H') : Branch c (Susp F env H) (Susp G env' H') := ⟨h, h1, h2⟩

theorem brP {c : Bool} {F G : Env → Heap → Prop} {env env' : Env} {H H' : Heap} (h1 : c = true → F env H) (h2 : c = false → G env' H') : Branch (True, c) (Susp F env H) (Susp G env' H') := ⟨trivial, h1, h2⟩

theorem allI {p : Nat → Prop} (h : ∀ b, p b) : ∀ b, p b := h
theorem allT {p : Tok → Prop} (h : ∀ b, p b) : ∀ b, p b := h
theorem zeros_one (x : LV) (n : Nat) : zeros [x] (n + 1) = x :: zeros [x] n := by
  simp only [zeros, List.length_cons, List.length_nil, Nat.zero_add, Nat.mod_one, List.getD_cons_zero]
  rw [show (fun _ : Nat => x) = Function.const Nat x from rfl, List.map_const, List.map_const]
  simp [List.replicate_succ]
theorem zeros_none (z : List LV) : zeros z 0 = [] := Eq.trans rfl rfl
theorem Ents.same {env : Env} {H : Heap} : Ents gl env H env H := fun _ _ _ M _ _ _ hI hF => ⟨M, MLe.refl M, hF, hI⟩
theorem Ents.envH {env env' : Env} {H H' : Heap} (h : envLe env env') (hH : H = H') : Ents gl env H env' H' := hH ▸ Ents.env h

/-- Resources may be dropped and put in another order. -/
theorem Ents.sub {env env' : Env} {H H' : Heap} (h : envLe env env') (hH : ∃ H2 : Heap, H2.Sublist H ∧ H2.Perm H') : Ents gl env H env' H' :=
  Ents.mk h.get fun _ _ HF _ hI => by
    obtain ⟨H2, h1, h2⟩ := hH
    exact (hI.sub (h1.append_right HF)).perm (h2.append_right HF)

theorem envLe_nil {env : Env} : envLe env [] ↔ True := Iff.rfl
theorem envLe_cons {env : Env} {t : Nat} {v : LV} {r : Env} : envLe env ((t, v) :: r) ↔ leV (Lx.get env t) v ∧ envLe env r := Iff.rfl

theorem callG_of {g : Bool} {f : Nat} {args : List LV} {H : Heap} {K : LV → Heap → Prop} {r : LV} (h : g = true → Pure P gl f args r) (hk : K (.opt g r) H) : callG P gl g f args H K := .inl ⟨r, h, hk⟩
theorem callG_T {g : Bool} {f : Nat} {args : List LV} {H : Heap} {F : Env → Env → Heap → Prop} {d : Nat} {env tmp : Env} {r : LV} (h : g = true → Pure P gl f args r) (hk : F ((d, .opt g r) :: env) tmp H) : callG P gl g f args H (kvT gl F d env tmp) := .inl ⟨r, h, _, _, _, EntsT.refl _ _ _ _, hk⟩
theorem callG_U {g : Bool} {f : Nat} {args : List LV} {H : Heap} {F : Env → Env → Heap → Prop} {d : Nat} {env tmp : Env} {r : LV} (h : g = true → Pure P gl f args r) (hk : F env ((d, .opt g r) :: tmp) H) : callG P gl g f args H (kvU gl F d env tmp) := .inl ⟨r, h, _, _, _, EntsT.refl _ _ _ _, hk⟩
theorem call_of {f : Nat} {args : List LV} {H : Heap} {K : LV → Heap → Prop} {r : LV} (h : Pure P gl f args r) (hk : K r H) : LCalls P gl f args H K := LCalls.pure h hk
theorem call_T {f : Nat} {args : List LV} {H : Heap} {F : Env → Env → Heap → Prop} {d : Nat} {env tmp : Env} {r : LV} (h : Pure P gl f args r) (hk : F ((d, r) :: env) tmp H) : LCalls P gl f args H (kvT gl F d env tmp) := LCalls.pure h ⟨_, _, _, EntsT.refl _ _ _ _, hk⟩
theorem call_U {f : Nat} {args : List LV} {H : Heap} {F : Env → Env → Heap → Prop} {d : Nat} {env tmp : Env} {r : LV} (h : Pure P gl f args r) (hk : F env ((d, r) :: tmp) H) : LCalls P gl f args H (kvU gl F d env tmp) := LCalls.pure h ⟨_, _, _, EntsT.refl _ _ _ _, hk⟩
theorem call_N {f : Nat} {args : List LV} {H : Heap} {F : Env → Env → Heap → Prop} {env tmp : Env} {r : LV} (h : Pure P gl f args r) (hk : F env tmp H) : LCalls P gl f args H (kvN gl F env tmp) := LCalls.pure h ⟨_, _, _, EntsT.refl _ _ _ _, hk⟩

/-- A call that yields one value and leaves what is owned in one state. -/
def Acts (P : Program) (gl : Glob) (f : FuncId) (args : List LV) (H : Heap) (r : LV) (H1 : Heap) : Prop := LCalls P gl f args H fun r' H' => r' = r ∧ H' = H1
theorem LCalls.post_perm {f : FuncId} {args : List LV} {H : Heap} {K K' : LV → Heap → Prop} (h : LCalls P gl f args H K) (hk : ∀ r H', K r H' → ∃ H'', H'.Perm H'' ∧ K' r H'') : LCalls P gl f args H K' :=
  fun w0 M HF w vs hI hv => (h w0 M HF w vs hI hv).mono fun _ _ ⟨M', v, r, H', h1, h2, h3, h4, h5⟩ => by
    obtain ⟨H'', p, h6⟩ := hk r H' h5
    exact ⟨M', v, r, H'', h1, h2, h3, h4.perm (p.append_right HF), h6⟩
/-- what is owned, with one of it taken out -/
theorem acts_one {f : FuncId} {args : List LV} {H H1 : Heap} {K : LV → Heap → Prop} {id : Nat} {e : Ent} {r : LV} (h : Acts P gl f args [(id, e)] r H1) (hg : getH H id = some e) (hk : K r (H1 ++ delH H id)) : LCalls P gl f args H K :=
  LCalls.perm (LCalls.frame (H := [(id, e)]) (H2 := delH H id) (h.mono fun r' H' ⟨h1, h2⟩ => by subst h1; subst h2; exact hk)) (getH_perm hg).1
theorem acts_of {f : FuncId} {args : List LV} {H H1 : Heap} {K : LV → Heap → Prop} {id : Nat} {e e' : Ent} {r : LV} (h : Acts P gl f args [(id, e)] r [(id, e')]) (hg : getH H id = some e) (hk : K r (setH H id e')) : LCalls P gl f args H K :=
  LCalls.post_perm (LCalls.perm (LCalls.frame (H := [(id, e)]) (H2 := delH H id) (K := fun r' H' => r' = r ∧ H' = [(id, e')] ++ delH H id) (h.mono fun r' H' ⟨h1, h2⟩ => by subst h1; subst h2; exact ⟨rfl, rfl⟩)) (getH_perm hg).1)
    fun r' H' ⟨h1, h2⟩ => by subst h1; subst h2; exact ⟨_, ((getH_perm hg).2 e').symm, hk⟩
theorem acts_T {f : FuncId} {args : List LV} {H : Heap} {F : Env → Env → Heap → Prop} {d : Nat} {env tmp : Env} {id : Nat} {e e' : Ent} {r : LV} (h : Acts P gl f args [(id, e)] r [(id, e')]) (hg : getH H id = some e) (hk : F ((d, r) :: env) tmp (setH H id e')) : LCalls P gl f args H (kvT gl F d env tmp) :=
  acts_of (H1 := []) h hg ⟨_, _, _, EntsT.refl _ _ _ _, hk⟩
theorem acts_U {f : FuncId} {args : List LV} {H : Heap} {F : Env → Env → Heap → Prop} {d : Nat} {env tmp : Env} {id : Nat} {e e' : Ent} {r : LV} (h : Acts P gl f args [(id, e)] r [(id, e')]) (hg : getH H id = some e) (hk : F env ((d, r) :: tmp) (setH H id e')) : LCalls P gl f args H (kvU gl F d env tmp) :=
  acts_of (H1 := []) h hg ⟨_, _, _, EntsT.refl _ _ _ _, hk⟩
theorem acts_N {f : FuncId} {args : List LV} {H : Heap} {F : Env → Env → Heap → Prop} {env tmp : Env} {id : Nat} {e e' : Ent} {r : LV} (h : Acts P gl f args [(id, e)] r [(id, e')]) (hg : getH H id = some e) (hk : F env tmp (setH H id e')) : LCalls P gl f args H (kvN gl F env tmp) :=
  acts_of (H1 := []) h hg ⟨_, _, _, EntsT.refl _ _ _ _, hk⟩
/-- a call that makes things: they come first -/
theorem news_of {f : FuncId} {args : List LV} {H H1 : Heap} {K : LV → Heap → Prop} {r : LV} (h : Acts P gl f args [] r H1) (hk : K r (H1 ++ H)) : LCalls P gl f args H K :=
  LCalls.frame (H := []) (h.mono fun r' H' ⟨h1, h2⟩ => by subst h1; subst h2; exact hk)
/-- the contract of a function that yields one value and leaves what is owned in one state -/
theorem fn_actsT {vv : Nat → Bool} {f : FuncId} {fn : Func} {lc : LCode} {rs : List LRes} {args : List LV} {H H1 : Heap} {r : LV} (hf : P.funcs[f]? = some fn) (ht : fn.body.bind (trCode vv P fn.ntmps) = some lc ∧ trRes vv P fn.results.toList = some rs) {m : Nat} (hm : fn.ntmps = m) (hn : args.length ≤ m)
    (ho : wpL P gl lc (viewQ gl rs fun r' H' => r' = r ∧ H' = H1) (argEnv 0 args) H) : Acts P gl f args H r H1 := fn_viewT hf ht hm hn ho
/-- A call that leaves one thing that is owned in some state. -/
def ActsE (P : Program) (gl : Glob) (f : FuncId) (args : List LV) (id : Nat) (e : Ent) (Q : LV → Ent → Prop) : Prop := LCalls P gl f args [(id, e)] fun r H' => ∃ e', H' = [(id, e')] ∧ Q r e'
theorem actsE_of {f : FuncId} {args : List LV} {H : Heap} {K : LV → Heap → Prop} {id : Nat} {e : Ent} {Q : LV → Ent → Prop} (h : ActsE P gl f args id e Q) (hg : getH H id = some e) (hk : ∀ r e', Q r e' → K r (setH H id e')) : LCalls P gl f args H K :=
  LCalls.post_perm (LCalls.perm (LCalls.frame (H := [(id, e)]) (H2 := delH H id) (K := fun r' H' => ∃ e', Q r' e' ∧ H' = [(id, e')] ++ delH H id) (h.mono fun r' H' ⟨e', h1, h2⟩ => by subst h1; exact ⟨e', h2, rfl⟩)) (getH_perm hg).1)
    fun r' H' ⟨e', h1, h2⟩ => by subst h2; exact ⟨_, ((getH_perm hg).2 e').symm, hk r' e' h1⟩
theorem actsE_T {f : FuncId} {args : List LV} {H : Heap} {F : Env → Env → Heap → Prop} {d : Nat} {env tmp : Env} {id : Nat} {e : Ent} {Q : LV → Ent → Prop} (h : ActsE P gl f args id e Q) (hg : getH H id = some e) (hk : ∀ r e', Q r e' → F ((d, r) :: env) tmp (setH H id e')) : LCalls P gl f args H (kvT gl F d env tmp) :=
  actsE_of h hg fun r e' hq => ⟨_, _, _, EntsT.refl _ _ _ _, hk r e' hq⟩
theorem actsE_U {f : FuncId} {args : List LV} {H : Heap} {F : Env → Env → Heap → Prop} {d : Nat} {env tmp : Env} {id : Nat} {e : Ent} {Q : LV → Ent → Prop} (h : ActsE P gl f args id e Q) (hg : getH H id = some e) (hk : ∀ r e', Q r e' → F env ((d, r) :: tmp) (setH H id e')) : LCalls P gl f args H (kvU gl F d env tmp) :=
  actsE_of h hg fun r e' hq => ⟨_, _, _, EntsT.refl _ _ _ _, hk r e' hq⟩
theorem actsE_N {f : FuncId} {args : List LV} {H : Heap} {F : Env → Env → Heap → Prop} {env tmp : Env} {id : Nat} {e : Ent} {Q : LV → Ent → Prop} (h : ActsE P gl f args id e Q) (hg : getH H id = some e) (hk : ∀ r e', Q r e' → F env tmp (setH H id e')) : LCalls P gl f args H (kvN gl F env tmp) :=
  actsE_of h hg fun r e' hq => ⟨_, _, _, EntsT.refl _ _ _ _, hk r e' hq⟩
theorem viewE_end {x r : LV} {H : Heap} {id : Nat} {e' : Ent} {Q : LV → Ent → Prop} (h : leV x r) (hs : [(id, e')].Sublist H) (hq : Q r e') : ∃ r' H', leVH gl x H r' H' ∧ ∃ e', H' = [(id, e')] ∧ Q r' e' := ⟨r, _, leVH.of h ⟨_, hs, List.Perm.refl _⟩, e', rfl, hq⟩
theorem LCalls.args {f : FuncId} {args args' : List LV} {H : Heap} {K : LV → Heap → Prop} (h : LCalls P gl f args H K) (ha : leVs args' args) : LCalls P gl f args' H K :=
  fun w0 M HF w vs hI hv => h w0 M HF w vs hI (ha.rvs hv)
theorem ActsE.name {f : FuncId} {args args' : List LV} {id i : Nat} {e : Ent} {Q : LV → Ent → Prop} (h : ActsE P gl f args i e Q) (ha : leVs args' args) : ActsE P gl f args' id e Q :=
  fun w0 M HF w vs hI hv => (h w0 M HF w vs (hI.names (by simp)) (ha.rvs hv)).mono fun _ _ ⟨M', v, r, H', h1, h2, h3, h4, e', h5, h6⟩ =>
    ⟨M', v, r, [(id, e')], h1, h2, h3, by subst h5; exact h4.names (by simp), e', rfl, h6⟩
/-- a call that yields some value -/
def PureE (P : Program) (gl : Glob) (f : FuncId) (args : List LV) (Q : LV → Prop) : Prop := LCalls P gl f args [] fun r H => H = [] ∧ Q r
theorem pureE_of {f : Nat} {args : List LV} {H : Heap} {K : LV → Heap → Prop} {Q : LV → Prop} (h : PureE P gl f args Q) (hk : ∀ r, Q r → K r H) : LCalls P gl f args H K :=
  LCalls.frame (H := []) (h.mono fun r' H' ⟨h1, h2⟩ => by subst h1; exact hk r' h2)
theorem pureE_T {f : Nat} {args : List LV} {H : Heap} {F : Env → Env → Heap → Prop} {d : Nat} {env tmp : Env} {Q : LV → Prop} (h : PureE P gl f args Q) (hk : ∀ r, Q r → F ((d, r) :: env) tmp H) : LCalls P gl f args H (kvT gl F d env tmp) := pureE_of h fun r hq => ⟨_, _, _, EntsT.refl _ _ _ _, hk r hq⟩
theorem pureE_U {f : Nat} {args : List LV} {H : Heap} {F : Env → Env → Heap → Prop} {d : Nat} {env tmp : Env} {Q : LV → Prop} (h : PureE P gl f args Q) (hk : ∀ r, Q r → F env ((d, r) :: tmp) H) : LCalls P gl f args H (kvU gl F d env tmp) := pureE_of h fun r hq => ⟨_, _, _, EntsT.refl _ _ _ _, hk r hq⟩
/-- a call that makes things -/
theorem news_T {f : FuncId} {args : List LV} {H H1 : Heap} {F : Env → Env → Heap → Prop} {d : Nat} {env tmp : Env} {r : LV} (h : Acts P gl f args [] r H1) (hk : F ((d, r) :: env) tmp (H1 ++ H)) : LCalls P gl f args H (kvT gl F d env tmp) := news_of h ⟨_, _, _, EntsT.refl _ _ _ _, hk⟩
theorem news_U {f : FuncId} {args : List LV} {H H1 : Heap} {F : Env → Env → Heap → Prop} {d : Nat} {env tmp : Env} {r : LV} (h : Acts P gl f args [] r H1) (hk : F env ((d, r) :: tmp) (H1 ++ H)) : LCalls P gl f args H (kvU gl F d env tmp) := news_of h ⟨_, _, _, EntsT.refl _ _ _ _, hk⟩
/-- a call that makes one thing that is owned, under whatever name -/
def NewsE (P : Program) (gl : Glob) (f : FuncId) (args : List LV) (id : Nat) (Q : LV → Ent → Prop) : Prop := LCalls P gl f args [] fun r H' => ∃ e', H' = [(id, e')] ∧ Q r e'
theorem NewsE.name {f : FuncId} {args : List LV} {id i : Nat} {Q Q' : LV → Ent → Prop} (h : NewsE P gl f args i Q) (hq : ∀ r e, Q r e → ∃ r', leV r r' ∧ Q' r' e) : NewsE P gl f args id Q' :=
  fun w0 M HF w vs hI hv => (h w0 M HF w vs hI hv).mono fun _ _ ⟨M', v, r, H', h1, h2, h3, h4, e', h5, h6⟩ => by
    obtain ⟨r', h7, h8⟩ := hq r e' h6
    exact ⟨M', v, r', [(id, e')], h1, h2, h7 M' v h3, by subst h5; exact h4.names (by simp), e', rfl, h8⟩
theorem newsE_of {f : FuncId} {args : List LV} {H : Heap} {K : LV → Heap → Prop} {id : Nat} {Q : LV → Ent → Prop} (h : NewsE P gl f args id Q) (hk : ∀ r e', Q r e' → K r ((id, e') :: H)) : LCalls P gl f args H K :=
  LCalls.frame (H := []) (h.mono fun r' H' ⟨e', h1, h2⟩ => by subst h1; exact hk r' e' h2)
theorem newsE_T {f : FuncId} {args : List LV} {H : Heap} {F : Env → Env → Heap → Prop} {d : Nat} {env tmp : Env} {id : Nat} {Q : LV → Ent → Prop} (h : NewsE P gl f args id Q) (hk : ∀ r e', Q r e' → F ((d, r) :: env) tmp ((id, e') :: H)) : LCalls P gl f args H (kvT gl F d env tmp) := newsE_of h fun r e' hq => ⟨_, _, _, EntsT.refl _ _ _ _, hk r e' hq⟩
theorem newsE_U {f : FuncId} {args : List LV} {H : Heap} {F : Env → Env → Heap → Prop} {d : Nat} {env tmp : Env} {id : Nat} {Q : LV → Ent → Prop} (h : NewsE P gl f args id Q) (hk : ∀ r e', Q r e' → F env ((d, r) :: tmp) ((id, e') :: H)) : LCalls P gl f args H (kvU gl F d env tmp) := newsE_of h fun r e' hq => ⟨_, _, _, EntsT.refl _ _ _ _, hk r e' hq⟩
theorem view_end {x r : LV} {H H1 : Heap} (h : leVH gl x H r H1) : ∃ r' H', leVH gl x H r' H' ∧ (r' = r ∧ H' = H1) := ⟨r, H1, h, rfl, rfl⟩
/-- resources in the order of the text, the rest dropped -/
theorem view_sub {x r : LV} {H H1 : Heap} (h : leV x r) (hs : H1.Sublist H) : ∃ r' H', leVH gl x H r' H' ∧ (r' = r ∧ H' = H1) := ⟨r, H1, leVH.of h ⟨H1, hs, List.Perm.refl _⟩, rfl, rfl⟩

end
attribute [go_sem] zeros_one zeros_none brT brF decide_true decide_false leV_int leV_bool leV_str leV_self leV_any envLe_nil envLe_cons
end Go.Lx
