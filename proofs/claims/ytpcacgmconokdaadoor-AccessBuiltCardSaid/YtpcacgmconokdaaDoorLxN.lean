/- Loops, calls and ends, as they are used. -/
import Derived.Test.YtpcacgmconokdaaDoorLxM
namespace Go.Lx

section
variable {P : Program} {gl : Glob}

theorem loopI {c : LCode} {Q : Ex → Env → Heap → Prop} {env : Env} {H : Heap} {ι : Type} (p : ι → Prop) (I : ι → Env) (J : ι → Heap) (μ : ι → Nat) (i0 : ι) (hp : p i0) (h0 : Ents gl env H (I i0) (J i0))
    (hr : ∀ i (hi : p i), wpL P gl c (loopQ gl (fun i : {i : ι // p i} => I i.1) (fun i => J i.1) (fun i => μ i.1) ⟨i, hi⟩ Q) (I i) (J i)) : LoopL gl (wpL P gl c) Q env H :=
  ⟨{i : ι // p i}, fun i => I i.1, fun i => J i.1, fun i => μ i.1, ⟨i0, hp⟩, h0, fun i => hr i.1 i.2⟩

theorem loopN {Q : Ex → Env → Heap → Prop} {env : Env} {H : Heap} {ι : Type} {p : ι → Prop} {I : ι → Env} {J : ι → Heap} {μ : ι → Nat} {i : {i : ι // p i}} (i' : ι) (hp : p i') (hμ : μ i' < μ i.1) (h : Ents gl env H (I i') (J i')) :
    loopQ gl (fun i : {i : ι // p i} => I i.1) (fun i => J i.1) (fun i => μ i.1) i Q .normal env H := ⟨⟨i', hp⟩, hμ, h⟩

theorem leV_int {k k' : IntKind} {a b : Int} : leV (.int k a) (.int k' b) ↔ k = k' ∧ a = b := by
  constructor
  · intro h
    have := h (fun _ _ => none) (.int k a) (by simp [RV])
    simpa [RV] using this
  · rintro ⟨rfl, rfl⟩; exact leV.refl _
theorem leV_bool {a b : Bool} : leV (.bool a) (.bool b) ↔ a = b := by
  constructor
  · intro h
    have := h (fun _ _ => none) (.bool a) (by simp [RV])
    simpa [RV] using this
  · rintro rfl; exact leV.refl _
theorem leV_str {a b : List UInt8} : leV (.str a) (.str b) ↔ a = b := by
  constructor
  · intro h
    have := h (fun _ _ => none) (.string ⟨a.toArray⟩) (by simp [RV])
    simpa [RV] using this
  · rintro rfl; exact leV.refl _
theorem leV_self {x : LV} : leV x x ↔ True := ⟨fun _ => trivial, fun _ => leV.refl x⟩
theorem leV_any {x : LV} : leV x .any ↔ True := ⟨fun _ => trivial, fun _ => leV.any x⟩

theorem brT {F : Env → Heap → Prop} {env : Env} {H : Heap} {b : Prop} : Branch (True, true) (Susp F env H) b = F env H := by simp [Branch, Susp]
theorem brF {F : Env → Heap → Prop} {env : Env} {H : Heap} {a : Prop} : Branch (True, false) a (Susp F env H) = F env H := by simp [Branch, Susp]
/-- Both ways. -/
theorem brS {c : Prop × Bool} {F G : Env → Heap → Prop} {env env' : Env} {H H' : Heap} (h : c.1) (h1 : c.2 = true → F env H) (h2 : c.2 = false → G env' H') : Branch c (Susp F env H) (Susp G env' H') := ⟨h, h1, h2⟩

theorem Ents.envH {env env' : Env} {H H' : Heap} (h : envLe env env') (hH : H = H') : Ents gl env H env' H' := hH ▸ Ents.env h

/-- Resources may be dropped and put in another order. -/
theorem Ents.sub {env env' : Env} {H H' : Heap} (h : envLe env env') (hH : ∃ H2 : Heap, H2.Sublist H ∧ H2.Perm H') : Ents gl env H env' H' :=
  Ents.mk h.get fun _ _ HF _ hI => by
    obtain ⟨H2, h1, h2⟩ := hH
    exact (hI.sub (h1.append_right HF)).perm (h2.append_right HF)

theorem envLe_nil {env : Env} : envLe env [] ↔ True := Iff.rfl
theorem envLe_cons {env : Env} {t : Nat} {v : LV} {r : Env} : envLe env ((t, v) :: r) ↔ leV (Lx.get env t) v ∧ envLe env r := Iff.rfl

theorem callD_of {f : Nat} {args : List LV} {K : LV → Prop} {r : LV} (h : Pure P gl f args r) (hk : K r) : callD P gl f args K := ⟨r, h, hk⟩
theorem callDG_of {g : Bool} {f : Nat} {args : List LV} {K : LV → Prop} {r : LV} (h : g = true → Pure P gl f args r) (hk : K (.opt g r)) : callDG P gl g f args K := ⟨r, h, hk⟩
theorem callG_of {g : Bool} {f : Nat} {args : List LV} {H : Heap} {K : LV → Heap → Prop} {r : LV} (h : g = true → Pure P gl f args r) (hk : K (.opt g r) H) : callG P gl g f args H K := .inl ⟨r, h, hk⟩
theorem call_of {f : Nat} {args : List LV} {H : Heap} {K : LV → Heap → Prop} {r : LV} (h : Pure P gl f args r) (hk : K r H) : LCalls P gl f args H K := LCalls.pure h hk

end
attribute [go_sem] brT brF decide_true decide_false leV_int leV_bool leV_str leV_self leV_any envLe_nil envLe_cons
end Go.Lx
