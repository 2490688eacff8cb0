/- More of the engine: calls under a guard that act on what is owned. -/
import Derived.Test.YtfheeghkajihoaaDoorLxT
namespace Go.Lx
open Go
set_option linter.unusedSimpArgs false
set_option linter.unusedVariables false
variable {P : Program} {gl : Glob}
theorem callG_LU {g : Bool} {f : Nat} {args : List LV} {H : Heap} {F : Env → Env → Heap → Prop} {d : Nat} {env tmp : Env} (h1 : g = true → LCalls P gl f args H (kvU gl F d env tmp)) (h2 : g = false → F env ((d, .any) :: tmp) H) : callG P gl g f args H (kvU gl F d env tmp) := .inr ⟨h1, fun h => ⟨_, _, _, EntsT.refl _ _ _ _, h2 h⟩⟩
theorem callG_LT {g : Bool} {f : Nat} {args : List LV} {H : Heap} {F : Env → Env → Heap → Prop} {d : Nat} {env tmp : Env} (h1 : g = true → LCalls P gl f args H (kvT gl F d env tmp)) (h2 : g = false → F ((d, .any) :: env) tmp H) : callG P gl g f args H (kvT gl F d env tmp) := .inr ⟨h1, fun h => ⟨_, _, _, EntsT.refl _ _ _ _, h2 h⟩⟩
theorem gB_no (x : LV) (want : Bool) : gBool (.opt false x) want = (True, false) := by cases x <;> rfl
theorem pick_oa0 (gc c ga b : Bool) : pickQ (.opt gc (.bool c)) (.opt ga .any) (.bool b) = (gc = true ∧ c = false, .bool b) := by simp [pickQ, LV.v, LV.g]
theorem un_any (op : UnOp) : unQ op .any = (False, .any) := by cases op <;> rfl
/-- a call that acts on many things; what is behind it in another order -/
theorem actsP_U {f : FuncId} {args : List LV} {H H0 H2 : Heap} {F : Env → Env → Heap → Prop} {d : Nat} {env tmp : Env} {Q : LV → Heap → Prop} (h : LCalls P gl f args H0 Q) (hp : H.Perm (H0 ++ H2)) (hk : ∀ r H', Q r H' → F env ((d, r) :: tmp) (H2 ++ H')) : LCalls P gl f args H (kvU gl F d env tmp) :=
  LCalls.post_perm (LCalls.perm (LCalls.frame (H := H0) (H2 := H2) (K := fun r' H' => ∃ H1, H' = H1 ++ H2 ∧ Q r' H1) (h.mono fun r' H' hq => ⟨H', rfl, hq⟩)) hp) fun r' H' ⟨H1, e, hq⟩ => by
    subst e
    exact ⟨H2 ++ H1, List.perm_append_comm, _, _, _, EntsT.refl _ _ _ _, hk r' H1 hq⟩
end Go.Lx
