/- Layer 22: what the rows have in common. -/
import Derived.Test.YtfheeghkajihoaaDoorGl
import Derived.Test.YtfheeghkajihoaaDoorLxQ
import Derived.Test.YtfheeghkajihoaaDoorCards
import Derived.Test.YtfheeghkajihoaaDoorTie
import Derived.WalkKit
import Derived.ProofKit
import Derived.OpenShut
import Derived.Deep.DeepHandedRow
namespace Go.Proofs.YtfheeghkajihoaaDoor
open Go.ChangeShapes Go.WideShapes Go.ChangeAt Go.RowKit Go.Lx Go.Lib
set_option linter.unusedSimpArgs false
set_option linter.unusedVariables false
set_option maxRecDepth 100000

theorem own : ownKnob Tryd.prog.godebug = none := by kernel_rfl
theorem laidOut : laidOutB Tryd.prog = true := by kernel_rfl
theorem gTab : Tryd.prog.globalNamed "kaudit/record.types" = some 0 := by kernel_rfl
def tyTab : TypeId := 78
theorem gTabType : (Tryd.prog.globals[0]?).map (·.type) = some tyTab := by kernel_rfl
theorem cellsT : Tryd.prog.cellsOf tyTab = 30 := by kernel_rfl
theorem cellsR : Tryd.prog.cellsOf 77 = 3 := by kernel_rfl
theorem cells9 : Tryd.prog.cellsOf 9 = 1 := by kernel_rfl
theorem cells3 : Tryd.prog.cellsOf 3 = 1 := by kernel_rfl
theorem cells4 : Tryd.prog.cellsOf 4 = 1 := by kernel_rfl
def tyBool : TypeId := 4
theorem undBool : Tryd.prog.underlying tyBool = some .bool := Tryd.underlying4
def rowD {H : Type} (x : List UInt8 × Int × Bool) : DataW H := .agg [.lit (.string x.1), .lit (.int .i64 x.2.1), .lit (.bool x.2.2)]
def rowV (x : List UInt8 × Int × Bool) : List Value := [.string ⟨x.1.toArray⟩, .int .i64 x.2.1, .bool x.2.2]
theorem row_of {H : Type} {enc : TypeId × Value → H} {w : World} {base : Nat} {sp : Nat → Bool} {held : Bool} {fuel : Nat} {r : List Value} {x : List UInt8 × Int × Bool} {p : List MemPlace} (h : DataW.trod enc Tryd.prog w base sp held fuel 77 r = some (rowD x, p)) : r = rowV x := by
  cases fuel with
  | zero => simp [DataW.trod] at h
  | succ fuel =>
    simp only [DataW.trod, Tryd.underlying77] at h
    split at h
    · rename_i hl
      rw [cellsR] at hl
      obtain ⟨a, b, c, rfl⟩ : ∃ a b c, r = [a, b, c] := by
        match r, hl with
        | [a, b, c], _ => exact ⟨a, b, c, rfl⟩
      obtain ⟨xs, hm, hx⟩ := Option.map_eq_some_iff.1 h
      simp only [List.mapM_cons, List.mapM_nil, Option.bind_eq_bind, Option.bind_eq_some_iff, Option.pure_def, Option.some.injEq, cells9, cells3, cells4] at hm
      obtain ⟨x1, h1, _, ⟨x2, h2, _, ⟨x3, h3, _, rfl, rfl⟩, rfl⟩, rfl⟩ := hm
      obtain ⟨s, e1, rfl, _⟩ := DataW.trod_string Tryd.underlying9 h1
      obtain ⟨n, e2, rfl, _⟩ := DataW.trod_int Tryd.underlying3 h2
      obtain ⟨z, e3, rfl⟩ := DataW.trod_bool Tryd.underlying4 h3
      simp at e1 e2 e3
      have := congrArg Prod.fst hx
      simp [rowD] at this
      obtain ⟨g1, g2, g3⟩ := this
      subst e1 e2 e3
      simp [rowV, ← g1, ← g2, ← g3]
    · cases h
theorem rows_of {H : Type} {enc : TypeId × Value → H} {w : World} {base : Nat} {sp : Nat → Bool} {held : Bool} {fuel : Nat} {cs : List Value} {l : List (List UInt8 × Int × Bool)} {p : List MemPlace} (h : DataW.trod enc Tryd.prog w base sp held fuel 78 cs = some (.agg (l.map rowD), p)) (i : Nat) (hi : i < l.length) : (cs.drop (i * 3)).take 3 = rowV (l.getD i ([], 0, false)) := by
  cases fuel with
  | zero => simp [DataW.trod] at h
  | succ fuel =>
    simp only [DataW.trod, Tryd.underlying78, cellsR] at h
    split at h
    · obtain ⟨xs, hm, hx⟩ := Option.map_eq_some_iff.1 h
      have hxs : xs.map (·.1) = l.map rowD := by
        have := congrArg Prod.fst hx
        simpa using this
      have hxl : xs.length = 10 := by simpa using mapM_length hm
      have hzl : l.length = 10 := by
        have := congrArg List.length hxs
        simp at this
        omega
      obtain ⟨b, hb, hf⟩ := mapM_at hm i i (by rw [List.getElem?_range (by omega)])
      have h2 : (xs.map (·.1))[i]? = some b.1 := by simp [hb]
      rw [hxs, List.getElem?_map, List.getElem?_eq_getElem hi, Option.map_some] at h2
      have h3 : l.getD i ([], 0, false) = l[i] := by simp [List.getD, hi]
      rw [h3]
      obtain ⟨b1, b2⟩ := b
      simp only [Option.some.injEq] at h2
      subst h2
      exact row_of hf
    · cases h
theorem types_at {W : World} (h : laidMetH Tryd.prog [("kaudit/record.types", Rows.laid_kaudit_record_types)] W) (i j : Nat) (hi : i < 10) (hj : j < 3) : W.cell? ⟨0, i * 3 + j, none⟩ = some ((rowV (tyT.getD i ([], 0, false))).getD j noKind) := by
  obtain ⟨ps, ⟨g', t', cs, fuel, p, q, hg', ht', hvar, hd, _, _⟩, _⟩ := h
  obtain rfl := Option.some.inj (gTab.symm.trans hg')
  obtain rfl := Option.some.inj (gTabType.symm.trans ht')
  have hc := rows_of (l := tyT) hd i (by simpa [tyT] using hi)
  have := World.var?_cell gTab hvar (i * 3 + j)
  rw [this, ← Array.getElem?_toList]
  have h2 := congrArg (·[j]?) hc
  simp only [List.getElem?_take, List.getElem?_drop, hj, if_true] at h2
  rw [h2]
  match j, hj with
  | 0, _ => rfl
  | 1, _ => rfl
  | 2, _ => rfl
theorem glob {W : World} (h : laidMetH Tryd.prog [("kaudit/record.types", Rows.laid_kaudit_record_types)] W) : ∀ g cs, gl g = some cs → RCs (M0 W) g 0 cs := by
  intro g cs hg
  unfold gl at hg
  split at hg
  case isFalse => cases hg
  rename_i e
  subst e
  cases hg
  simp only [types, tyT, TyC, List.flatMap_cons, List.flatMap_nil, List.cons_append, List.nil_append, List.append_nil, RCs, RV, and_true]
  exact ⟨⟨_, M0_some (types_at h 0 0 (by omega) (by omega)) rfl, rfl⟩, ⟨_, M0_some (types_at h 0 1 (by omega) (by omega)) rfl, rfl⟩, ⟨_, M0_some (types_at h 0 2 (by omega) (by omega)) rfl, rfl⟩, ⟨_, M0_some (types_at h 1 0 (by omega) (by omega)) rfl, rfl⟩, ⟨_, M0_some (types_at h 1 1 (by omega) (by omega)) rfl, rfl⟩, ⟨_, M0_some (types_at h 1 2 (by omega) (by omega)) rfl, rfl⟩, ⟨_, M0_some (types_at h 2 0 (by omega) (by omega)) rfl, rfl⟩, ⟨_, M0_some (types_at h 2 1 (by omega) (by omega)) rfl, rfl⟩, ⟨_, M0_some (types_at h 2 2 (by omega) (by omega)) rfl, rfl⟩, ⟨_, M0_some (types_at h 3 0 (by omega) (by omega)) rfl, rfl⟩, ⟨_, M0_some (types_at h 3 1 (by omega) (by omega)) rfl, rfl⟩, ⟨_, M0_some (types_at h 3 2 (by omega) (by omega)) rfl, rfl⟩, ⟨_, M0_some (types_at h 4 0 (by omega) (by omega)) rfl, rfl⟩, ⟨_, M0_some (types_at h 4 1 (by omega) (by omega)) rfl, rfl⟩, ⟨_, M0_some (types_at h 4 2 (by omega) (by omega)) rfl, rfl⟩, ⟨_, M0_some (types_at h 5 0 (by omega) (by omega)) rfl, rfl⟩, ⟨_, M0_some (types_at h 5 1 (by omega) (by omega)) rfl, rfl⟩, ⟨_, M0_some (types_at h 5 2 (by omega) (by omega)) rfl, rfl⟩, ⟨_, M0_some (types_at h 6 0 (by omega) (by omega)) rfl, rfl⟩, ⟨_, M0_some (types_at h 6 1 (by omega) (by omega)) rfl, rfl⟩, ⟨_, M0_some (types_at h 6 2 (by omega) (by omega)) rfl, rfl⟩, ⟨_, M0_some (types_at h 7 0 (by omega) (by omega)) rfl, rfl⟩, ⟨_, M0_some (types_at h 7 1 (by omega) (by omega)) rfl, rfl⟩, ⟨_, M0_some (types_at h 7 2 (by omega) (by omega)) rfl, rfl⟩, ⟨_, M0_some (types_at h 8 0 (by omega) (by omega)) rfl, rfl⟩, ⟨_, M0_some (types_at h 8 1 (by omega) (by omega)) rfl, rfl⟩, ⟨_, M0_some (types_at h 8 2 (by omega) (by omega)) rfl, rfl⟩, ⟨_, M0_some (types_at h 9 0 (by omega) (by omega)) rfl, rfl⟩, ⟨_, M0_some (types_at h 9 1 (by omega) (by omega)) rfl, rfl⟩, ⟨_, M0_some (types_at h 9 2 (by omega) (by omega)) rfl, rfl⟩⟩
/-- A world for the witness: the settled one, the table (block 0) holding what its initialiser lays. -/
noncomputable def laidWorld (os : Os) : World :=
  { World.holding Tryd.prog os ⟨#[], #[], []⟩ with heap := (World.holding Tryd.prog os ⟨#[], #[], []⟩).heap.modify 0 fun
      | .cells _ t frozen => .cells (tyT.flatMap rowV).toArray t frozen
      | o => o }
end Go.Proofs.YtfheeghkajihoaaDoor
