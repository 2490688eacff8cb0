/- Layer 22: what is never completed (the law). -/
import Derived.Test.YtfheeghkajihoaaDoorBq
import Derived.Test.YtfheeghkajihoaaDoorCl5
namespace Go.Proofs.YtfheeghkajihoaaDoor
open Go Go.Lx
set_option linter.unusedSimpArgs false
set_option linter.unusedVariables false
set_option maxRecDepth 100000
set_option maxHeartbeats 4000000

def r1 : Rc := ⟨1300, 0, 1, []⟩
def recs (k : Nat) : List Rc := (List.range k).map fun (i : Nat) => ⟨1005, 0, (i : Int) + 2, []⟩
def as1 : As := (feedS (as0 1) [r1]).1
def outL (k : Nat) : List Ev := (feedS as1 (recs k)).2
def okL (k : Nat) : Bool := if k < 64 then (outL k).length == 0 else (outL k).length == k + 1 && (!((outL k).getD 0 ev0).co && (((outL k).getD 0 ev0).se == 1 && ((outL k).getD 1 ev0).co))
theorem outR : (feedS (as0 1) [r1]).2 = [] := by kernel_rfl
theorem okL0 : okL 61 = true := by kernel_rfl
theorem okL1 : okL 62 = true := by kernel_rfl
theorem okL2 : okL 63 = true := by kernel_rfl
theorem okL3 : okL 64 = true := by kernel_rfl
theorem okL4 : okL 65 = true := by kernel_rfl
theorem okL5 : okL 66 = true := by kernel_rfl
end Go.Proofs.YtfheeghkajihoaaDoor
