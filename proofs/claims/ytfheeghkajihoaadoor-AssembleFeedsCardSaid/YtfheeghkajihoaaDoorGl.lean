/- The table of types that record reads. -/
import Derived.Test.YtfheeghkajihoaaDoorCode
import Derived.Test.YtfheeghkajihoaaDoorLxN
namespace Go.Proofs.YtfheeghkajihoaaDoor
open Go Go.Lx
set_option linter.unusedSimpArgs false
set_option linter.unusedVariables false
/-- the rows of the table of types -/
def tyT : List (List UInt8 × Int × Bool) := [([85, 83, 69, 82], 1005, true), ([68, 65, 69, 77, 79, 78], 1200, true), ([83, 89, 83, 67, 65, 76, 76], 1300, false), ([80, 65, 84, 72], 1302, false), ([67, 79, 78, 70, 73, 71], 1305, true), ([83, 79, 67, 75, 65, 68, 68, 82], 1306, false), ([67, 87, 68], 1307, false), ([69, 88, 69, 67, 86, 69], 1309, false), ([69, 79, 69], 1320, false), ([76, 79, 83, 83], 1331, true)]
def TyC (x : List UInt8 × Int × Bool) : List LV := [.str x.1, .int .i64 x.2.1, .bool x.2.2]
def types : List LV := tyT.flatMap TyC
def gl : Glob := fun g => if g = 0 then some types else none
end Go.Proofs.YtfheeghkajihoaaDoor
