/- The table of names that space reads. -/
import Derived.Test.YtphjbikodkomnaaDoorCode
import Derived.Test.YtphjbikodkomnaaDoorLxN
namespace Go.Proofs.YtphjbikodkomnaaDoor
open Go Go.Lx
set_option linter.unusedSimpArgs false
set_option linter.unusedVariables false
/-- the names of actions -/
def nm (k : Nat) : List UInt8 := [[], [105, 103, 110, 111, 114, 101], [114, 101, 112, 111, 114, 116], [114, 111, 116, 97, 116, 101], [115, 117, 115, 112, 101, 110, 100], [104, 97, 108, 116]].getD k []
def names : List LV := [.str (nm 0), .str (nm 1), .str (nm 2), .str (nm 3), .str (nm 4), .str (nm 5)]
def gl : Glob := fun g => if g = 0 then some names else none
end Go.Proofs.YtphjbikodkomnaaDoor
