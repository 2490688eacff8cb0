/- No package-level variable is read. -/
import Derived.Test.YtnheammhndnlhaaCode
import Derived.Test.YtnheammhndnlhaaLxN
namespace Go.Proofs.Ytnheammhndnlhaa
open Go Go.Lx
set_option linter.unusedSimpArgs false
set_option linter.unusedVariables false
def gl : Glob := fun _ => none
end Go.Proofs.Ytnheammhndnlhaa
