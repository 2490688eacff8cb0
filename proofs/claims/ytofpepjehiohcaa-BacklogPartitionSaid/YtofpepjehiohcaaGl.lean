/- No package-level variable is read. -/
import Derived.Test.YtofpepjehiohcaaCode
import Derived.Test.YtofpepjehiohcaaLxN
namespace Go.Proofs.Ytofpepjehiohcaa
open Go Go.Lx
set_option linter.unusedSimpArgs false
set_option linter.unusedVariables false
def gl : Glob := fun _ => none
end Go.Proofs.Ytofpepjehiohcaa
