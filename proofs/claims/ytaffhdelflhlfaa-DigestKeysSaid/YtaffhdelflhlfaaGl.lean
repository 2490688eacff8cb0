/- No package-level variable is read. -/
import Derived.Test.YtaffhdelflhlfaaCode
import Derived.Test.YtaffhdelflhlfaaLxN
namespace Go.Proofs.Ytaffhdelflhlfaa
open Go Go.Lx
set_option linter.unusedSimpArgs false
set_option linter.unusedVariables false
def gl : Glob := fun _ => none
end Go.Proofs.Ytaffhdelflhlfaa
