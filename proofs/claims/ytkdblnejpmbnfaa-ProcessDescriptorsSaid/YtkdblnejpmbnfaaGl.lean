/- No package-level variable is read. -/
import Derived.Test.YtkdblnejpmbnfaaCode
import Derived.Test.YtkdblnejpmbnfaaLxN
namespace Go.Proofs.Ytkdblnejpmbnfaa
open Go Go.Lx
set_option linter.unusedSimpArgs false
set_option linter.unusedVariables false
def gl : Glob := fun _ => none
end Go.Proofs.Ytkdblnejpmbnfaa
