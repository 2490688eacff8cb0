/- No package-level variable is read. -/
import Derived.Test.YtcngkeeknlloaaaCode
import Derived.Test.YtcngkeeknlloaaaLxN
namespace Go.Proofs.Ytcngkeeknlloaaa
open Go Go.Lx
set_option linter.unusedSimpArgs false
set_option linter.unusedVariables false
def gl : Glob := fun _ => none
end Go.Proofs.Ytcngkeeknlloaaa
