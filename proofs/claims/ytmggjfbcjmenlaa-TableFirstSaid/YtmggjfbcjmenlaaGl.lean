/- No package-level variable is read. -/
import Derived.Test.YtmggjfbcjmenlaaCode
import Derived.Test.YtmggjfbcjmenlaaLxN
namespace Go.Proofs.Ytmggjfbcjmenlaa
open Go Go.Lx
set_option linter.unusedSimpArgs false
set_option linter.unusedVariables false
def gl : Glob := fun _ => none
end Go.Proofs.Ytmggjfbcjmenlaa
