/- The bodies of the program's functions, as_ the abstraction layer has them. By program. -/
import Derived.Test.YtbbihmmobfmadaaGreatWBlzC4
set_option linter.unusedSimpArgs false
set_option linter.unusedVariables false
namespace Go.Proofs.YtbbihmmobfmadaaGreat
open Abs
end Go.Proofs.YtbbihmmobfmadaaGreat
