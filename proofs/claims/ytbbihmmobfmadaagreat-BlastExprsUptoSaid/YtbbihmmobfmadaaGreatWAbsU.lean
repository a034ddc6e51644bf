/- The abstraction layer, part U: a statement's arguments by the shapes of their types. Over any program. -/
import Derived.Test.YtbbihmmobfmadaaGreatWAbsL
set_option linter.unusedSimpArgs false
set_option linter.unusedVariables false
namespace Abs
open Go
inductive Sh where
 |bool
 |int(k:IntKind)
 |str
 |slice(agg:Bool)(e:Sh)
 |row(l:List Sh)
end Abs
