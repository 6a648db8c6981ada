/- Contracts of the relations in the document's answer. -/
import Derived.Test.YteephgpefhodnabGreatA5
namespace Go.Proofs.YteephgpefhodnabGreat
open Go.RowKit Go.Sort Go.Fl
set_option linter.unusedSimpArgs false
set_option linter.unusedVariables false

end Go.Proofs.YteephgpefhodnabGreat
