/- Layer 5 of the heap, kinds, fifth part: the whole of a float64, and numbers as float64. -/
import Derived.Test.YtepfabijmhhhcaaKg
import Derived.Test.YtepfabijmhhhcaaFl
import Derived.Laws.Externs
import Derived.Deep.DeepCutAuto
set_option linter.unusedSimpArgs false
set_option linter.unusedVariables false
namespace Go.Proofs.Ytepfabijmhhhcaa
open Go.RowKit

end Go.Proofs.Ytepfabijmhhhcaa
