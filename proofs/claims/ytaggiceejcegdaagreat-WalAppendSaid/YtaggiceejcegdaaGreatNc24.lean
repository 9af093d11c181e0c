/-
  WHAT IS SHOWN: what Do of the reference's cache returns and leaves. Conditions: the cache lies in memory; the operation can be read.
-/
import Derived.Test.YtaggiceejcegdaaGreatNc21
import Derived.Deep.RegionLaw
namespace Go.Proofs.YtaggiceejcegdaaGreat
set_option linter.unusedVariables false
open Go.RowKit
section
variable {w w' : World} {S : Nat → Prop} {B : Bd} {p : Nat} {g : Geo} {LM : List Sec} {ops : List OpV}
def RDoPost (w : World) (B : Bd) (p : Nat) (g : Geo) (LM : List Sec) (ops : List OpV) (o : OpV) (e : Ending) (w' : World) : Prop:=
 e = .returned (.int .i64 (doE g (playL g LM ops) o)) ∧ RCacheM w' B p g LM (if doE g (playL g LM ops) o = 0 then ops ++ [o] else ops) ∧ KeptT RT B w w'
end
end Go.Proofs.YtaggiceejcegdaaGreat
