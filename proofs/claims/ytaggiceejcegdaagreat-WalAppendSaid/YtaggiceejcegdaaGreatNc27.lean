/-
  WHAT IS SHOWN: what begin of the reference's disk returns and leaves. Conditions: the disk lies in memory.
-/
import Derived.Test.YtaggiceejcegdaaGreatNc26
import Derived.Test.YtaggiceejcegdaaGreatNc18
namespace Go.Proofs.YtaggiceejcegdaaGreat
set_option linter.unusedVariables false
open Go.RowKit
def RBegPost (w : World) (B : Bd) (q pw : Nat) (g : Geo) (F : List Flt) (LM : List Sec) (O : List OpV) (p : Nat) (FA : Option Addr) (fc : Nat) (b : Beg) (e : Ending) (w' : World) : Prop:=
 ∃ f R',e = .returned (.tuple #[Flt.val f,.int .i64 b.er]) ∧ (b.er = 0 → f = b.f) ∧ RDsk w' B q pw g F b.s LM O p FA fc ∧ RPow w' B pw R' ∧ RelP b.P R' ∧ KeptT [145,131] B w w'
section
variable {w w' : World} {B C : Bd} {q pw p : Nat} {g : Geo} {F : List Flt} {s : DS} {P R : Pow} {LM : List Sec} {O : List OpV} {FA : Option Addr} {fc : Nat}
def RDPT : List TypeId:=[145,131]
structure RMid (w0 w : World) (B : Bd) (q pw : Nat) (g : Geo) (n fc p : Nat) (FA : Option Addr) (s : DS) (R : Pow) : Prop where
 o : w.ownsRow B.n 145 16 (.slice (some ⟨q,0,none⟩) 1 1) 1 (rObj g s p pw FA n fc)
 p : RPow w B pw R
 k : KeptT RDPT B w0 w
 x : ¬ B.X q
 z : w.ownsRow w0.heap.size 138 3 (.slice (some ⟨w0.heap.size,0,none⟩) 1 1) 1 [.int .i64 0,.int .i64 0,.int .i64 0]
end
end Go.Proofs.YtaggiceejcegdaaGreat
