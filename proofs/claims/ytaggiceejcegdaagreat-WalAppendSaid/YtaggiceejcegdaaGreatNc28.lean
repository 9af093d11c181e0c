/-
  WHAT IS SHOWN: what Read of the reference's cache and of its disk return and leave. what Flush and Erase of the reference's disk return and leave. what Write of the reference's disk returns and leaves. Conditions: as each theorem names them.
-/
import Derived.Test.YtaggiceejcegdaaGreatNc27
namespace Go.Proofs.YtaggiceejcegdaaGreat
set_option linter.unusedVariables false
open Go.RowKit
section
variable {w w' : World} {B C : Bd} {q pw p : Nat} {g : Geo} {F : List Flt} {s : DS} {P R : Pow} {LM : List Sec} {O : List OpV} {FA : Option Addr} {fc : Nat}
def RDReadPost (w : World) (B : Bd) (q pw : Nat) (g : Geo) (F : List Flt) (s : DS) (P : Pow) (LM : List Sec) (O : List OpV) (key a : Int) (e : Ending) (w' : World) : Prop:=
 ∃ v ys,e = .returned (.tuple #[v,.int .i64 (dRdE F s P LM (playL g LM O) key a)]) ∧ Bys 5 w' v ys ∧ ys = norm (dRdB F s P LM (playL g LM O) key a) ∧ RDPm w' B q pw g F (dRdS F s P LM (playL g LM O) key a) (begD F s P key).P LM O ∧ KeptT RDT B w w'
end
end Go.Proofs.YtaggiceejcegdaaGreat
namespace Go.Proofs.YtaggiceejcegdaaGreat
set_option linter.unusedVariables false
open Go.RowKit
section
variable {w w' : World} {B C : Bd} {q pw p : Nat} {g : Geo} {F : List Flt} {s : DS} {P R : Pow} {LM : List Sec} {O : List OpV} {FA : Option Addr} {fc : Nat}
def RDFlushPost (w : World) (B : Bd) (q pw : Nat) (g : Geo) (F : List Flt) (s : DS) (P : Pow) (LM : List Sec) (O : List OpV) (key : Int) (e : Ending) (w' : World) : Prop:=
 e = .returned (.int .i64 (begD F s P key).er) ∧ RDPm w' B q pw g F (dFlS F s P key) (begD F s P key).P (dFlLM g F s P LM O key) (dFlO F s P O key) ∧ KeptT RDT B w w'
def RDErasePost (w : World) (B : Bd) (q pw : Nat) (g : Geo) (F : List Flt) (s : DS) (P : Pow) (LM : List Sec) (O : List OpV) (key a : Int) (e : Ending) (w' : World) : Prop:=
 e = .returned (.int .i64 (dErE g F s P LM O key a)) ∧ RDPm w' B q pw g F (dErS g F s P LM O key a) (begD F s P key).P LM (dErO g F s P LM O key a) ∧ KeptT RDT B w w'
end
end Go.Proofs.YtaggiceejcegdaaGreat
namespace Go.Proofs.YtaggiceejcegdaaGreat
set_option linter.unusedVariables false
open Go.RowKit
section
variable {w w' : World} {B C : Bd} {q pw p : Nat} {g : Geo} {F : List Flt} {s : DS} {P R : Pow} {LM : List Sec} {O : List OpV} {FA : Option Addr} {fc : Nat}
def RDWritePost (w : World) (B : Bd) (q pw : Nat) (g : Geo) (F : List Flt) (s : DS) (P : Pow) (LM : List Sec) (O : List OpV) (key a : Int) (xs : List Int) (force : Bool) (e : Ending) (w' : World) : Prop:=
 e = .returned (.int .i64 (dWrE F s P LM key a xs)) ∧ RDPm w' B q pw g F (dWrS F s P LM key a xs) (begD F s P key).P (dWrLM g F s P LM O key a xs force) (dWrO g F s P LM O key a xs force) ∧ KeptT RDT B w w'
end
end Go.Proofs.YtaggiceejcegdaaGreat
