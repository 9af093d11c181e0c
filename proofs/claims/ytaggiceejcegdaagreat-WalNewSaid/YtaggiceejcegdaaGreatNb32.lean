/-
  WHAT IS SHOWN: what Read of the reference's cache and of its disk return and leave. what Flush and Erase of the reference's disk return and leave. what Write of the reference's disk returns and leaves. what Acquire and Restart of the reference's disk return and leave. Conditions: as each theorem names them.
-/
import Derived.Test.YtaggiceejcegdaaGreatNb31
namespace Go.Proofs.YtaggiceejcegdaaGreat
set_option linter.unusedVariables false
open Go.RowKit

section
variable {w w' : World} {B C : Bd} {q pw p : Nat} {g : Geo} {F : List Flt} {s : DS} {P R : Pow} {LM : List Sec} {O : List OpV} {FA : Option Addr} {fc : Nat}
def RDReadPost (w : World) (B : Bd) (q pw : Nat) (g : Geo) (F : List Flt) (s : DS) (P : Pow) (LM : List Sec) (O : List OpV) (key a : Int) (e : Ending) (w' : World) : Prop :=
  ∃ v ys, e = .returned (.tuple #[v, .int .i64 (dRdE F s P LM (playL g LM O) key a)]) ∧ Bys 5 w' v ys ∧ ys = norm (dRdB F s P LM (playL g LM O) key a) ∧ RDPm w' B q pw g F (dRdS F s P LM (playL g LM O) key a) (begD F s P key).P LM O ∧ KeptT RDT B w w'
end
end Go.Proofs.YtaggiceejcegdaaGreat
namespace Go.Proofs.YtaggiceejcegdaaGreat
set_option linter.unusedVariables false
open Go.RowKit

section
variable {w w' : World} {B C : Bd} {q pw p : Nat} {g : Geo} {F : List Flt} {s : DS} {P R : Pow} {LM : List Sec} {O : List OpV} {FA : Option Addr} {fc : Nat}
def RDFlushPost (w : World) (B : Bd) (q pw : Nat) (g : Geo) (F : List Flt) (s : DS) (P : Pow) (LM : List Sec) (O : List OpV) (key : Int) (e : Ending) (w' : World) : Prop :=
  e = .returned (.int .i64 (begD F s P key).er) ∧ RDPm w' B q pw g F (dFlS F s P key) (begD F s P key).P (dFlLM g F s P LM O key) (dFlO F s P O key) ∧ KeptT RDT B w w'
def RDErasePost (w : World) (B : Bd) (q pw : Nat) (g : Geo) (F : List Flt) (s : DS) (P : Pow) (LM : List Sec) (O : List OpV) (key a : Int) (e : Ending) (w' : World) : Prop :=
  e = .returned (.int .i64 (dErE g F s P LM O key a)) ∧ RDPm w' B q pw g F (dErS g F s P LM O key a) (begD F s P key).P LM (dErO g F s P LM O key a) ∧ KeptT RDT B w w'
end
end Go.Proofs.YtaggiceejcegdaaGreat
namespace Go.Proofs.YtaggiceejcegdaaGreat
set_option linter.unusedVariables false
open Go.RowKit

section
variable {w w' : World} {B C : Bd} {q pw p : Nat} {g : Geo} {F : List Flt} {s : DS} {P R : Pow} {LM : List Sec} {O : List OpV} {FA : Option Addr} {fc : Nat}
def RDWritePost (w : World) (B : Bd) (q pw : Nat) (g : Geo) (F : List Flt) (s : DS) (P : Pow) (LM : List Sec) (O : List OpV) (key a : Int) (xs : List Int) (force : Bool) (e : Ending) (w' : World) : Prop :=
  e = .returned (.int .i64 (dWrE F s P LM key a xs)) ∧ RDPm w' B q pw g F (dWrS F s P LM key a xs) (begD F s P key).P (dWrLM g F s P LM O key a xs force) (dWrO g F s P LM O key a xs force) ∧ KeptT RDT B w w'
end
end Go.Proofs.YtaggiceejcegdaaGreat
namespace Go.Proofs.YtaggiceejcegdaaGreat
set_option linter.unusedVariables false
open Go.RowKit

section
variable {w w' : World} {B C : Bd} {q pw p : Nat} {g : Geo} {F : List Flt} {s : DS} {P P' R : Pow} {LM : List Sec} {O : List OpV} {FA : Option Addr} {fc : Nat}
/-- A cell of the disk is stored. -/
theorem RDPm.store (h : RDPm w B q pw g F s P LM O) (j : Nat) (v : Value) (s' : DS) (e : ∀ p FA fc, (rObj g s p pw FA F.length fc).set j v = rObj g s' p pw FA F.length fc) :
    RDPm (w.setCell ⟨q, j, none⟩ v) B q pw g F s' P LM O ∧ KeptT RDT B w (w.setCell ⟨q, j, none⟩ v) := by
  obtain ⟨⟨p, FA, fc, hd⟩, ⟨R, hr, hp⟩, hf, hs, hB⟩ := h
  have h' := hd.store j v s' (e p FA fc)
  exact ⟨⟨⟨p, FA, fc, h'.1⟩, ⟨R, hr, hp.keptT h'.2 (by decide)⟩, hf, hs, Nat.le_trans hB h'.2.size⟩, h'.2.sub rd_rdt⟩
theorem RDPm.cells (h : RDPm w B q pw g F s P LM O) : ∃ p R, RelP P R ∧ (w.cell? ⟨q, 5, none⟩ = some (.pointer (some ⟨p, 0, none⟩)) ∧ w.cell? ⟨q, 7, none⟩ = some (.pointer (some ⟨pw, 0, none⟩)) ∧ w.cell? ⟨q, 9, none⟩ = some (.bool s.dead) ∧ w.cell? ⟨q, 10, none⟩ = some (.int .i64 s.seen)) ∧
    (w.cell? ⟨pw, 0, none⟩ = some (.bool R.off) ∧ w.cell? ⟨pw, 3, none⟩ = some (.int .i64 R.fails)) := by
  obtain ⟨⟨p, FA, fc, hd⟩, ⟨R, hr, hp⟩, hf, hs, hB⟩ := h
  exact ⟨p, R, hr, ⟨(hd.cell 5 (by decide)).trans rfl, (hd.cell 7 (by decide)).trans rfl, (hd.cell 9 (by decide)).trans rfl, (hd.cell 10 (by decide)).trans rfl⟩, hp.cells.1, hp.cells.2.2.2⟩
theorem RDPm.free (h : RDPm w B q pw g F s P LM O) (j : Nat) : w.frozen? ⟨q, j, none⟩ = false := by
  obtain ⟨⟨p, FA, fc, hd⟩, _⟩ := h; exact hd.free j
end
end Go.Proofs.YtaggiceejcegdaaGreat
