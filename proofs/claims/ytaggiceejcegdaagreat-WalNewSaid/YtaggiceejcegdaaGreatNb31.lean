/-
  WHAT IS SHOWN: what begin of the reference's disk returns and leaves. Conditions: the disk lies in memory.
-/
import Derived.Test.YtaggiceejcegdaaGreatNb30
namespace Go.Proofs.YtaggiceejcegdaaGreat
set_option linter.unusedVariables false
open Go.RowKit

/-- What an operation of the reference does ahead of its work. -/
def RBegPost (w : World) (B : Bd) (q pw : Nat) (g : Geo) (F : List Flt) (LM : List Sec) (O : List OpV) (p : Nat) (FA : Option Addr) (fc : Nat) (b : Beg) (e : Ending) (w' : World) : Prop :=
  ∃ f R', e = .returned (.tuple #[Flt.val f, .int .i64 b.er]) ∧ (b.er = 0 → f = b.f) ∧ RDsk w' B q pw g F b.s LM O p FA fc ∧ RPow w' B pw R' ∧ RelP b.P R' ∧ KeptT [145, 131] B w w'
section
variable {w w' : World} {B C : Bd} {q pw p : Nat} {g : Geo} {F : List Flt} {s : DS} {P R : Pow} {LM : List Sec} {O : List OpV} {FA : Option Addr} {fc : Nat}
/-- The types that begin changes. -/
def RDPT : List TypeId := [145, 131]
theorem RDsk.of {w0 : World} (ho : w.ownsRow B.n 145 16 (.slice (some ⟨q, 0, none⟩) 1 1) 1 (rObj g s p pw FA F.length fc)) (hqx : ¬ B.X q) (hc : RCacheM w0 B p g LM O) (hfl : RdT w0 138 FA (flatF F)) (hk : KeptT RDPT B w0 w) : RDsk w B q pw g F s LM O p FA fc :=
  ⟨ho, hqx, hc.keptT hk (by unfold RDPT; decide), hfl.kept hk (KeptT.free (by unfold RDPT; decide))⟩
/-- Within begin: the disk, the power supply, and the result's block. -/
structure RMid (w0 w : World) (B : Bd) (q pw : Nat) (g : Geo) (n fc p : Nat) (FA : Option Addr) (s : DS) (R : Pow) : Prop where
  o : w.ownsRow B.n 145 16 (.slice (some ⟨q, 0, none⟩) 1 1) 1 (rObj g s p pw FA n fc)
  p : RPow w B pw R
  k : KeptT RDPT B w0 w
  x : ¬ B.X q
  z : w.ownsRow w0.heap.size 138 3 (.slice (some ⟨w0.heap.size, 0, none⟩) 1 1) 1 [.int .i64 0, .int .i64 0, .int .i64 0]
theorem RMid.below {w0 : World} {n : Nat} (h : RMid w0 w B q pw g n fc p FA s R) (hb : Below w.heap.size w w') : RMid w0 w' B q pw g n fc p FA s R :=
  ⟨own_kept h.o (belKept0 (S := fun _ => False) hb) (fun _ _ h => h), h.p.below0 hb, h.k.thenBelow hb, h.x, own_kept h.z (belKept0 (S := fun _ => False) hb) (fun _ _ h => h)⟩
theorem RMid.store {w0 : World} {n : Nat} (h : RMid w0 w B q pw g n fc p FA s R) (j : Nat) (v : Value) (s' : DS) (e : (rObj g s p pw FA n fc).set j v = rObj g s' p pw FA n fc) : RMid w0 (w.setCell ⟨q, j, none⟩ v) B q pw g n fc p FA s' R := by
  have tq := IsT.own h.o
  have tz := IsT.own h.z
  have hk : Kept (fun k => k = q) w (w.setCell ⟨q, j, none⟩ v) := (Kept.refl (fun k => k = q) w).setCell (p := ⟨q, j, none⟩) (fun _ => rfl) _
  have hkT : KeptT RDPT B w (w.setCell ⟨q, j, none⟩ v) := KeptT.of hk (fun k _ e => by have e' : k = q := e; subst e'; exact ⟨⟨row_low h.o, h.x⟩, HasT.mem tq (by simp [RDPT])⟩)
  have hkD : KeptT [145] B w (w.setCell ⟨q, j, none⟩ v) := KeptT.of hk (fun k _ e => by have e' : k = q := e; subst e'; exact ⟨⟨row_low h.o, h.x⟩, HasT.mem tq (by simp)⟩)
  have := (World.ownsRow.stored h.o j v).1
  rw [e] at this
  exact ⟨this, h.p.keptT hkD (by decide), h.k.trans hkT, h.x, own_kept h.z hk (fun k e => by simp [Value.ownBlock] at e; subst e; exact tz.ne tq (by decide))⟩
theorem RMid.res {w0 : World} {n : Nat} (h : RMid w0 w B q pw g n fc p FA s R) : (w.cell? ⟨w0.heap.size, 0, none⟩ = some (.int .i64 0) ∧ w.cell? ⟨w0.heap.size, 1, none⟩ = some (.int .i64 0) ∧ w.cell? ⟨w0.heap.size, 2, none⟩ = some (.int .i64 0)) ∧ w.frozen? ⟨w0.heap.size, 0, none⟩ = false ∧ w.frozen? ⟨w0.heap.size, 1, none⟩ = false ∧ w.frozen? ⟨w0.heap.size, 2, none⟩ = false :=
  ⟨⟨(World.ownsRow.cellAt h.z 0 (by decide)).trans rfl, (World.ownsRow.cellAt h.z 1 (by decide)).trans rfl, (World.ownsRow.cellAt h.z 2 (by decide)).trans rfl⟩, h.z.frozenAt 0, h.z.frozenAt 1, h.z.frozenAt 2⟩
end
end Go.Proofs.YtaggiceejcegdaaGreat
