/-
  WHAT IS SHOWN: a region that draws its order, whose operations read and whose calls make memory, is walked once, in the order of its text: the worlds in which it may stand are those that meet one condition. Conditions: as each theorem names them.
-/
import Derived.Test.YtndifkjenjfjpaaMem
import Derived.Deep.QuietTactic
import Derived.BigQuiet
namespace Go.Proofs.Ytndifkjenjfjpaa
set_option linter.unusedVariables false
open Go.RowKit

theorem cell_new (w : World) (cs : Array Value) (t : TypeId) (n j : Nat) (v : Value) (h : n = w.heap.size) (hv : cs[j]? = some v) : (w.alloc (.cells cs t)).cell? ⟨n, j, none⟩ = some v := by
  subst h
  simp only [World.cell?_alloc_new]
  simpa using hv
theorem results_tmp4 {fn : Func} {t u s r : Tmp} (h : fn.results = #[.tmp t, .tmp u, .tmp s, .tmp r]) (tmps : Array Value) (P : Program) (w : World) :
    (results fn tmps).run P w = .ok (.tuple #[tmps.getD t undef, tmps.getD u undef, tmps.getD s undef, tmps.getD r undef]) w := by
  simp [results, h]
/-- Block b holds five cells. -/
structure Cells5 (w : World) (b : Nat) (v0 v1 v2 v3 v4 : Value) : Prop where
  c0 : w.cell? ⟨b, 0, none⟩ = some v0
  c1 : w.cell? ⟨b, 1, none⟩ = some v1
  c2 : w.cell? ⟨b, 2, none⟩ = some v2
  c3 : w.cell? ⟨b, 3, none⟩ = some v3
  c4 : w.cell? ⟨b, 4, none⟩ = some v4
theorem Cells5.new_at (w : World) (t : TypeId) (n : Nat) (v0 v1 v2 v3 v4 : Value) (h : n = w.heap.size) : Cells5 (w.alloc (.cells #[v0, v1, v2, v3, v4] t)) n v0 v1 v2 v3 v4 :=
  ⟨cell_new _ _ _ _ _ _ h rfl, cell_new _ _ _ _ _ _ h rfl, cell_new _ _ _ _ _ _ h rfl, cell_new _ _ _ _ _ _ h rfl, cell_new _ _ _ _ _ _ h rfl⟩
theorem Cells5.new (w : World) (t : TypeId) (v0 v1 v2 v3 v4 : Value) : Cells5 (w.alloc (.cells #[v0, v1, v2, v3, v4] t)) w.heap.size v0 v1 v2 v3 v4 := Cells5.new_at w t _ _ _ _ _ _ rfl
theorem Cells5.below {w w' : World} {B b : Nat} {v0 v1 v2 v3 v4 : Value} (h : Cells5 w b v0 v1 v2 v3 v4) (hb : Below B w w') (hB : b < B) : Cells5 w' b v0 v1 v2 v3 v4 :=
  ⟨(hb.cell (p := ⟨b, 0, none⟩) hB).trans h.c0, (hb.cell (p := ⟨b, 1, none⟩) hB).trans h.c1, (hb.cell (p := ⟨b, 2, none⟩) hB).trans h.c2, (hb.cell (p := ⟨b, 3, none⟩) hB).trans h.c3, (hb.cell (p := ⟨b, 4, none⟩) hB).trans h.c4⟩
/-- A world that meets a condition. -/
structure Held (S : World → Prop) where
  w : World
  h : S w

theorem Held.drew_below {B : Nat} {w : World} (h : B ≤ w.heap.size) : Below B w w.drew := ((Below.refl _ _).mono h).drew

section
variable {P : Program} {S : World → Prop}
theorem wp_region_heldq {id : Nat} {Q : Exit → Act → World → Prop} {a : Act} {w : World} {l : List Oper} (hm : P.follows .mixedOrders = true) (hB : Region.lexB .any l.toArray = true) (hS : S w.drew)
    (h : wpQuiet P l.toArray (fun W => ∃ s : Held S, W = s.w) (fun a' => ∀ W, (∃ s : Held S, W = s.w) → Q .normal a' W) l a) : (Code.region id l.toArray true).wp P Q a w :=
  wp_region_quiet (C := fun W => ∃ s : Held S, W = s.w) hm hB ⟨⟨w.drew, hS⟩, rfl⟩ (by simpa using h)
theorem Calls.held {f : FuncId} {args : Array Value} {s : Held S} {v : Value} (h : Calls P f args s.w fun e w' => e = .returned v ∧ S w') : Calls P f args s.w fun e w' => e = .returned v ∧ ∃ t : Held S, w' = t.w :=
  h.mono fun _ _ ⟨he, hw⟩ => ⟨he, ⟨_, hw⟩, rfl⟩
theorem Calls.held_below {f : FuncId} {args : Array Value} {B : Nat} {w : World} {s : Held (Below B w)} {v : Value} (hB : B ≤ w.heap.size) (h : Calls P f args s.w fun e w' => e = .returned v ∧ Below s.w.heap.size s.w w') :
    Calls P f args s.w fun e w' => e = .returned v ∧ ∃ t : Held (Below B w), w' = t.w :=
  Calls.held (h.mono fun _ _ ⟨he, hb⟩ => ⟨he, s.h.trans (hb.mono (Nat.le_trans hB s.h.size))⟩)
theorem Calls.held_same {f : FuncId} {args : Array Value} {s : Held S} {v : Value} (h : Calls P f args s.w fun e w' => e = .returned v ∧ w' = s.w) : Calls P f args s.w fun e w' => e = .returned v ∧ ∃ t : Held S, w' = t.w :=
  h.mono fun _ _ ⟨he, hw⟩ => ⟨he, s, hw⟩
end
theorem Held.cell {B : Nat} {w : World} {b o : Nat} {v : Value} (h : w.cell? ⟨b, o, none⟩ = some v) (hb : b < B) : ∀ s : Held (Below B w), s.w.cell? ⟨b, o, none⟩ = some v := fun s => (s.h.cell (p := ⟨b, o, none⟩) hb).trans h
theorem Rd.held {w : World} {A : Option Addr} {xs : List Value} (h : Rd w w.heap.size A xs) (s : Held (Below w.heap.size w)) : Rd s.w s.w.heap.size A xs := (h.below s.h (Nat.le_refl _)).more s.h.size
end Go.Proofs.Ytndifkjenjfjpaa
