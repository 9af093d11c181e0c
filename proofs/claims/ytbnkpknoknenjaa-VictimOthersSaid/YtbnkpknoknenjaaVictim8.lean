/-
  WHAT IS SHOWN: plain facts on blocks of four cells that may be written. Conditions: as each theorem names them.
-/
import Derived.Test.YtbnkpknoknenjaaVictim7
namespace Go.Proofs.Ytbnkpknoknenjaa
set_option linter.unusedVariables false
open Go.RowKit

/-- Block b holds four cells and may be written. -/
structure Own4 (w : World) (b : Nat) (v0 v1 v2 v3 : Value) : Prop where
  cs : Cells4 w b v0 v1 v2 v3
  f0 : w.frozen? ⟨b, 0, none⟩ = false
  f1 : w.frozen? ⟨b, 1, none⟩ = false
  f2 : w.frozen? ⟨b, 2, none⟩ = false
  f3 : w.frozen? ⟨b, 3, none⟩ = false
section
variable {w w' : World} {b c : Nat} {v0 v1 v2 v3 : Value}
theorem Own4.below {B : Nat} (h : Own4 w b v0 v1 v2 v3) (hb : Below B w w') (hB : b < B) : Own4 w' b v0 v1 v2 v3 :=
  ⟨h.cs.below hb hB, (hb.frozen (p := ⟨b, 0, none⟩) hB).trans h.f0, (hb.frozen (p := ⟨b, 1, none⟩) hB).trans h.f1, (hb.frozen (p := ⟨b, 2, none⟩) hB).trans h.f2, (hb.frozen (p := ⟨b, 3, none⟩) hB).trans h.f3⟩
theorem Own4.new (w : World) (t : TypeId) (n : Nat) (v0 v1 v2 v3 : Value) (h : n = w.heap.size) : Own4 (w.alloc (.cells #[v0, v1, v2, v3] t)) n v0 v1 v2 v3 := by
  subst h
  exact ⟨Cells4.new w t _ _ _ _, by simp, by simp, by simp, by simp⟩
theorem Own4.lt (h : Own4 w b v0 v1 v2 v3) : b < w.heap.size := block_lt_of_cell h.cs.c0
theorem Own4.other (h : Own4 w b v0 v1 v2 v3) {p : Addr} (hp : p.block ≠ b) (u : Value) : Own4 (w.setCell p u) b v0 v1 v2 v3 := by
  have k : ∀ j, (w.setCell p u).cell? ⟨b, j, none⟩ = w.cell? ⟨b, j, none⟩ := fun j => World.cell?_setCell_other w p ⟨b, j, none⟩ u (fun e => hp (by rw [e]))
  exact ⟨⟨(k 0).trans h.cs.c0, (k 1).trans h.cs.c1, (k 2).trans h.cs.c2, (k 3).trans h.cs.c3⟩, by simp [h.f0], by simp [h.f1], by simp [h.f2], by simp [h.f3]⟩
theorem Own4.off (k j : Nat) (u : Value) (hkj : k ≠ j) : (w.setCell ⟨b, k, none⟩ u).cell? ⟨b, j, none⟩ = w.cell? ⟨b, j, none⟩ :=
  World.cell?_setCell_other w ⟨b, k, none⟩ ⟨b, j, none⟩ u (fun e => hkj (by injection e))
theorem Own4.set1 (h : Own4 w b v0 v1 v2 v3) (u : Value) : Own4 (w.setCell ⟨b, 1, none⟩ u) b v0 u v2 v3 :=
  ⟨⟨(Own4.off 1 0 u (by omega)).trans h.cs.c0, World.cell?_setCell_same w _ u h.cs.c1, (Own4.off 1 2 u (by omega)).trans h.cs.c2, (Own4.off 1 3 u (by omega)).trans h.cs.c3⟩, by simp [h.f0], by simp [h.f1], by simp [h.f2], by simp [h.f3]⟩
theorem Own4.set2 (h : Own4 w b v0 v1 v2 v3) (u : Value) : Own4 (w.setCell ⟨b, 2, none⟩ u) b v0 v1 u v3 :=
  ⟨⟨(Own4.off 2 0 u (by omega)).trans h.cs.c0, (Own4.off 2 1 u (by omega)).trans h.cs.c1, World.cell?_setCell_same w _ u h.cs.c2, (Own4.off 2 3 u (by omega)).trans h.cs.c3⟩, by simp [h.f0], by simp [h.f1], by simp [h.f2], by simp [h.f3]⟩
theorem Own4.set0 (h : Own4 w b v0 v1 v2 v3) (u : Value) : Own4 (w.setCell ⟨b, 0, none⟩ u) b u v1 v2 v3 :=
  ⟨⟨World.cell?_setCell_same w _ u h.cs.c0, (Own4.off 0 1 u (by omega)).trans h.cs.c1, (Own4.off 0 2 u (by omega)).trans h.cs.c2, (Own4.off 0 3 u (by omega)).trans h.cs.c3⟩, by simp [h.f0], by simp [h.f1], by simp [h.f2], by simp [h.f3]⟩
theorem Own4.set3 (h : Own4 w b v0 v1 v2 v3) (u : Value) : Own4 (w.setCell ⟨b, 3, none⟩ u) b v0 v1 v2 u :=
  ⟨⟨(Own4.off 3 0 u (by omega)).trans h.cs.c0, (Own4.off 3 1 u (by omega)).trans h.cs.c1, (Own4.off 3 2 u (by omega)).trans h.cs.c2, World.cell?_setCell_same w _ u h.cs.c3⟩, by simp [h.f0], by simp [h.f1], by simp [h.f2], by simp [h.f3]⟩
theorem Own4.set4 (h : Own4 w b v0 v1 v2 v3) (u0 u1 u2 u3 : Value) : Own4 ((((w.setCell ⟨b, 0, none⟩ u0).setCell ⟨b, 1, none⟩ u1).setCell ⟨b, 2, none⟩ u2).setCell ⟨b, 3, none⟩ u3) b u0 u1 u2 u3 :=
  (((h.set0 u0).set1 u1).set2 u2).set3 u3
theorem Own4.other4 (h : Own4 w b v0 v1 v2 v3) (hc : c ≠ b) (u0 u1 u2 u3 : Value) : Own4 ((((w.setCell ⟨c, 0, none⟩ u0).setCell ⟨c, 1, none⟩ u1).setCell ⟨c, 2, none⟩ u2).setCell ⟨c, 3, none⟩ u3) b v0 v1 v2 v3 :=
  (((h.other (p := ⟨c, 0, none⟩) hc u0).other (p := ⟨c, 1, none⟩) hc u1).other (p := ⟨c, 2, none⟩) hc u2).other (p := ⟨c, 3, none⟩) hc u3
theorem Own4.drew (h : Own4 w b v0 v1 v2 v3) : Own4 w.drew b v0 v1 v2 v3 := ⟨⟨h.cs.c0, h.cs.c1, h.cs.c2, h.cs.c3⟩, h.f0, h.f1, h.f2, h.f3⟩
theorem below_set4 {B : Nat} {a : World} (h : Below B a w) (hb : B ≤ b) (u0 u1 u2 u3 : Value) : Below B a ((((w.setCell ⟨b, 0, none⟩ u0).setCell ⟨b, 1, none⟩ u1).setCell ⟨b, 2, none⟩ u2).setCell ⟨b, 3, none⟩ u3) :=
  (((h.setCell (p := ⟨b, 0, none⟩) hb u0).setCell (p := ⟨b, 1, none⟩) hb u1).setCell (p := ⟨b, 2, none⟩) hb u2).setCell (p := ⟨b, 3, none⟩) hb u3
theorem Own4.heldf (h : Own4 w b v0 v1 v2 v3) : (∀ s : Held (Below w.heap.size w), s.w.cell? ⟨b, 0, none⟩ = some v0) ∧ (∀ s : Held (Below w.heap.size w), s.w.cell? ⟨b, 1, none⟩ = some v1) ∧ (∀ s : Held (Below w.heap.size w), s.w.cell? ⟨b, 2, none⟩ = some v2) ∧ (∀ s : Held (Below w.heap.size w), s.w.cell? ⟨b, 3, none⟩ = some v3) :=
  ⟨Held.cell h.cs.c0 h.lt, Held.cell h.cs.c1 h.lt, Held.cell h.cs.c2 h.lt, Held.cell h.cs.c3 h.lt⟩
end
section
variable (w : World) (t : TypeId) (v0 v1 v2 v3 : Value) (o : Obj)
theorem O2a : Own4 ((w.alloc (.cells #[v0, v1, v2, v3] t)).alloc o).drew w.heap.size v0 v1 v2 v3 :=
  (Own4.new w t _ v0 v1 v2 v3 rfl).below (((Below.refl _ _).alloc (Nat.le_refl _) o).drew) (by simp)
theorem O2b : Own4 ((w.alloc o).alloc (.cells #[v0, v1, v2, v3] t)).drew (w.heap.size + 1) v0 v1 v2 v3 :=
  (Own4.new (w.alloc o) t _ v0 v1 v2 v3 (by simp)).below ((Below.refl (w.heap.size + 1 + 1) _).drew) (by omega)
end
end Go.Proofs.Ytbnkpknoknenjaa
