/-
  WHAT IS SHOWN: plain facts on memory, of no program: worlds that differ in some blocks alone; slices of bytes; structs behind pointers. Conditions: as each theorem names them.
-/
import Derived.Test.YtndifkjenjfjpaaHeld
import Derived.Laws.Rows
namespace Go.Proofs.Ytndifkjenjfjpaa
set_option linter.unusedVariables false
open Go.RowKit

/-- Only blocks in S have changed, of those that were there. -/
structure Kept (S : Nat → Prop) (w w' : World) : Prop where
  os : w'.os = w.os
  tape : w'.tape = w.tape
  output : w'.output = w.output
  size : w.heap.size ≤ w'.heap.size
  block : ∀ k, k < w.heap.size → ¬ S k → w'.heap[k]? = w.heap[k]?
section
variable {S T : Nat → Prop} {w w' w'' : World} {B : Nat}
theorem Kept.refl (S : Nat → Prop) (w : World) : Kept S w w := ⟨rfl, rfl, rfl, Nat.le_refl _, fun _ _ _ => rfl⟩
theorem Kept.trans (h : Kept S w w') (k : Kept T w' w'') (hT : ∀ i, i < w.heap.size → T i → S i) : Kept S w w'' :=
  ⟨k.os.trans h.os, k.tape.trans h.tape, k.output.trans h.output, Nat.le_trans h.size k.size, fun i hi hS => (k.block i (Nat.lt_of_lt_of_le hi h.size) (fun ht => hS (hT i hi ht))).trans (h.block i hi hS)⟩
theorem Kept.more (h : Kept S w w') (hT : ∀ i, i < w.heap.size → S i → T i) : Kept T w w' := ⟨h.os, h.tape, h.output, h.size, fun i hi hS => h.block i hi (fun hs => hS (hT i hi hs))⟩
theorem belKept (h : Below B w w') : Kept (fun i => B ≤ i) w w' := ⟨h.os, h.tape, h.output, h.size, fun i _ hS => h.block i (by omega)⟩
/-- A call that makes memory alone. -/
theorem belKept0 (h : Below w.heap.size w w') : Kept S w w' := ⟨h.os, h.tape, h.output, h.size, fun i hi _ => h.block i hi⟩
theorem Kept.below (h : Kept S w w') (hS : ∀ i, S i → B ≤ i) (hB : B ≤ w.heap.size) : Below B w w' := ⟨h.os, h.tape, h.output, h.size, fun i hi => h.block i (by omega) (fun hs => by have := hS i hs; omega)⟩
theorem Kept.below0 (h : Kept (fun _ => False) w w') : Below w.heap.size w w' := h.below (fun _ h => h.elim) (Nat.le_refl _)
theorem Kept.thenBelow (h : Kept S w w') (k : Below w'.heap.size w' w'') : Kept S w w'' := h.trans (belKept0 (S := fun _ => False) k) (fun _ _ hf => hf.elim)
theorem Kept.alloc (h : Kept S w w') (o : Obj) : Kept S w (w'.alloc o) := h.thenBelow ((Below.refl _ _).alloc (Nat.le_refl _) o)
theorem Kept.drew (h : Kept S w w') : Kept S w w'.drew := ⟨h.os, h.tape, h.output, h.size, h.block⟩
theorem Kept.drewN (h : Kept S w w') (n : Nat) : Kept S w (w'.drewN n) := ⟨h.os, h.tape, h.output, h.size, h.block⟩
theorem Kept.setCell (h : Kept S w w') {p : Addr} (hp : p.block < w.heap.size → S p.block) (u : Value) : Kept S w (w'.setCell p u) :=
  h.trans (T := fun i => i = p.block) ⟨rfl, rfl, rfl, by simp, fun i hi hS => Below.heap_setCell _ _ _ _ hS⟩ (fun i hi e => by subst e; exact hp hi)
theorem Kept.grown (h : Kept S w w') {row : Option Nat} (hg : w'.grownBy w'' row) (hr : ∀ i, i < w.heap.size → row = some i → S i) : Kept S w w'' :=
  h.trans (T := fun i => row = some i) ⟨hg.os, hg.tape, hg.output, hg.size, fun i hi hS => hg.block i hi (fun e => hS e.symm)⟩ (fun i hi e => hr i hi e)
theorem Kept.obj (h : Kept S w w') {b : Nat} {o : Obj} (ho : w.heap[b]? = some o) (hS : ¬ S b) : w'.heap[b]? = some o := (h.block b (lt_of_block ho) hS).trans ho
theorem Kept.cell (h : Kept S w w') {p : Addr} {v : Value} (hc : w.cell? p = some v) (hS : ¬ S p.block) : w'.cell? p = some v := (World.cell?_of_block (w := w) (h.block p.block (block_lt_of_cell hc) hS)).trans hc
theorem Kept.rd (h : Kept S w w') {A : Option Addr} {xs : List Value} (hr : Rd w B A xs) (hS : ∀ i, i < B → ¬ S i) : Rd w' B A xs := fun j u hu => by
  obtain ⟨g, o, e, hg, hc⟩ := hr j u hu
  exact ⟨g, o, e, hg, h.cell hc (hS g hg)⟩
theorem belObj (h : Below B w w') {b : Nat} {o : Obj} (ho : w.heap[b]? = some o) (hb : b < B) : w'.heap[b]? = some o := (h.block b hb).trans ho
end

theorem Cells5.kept {S : Nat → Prop} {w w' : World} {b : Nat} {v0 v1 v2 v3 v4 : Value} (h : Cells5 w b v0 v1 v2 v3 v4) (hk : Kept S w w') (hb : ¬ S b) : Cells5 w' b v0 v1 v2 v3 v4 :=
  ⟨hk.cell h.c0 hb, hk.cell h.c1 hb, hk.cell h.c2 hb, hk.cell h.c3 hb, hk.cell h.c4 hb⟩
/-- The slice at A holds the cells xs, in a block of elements of type t. -/
def RdT (w : World) (t : TypeId) (A : Option Addr) (xs : List Value) : Prop :=
  ∀ j u, xs[j]? = some u → ∃ g o cur fr, A = some ⟨g, o, none⟩ ∧ w.heap[g]? = some (.cells cur t fr) ∧ cur[o + j]? = some u
/-- No block in S holds elements of type t. -/
def Free (w : World) (t : TypeId) (S : Nat → Prop) : Prop := ∀ k, S k → k < w.heap.size → ∀ cur fr, w.heap[k]? ≠ some (.cells cur t fr)
section
variable {S T : Nat → Prop} {w w' w'' : World} {t t' : TypeId} {A : Option Addr} {xs : List Value}
theorem Free.none (w : World) (t : TypeId) : Free w t (fun _ => False) := fun _ h => h.elim
theorem Free.one {b : Nat} {cs : Array Value} {fr : Nat × Nat} (h : w.heap[b]? = some (.cells cs t' fr)) (ht : t' ≠ t) : Free w t (fun k => k = b) := fun k hk _ cur fr' e => by
  subst hk; rw [h] at e; injection e with e; injection e with _ e; exact ht e
theorem Free.or (h : Free w t S) (k : Free w t T) : Free w t (fun i => S i ∨ T i) := fun i hi hl => by
  rcases hi with hi | hi
  · exact h i hi hl
  · exact k i hi hl
theorem RdT.kept (h : RdT w t A xs) (hk : Kept S w w') (hf : Free w t S) : RdT w' t A xs := fun j u hu => by
  obtain ⟨g, o, cur, fr, e, hg, hc⟩ := h j u hu
  exact ⟨g, o, cur, fr, e, (hk.block g (lt_of_block hg) (fun hs => hf g hs (lt_of_block hg) _ _ hg)).trans hg, hc⟩
theorem RdT.below0 (h : RdT w t A xs) (hk : Below w.heap.size w w') : RdT w' t A xs := h.kept (belKept0 (S := fun _ => False) hk) (Free.none _ _)
theorem RdT.rd (h : RdT w t A xs) : Rd w w.heap.size A xs := fun j u hu => by
  obtain ⟨g, o, cur, fr, e, hg, hc⟩ := h j u hu
  exact ⟨g, o, e, lt_of_block hg, by rw [cell_of_row w g (o + j) cur t fr hg]; exact hc⟩
theorem RdT.nil (w : World) (t : TypeId) (A : Option Addr) : RdT w t A [] := fun j u h => by simp at h
theorem RdT.of_own {base : Nat} {size n c : Nat} (h : w.ownsRow base t size (.slice A n c) n xs) : RdT w t A xs := fun j u hu => by
  obtain ⟨hl, h2⟩ := h
  rcases h2 with ⟨h2, hn⟩ | ⟨g, cap, cur, hv, _, hh, _, _, _, ht⟩
  · subst hn; simp at hl; subst hl; simp at hu
  · injection hv with hA
    refine ⟨g, 0, cur, (0, 0), hA, hh, ?_⟩
    rw [← ht, List.getElem?_take] at hu
    split at hu
    · simpa using hu
    · cases hu
end

/-- A slice value that reads as the bytes xs. -/
def Byt (t : TypeId) (w : World) (v : Value) (xs : List Int) : Prop := ∃ A c, v = .slice A xs.length c ∧ RdT w t A (xs.map (Value.int .u8)) ∧ (A = none → c = 0)
theorem Byt.kept {S : Nat → Prop} {t : TypeId} {w w' : World} {v : Value} {xs : List Int} (h : Byt t w v xs) (hk : Kept S w w') (hf : Free w t S) : Byt t w' v xs := by
  obtain ⟨A, c, e, hr, hn⟩ := h
  exact ⟨A, c, e, hr.kept hk hf, hn⟩
theorem Byt.nil (t : TypeId) (w : World) : Byt t w (.slice none 0 0) [] := ⟨none, 0, rfl, RdT.nil _ _ _, fun _ => rfl⟩

/-- Owned rows that change elsewhere. -/
theorem own_kept {S : Nat → Prop} {w w' : World} {base : Nat} {e : TypeId} {size n : Nat} {v : Value} {xs : List Value} (h : w.ownsRow base e size v n xs) (hk : Kept S w w') (hS : ∀ k, v.ownBlock = some k → ¬ S k) : w'.ownsRow base e size v n xs := by
  refine ⟨h.1, ?_⟩
  rcases h.2 with h2 | ⟨g, cap, cur, h1, h2, h3, h4⟩
  · exact .inl h2
  · exact .inr ⟨g, cap, cur, h1, h2, hk.obj h3 (hS g (by rw [h1]; rfl)), h4⟩
end Go.Proofs.Ytndifkjenjfjpaa
