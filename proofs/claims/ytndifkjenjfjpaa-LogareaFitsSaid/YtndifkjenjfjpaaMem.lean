/-
  WHAT IS SHOWN: plain facts on memory, of no program: a slice that reads as a list of cells; lists that are written out cell by cell. Conditions: as each theorem names them.
-/
import Derived.WalkKit
import Derived.WalkSpells
import Derived.WalkLawsBesides
import Derived.Lib.Hide
import Derived.Laws.OwnMore
import Derived.Deep.Draws
namespace Go.Proofs.Ytndifkjenjfjpaa
set_option linter.unusedVariables false
open Go.RowKit

theorem add_off (g o j : Nat) : (⟨g, o, none⟩ : Addr).add j = ⟨g, o + j, none⟩ := by
  unfold Addr.add; by_cases h : j = 0 <;> simp [h]

/-- The slice at A holds the cells xs, below block B. -/
def Rd (w : World) (B : Nat) (A : Option Addr) (xs : List Value) : Prop :=
  ∀ j u, xs[j]? = some u → ∃ g o, A = some ⟨g, o, none⟩ ∧ g < B ∧ w.cell? ⟨g, o + j, none⟩ = some u

section
variable {w w' : World} {B B' : Nat} {A : Option Addr} {xs : List Value}
theorem Rd.nil_ (w : World) (B : Nat) (A : Option Addr) : Rd w B A [] := fun j u h => by simp at h
theorem Rd.keep (h : Rd w B A xs) (hk : ∀ p : Addr, p.block < B → w'.cell? p = w.cell? p) : Rd w' B A xs := fun j u hu => by
  obtain ⟨g, o, e, hg, hc⟩ := h j u hu
  exact ⟨g, o, e, hg, (hk _ hg).trans hc⟩
theorem Rd.more (h : Rd w B A xs) (hB : B ≤ B') : Rd w B' A xs := fun j u hu => by
  obtain ⟨g, o, e, hg, hc⟩ := h j u hu
  exact ⟨g, o, e, by omega, hc⟩
theorem Rd.below {C : Nat} (h : Rd w B A xs) (hb : Below C w w') (hC : B ≤ C) : Rd w' B A xs := h.keep fun _ hp => hb.cell (by omega)
theorem Rd.drewN (h : Rd w B A xs) (k : Nat) : Rd (w.drewN k) B A xs := h
theorem Rd.alloc (h : Rd w B A xs) (hB : B ≤ w.heap.size) (o : Obj) : Rd (w.alloc o) B A xs := h.keep fun p hp => World.cell?_alloc_lt w o p (by omega)
theorem Rd.setCell (h : Rd w B A xs) {p : Addr} (hB : B ≤ p.block) (u : Value) : Rd (w.setCell p u) B A xs :=
  h.keep fun q hq => World.cell?_setCell_other w p q u (fun e => by subst e; omega)
theorem Rd.take (h : Rd w B A xs) (n : Nat) : Rd w B A (xs.take n) := fun j u hu => by
  rw [List.getElem?_take] at hu
  split at hu
  · exact h j u hu
  · cases hu
theorem Rd.of_own {base : Nat} {e : TypeId} {size n c : Nat} (h : w.ownsRow base e size (.slice A n c) n xs) : Rd w w.heap.size A xs := fun j u hu => by
  obtain ⟨hl, h2⟩ := h
  rcases h2 with ⟨h2, hn⟩ | ⟨g, cap, cur, hv, _, hh, _, _, _, ht⟩
  · subst hn; simp at hl; subst hl; simp at hu
  · injection hv with hA
    refine ⟨g, 0, hA, ?_, ?_⟩
    · exact lt_of_block hh
    · rw [Nat.zero_add, cell_of_row w g j cur e (0, 0) hh]
      rw [← ht, List.getElem?_take] at hu
      split at hu
      · simpa using hu
      · cases hu
end

theorem own_form {w : World} {base : Nat} {e : TypeId} {size n : Nat} {v : Value} {xs : List Value} (h : w.ownsRow base e size v n xs) : ∃ A c, v = .slice A n c := by
  rcases h.2 with ⟨rfl, rfl⟩ | ⟨g, cap, cur, rfl, _⟩
  · exact ⟨_, _, rfl⟩
  · exact ⟨_, _, rfl⟩
theorem own_mono {w : World} {base base' : Nat} {e : TypeId} {size n : Nat} {v : Value} {xs : List Value} (h : w.ownsRow base e size v n xs) (hb : base' ≤ base) : w.ownsRow base' e size v n xs := by
  refine ⟨h.1, ?_⟩
  rcases h.2 with h2 | ⟨g, cap, cur, h1, h2, h3⟩
  · exact .inl h2
  · exact .inr ⟨g, cap, cur, h1, Nat.le_trans hb h2, h3⟩
/-- An owned row of at least one element: where it lies. -/
theorem own_at {w : World} {base : Nat} {e : TypeId} {size n c : Nat} {A : Option Addr} {xs : List Value} (h : w.ownsRow base e size (.slice A n c) n xs) (hn : 0 < n) : ∃ g, A = some ⟨g, 0, none⟩ ∧ base ≤ g ∧ g < w.heap.size := by
  rcases h.2 with ⟨_, h2⟩ | ⟨g, cap, cur, hv, hb, hh, _⟩
  · omega
  · injection hv with hA
    exact ⟨g, hA, hb, lt_of_block hh⟩
theorem grown_trans' {B : Nat} {a w w' : World} {row : Option Nat} (h : Below B a w) (hg : w.grownBy w' row) (hB : B ≤ w.heap.size) (hr : ∀ k, row = some k → B ≤ k) : Below B a w' := h.grown hg hB hr

/-- Where two lists of cells are cut alike: element i, cell t, of lists whose elements have n cells each. -/
theorem flat_get {α : Type} (f : α → List Value) (n : Nat) (hf : ∀ a, (f a).length = n) : ∀ (l : List α) (i t : Nat), t < n → (l.flatMap f)[i * n + t]? = (l[i]?).bind fun a => (f a)[t]?
  | [], i, t, _ => by simp
  | a :: l, 0, t, ht => by
    rw [List.flatMap_cons, Nat.zero_mul, Nat.zero_add, List.getElem?_append_left (by rw [hf]; exact ht)]
    simp
  | a :: l, i + 1, t, ht => by
    rw [List.flatMap_cons, List.getElem?_append_right (by rw [hf, Nat.add_mul]; omega), hf]
    rw [show (i + 1) * n + t - n = i * n + t from by rw [Nat.add_mul]; omega, flat_get f n hf l i t ht]
    simp
theorem flat_len {α : Type} (f : α → List Value) (n : Nat) (hf : ∀ a, (f a).length = n) (l : List α) : (l.flatMap f).length = l.length * n := by
  induction l with
  | nil => simp
  | cons a l ih => rw [List.flatMap_cons, List.length_append, ih, hf, List.length_cons, Nat.add_mul]; omega

/-- All old cells and marks read as before. -/
theorem bcell {W w1 : World} {B : Nat} (hb : Below B W w1) : (∀ b o, b < B → w1.cell? ⟨b, o, none⟩ = W.cell? ⟨b, o, none⟩) ∧ (∀ b o, b < B → w1.frozen? ⟨b, o, none⟩ = W.frozen? ⟨b, o, none⟩) :=
  ⟨fun b o h => hb.cell (p := ⟨b, o, none⟩) h, fun b o h => hb.frozen (p := ⟨b, o, none⟩) h⟩
theorem below_drewN' {B : Nat} {a w : World} (h : Below B a w) (n : Nat) : Below B a (w.drewN n) := ⟨h.os, h.tape, h.output, h.size, h.block⟩
/-- Block b holds four cells. -/
structure Cells4 (w : World) (b : Nat) (v0 v1 v2 v3 : Value) : Prop where
  c0 : w.cell? ⟨b, 0, none⟩ = some v0
  c1 : w.cell? ⟨b, 1, none⟩ = some v1
  c2 : w.cell? ⟨b, 2, none⟩ = some v2
  c3 : w.cell? ⟨b, 3, none⟩ = some v3
theorem Cells4.new (w : World) (t : TypeId) (v0 v1 v2 v3 : Value) : Cells4 (w.alloc (.cells #[v0, v1, v2, v3] t)) w.heap.size v0 v1 v2 v3 := ⟨by simp, by simp, by simp, by simp⟩
theorem Cells4.below {w w' : World} {B b : Nat} {v0 v1 v2 v3 : Value} (h : Cells4 w b v0 v1 v2 v3) (hb : Below B w w') (hB : b < B) : Cells4 w' b v0 v1 v2 v3 :=
  ⟨(hb.cell (p := ⟨b, 0, none⟩) hB).trans h.c0, (hb.cell (p := ⟨b, 1, none⟩) hB).trans h.c1, (hb.cell (p := ⟨b, 2, none⟩) hB).trans h.c2, (hb.cell (p := ⟨b, 3, none⟩) hB).trans h.c3⟩
end Go.Proofs.Ytndifkjenjfjpaa
