/-
  WHAT IS SHOWN: a parameter that is a slice of bands, or a struct of a slice of bands and three integers, read as data: what a walk is told of it. Conditions: that the value can be read.
-/
import Derived.Test.YtbnkpknoknenjaaBandPlain
import Derived.Test.YtbnkpknoknenjaaRows
import Derived.ProofKit
import Derived.OpenShut
import Derived.ChangeOld
import Derived.Deep.Slices
import Derived.Deep.Fields
import Derived.Lib.SmallJoins
namespace Go.Proofs.Ytbnkpknoknenjaa
set_option linter.unusedVariables false
open Go.ChangeShapes Go.WideShapes Go.ChangeAt Go.RowKit Go.Deep

theorem own : ownKnob Try.prog.godebug = none := by kernel_rfl
theorem laidOut : laidOutB Try.prog = true := by kernel_rfl
theorem list_of {α : Type} {Q : Nat → α → Prop} : ∀ n : Nat, (∀ i, i < n → ∃ b, Q i b) → ∃ l : List α, l.length = n ∧ ∀ i b, l[i]? = some b → Q i b
  | 0, _ => ⟨[], rfl, fun i b h => by simp at h⟩
  | n + 1, h => by
    obtain ⟨l, hl, hq⟩ := list_of n (fun i hi => h i (by omega))
    obtain ⟨b, hb⟩ := h n (by omega)
    refine ⟨l ++ [b], by simp [hl], fun i x hx => ?_⟩
    rcases Nat.lt_or_ge i l.length with hi | hi
    · rw [List.getElem?_append_left hi] at hx; exact hq i x hx
    · rw [List.getElem?_append_right hi] at hx
      have h0 : i - l.length = 0 := by
        rcases Nat.eq_zero_or_pos (i - l.length) with h0 | h0
        · exact h0
        · rw [List.getElem?_eq_none (by simp; omega)] at hx; cases hx
      rw [h0] at hx
      have hi' : i = n := by omega
      simp at hx
      subst hx; subst hi'; exact hb
theorem i64_of {x : Int} (h : (Lit.int .i64 x).wf = true) : I64 x := by
  simp [Lit.wf, IntKind.min, IntKind.max, IntKind.signed, IntKind.bits] at h
  exact ⟨by omega, by omega⟩
theorem u64_of {x : Int} (h : (Lit.int .u64 x).wf = true) : U64 x := by
  simp [Lit.wf, IntKind.min, IntKind.max, IntKind.signed, IntKind.bits] at h
  exact ⟨by omega, by omega⟩

/-- What a walk is told of a slice of bands: its length; where it is nil its room is none; what it reads as. -/
structure Bands (w : World) (A : Option Addr) (n c : Nat) (l : List BI) : Prop where
  len : n = l.length
  rd : Rd w w.heap.size A (flat l)
  ok : Oks l
  room : A = none → c = 0
  big : n ≤ 9223372036854775807

theorem oneBand : oneCellFields Try.prog (Try.prog.fieldsOf 35) = true := by kernel_rfl
theorem cellsBand : Try.prog.cellsOf 35 = 4 := by kernel_rfl
theorem cellsInt : Try.prog.cellsOf 3 = 1 := by kernel_rfl
theorem cellsU64 : Try.prog.cellsOf 27 = 1 := by kernel_rfl
theorem rd_of_add {w : World} {a : Addr} {xs : List Value} (h : ∀ j u, xs[j]? = some u → w.cell? (a.add j) = some u) : Rd w w.heap.size (some a) xs := by
  intro j u hu
  have hlen : j < xs.length := (List.getElem?_eq_some_iff.1 hu).1
  have h0 : ∃ u0, w.cell? (a.add 0) = some u0 := ⟨xs[0], h 0 _ (List.getElem?_eq_getElem (by omega))⟩
  obtain ⟨u0, h0⟩ := h0
  have hsp : a.spot = none := by simpa [Addr.add] using World.cell?_spot h0
  obtain ⟨g, o, s⟩ := a
  simp only at hsp
  subst hsp
  have hc := h j u hu
  rw [add_off] at hc
  exact ⟨g, o, rfl, block_lt_of_cell hc, hc⟩

theorem open_bands {H : Type} {enc : TypeId × Value → H} {w : World} {base : Nat} {spare : Nat → Bool} {held : Bool} {fuel : Nat} {v : Value} {y : DataW H × List MemPlace}
    (h : DataW.trod enc Try.prog w base spare held fuel 22 [v] = some y) : ∃ A n c l, v = .slice A n c ∧ Bands w A n c l := by
  rcases open_slice Try.underlying22 h with ⟨hcs, _⟩ | ⟨a, len, cap, m, n, D, Pl, hcs, _, hl, hm, hmm, _, hel⟩
  · simp at hcs
    subst hcs
    exact ⟨none, 0, 0, [], rfl, rfl, Rd.nil_ _ _ _, oks_nil, fun _ => rfl, by omega⟩
  · simp at hcs
    subst hcs
    have hlm : len ≤ m := by rw [hmm]; split <;> omega
    obtain ⟨l, hll, hq⟩ := list_of (Q := fun i (b : BI) => b.Ok ∧ ∀ t u, b.cells[t]? = some u → w.cell? (a.add (i * 4 + t)) = some u) len (fun i hi => by
      obtain ⟨cs', hc, ht⟩ := hel i (by omega)
      rw [cellsBand] at hc
      obtain ⟨_, hcl, hat⟩ := World.cells?_some hc
      obtain ⟨xs, k, _, _, _, hxl, hf⟩ := DataW.trod_struct Try.underlying35 ht
      match cs', hcl, xs, hxl with
      | [c0, c1, c2, c3], _, [x0, x1, x2, x3], _ =>
        have f0 : DataW.trod enc Try.prog w base spare held k 3 (([c0, c1, c2, c3].drop 0).take (Try.prog.cellsOf 3)) = some x0 := hf 0 _ rfl
        have f1 : DataW.trod enc Try.prog w base spare held k 3 (([c0, c1, c2, c3].drop 1).take (Try.prog.cellsOf 3)) = some x1 := hf 1 _ rfl
        have f2 : DataW.trod enc Try.prog w base spare held k 27 (([c0, c1, c2, c3].drop 2).take (Try.prog.cellsOf 27)) = some x2 := hf 2 _ rfl
        have f3 : DataW.trod enc Try.prog w base spare held k 27 (([c0, c1, c2, c3].drop 3).take (Try.prog.cellsOf 27)) = some x3 := hf 3 _ rfl
        rw [cellsInt] at f0 f1
        rw [cellsU64] at f2 f3
        obtain ⟨n0, e0, _, w0⟩ := DataW.trod_int Try.underlying3 f0
        obtain ⟨n1, e1, _, w1⟩ := DataW.trod_int Try.underlying3 f1
        obtain ⟨n2, e2, _, w2⟩ := DataW.trod_int Try.underlying27 f2
        obtain ⟨n3, e3, _, w3⟩ := DataW.trod_int Try.underlying27 f3
        simp at e0 e1 e2 e3
        subst e0; subst e1; subst e2; subst e3
        refine ⟨⟨n0, n1, n2, n3⟩, ⟨i64_of w0, i64_of w1, u64_of w2, u64_of w3⟩, fun t u hu => ?_⟩
        have ht4 : t < 4 := (List.getElem?_eq_some_iff.1 hu).1
        rw [← Go.Deep.add_add, hat t ht4]
        exact hu)
    refine ⟨some a, len, cap, l, rfl, hll.symm, rd_of_add fun j u hu => ?_, fun b hb => ?_, (fun h => by cases h), by unfold maxLen at hm; omega⟩
    · have hj : j < l.length * 4 := by rw [← flat_len4]; exact (List.getElem?_eq_some_iff.1 hu).1
      have hj4 : j = j / 4 * 4 + j % 4 := by omega
      rw [hj4] at hu
      unfold flat at hu
      rw [flat_get _ 4 cells_len l _ _ (by omega), get_some (show j / 4 < l.length by omega)] at hu
      have := (hq (j / 4) _ (get_some (by omega))).2 (j % 4) u hu
      rw [hj4]; exact this
    · obtain ⟨i, hi⟩ := List.mem_iff_getElem?.1 hb
      exact (hq i b hi).1

/-- A struct of a slice of bands, two ints and a time, by value. -/
theorem open_count {H : Type} {enc : TypeId × Value → H} {w : World} {base b0 : Nat} {spare : Nat → Bool} {held : Bool} {r : Reach} {v : Value} {d : DataW H} {p : List MemPlace}
    (hv : Value.okWide Try.prog w r b0 29 v) (h : DataW.Trod enc Try.prog w base spare held 29 v d p) :
    ∃ A n c l x y z, v = .agg #[.slice A n c, .int .i64 x, .int .i64 y, .int .u64 z] ∧ Bands w A n c l ∧ I64 x ∧ I64 y ∧ U64 z := by
  obtain ⟨c0, c1, c2, c3, y0, y1, y2, y3, m, rfl, _, _, h0, h1, h2, h3⟩ := Go.Joins.open_agg4 Try.underlying29 (by kernel_rfl) (by kernel_rfl) hv h
  obtain ⟨A, n, c, l, rfl, hb⟩ := open_bands h0
  obtain ⟨x, e1, _, w1⟩ := DataW.trod_int Try.underlying3 h1
  obtain ⟨y, e2, _, w2⟩ := DataW.trod_int Try.underlying3 h2
  obtain ⟨z, e3, _, w3⟩ := DataW.trod_int Try.underlying27 h3
  simp at e1 e2 e3
  subst e1; subst e2; subst e3
  exact ⟨A, n, c, l, x, y, z, rfl, hb, i64_of w1, i64_of w2, u64_of w3⟩
end Go.Proofs.Ytbnkpknoknenjaa
