/-
  WHAT IS SHOWN: what a walk is told of the parameters of tegulalaw11: geometries, bytes, operations. Conditions: that the values can be read.
-/
import Derived.Test.YtckdhhadlemakaaGreatMed9
import Derived.ProofKit
import Derived.OpenShut
import Derived.ChangeOld
import Derived.Deep.Slices
import Derived.Deep.Fields
import Derived.Lib.SmallJoins
namespace Go.Proofs.YtckdhhadlemakaaGreat
set_option linter.unusedVariables false
open Go.ChangeShapes Go.WideShapes Go.ChangeAt Go.RowKit Go.Deep

theorem own : ownKnob Tryz.prog.godebug = none := by kernel_rfl
theorem laidOut : laidOutB Tryz.prog = true := by kernel_rfl
theorem list_of {α : Type} {Q : Nat → α → Prop} : ∀ n : Nat, (∀ i, i < n → ∃ b, Q i b) → ∃ l : List α, l.length = n ∧ ∀ i b, l[i]? = some b → Q i b
  | 0, _ => ⟨[], rfl, fun i b h => by simp at h⟩
  | n + 1, h => by
    obtain ⟨l, hl, hq⟩ := list_of n (fun i hi => h i (by omega))
    obtain ⟨b, hb⟩ := h n (by omega)
    refine ⟨l ++ [b], by simp [hl], fun i x hx => ?_⟩
    rcases Nat.lt_or_ge i l.length with hi | hi
    · rw [List.getElem?_append_left hi] at hx; exact hq i x hx
    · rw [List.getElem?_append_right hi] at hx
      have h0 : i - l.length = 0 := by
        rcases Nat.eq_zero_or_pos (i - l.length) with h0 | h0
        · exact h0
        · rw [List.getElem?_eq_none (by simp; omega)] at hx; cases hx
      rw [h0] at hx
      have hi' : i = n := by omega
      simp at hx
      subst hx; subst hi'; exact hb
theorem i64_of {x : Int} (h : (Lit.int .i64 x).wf = true) : I64 x := by
  simp [Lit.wf, IntKind.min, IntKind.max, IntKind.signed, IntKind.bits] at h
  exact ⟨by omega, by omega⟩
theorem u8_of {x : Int} (h : (Lit.int .u8 x).wf = true) : 0 ≤ x ∧ x ≤ 255 := by
  simp [Lit.wf, IntKind.min, IntKind.max, IntKind.signed, IntKind.bits] at h
  exact ⟨by omega, by omega⟩
theorem cellsInt : Tryz.prog.cellsOf 3 = 1 := by kernel_rfl
theorem cellsU8 : Tryz.prog.cellsOf 5 = 1 := by kernel_rfl
theorem cellsBool : Tryz.prog.cellsOf 4 = 1 := by kernel_rfl
theorem cellsBytes : Tryz.prog.cellsOf 53 = 1 := by kernel_rfl
theorem cellsOp : Tryz.prog.cellsOf 115 = 3 := by kernel_rfl
theorem rd_of_add {w : World} {a : Addr} {xs : List Value} (h : ∀ j u, xs[j]? = some u → w.cell? (a.add j) = some u) : Rd w w.heap.size (some a) xs := by
  intro j u hu
  have hlen : j < xs.length := (List.getElem?_eq_some_iff.1 hu).1
  have h0 : ∃ u0, w.cell? (a.add 0) = some u0 := ⟨xs[0], h 0 _ (List.getElem?_eq_getElem (by omega))⟩
  obtain ⟨u0, h0⟩ := h0
  have hsp : a.spot = none := by simpa [Addr.add] using World.cell?_spot h0
  obtain ⟨g, o, s⟩ := a
  simp only at hsp
  subst hsp
  have hc := h j u hu
  rw [add_off] at hc
  exact ⟨g, o, rfl, block_lt_of_cell hc, hc⟩

/-- What a walk is told of a slice of bytes. -/
structure BytesIn (w : World) (v : Value) (A : Option Addr) (xs : List Int) (c : Nat) : Prop where
  val : v = .slice A xs.length c
  rd : Rd w w.heap.size A (xs.map (Value.int .u8))
  ok : ∀ x ∈ xs, 0 ≤ x ∧ x ≤ 255
  room : A = none → c = 0
  big : xs.length ≤ 9223372036854775807
section
variable {H : Type} {enc : TypeId × Value → H} {w : World} {base : Nat} {spare : Nat → Bool} {held : Bool}
theorem open_bytes {fuel : Nat} {v : Value} {y : DataW H × List MemPlace} (h : DataW.trod enc Tryz.prog w base spare held fuel 53 [v] = some y) : ∃ A xs c, BytesIn w v A xs c := by
  rcases open_slice Tryz.underlying53 h with ⟨hcs, _⟩ | ⟨a, len, cap, m, n, D, Pl, hcs, _, hl, hm, hmm, _, hel⟩
  · simp at hcs
    subst hcs
    exact ⟨none, [], 0, rfl, Rd.nil_ _ _ _, by simp, fun _ => rfl, by simp⟩
  · simp at hcs
    subst hcs
    have hlm : len ≤ m := by rw [hmm]; split <;> omega
    obtain ⟨l, hll, hq⟩ := list_of (Q := fun i (b : Int) => (0 ≤ b ∧ b ≤ 255) ∧ w.cell? (a.add i) = some (.int .u8 b)) len (fun i hi => by
      obtain ⟨cs', hc, ht⟩ := hel i (by omega)
      rw [cellsU8] at hc
      obtain ⟨_, hcl, hat⟩ := World.cells?_some hc
      match cs', hcl with
      | [c0], _ =>
        obtain ⟨n0, e0, _, w0⟩ := DataW.trod_int Tryz.underlying5 ht
        simp at e0
        subst e0
        refine ⟨n0, u8_of w0, ?_⟩
        have := hat 0 (by omega)
        simpa [Go.Deep.add_add] using this)
    refine ⟨some a, l, cap, by rw [hll], rd_of_add fun j u hu => ?_, fun b hb => ?_, (fun h => by cases h), by unfold maxLen at hm; omega⟩
    · rw [List.getElem?_map] at hu
      obtain ⟨x, hx, rfl⟩ := Option.map_eq_some_iff.1 hu
      exact (hq j x hx).2
    · obtain ⟨i, hi⟩ := List.mem_iff_getElem?.1 hb
      exact (hq i b hi).1
/-- What is told of an operation that can be read. -/
structure OpIn (w : World) (o : OpV) : Prop where
  at_ : I64 o.at_
  rd : Rd w w.heap.size o.A (o.xs.map (Value.int .u8))
  n : o.xs.length ≤ 9223372036854775807
structure OpsIn (w : World) (v : Value) (A : Option Addr) (l : List OpV) (c : Nat) : Prop where
  val : v = .slice A l.length c
  rd : Rd w w.heap.size A (flatOps l)
  ok : ∀ o ∈ l, OpIn w o
  big : l.length ≤ 9223372036854775807
theorem flatOps_len (l : List OpV) : (flatOps l).length = l.length * 3 := flat_len _ 3 opcells_len l
theorem open_op {fuel : Nat} {cs : List Value} {y : DataW H × List MemPlace} (hcs : cs.length = 3) (h : DataW.trod enc Tryz.prog w base spare held fuel 115 cs = some y) : ∃ o : OpV, cs = o.cells ∧ OpIn w o := by
  match cs, hcs with
  | [c0, c1, c2], _ =>
    obtain ⟨xs, k, _, _, _, hxl, hf⟩ := DataW.trod_struct Tryz.underlying115 h
    match xs, hxl with
    | [x0, x1, x2], _ =>
      have f0 : DataW.trod enc Tryz.prog w base spare held k 4 (([c0, c1, c2].drop 0).take (Tryz.prog.cellsOf 4)) = some x0 := hf 0 _ rfl
      have f1 : DataW.trod enc Tryz.prog w base spare held k 3 (([c0, c1, c2].drop 1).take (Tryz.prog.cellsOf 3)) = some x1 := hf 1 _ rfl
      have f2 : DataW.trod enc Tryz.prog w base spare held k 53 (([c0, c1, c2].drop 2).take (Tryz.prog.cellsOf 53)) = some x2 := hf 2 _ rfl
      rw [cellsBool] at f0
      rw [cellsInt] at f1
      rw [cellsBytes] at f2
      obtain ⟨b0, e0, _⟩ := DataW.trod_bool Tryz.underlying4 f0
      obtain ⟨n1, e1, _, w1⟩ := DataW.trod_int Tryz.underlying3 f1
      have f2' : DataW.trod enc Tryz.prog w base spare held k 53 [c2] = some x2 := f2
      obtain ⟨A, bs, c, hb⟩ := open_bytes f2'
      simp at e0 e1
      have e2 := hb.val
      subst e0; subst e1; subst e2
      exact ⟨⟨b0, n1, bs, A, c⟩, rfl, i64_of w1, hb.rd, hb.big⟩
theorem open_ops {fuel : Nat} {v : Value} {y : DataW H × List MemPlace} (h : DataW.trod enc Tryz.prog w base spare held fuel 88 [v] = some y) : ∃ A l c, OpsIn w v A l c := by
  rcases open_slice Tryz.underlying88 h with ⟨hcs, _⟩ | ⟨a, len, cap, m, n, D, Pl, hcs, _, hl, hm, hmm, _, hel⟩
  · simp at hcs
    subst hcs
    exact ⟨none, [], 0, rfl, Rd.nil_ _ _ _, by simp, by simp⟩
  · simp at hcs
    subst hcs
    have hlm : len ≤ m := by rw [hmm]; split <;> omega
    obtain ⟨l, hll, hq⟩ := list_of (Q := fun i (o : OpV) => OpIn w o ∧ ∀ t u, o.cells[t]? = some u → w.cell? (a.add (i * 3 + t)) = some u) len (fun i hi => by
      obtain ⟨cs', hc, ht⟩ := hel i (by omega)
      rw [cellsOp] at hc
      obtain ⟨_, hcl, hat⟩ := World.cells?_some hc
      obtain ⟨o, rfl, ho⟩ := open_op hcl ht
      refine ⟨o, ho, fun t u hu => ?_⟩
      have ht3 : t < 3 := (List.getElem?_eq_some_iff.1 hu).1
      rw [← Go.Deep.add_add, hat t ht3]
      exact hu)
    refine ⟨some a, l, cap, by rw [hll], rd_of_add fun j u hu => ?_, fun b hb => ?_, by unfold maxLen at hm; omega⟩
    · have hj : j < l.length * 3 := by rw [← flatOps_len]; exact (List.getElem?_eq_some_iff.1 hu).1
      have hj4 : j = j / 3 * 3 + j % 3 := by omega
      rw [hj4] at hu
      unfold flatOps at hu
      rw [flat_get _ 3 opcells_len l _ _ (by omega), List.getElem?_eq_getElem (show j / 3 < l.length by omega)] at hu
      have := (hq (j / 3) _ (List.getElem?_eq_getElem (by omega))).2 (j % 3) u hu
      rw [hj4]; exact this
    · obtain ⟨i, hi⟩ := List.mem_iff_getElem?.1 hb
      exact (hq i b hi).1
set_option maxRecDepth 100000 in
theorem open_opsv {r : Reach} {b0 : Nat} {v : Value} {d : DataW H} {p : List MemPlace} (hv : Value.okWide Tryz.prog w r b0 88 v) (h : DataW.Trod enc Tryz.prog w base spare held 88 v d p) : ∃ A l c, v = .slice A l.length c ∧ OpsIn w (.slice A l.length c) A l c := by
  obtain ⟨a0, n0, c0, rfl⟩ := Go.WideShapes.okWide_slice Tryz.underlying88 hv
  obtain ⟨fuel, hf⟩ := h
  obtain ⟨A, l, c, hl⟩ := open_ops hf
  refine ⟨A, l, c, hl.val, ?_⟩
  rw [← hl.val]; exact hl
set_option maxRecDepth 100000 in
theorem open_bytesv {r : Reach} {b0 : Nat} {v : Value} {d : DataW H} {p : List MemPlace} (hv : Value.okWide Tryz.prog w r b0 53 v) (h : DataW.Trod enc Tryz.prog w base spare held 53 v d p) : ∃ A xs c, v = .slice A xs.length c ∧ BytesIn w (.slice A xs.length c) A xs c := by
  obtain ⟨a0, n0, c0, rfl⟩ := Go.WideShapes.okWide_slice Tryz.underlying53 hv
  obtain ⟨fuel, hf⟩ := h
  obtain ⟨A, l, c, hl⟩ := open_bytes hf
  refine ⟨A, l, c, hl.val, ?_⟩
  rw [← hl.val]; exact hl
set_option maxRecDepth 100000 in
/-- A geometry by value. -/
theorem open_geo {r : Reach} {b0 : Nat} {v : Value} {d : DataW H} {p : List MemPlace} (hv : Value.okWide Tryz.prog w r b0 23 v) (h : DataW.Trod enc Tryz.prog w base spare held 23 v d p) : ∃ g : Geo, v = .agg #[.int .i64 g.random, .int .i64 g.bands, .int .i64 g.tracks, .int .i64 g.sectors, .int .i64 g.overlap] ∧ g.Ok := by
  obtain ⟨cs, rfl, hsz⟩ := Go.WideShapes.okWide_struct Tryz.underlying23 hv
  rw [show Tryz.prog.cellsOf 23 = 5 from by kernel_rfl] at hsz
  obtain ⟨l⟩ := cs
  match l, hsz with
  | [c0, c1, c2, c3, c4], _ =>
    obtain ⟨fuel, hf⟩ := h
    obtain ⟨xs, k, _, _, _, hxl, hf⟩ := DataW.trod_struct Tryz.underlying23 hf
    match xs, hxl with
    | [x0, x1, x2, x3, x4], _ =>
      have f0 : DataW.trod enc Tryz.prog w base spare held k 3 (([c0, c1, c2, c3, c4].drop 0).take (Tryz.prog.cellsOf 3)) = some x0 := hf 0 _ rfl
      have f1 : DataW.trod enc Tryz.prog w base spare held k 3 (([c0, c1, c2, c3, c4].drop 1).take (Tryz.prog.cellsOf 3)) = some x1 := hf 1 _ rfl
      have f2 : DataW.trod enc Tryz.prog w base spare held k 3 (([c0, c1, c2, c3, c4].drop 2).take (Tryz.prog.cellsOf 3)) = some x2 := hf 2 _ rfl
      have f3 : DataW.trod enc Tryz.prog w base spare held k 3 (([c0, c1, c2, c3, c4].drop 3).take (Tryz.prog.cellsOf 3)) = some x3 := hf 3 _ rfl
      have f4 : DataW.trod enc Tryz.prog w base spare held k 3 (([c0, c1, c2, c3, c4].drop 4).take (Tryz.prog.cellsOf 3)) = some x4 := hf 4 _ rfl
      rw [cellsInt] at f0 f1 f2 f3 f4
      obtain ⟨n0, e0, _, w0⟩ := DataW.trod_int Tryz.underlying3 f0
      obtain ⟨n1, e1, _, w1⟩ := DataW.trod_int Tryz.underlying3 f1
      obtain ⟨n2, e2, _, w2⟩ := DataW.trod_int Tryz.underlying3 f2
      obtain ⟨n3, e3, _, w3⟩ := DataW.trod_int Tryz.underlying3 f3
      obtain ⟨n4, e4, _, w4⟩ := DataW.trod_int Tryz.underlying3 f4
      simp at e0 e1 e2 e3 e4
      subst e0; subst e1; subst e2; subst e3; subst e4
      exact ⟨⟨n0, n1, n2, n3, n4⟩, rfl, i64_of w0, i64_of w1, i64_of w2, i64_of w3, i64_of w4⟩
end
end Go.Proofs.YtckdhhadlemakaaGreat
