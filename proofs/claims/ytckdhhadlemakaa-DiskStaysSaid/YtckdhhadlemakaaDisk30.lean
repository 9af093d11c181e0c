/-
  WHAT IS SHOWN: what a walk is told of the cases of tegulalaw14. Conditions: that the values can be read.
-/
import Derived.Test.YtckdhhadlemakaaDisk19
import Derived.Test.YtckdhhadlemakaaMedOpen
namespace Go.Proofs.Ytckdhhadlemakaa
set_option linter.unusedVariables false
open Go.ChangeShapes Go.WideShapes Go.ChangeAt Go.RowKit Go.Deep

theorem cellsFlt' : Try.prog.cellsOf 122 = 3 := by kernel_rfl
theorem cellsAct : Try.prog.cellsOf 78 = 6 := by kernel_rfl
theorem cellsU64' : Try.prog.cellsOf 73 = 1 := by kernel_rfl
theorem cellsFlts : Try.prog.cellsOf 46 = 1 := by kernel_rfl
theorem cellsFlts2 : Try.prog.cellsOf 61 = 2 := by kernel_rfl
theorem cellsActs : Try.prog.cellsOf 62 = 1 := by kernel_rfl
theorem cellsGeo5 : Try.prog.cellsOf 23 = 5 := by kernel_rfl
structure ActIn (w : World) (a : ActV) : Prop where
  at_ : I64 a.at_
  rd : Rd w w.heap.size a.A (a.xs.map (Value.int .u8))
  n : a.xs.length ≤ 9223372036854775807
  c : a.xs.length ≤ a.c
  dk : 0 ≤ a.disk ∧ a.disk ≤ 255
  kd : 0 ≤ a.kind ∧ a.kind ≤ 255
structure FltsIn (w : World) (A : Option Addr) (l : List Flt) : Prop where
  rd : Rd w w.heap.size A (flatF l)
  to_ : ∀ f ∈ l, I64 f.to_
  n : l.length ≤ 9223372036854775807
structure ActsIn (w : World) (A : Option Addr) (l : List ActV) : Prop where
  rd : Rd w w.heap.size A (flatA l)
  ok : ∀ a ∈ l, ActIn w a
  n : l.length ≤ 9223372036854775807
theorem flatA_len (l : List ActV) : (flatA l).length = l.length * 6 := flat_len _ 6 actcells_len l
section
variable {H : Type} {enc : TypeId × Value → H} {w : World} {base : Nat} {spare : Nat → Bool} {held : Bool}
set_option maxRecDepth 100000 in
theorem open_flt' {fuel : Nat} {cs : List Value} {y : DataW H × List MemPlace} (hcs : cs.length = 3) (h : DataW.trod enc Try.prog w base spare held fuel 122 cs = some y) : ∃ f : Flt, cs = f.cells ∧ I64 f.to_ := by
  match cs, hcs with
  | [c0, c1, c2], _ =>
    obtain ⟨xs, k, _, _, _, hxl, hf⟩ := DataW.trod_struct Try.underlying122 h
    match xs, hxl with
    | [x0, x1, x2], _ =>
      have f0 : DataW.trod enc Try.prog w base spare held k 3 (([c0, c1, c2].drop 0).take (Try.prog.cellsOf 3)) = some x0 := hf 0 _ rfl
      have f1 : DataW.trod enc Try.prog w base spare held k 3 (([c0, c1, c2].drop 1).take (Try.prog.cellsOf 3)) = some x1 := hf 1 _ rfl
      have f2 : DataW.trod enc Try.prog w base spare held k 3 (([c0, c1, c2].drop 2).take (Try.prog.cellsOf 3)) = some x2 := hf 2 _ rfl
      rw [cellsInt] at f0 f1 f2
      obtain ⟨n0, e0, _, _⟩ := DataW.trod_int Try.underlying3 f0
      obtain ⟨n1, e1, _, _⟩ := DataW.trod_int Try.underlying3 f1
      obtain ⟨n2, e2, _, w2⟩ := DataW.trod_int Try.underlying3 f2
      simp at e0 e1 e2
      subst e0; subst e1; subst e2
      exact ⟨⟨n0, n1, n2⟩, rfl, i64_of w2⟩
set_option maxRecDepth 100000 in
theorem open_flts' {fuel : Nat} {v : Value} {y : DataW H × List MemPlace} (h : DataW.trod enc Try.prog w base spare held fuel 46 [v] = some y) : ∃ A l c, v = .slice A l.length c ∧ FltsIn w A l := by
  rcases open_slice Try.underlying46 h with ⟨hcs, _⟩ | ⟨a, len, cap, m, n, D, Pl, hcs, _, hl, hm, hmm, hx, hel⟩
  · simp at hcs
    subst hcs
    exact ⟨none, [], 0, rfl, Rd.nil_ _ _ _, by simp, by simp⟩
  · simp at hcs
    subst hcs
    have hlm : len ≤ m := by rw [hmm]; split <;> omega
    obtain ⟨l, hll, hq⟩ := list_of (Q := fun i (o : Flt) => I64 o.to_ ∧ ∀ t u, o.cells[t]? = some u → w.cell? (a.add (i * 3 + t)) = some u) len (fun i hi => by
      obtain ⟨cs', hc, ht⟩ := hel i (by omega)
      rw [cellsFlt'] at hc
      obtain ⟨_, hcl, hat⟩ := World.cells?_some hc
      obtain ⟨o, rfl, h1⟩ := open_flt' hcl ht
      refine ⟨o, h1, fun t u hu => ?_⟩
      have ht3 : t < 3 := (List.getElem?_eq_some_iff.1 hu).1
      rw [← Go.Deep.add_add, hat t ht3]
      exact hu)
    refine ⟨some a, l, cap, by rw [hll], rd_of_add fun j u hu => ?_, fun b hb => ?_, by unfold maxLen at hm; omega⟩
    · have hj : j < l.length * 3 := by rw [← flatF_len]; exact (List.getElem?_eq_some_iff.1 hu).1
      have hj4 : j = j / 3 * 3 + j % 3 := by omega
      rw [hj4] at hu
      unfold flatF at hu
      rw [flat_get _ 3 fltcells_len l _ _ (by omega), List.getElem?_eq_getElem (show j / 3 < l.length by omega)] at hu
      have := (hq (j / 3) _ (List.getElem?_eq_getElem (by omega))).2 (j % 3) u hu
      rw [hj4]; exact this
    · obtain ⟨i, hi⟩ := List.mem_iff_getElem?.1 hb
      exact (hq i b hi).1
set_option maxRecDepth 100000 in
theorem open_act {fuel : Nat} {cs : List Value} {y : DataW H × List MemPlace} (hcs : cs.length = 6) (h : DataW.trod enc Try.prog w base spare held fuel 78 cs = some y) : ∃ a : ActV, cs = a.cells ∧ ActIn w a := by
  match cs, hcs with
  | [c0, c1, c2, c3, c4, c5], _ =>
    obtain ⟨xs, k, _, _, _, hxl, hf⟩ := DataW.trod_struct Try.underlying78 h
    match xs, hxl with
    | [x0, x1, x2, x3, x4, x5], _ =>
      have f0 : DataW.trod enc Try.prog w base spare held k 5 (([c0, c1, c2, c3, c4, c5].drop 0).take (Try.prog.cellsOf 5)) = some x0 := hf 0 _ rfl
      have f1 : DataW.trod enc Try.prog w base spare held k 5 (([c0, c1, c2, c3, c4, c5].drop 1).take (Try.prog.cellsOf 5)) = some x1 := hf 1 _ rfl
      have f2 : DataW.trod enc Try.prog w base spare held k 73 (([c0, c1, c2, c3, c4, c5].drop 2).take (Try.prog.cellsOf 73)) = some x2 := hf 2 _ rfl
      have f3 : DataW.trod enc Try.prog w base spare held k 3 (([c0, c1, c2, c3, c4, c5].drop 3).take (Try.prog.cellsOf 3)) = some x3 := hf 3 _ rfl
      have f4 : DataW.trod enc Try.prog w base spare held k 76 (([c0, c1, c2, c3, c4, c5].drop 4).take (Try.prog.cellsOf 76)) = some x4 := hf 4 _ rfl
      have f5 : DataW.trod enc Try.prog w base spare held k 4 (([c0, c1, c2, c3, c4, c5].drop 5).take (Try.prog.cellsOf 4)) = some x5 := hf 5 _ rfl
      rw [cellsU8] at f0 f1
      rw [cellsU64'] at f2
      rw [cellsInt] at f3
      rw [cellsBytes] at f4
      rw [cellsBool] at f5
      obtain ⟨n0, e0, _, w0⟩ := DataW.trod_int Try.underlying5 f0
      obtain ⟨n1, e1, _, w1⟩ := DataW.trod_int Try.underlying5 f1
      obtain ⟨n2, e2, _, _⟩ := DataW.trod_int Try.underlying73 f2
      obtain ⟨n3, e3, _, w3⟩ := DataW.trod_int Try.underlying3 f3
      obtain ⟨b5, e5, _⟩ := DataW.trod_bool Try.underlying4 f5
      have f4' : DataW.trod enc Try.prog w base spare held k 76 [c4] = some x4 := f4
      obtain ⟨A, bs, c, hb⟩ := open_bytes f4'
      have hcap : bs.length ≤ c := by
        rcases open_slice Try.underlying76 f4' with ⟨hcs, _⟩ | ⟨a, len, cap, m, n, D, Pl, hcs, _, hl, _⟩
        · have e := hb.val
          simp at hcs; rw [hcs] at e
          injection e with _ e2 e3; omega
        · have e := hb.val
          simp at hcs; rw [hcs] at e
          injection e with _ e2 e3; omega
      simp at e0 e1 e2 e3 e5
      have e4 := hb.val
      subst e0; subst e1; subst e2; subst e3; subst e4; subst e5
      exact ⟨⟨n0, n1, n2, n3, A, bs, c, b5⟩, rfl, i64_of w3, hb.rd, hb.big, hcap, u8_of w0, u8_of w1⟩
set_option maxRecDepth 100000 in
theorem open_acts {fuel : Nat} {v : Value} {y : DataW H × List MemPlace} (h : DataW.trod enc Try.prog w base spare held fuel 62 [v] = some y) : ∃ A l c, v = .slice A l.length c ∧ ActsIn w A l := by
  rcases open_slice Try.underlying62 h with ⟨hcs, _⟩ | ⟨a, len, cap, m, n, D, Pl, hcs, _, hl, hm, hmm, hx, hel⟩
  · simp at hcs
    subst hcs
    exact ⟨none, [], 0, rfl, Rd.nil_ _ _ _, by simp, by simp⟩
  · simp at hcs
    subst hcs
    have hlm : len ≤ m := by rw [hmm]; split <;> omega
    obtain ⟨l, hll, hq⟩ := list_of (Q := fun i (o : ActV) => ActIn w o ∧ ∀ t u, o.cells[t]? = some u → w.cell? (a.add (i * 6 + t)) = some u) len (fun i hi => by
      obtain ⟨cs', hc, ht⟩ := hel i (by omega)
      rw [cellsAct] at hc
      obtain ⟨_, hcl, hat⟩ := World.cells?_some hc
      obtain ⟨o, rfl, h1⟩ := open_act hcl ht
      refine ⟨o, h1, fun t u hu => ?_⟩
      have ht3 : t < 6 := (List.getElem?_eq_some_iff.1 hu).1
      rw [← Go.Deep.add_add, hat t ht3]
      exact hu)
    refine ⟨some a, l, cap, by rw [hll], rd_of_add fun j u hu => ?_, fun b hb => ?_, by unfold maxLen at hm; omega⟩
    · have hj : j < l.length * 6 := by rw [← flatA_len]; exact (List.getElem?_eq_some_iff.1 hu).1
      have hj4 : j = j / 6 * 6 + j % 6 := by omega
      rw [hj4] at hu
      unfold flatA at hu
      rw [flat_get _ 6 actcells_len l _ _ (by omega), List.getElem?_eq_getElem (show j / 6 < l.length by omega)] at hu
      have := (hq (j / 6) _ (List.getElem?_eq_getElem (by omega))).2 (j % 6) u hu
      rw [hj4]; exact this
    · obtain ⟨i, hi⟩ := List.mem_iff_getElem?.1 hb
      exact (hq i b hi).1
/-- What a walk is told of a case. -/
structure CaseIn (w : World) (g : Geo) (A0 A1 AA : Option Addr) (l0 l1 : List Flt) (acts : List ActV) : Prop where
  g : g.Ok
  f0 : FltsIn w A0 l0
  f1 : FltsIn w A1 l1
  a : ActsIn w AA acts
set_option maxRecDepth 100000 in
theorem open_casev {r : Reach} {b0 : Nat} {v : Value} {d : DataW H} {p : List MemPlace} (hv : Value.okWide Try.prog w r b0 64 v) (h : DataW.Trod enc Try.prog w base spare held 64 v d p) :
    ∃ (g : Geo) (A0 A1 AA : Option Addr) (l0 l1 : List Flt) (acts : List ActV) (c0 c1 ca : Nat), v = .agg #[.int .i64 g.random, .int .i64 g.bands, .int .i64 g.tracks, .int .i64 g.sectors, .int .i64 g.overlap, .slice A0 l0.length c0, .slice A1 l1.length c1, .slice AA acts.length ca] ∧ CaseIn w g A0 A1 AA l0 l1 acts := by
  obtain ⟨cs, rfl, hsz⟩ := Go.WideShapes.okWide_struct Try.underlying64 hv
  rw [show Try.prog.cellsOf 64 = 8 from by kernel_rfl] at hsz
  obtain ⟨l⟩ := cs
  match l, hsz with
  | [c0, c1, c2, c3, c4, c5, c6, c7], _ =>
    obtain ⟨fuel, hf⟩ := h
    obtain ⟨xs, k, _, _, _, hxl, hf⟩ := DataW.trod_struct Try.underlying64 hf
    match xs, hxl with
    | [x0, x1, x2], _ =>
      have f0 : DataW.trod enc Try.prog w base spare held k 23 (([c0, c1, c2, c3, c4, c5, c6, c7].drop 0).take (Try.prog.cellsOf 23)) = some x0 := hf 0 _ rfl
      have f1 : DataW.trod enc Try.prog w base spare held k 61 (([c0, c1, c2, c3, c4, c5, c6, c7].drop 5).take (Try.prog.cellsOf 61)) = some x1 := hf 1 _ rfl
      have f2 : DataW.trod enc Try.prog w base spare held k 62 (([c0, c1, c2, c3, c4, c5, c6, c7].drop 7).take (Try.prog.cellsOf 62)) = some x2 := hf 2 _ rfl
      rw [cellsGeo5] at f0
      rw [cellsFlts2] at f1
      rw [cellsActs] at f2
      have f0' : DataW.trod enc Try.prog w base spare held k 23 [c0, c1, c2, c3, c4] = some x0 := f0
      have f1' : DataW.trod enc Try.prog w base spare held k 61 [c5, c6] = some x1 := f1
      have f2' : DataW.trod enc Try.prog w base spare held k 62 [c7] = some x2 := f2
      obtain ⟨AA, acts, ca, rfl, ha⟩ := open_acts f2'
      obtain ⟨ys, m, _, _, _, hyl, hy⟩ := DataW.trod_array Try.underlying61 f1'
      match ys, hyl with
      | [y0, y1], _ =>
        have g0 := hy 0 (by decide)
        have g1 := hy 1 (by decide)
        rw [cellsFlts] at g0 g1
        have g0' : DataW.trod enc Try.prog w base spare held m 46 [c5] = some y0 := g0
        have g1' : DataW.trod enc Try.prog w base spare held m 46 [c6] = some y1 := g1
        obtain ⟨A0, l0, k0, rfl, h0⟩ := open_flts' g0'
        obtain ⟨A1, l1, k1, rfl, h1⟩ := open_flts' g1'
        obtain ⟨zs, m2, _, _, _, hzl, hz⟩ := DataW.trod_struct Try.underlying23 f0'
        match zs, hzl with
        | [z0, z1, z2, z3, z4], _ =>
          have i0 : DataW.trod enc Try.prog w base spare held m2 3 (([c0, c1, c2, c3, c4].drop 0).take (Try.prog.cellsOf 3)) = some z0 := hz 0 _ rfl
          have i1 : DataW.trod enc Try.prog w base spare held m2 3 (([c0, c1, c2, c3, c4].drop 1).take (Try.prog.cellsOf 3)) = some z1 := hz 1 _ rfl
          have i2 : DataW.trod enc Try.prog w base spare held m2 3 (([c0, c1, c2, c3, c4].drop 2).take (Try.prog.cellsOf 3)) = some z2 := hz 2 _ rfl
          have i3 : DataW.trod enc Try.prog w base spare held m2 3 (([c0, c1, c2, c3, c4].drop 3).take (Try.prog.cellsOf 3)) = some z3 := hz 3 _ rfl
          have i4 : DataW.trod enc Try.prog w base spare held m2 3 (([c0, c1, c2, c3, c4].drop 4).take (Try.prog.cellsOf 3)) = some z4 := hz 4 _ rfl
          rw [cellsInt] at i0 i1 i2 i3 i4
          obtain ⟨n0, e0, _, w0⟩ := DataW.trod_int Try.underlying3 i0
          obtain ⟨n1, e1, _, w1⟩ := DataW.trod_int Try.underlying3 i1
          obtain ⟨n2, e2, _, w2⟩ := DataW.trod_int Try.underlying3 i2
          obtain ⟨n3, e3, _, w3⟩ := DataW.trod_int Try.underlying3 i3
          obtain ⟨n4, e4, _, w4⟩ := DataW.trod_int Try.underlying3 i4
          simp at e0 e1 e2 e3 e4
          subst e0; subst e1; subst e2; subst e3; subst e4
          exact ⟨⟨n0, n1, n2, n3, n4⟩, A0, A1, AA, l0, l1, acts, k0, k1, ca, rfl, ⟨i64_of w0, i64_of w1, i64_of w2, i64_of w3, i64_of w4⟩, h0, h1, ha⟩
end
end Go.Proofs.Ytckdhhadlemakaa
