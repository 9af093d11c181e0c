/-
  WHAT IS SHOWN: what a walk is told of the parameters of tegulalaw27: bytes, sectors, records. Conditions: that the values can be read.
-/
import Derived.Test.YtndifkjenjfjpaaRec32
import Derived.ProofKit
import Derived.OpenShut
import Derived.ChangeOld
import Derived.Deep.Slices
import Derived.Deep.Fields
import Derived.Lib.SmallJoins
namespace Go.Proofs.Ytndifkjenjfjpaa
set_option linter.unusedVariables false
open Go.ChangeShapes Go.WideShapes Go.ChangeAt Go.RowKit Go.Deep

theorem own : ownKnob Try.prog.godebug = none := by kernel_rfl
theorem laidOut : laidOutB Try.prog = true := by kernel_rfl
theorem list_of {α : Type} {Q : Nat → α → Prop} : ∀ n : Nat, (∀ i, i < n → ∃ b, Q i b) → ∃ l : List α, l.length = n ∧ ∀ i b, l[i]? = some b → Q i b
  | 0, _ => ⟨[], rfl, fun i b h => by simp at h⟩
  | n + 1, h => by
    obtain ⟨l, hl, hq⟩ := list_of n (fun i hi => h i (by omega))
    obtain ⟨b, hb⟩ := h n (by omega)
    refine ⟨l ++ [b], by simp [hl], fun i x hx => ?_⟩
    rcases Nat.lt_or_ge i l.length with hi | hi
    · rw [List.getElem?_append_left hi] at hx; exact hq i x hx
    · rw [List.getElem?_append_right hi] at hx
      have h0 : i - l.length = 0 := by
        rcases Nat.eq_zero_or_pos (i - l.length) with h0 | h0
        · exact h0
        · rw [List.getElem?_eq_none (by simp; omega)] at hx; cases hx
      rw [h0] at hx
      have hi' : i = n := by omega
      simp at hx
      subst hx; subst hi'; exact hb
theorem i64_of {x : Int} (h : (Lit.int .i64 x).wf = true) : I64 x := by
  simp [Lit.wf, IntKind.min, IntKind.max, IntKind.signed, IntKind.bits] at h
  exact ⟨by omega, by omega⟩
theorem u8_of {x : Int} (h : (Lit.int .u8 x).wf = true) : 0 ≤ x ∧ x ≤ 255 := by
  simp [Lit.wf, IntKind.min, IntKind.max, IntKind.signed, IntKind.bits] at h
  exact ⟨by omega, by omega⟩
theorem u64_of {x : Int} (h : (Lit.int .u64 x).wf = true) : 0 ≤ x ∧ x < 18446744073709551616 := by
  simp [Lit.wf, IntKind.min, IntKind.max, IntKind.signed, IntKind.bits] at h
  exact ⟨by omega, by omega⟩
theorem cellsInt : Try.prog.cellsOf 3 = 1 := by kernel_rfl
theorem cellsU8 : Try.prog.cellsOf 5 = 1 := by kernel_rfl
theorem cellsU64 : Try.prog.cellsOf 22 = 1 := by kernel_rfl
theorem cellsBytes : Try.prog.cellsOf 25 = 1 := by kernel_rfl
theorem cellsBlock : Try.prog.cellsOf 75 = 8 := by kernel_rfl
theorem cellsPlace : Try.prog.cellsOf 80 = 2 := by kernel_rfl
theorem cellsPW : Try.prog.cellsOf 77 = 11 := by kernel_rfl
theorem cellsMv : Try.prog.cellsOf 82 = 4 := by kernel_rfl
theorem cellsPWs : Try.prog.cellsOf 23 = 1 := by kernel_rfl
theorem cellsMvs : Try.prog.cellsOf 24 = 1 := by kernel_rfl
theorem rd_of_add {w : World} {a : Addr} {xs : List Value} (h : ∀ j u, xs[j]? = some u → w.cell? (a.add j) = some u) : Rd w w.heap.size (some a) xs := by
  intro j u hu
  have hlen : j < xs.length := (List.getElem?_eq_some_iff.1 hu).1
  have h0 : ∃ u0, w.cell? (a.add 0) = some u0 := ⟨xs[0], h 0 _ (List.getElem?_eq_getElem (by omega))⟩
  obtain ⟨u0, h0⟩ := h0
  have hsp : a.spot = none := by simpa [Addr.add] using World.cell?_spot h0
  obtain ⟨g, o, s⟩ := a
  simp only at hsp
  subst hsp
  have hc := h j u hu
  rw [add_off] at hc
  exact ⟨g, o, rfl, block_lt_of_cell hc, hc⟩
theorem list8v {α : Type} {l : List α} (h : l.length = 8) : ∃ a0 a1 a2 a3 a4 a5 a6 a7, l = [a0, a1, a2, a3, a4, a5, a6, a7] := by
  match l, h with
  | [a0, a1, a2, a3, a4, a5, a6, a7], _ => exact ⟨a0, a1, a2, a3, a4, a5, a6, a7, rfl⟩
/-- What a walk is told of a slice of bytes. -/
structure BytesIn (w : World) (v : Value) (s : Sl) : Prop where
  val : v = s.v
  rd : Rd w w.heap.size s.A (s.xs.map (Value.int .u8))
  ok : U8s s.xs
  cap : s.xs.length ≤ s.c
  big : s.c ≤ 9223372036854775807
section
variable {H : Type} {enc : TypeId × Value → H} {w : World} {base : Nat} {spare : Nat → Bool} {held : Bool}
theorem open_bytes {fuel : Nat} {v : Value} {y : DataW H × List MemPlace} (h : DataW.trod enc Try.prog w base spare held fuel 25 [v] = some y) : ∃ s, BytesIn w v s := by
  rcases open_slice Try.underlying25 h with ⟨hcs, _⟩ | ⟨a, len, cap, m, n, D, Pl, hcs, hx1, hl, hm, hmm, hx2, hel⟩
  · simp at hcs
    subst hcs
    exact ⟨⟨none, [], 0⟩, rfl, Rd.nil_ _ _ _, fun x hx => by simp at hx, Nat.le_refl _, Nat.zero_le _⟩
  · simp at hcs
    subst hcs
    have hlm : len ≤ m := by rw [hmm]; split <;> omega
    obtain ⟨l, hll, hq⟩ := list_of (Q := fun i (b : Int) => (0 ≤ b ∧ b ≤ 255) ∧ w.cell? (a.add i) = some (.int .u8 b)) len (fun i hi => by
      obtain ⟨cs', hc, ht⟩ := hel i (by omega)
      rw [cellsU8] at hc
      obtain ⟨_, hcl, hat⟩ := World.cells?_some hc
      match cs', hcl with
      | [c0], _ =>
        obtain ⟨n0, e0, _, w0⟩ := DataW.trod_int Try.underlying5 ht
        simp at e0
        subst e0
        refine ⟨n0, u8_of w0, ?_⟩
        have := hat 0 (by omega)
        simpa [Go.Deep.add_add] using this)
    refine ⟨⟨some a, l, cap⟩, by unfold Sl.v; rw [hll], rd_of_add fun j u hu => ?_, fun b hb => ?_, by show l.length ≤ cap; omega, by show cap ≤ _; unfold maxLen at hm; omega⟩
    · rw [List.getElem?_map] at hu
      obtain ⟨x, hx, rfl⟩ := Option.map_eq_some_iff.1 hu
      exact (hq j x hx).2
    · obtain ⟨i, hi⟩ := List.mem_iff_getElem?.1 hb
      exact (hq i b hi).1
/-- What a walk is told of sectors. -/
structure SecsIn (w : World) (v : Value) (A : Option Addr) (ss : List Sl) (c : Nat) : Prop where
  val : v = .slice A ss.length c
  rd : SlsR w w.heap.size A ss
  ok : ∀ s ∈ ss, U8s s.xs ∧ s.xs.length ≤ s.c ∧ s.c ≤ 9223372036854775807
  cap : ss.length ≤ c
  big : c ≤ 9223372036854775807
theorem open_secs {fuel : Nat} {v : Value} {y : DataW H × List MemPlace} (h : DataW.trod enc Try.prog w base spare held fuel 30 [v] = some y) : ∃ A ss c, SecsIn w v A ss c := by
  rcases open_slice Try.underlying30 h with ⟨hcs, _⟩ | ⟨a, len, cap, m, n, D, Pl, hcs, hx1, hl, hm, hmm, hx2, hel⟩
  · simp at hcs
    subst hcs
    exact ⟨none, [], 0, rfl, ⟨Rd.nil_ _ _ _, fun s hs => by simp at hs⟩, fun s hs => by simp at hs, Nat.le_refl _, by omega⟩
  · simp at hcs
    subst hcs
    have hlm : len ≤ m := by rw [hmm]; split <;> omega
    obtain ⟨l, hll, hq⟩ := list_of (Q := fun i (s : Sl) => BytesIn w s.v s ∧ w.cell? (a.add i) = some s.v) len (fun i hi => by
      obtain ⟨cs', hc, ht⟩ := hel i (by omega)
      rw [cellsBytes] at hc
      obtain ⟨_, hcl, hat⟩ := World.cells?_some hc
      match cs', hcl with
      | [c0], _ =>
        obtain ⟨s, hs⟩ := open_bytes ht
        have e := hs.val
        subst e
        refine ⟨s, hs, ?_⟩
        have := hat 0 (by omega)
        simpa [Go.Deep.add_add] using this)
    refine ⟨some a, l, cap, by rw [hll], ⟨rd_of_add fun j u hu => ?_, fun s hs => ?_⟩, fun s hs => ?_, by omega, by unfold maxLen at hm; omega⟩
    · rw [List.getElem?_map] at hu
      obtain ⟨x, hx, rfl⟩ := Option.map_eq_some_iff.1 hu
      exact (hq j x hx).2
    · obtain ⟨i, hi⟩ := List.mem_iff_getElem?.1 hs
      exact (hq i s hi).1.rd
    · obtain ⟨i, hi⟩ := List.mem_iff_getElem?.1 hs
      have := (hq i s hi).1
      exact ⟨this.ok, this.cap, this.big⟩
theorem open_block {fuel : Nat} {cs : List Value} {y : DataW H × List MemPlace} (hcs : cs.length = 8) (h : DataW.trod enc Try.prog w base spare held fuel 75 cs = some y) : ∃ d0 d1 d2 d3 d4 d5 d6 d7, cs = [.int .u8 d0, .int .u8 d1, .int .u8 d2, .int .u8 d3, .int .u8 d4, .int .u8 d5, .int .u8 d6, .int .u8 d7] ∧ U8s [d0, d1, d2, d3, d4, d5, d6, d7] := by
  obtain ⟨c0, c1, c2, c3, c4, c5, c6, c7, rfl⟩ := list8v hcs
  obtain ⟨xs, k, _, _, _, hxl, hf⟩ := DataW.trod_array Try.underlying75 h
  clear h
  have one : ∀ i, i < 8 → ∃ d, [c0, c1, c2, c3, c4, c5, c6, c7][i]? = some (.int .u8 d) ∧ 0 ≤ d ∧ d ≤ 255 := fun i hi => by
    have h1 := hf i hi
    rw [cellsU8, Nat.mul_one, List.getElem?_eq_getElem (by rw [hxl]; exact hi)] at h1
    obtain ⟨d, e, _, wd⟩ := DataW.trod_int Try.underlying5 h1
    refine ⟨d, ?_, u8_of wd⟩
    have h2 : (([c0, c1, c2, c3, c4, c5, c6, c7].drop i).take 1)[0]? = some (.int .u8 d) := by rw [e]; rfl
    rw [List.getElem?_take, if_pos (by omega), List.getElem?_drop] at h2
    exact h2
  · obtain ⟨d0, e0, w0⟩ := one 0 (by omega)
    obtain ⟨d1, e1, w1⟩ := one 1 (by omega)
    obtain ⟨d2, e2, w2⟩ := one 2 (by omega)
    obtain ⟨d3, e3, w3⟩ := one 3 (by omega)
    obtain ⟨d4, e4, w4⟩ := one 4 (by omega)
    obtain ⟨d5, e5, w5⟩ := one 5 (by omega)
    obtain ⟨d6, e6, w6⟩ := one 6 (by omega)
    obtain ⟨d7, e7, w7⟩ := one 7 (by omega)
    have k0 : c0 = .int .u8 d0 := Option.some.inj e0
    have k1 : c1 = .int .u8 d1 := Option.some.inj e1
    have k2 : c2 = .int .u8 d2 := Option.some.inj e2
    have k3 : c3 = .int .u8 d3 := Option.some.inj e3
    have k4 : c4 = .int .u8 d4 := Option.some.inj e4
    have k5 : c5 = .int .u8 d5 := Option.some.inj e5
    have k6 : c6 = .int .u8 d6 := Option.some.inj e6
    have k7 : c7 = .int .u8 d7 := Option.some.inj e7
    clear e0 e1 e2 e3 e4 e5 e6 e7
    subst k0; subst k1; subst k2; subst k3; subst k4; subst k5; subst k6; subst k7
    refine ⟨d0, d1, d2, d3, d4, d5, d6, d7, rfl, fun x hx => ?_⟩
    simp only [List.mem_cons, List.not_mem_nil, or_false] at hx
    rcases hx with rfl | rfl | rfl | rfl | rfl | rfl | rfl | rfl <;> assumption
theorem open_pw {fuel : Nat} {cs : List Value} {y : DataW H × List MemPlace} (hcs : cs.length = 11) (h : DataW.trod enc Try.prog w base spare held fuel 77 cs = some y) : ∃ x : PW, cs = x.cells ∧ x.Ok := by
  match cs, hcs with
  | [c0, c1, c2, c3, c4, c5, c6, c7, c8, c9, c10], _ =>
    obtain ⟨xs, k, _, _, _, hxl, hf⟩ := DataW.trod_struct Try.underlying77 h
    match xs, hxl with
    | [x0, x1, x2, x3], _ =>
      have f0 : DataW.trod enc Try.prog w base spare held k 3 (([c0, c1, c2, c3, c4, c5, c6, c7, c8, c9, c10].drop 0).take (Try.prog.cellsOf 3)) = some x0 := hf 0 _ rfl
      have f1 : DataW.trod enc Try.prog w base spare held k 3 (([c0, c1, c2, c3, c4, c5, c6, c7, c8, c9, c10].drop 1).take (Try.prog.cellsOf 3)) = some x1 := hf 1 _ rfl
      have f2 : DataW.trod enc Try.prog w base spare held k 22 (([c0, c1, c2, c3, c4, c5, c6, c7, c8, c9, c10].drop 2).take (Try.prog.cellsOf 22)) = some x2 := hf 2 _ rfl
      have f3 : DataW.trod enc Try.prog w base spare held k 75 (([c0, c1, c2, c3, c4, c5, c6, c7, c8, c9, c10].drop 3).take (Try.prog.cellsOf 75)) = some x3 := hf 3 _ rfl
      rw [cellsInt] at f0 f1
      rw [cellsU64] at f2
      rw [cellsBlock] at f3
      obtain ⟨n0, e0, _, w0⟩ := DataW.trod_int Try.underlying3 f0
      obtain ⟨n1, e1, _, w1⟩ := DataW.trod_int Try.underlying3 f1
      obtain ⟨n2, e2, _, w2⟩ := DataW.trod_int Try.underlying22 f2
      have f3' : DataW.trod enc Try.prog w base spare held k 75 [c3, c4, c5, c6, c7, c8, c9, c10] = some x3 := f3
      obtain ⟨d0, d1, d2, d3, d4, d5, d6, d7, e3, hu⟩ := open_block rfl f3'
      simp at e0 e1 e2 e3
      obtain ⟨e3, e4, e5, e6, e7, e8, e9, e10⟩ := e3
      subst e0; subst e1; subst e2; subst e3; subst e4; subst e5; subst e6; subst e7; subst e8; subst e9; subst e10
      have hn := u64_of w2
      refine ⟨⟨n0, n1, n2.toNat, d0, d1, d2, d3, d4, d5, d6, d7⟩, ?_, i64_of w0, i64_of w1, by show n2.toNat < 2 ^ 64; omega, hu⟩
      unfold PW.cells
      rw [show ((n2.toNat : Nat) : Int) = n2 from Int.toNat_of_nonneg hn.1]
theorem open_mv {fuel : Nat} {cs : List Value} {y : DataW H × List MemPlace} (hcs : cs.length = 4) (h : DataW.trod enc Try.prog w base spare held fuel 82 cs = some y) : ∃ x : Mv, cs = x.cells ∧ x.Ok := by
  match cs, hcs with
  | [c0, c1, c2, c3], _ =>
    obtain ⟨xs, k, _, _, _, hxl, hf⟩ := DataW.trod_struct Try.underlying82 h
    match xs, hxl with
    | [x0, x1, x2], _ =>
      have f0 : DataW.trod enc Try.prog w base spare held k 3 (([c0, c1, c2, c3].drop 0).take (Try.prog.cellsOf 3)) = some x0 := hf 0 _ rfl
      have f1 : DataW.trod enc Try.prog w base spare held k 3 (([c0, c1, c2, c3].drop 1).take (Try.prog.cellsOf 3)) = some x1 := hf 1 _ rfl
      have f2 : DataW.trod enc Try.prog w base spare held k 80 (([c0, c1, c2, c3].drop 2).take (Try.prog.cellsOf 80)) = some x2 := hf 2 _ rfl
      rw [cellsInt] at f0 f1
      rw [cellsPlace] at f2
      obtain ⟨n0, e0, _, w0⟩ := DataW.trod_int Try.underlying3 f0
      obtain ⟨n1, e1, _, w1⟩ := DataW.trod_int Try.underlying3 f1
      have f2' : DataW.trod enc Try.prog w base spare held k 80 [c2, c3] = some x2 := f2
      obtain ⟨ys, k2, _, _, _, hyl, hg⟩ := DataW.trod_struct Try.underlying80 f2'
      match ys, hyl with
      | [y0, y1], _ =>
        have g0 : DataW.trod enc Try.prog w base spare held k2 3 (([c2, c3].drop 0).take (Try.prog.cellsOf 3)) = some y0 := hg 0 _ rfl
        have g1 : DataW.trod enc Try.prog w base spare held k2 3 (([c2, c3].drop 1).take (Try.prog.cellsOf 3)) = some y1 := hg 1 _ rfl
        rw [cellsInt] at g0 g1
        obtain ⟨n2, e2, _, w2⟩ := DataW.trod_int Try.underlying3 g0
        obtain ⟨n3, e3, _, w3⟩ := DataW.trod_int Try.underlying3 g1
        simp at e0 e1 e2 e3
        subst e0; subst e1; subst e2; subst e3
        exact ⟨⟨n0, n1, n2, n3⟩, rfl, i64_of w0, i64_of w1, i64_of w2, i64_of w3⟩
theorem open_pws {fuel : Nat} {v : Value} {y : DataW H × List MemPlace} (h : DataW.trod enc Try.prog w base spare held fuel 23 [v] = some y) : ∃ (A : Option Addr) (l : List PW) (c : Nat), v = .slice A l.length c ∧ Rd w w.heap.size A (flatW l) ∧ (∀ x ∈ l, x.Ok) ∧ l.length ≤ 9223372036854775807 := by
  rcases open_slice Try.underlying23 h with ⟨hcs, _⟩ | ⟨a, len, cap, m, n, D, Pl, hcs, _, hl, hm, hmm, _, hel⟩
  · simp at hcs
    subst hcs
    exact ⟨none, [], 0, rfl, Rd.nil_ _ _ _, fun x hx => by simp at hx, by simp⟩
  · simp at hcs
    subst hcs
    have hlm : len ≤ m := by rw [hmm]; split <;> omega
    obtain ⟨l, hll, hq⟩ := list_of (Q := fun i (o : PW) => o.Ok ∧ ∀ t u, o.cells[t]? = some u → w.cell? (a.add (i * 11 + t)) = some u) len (fun i hi => by
      obtain ⟨cs', hc, ht⟩ := hel i (by omega)
      rw [cellsPW] at hc
      obtain ⟨_, hcl, hat⟩ := World.cells?_some hc
      obtain ⟨o, rfl, ho⟩ := open_pw hcl ht
      refine ⟨o, ho, fun t u hu => ?_⟩
      have ht3 : t < 11 := (List.getElem?_eq_some_iff.1 hu).1
      rw [← Go.Deep.add_add, hat t ht3]
      exact hu)
    refine ⟨some a, l, cap, by rw [hll], rd_of_add fun j u hu => ?_, fun b hb => ?_, by unfold maxLen at hm; omega⟩
    · have hj : j < l.length * 11 := by rw [← flatW_len]; exact (List.getElem?_eq_some_iff.1 hu).1
      have e : (flatW l)[j / 11 * 11 + j % 11]? = (l[j / 11]?).bind fun b => b.cells[j % 11]? := flat_get _ 11 (fun _ => rfl) l (j / 11) (j % 11) (by omega)
      rw [show j / 11 * 11 + j % 11 = j by omega, hu, List.getElem?_eq_getElem (by omega : j / 11 < l.length)] at e
      have := (hq (j / 11) _ (List.getElem?_eq_getElem (by omega))).2 (j % 11) u e.symm
      rw [show j / 11 * 11 + j % 11 = j by omega] at this
      exact this
    · obtain ⟨i, hi⟩ := List.mem_iff_getElem?.1 hb
      exact (hq i b hi).1
theorem open_mvs {fuel : Nat} {v : Value} {y : DataW H × List MemPlace} (h : DataW.trod enc Try.prog w base spare held fuel 24 [v] = some y) : ∃ (A : Option Addr) (l : List Mv) (c : Nat), v = .slice A l.length c ∧ Rd w w.heap.size A (flatM l) ∧ (∀ x ∈ l, x.Ok) ∧ l.length ≤ 9223372036854775807 := by
  rcases open_slice Try.underlying24 h with ⟨hcs, _⟩ | ⟨a, len, cap, m, n, D, Pl, hcs, _, hl, hm, hmm, _, hel⟩
  · simp at hcs
    subst hcs
    exact ⟨none, [], 0, rfl, Rd.nil_ _ _ _, fun x hx => by simp at hx, by simp⟩
  · simp at hcs
    subst hcs
    have hlm : len ≤ m := by rw [hmm]; split <;> omega
    obtain ⟨l, hll, hq⟩ := list_of (Q := fun i (o : Mv) => o.Ok ∧ ∀ t u, o.cells[t]? = some u → w.cell? (a.add (i * 4 + t)) = some u) len (fun i hi => by
      obtain ⟨cs', hc, ht⟩ := hel i (by omega)
      rw [cellsMv] at hc
      obtain ⟨_, hcl, hat⟩ := World.cells?_some hc
      obtain ⟨o, rfl, ho⟩ := open_mv hcl ht
      refine ⟨o, ho, fun t u hu => ?_⟩
      have ht3 : t < 4 := (List.getElem?_eq_some_iff.1 hu).1
      rw [← Go.Deep.add_add, hat t ht3]
      exact hu)
    refine ⟨some a, l, cap, by rw [hll], rd_of_add fun j u hu => ?_, fun b hb => ?_, by unfold maxLen at hm; omega⟩
    · have hj : j < l.length * 4 := by rw [← flatM_len]; exact (List.getElem?_eq_some_iff.1 hu).1
      have e : (flatM l)[j / 4 * 4 + j % 4]? = (l[j / 4]?).bind fun b => b.cells[j % 4]? := flat_get _ 4 (fun _ => rfl) l (j / 4) (j % 4) (by omega)
      rw [show j / 4 * 4 + j % 4 = j by omega, hu, List.getElem?_eq_getElem (by omega : j / 4 < l.length)] at e
      have := (hq (j / 4) _ (List.getElem?_eq_getElem (by omega))).2 (j % 4) u e.symm
      rw [show j / 4 * 4 + j % 4 = j by omega] at this
      exact this
    · obtain ⟨i, hi⟩ := List.mem_iff_getElem?.1 hb
      exact (hq i b hi).1
/-- What a walk is told of a record. -/
structure RecIn (w : World) (v : Value) (x : Rec) (A : Option Addr) (c : Nat) (D : Option Addr) (d : Nat) (N : Option Addr) (n : Nat) : Prop where
  val : v = .agg #[.int .u64 x.gen, .int .u64 x.seq, .slice A x.ws.length c, .slice D x.ms.length d, .slice N x.note.length n]
  rd : RecR w w.heap.size x A c D d N n
  ok : x.Ok
  nw : x.ws.length ≤ 9223372036854775807
  nm : x.ms.length ≤ 9223372036854775807
  nn : x.note.length ≤ 9223372036854775807
set_option maxRecDepth 10000 in
theorem open_rec {r : Reach} {b0 : Nat} {v : Value} {dd : DataW H} {p : List MemPlace} (hv : Value.okWide Try.prog w r b0 27 v) (h : DataW.Trod enc Try.prog w base spare held 27 v dd p) : ∃ x A c D d N n, RecIn w v x A c D d N n := by
  obtain ⟨cs, rfl, hsz⟩ := Go.WideShapes.okWide_struct Try.underlying27 hv
  rw [show Try.prog.cellsOf 27 = 5 from by kernel_rfl] at hsz
  obtain ⟨l⟩ := cs
  match l, hsz with
  | [c0, c1, c2, c3, c4], _ =>
    obtain ⟨fuel, hf⟩ := h
    obtain ⟨xs, k, _, _, _, hxl, hf⟩ := DataW.trod_struct Try.underlying27 hf
    match xs, hxl with
    | [x0, x1, x2, x3, x4], _ =>
      have f0 : DataW.trod enc Try.prog w base spare held k 22 (([c0, c1, c2, c3, c4].drop 0).take (Try.prog.cellsOf 22)) = some x0 := hf 0 _ rfl
      have f1 : DataW.trod enc Try.prog w base spare held k 22 (([c0, c1, c2, c3, c4].drop 1).take (Try.prog.cellsOf 22)) = some x1 := hf 1 _ rfl
      have f2 : DataW.trod enc Try.prog w base spare held k 23 (([c0, c1, c2, c3, c4].drop 2).take (Try.prog.cellsOf 23)) = some x2 := hf 2 _ rfl
      have f3 : DataW.trod enc Try.prog w base spare held k 24 (([c0, c1, c2, c3, c4].drop 3).take (Try.prog.cellsOf 24)) = some x3 := hf 3 _ rfl
      have f4 : DataW.trod enc Try.prog w base spare held k 25 (([c0, c1, c2, c3, c4].drop 4).take (Try.prog.cellsOf 25)) = some x4 := hf 4 _ rfl
      rw [cellsU64] at f0 f1
      rw [cellsPWs] at f2
      rw [cellsMvs] at f3
      rw [cellsBytes] at f4
      obtain ⟨n0, e0, _, w0⟩ := DataW.trod_int Try.underlying22 f0
      obtain ⟨n1, e1, _, w1⟩ := DataW.trod_int Try.underlying22 f1
      have f2' : DataW.trod enc Try.prog w base spare held k 23 [c2] = some x2 := f2
      have f3' : DataW.trod enc Try.prog w base spare held k 24 [c3] = some x3 := f3
      have f4' : DataW.trod enc Try.prog w base spare held k 25 [c4] = some x4 := f4
      obtain ⟨A, ws, c, e2, hw, hwo, hwl⟩ := open_pws f2'
      obtain ⟨D, ms, d, e3, hm, hmo, hml⟩ := open_mvs f3'
      obtain ⟨s, hs⟩ := open_bytes f4'
      have e4 := hs.val
      simp at e0 e1
      subst e0; subst e1; subst e2; subst e3; subst e4
      have g0 := u64_of w0
      have g1 := u64_of w1
      have hcap := hs.cap
      have hbig := hs.big
      refine ⟨⟨n0.toNat, n1.toNat, ws, ms, s.xs⟩, A, c, D, d, s.A, s.c, ?_, ⟨hw, hm, hs.rd⟩, ⟨by show n0.toNat < 2 ^ 64; omega, by show n1.toNat < 2 ^ 64; omega, hwo, hmo, hs.ok⟩, hwl, hml, by show s.xs.length ≤ _; omega⟩
      show _ = Value.agg #[.int .u64 (n0.toNat : Nat), .int .u64 (n1.toNat : Nat), _, _, _]
      rw [show ((n0.toNat : Nat) : Int) = n0 from Int.toNat_of_nonneg g0.1, show ((n1.toNat : Nat) : Int) = n1 from Int.toNat_of_nonneg g1.1]
      rfl
end
end Go.Proofs.Ytndifkjenjfjpaa
