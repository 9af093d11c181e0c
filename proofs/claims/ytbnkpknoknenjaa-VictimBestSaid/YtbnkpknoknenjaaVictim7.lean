/-
  WHAT IS SHOWN: tegulalaw18.awake returns true and changes nothing that was there; what a walk is told of the parameters of tegulalaw18. Conditions: that the values can be read.
-/
import Derived.Test.YtbnkpknoknenjaaVictim6
import Derived.Test.YtbnkpknoknenjaaOpen
namespace Go.Proofs.Ytbnkpknoknenjaa
set_option linter.unusedVariables false
open Go.ChangeShapes Go.WideShapes Go.ChangeAt Go.RowKit Go.Deep

def exA : BI := ⟨4, 3, 1, 0⟩
def exB : BI := ⟨4, 1, 9, 0⟩
def ex3 : List BI := [exB, exA, ⟨0, 0, 0, 0⟩]
theorem exA_ok : exA.Ok := by constructor <;> constructor <;> simp [exA]
theorem exB_ok : exB.Ok := by constructor <;> constructor <;> simp [exB]
theorem ex3_ok : Oks ex3 := by
  intro b hb
  simp [ex3] at hb
  rcases hb with rfl | rfl | rfl
  · exact exB_ok
  · exact exA_ok
  · constructor <;> constructor <;> simp
theorem ex3_choose : chooseN ex3 4 10 (-1) = (1, 0) := by decide +kernel
theorem exAB : betterB exA exB 4 10 = true := by decide +kernel
theorem exBA : betterB exB exA 4 10 = false := by decide +kernel

set_option maxHeartbeats 400000 in
theorem awake18_any (w : World) : Calls Try.prog 31 #[] w fun e w' => e = .returned (.bool true) ∧ Below w.heap.size w w' := by
  have hu : U64 10 := ⟨by omega, by omega⟩
  go_enter Try.func31, Try.ntmps31
  go_wp2_with fail
  have hr := rd_row ((w.alloc (.cells #[.int .i64 exA.used, .int .i64 exA.live, .int .u64 exA.age, .int .u64 exA.wear] 35)).alloc (.cells #[.int .i64 exB.used, .int .i64 exB.live, .int .u64 exB.age, .int .u64 exB.wear] 35)) #[.int .i64 4, .int .i64 1, .int .u64 9, .int .u64 0, .int .i64 4, .int .i64 3, .int .u64 1, .int .u64 0, .int .i64 0, .int .i64 0, .int .u64 0, .int .u64 0] 35 (flat ex3) rfl
  have hA : Cells4 (((w.alloc (.cells #[.int .i64 exA.used, .int .i64 exA.live, .int .u64 exA.age, .int .u64 exA.wear] 35)).alloc (.cells #[.int .i64 exB.used, .int .i64 exB.live, .int .u64 exB.age, .int .u64 exB.wear] 35)).alloc (.cells #[.int .i64 4, .int .i64 1, .int .u64 9, .int .u64 0, .int .i64 4, .int .i64 3, .int .u64 1, .int .u64 0, .int .i64 0, .int .i64 0, .int .u64 0, .int .u64 0] 35)) w.heap.size (.int .i64 exA.used) (.int .i64 exA.live) (.int .u64 exA.age) (.int .u64 exA.wear) :=
    (Cells4.new w 35 _ _ _ _).below (((Below.refl _ _).alloc (Nat.le_refl _) _).alloc (by simp) _) (by simp)
  have hB : Cells4 (((w.alloc (.cells #[.int .i64 exA.used, .int .i64 exA.live, .int .u64 exA.age, .int .u64 exA.wear] 35)).alloc (.cells #[.int .i64 exB.used, .int .i64 exB.live, .int .u64 exB.age, .int .u64 exB.wear] 35)).alloc (.cells #[.int .i64 4, .int .i64 1, .int .u64 9, .int .u64 0, .int .i64 4, .int .i64 3, .int .u64 1, .int .u64 0, .int .i64 0, .int .i64 0, .int .u64 0, .int .u64 0] 35)) (w.heap.size + 1) (.int .i64 exB.used) (.int .i64 exB.live) (.int .u64 exB.age) (.int .u64 exB.wear) :=
    (Cells4.new_at (w.alloc (.cells #[.int .i64 exA.used, .int .i64 exA.live, .int .u64 exA.age, .int .u64 exA.wear] 35)) 35 _ _ _ _ _ (by simp)).below ((Below.refl _ _).alloc (Nat.le_refl _) _) (by simp)
  have hW : Below w.heap.size w (((w.alloc (.cells #[.int .i64 exA.used, .int .i64 exA.live, .int .u64 exA.age, .int .u64 exA.wear] 35)).alloc (.cells #[.int .i64 exB.used, .int .i64 exB.live, .int .u64 exB.age, .int .u64 exB.wear] 35)).alloc (.cells #[.int .i64 4, .int .i64 1, .int .u64 9, .int .u64 0, .int .i64 4, .int .i64 3, .int .u64 1, .int .u64 0, .int .i64 0, .int .i64 0, .int .u64 0, .int .u64 0] 35)) :=
    (((Below.refl _ _).alloc (Nat.le_refl _) _).alloc (by simp) _).alloc (by simp; omega) _
  have hz : w.heap.size + 1 < (((w.alloc (.cells #[.int .i64 exA.used, .int .i64 exA.live, .int .u64 exA.age, .int .u64 exA.wear] 35)).alloc (.cells #[.int .i64 exB.used, .int .i64 exB.live, .int .u64 exB.age, .int .u64 exB.wear] 35)).alloc (.cells #[.int .i64 4, .int .i64 1, .int .u64 9, .int .u64 0, .int .i64 4, .int .i64 3, .int .u64 1, .int .u64 0, .int .i64 0, .int .i64 0, .int .u64 0, .int .u64 0] 35)).heap.size := by simp
  have hr2 := hr.more (B' := (((w.alloc (.cells #[.int .i64 exA.used, .int .i64 exA.live, .int .u64 exA.age, .int .u64 exA.wear] 35)).alloc (.cells #[.int .i64 exB.used, .int .i64 exB.live, .int .u64 exB.age, .int .u64 exB.wear] 35)).alloc (.cells #[.int .i64 4, .int .i64 1, .int .u64 9, .int .u64 0, .int .i64 4, .int .i64 3, .int .u64 1, .int .u64 0, .int .i64 0, .int .i64 0, .int .u64 0, .int .u64 0] 35)).heap.size) (by simp)
  rw [show ((w.alloc (.cells #[.int .i64 exA.used, .int .i64 exA.live, .int .u64 exA.age, .int .u64 exA.wear] 35)).alloc (.cells #[.int .i64 exB.used, .int .i64 exB.live, .int .u64 exB.age, .int .u64 exB.wear] 35)).heap.size = w.heap.size + 1 + 1 from by simp] at hr2
  clear hr
  simp only [exA, exB] at hA hB hW hz hr2
  generalize ((w.alloc (.cells #[.int .i64 4, .int .i64 3, .int .u64 1, .int .u64 0] 35)).alloc (.cells #[.int .i64 4, .int .i64 1, .int .u64 9, .int .u64 0] 35)).alloc (.cells #[.int .i64 4, .int .i64 1, .int .u64 9, .int .u64 0, .int .i64 4, .int .i64 3, .int .u64 1, .int .u64 0, .int .i64 0, .int .i64 0, .int .u64 0, .int .u64 0] 35) = w0 at *
  have h1 := choose_any ex3 ex3_ok 4 10 (-1) hu _ 3 w0 hr2 (by decide)
  rw [ex3_choose] at h1
  refine h1.mono ?_
  rintro e w1 ⟨rfl, hb1⟩
  clear h1 hr2
  have hA1 := hA.below hb1 (by omega)
  have hB1 := hB.below hb1 hz
  have hw1 := hW.trans (hb1.mono hW.size)
  have hz1 : w.heap.size + 1 < w1.heap.size := Nat.lt_of_lt_of_le hz hb1.size
  clear hA hB hb1 hW hz
  have p0 := hA1.c0; have p1 := hA1.c1; have p2 := hA1.c2; have p3 := hA1.c3
  have q0 := hB1.c0; have q1 := hB1.c1; have q2 := hB1.c2; have q3 := hB1.c3
  go_wp2_with fail
  have h2 := better_any exA exB exA_ok exB_ok 4 10 hu w1
  rw [exAB] at h2
  refine h2.mono ?_
  rintro e w2 ⟨rfl, hb2⟩
  clear h2 p0 p1 p2 p3 q0 q1 q2 q3
  have hA2 := hA1.below hb2 (by omega)
  have hB2 := hB1.below hb2 hz1
  have hw2 := hw1.trans (hb2.mono hw1.size)
  clear hA1 hB1 hb2 hw1
  have p0 := hA2.c0; have p1 := hA2.c1; have p2 := hA2.c2; have p3 := hA2.c3
  have q0 := hB2.c0; have q1 := hB2.c1; have q2 := hB2.c2; have q3 := hB2.c3
  go_wp2_with fail
  have h2 := better_any exB exA exB_ok exA_ok 4 10 hu w2
  rw [exBA] at h2
  refine h2.mono ?_
  rintro e w3 ⟨rfl, hb3⟩
  clear h2 p0 p1 p2 p3 q0 q1 q2 q3
  go_wp2
  go_ret
  exact ⟨by simp, hw2.trans (hb3.mono hw2.size)⟩

/-- A band by value. -/
theorem open_band {H : Type} {enc : TypeId × Value → H} {w : World} {base b0 : Nat} {spare : Nat → Bool} {held : Bool} {r : Reach} {v : Value} {d : DataW H} {p : List MemPlace}
    (hv : Value.okWide Try.prog w r b0 35 v) (h : DataW.Trod enc Try.prog w base spare held 35 v d p) :
    ∃ b : BI, v = .agg #[.int .i64 b.used, .int .i64 b.live, .int .u64 b.age, .int .u64 b.wear] ∧ b.Ok := by
  obtain ⟨c0, c1, c2, c3, y0, y1, y2, y3, m, rfl, _, _, h0, h1, h2, h3⟩ := Go.Joins.open_agg4 Try.underlying35 (by kernel_rfl) (by kernel_rfl) hv h
  obtain ⟨n0, e0, _, w0⟩ := DataW.trod_int Try.underlying3 h0
  obtain ⟨n1, e1, _, w1⟩ := DataW.trod_int Try.underlying3 h1
  obtain ⟨n2, e2, _, w2⟩ := DataW.trod_int Try.underlying27 h2
  obtain ⟨n3, e3, _, w3⟩ := DataW.trod_int Try.underlying27 h3
  simp at e0 e1 e2 e3
  subst e0; subst e1; subst e2; subst e3
  exact ⟨⟨n0, n1, n2, n3⟩, rfl, i64_of w0, i64_of w1, u64_of w2, u64_of w3⟩

/-- A struct of a slice of bands, two ints and a time, by value. -/
theorem open_list {H : Type} {enc : TypeId × Value → H} {w : World} {base b0 : Nat} {spare : Nat → Bool} {held : Bool} {r : Reach} {v : Value} {d : DataW H} {p : List MemPlace}
    (hv : Value.okWide Try.prog w r b0 43 v) (h : DataW.Trod enc Try.prog w base spare held 43 v d p) :
    ∃ A n c l x y z, v = .agg #[.slice A n c, .int .i64 x, .int .i64 y, .int .u64 z] ∧ Bands w A n c l ∧ I64 x ∧ I64 y ∧ U64 z := by
  obtain ⟨c0, c1, c2, c3, y0, y1, y2, y3, m, rfl, _, _, h0, h1, h2, h3⟩ := Go.Joins.open_agg4 Try.underlying43 (by kernel_rfl) (by kernel_rfl) hv h
  obtain ⟨A, n, c, l, rfl, hb⟩ := open_bands h0
  obtain ⟨x, e1, _, w1⟩ := DataW.trod_int Try.underlying3 h1
  obtain ⟨y, e2, _, w2⟩ := DataW.trod_int Try.underlying3 h2
  obtain ⟨z, e3, _, w3⟩ := DataW.trod_int Try.underlying27 h3
  simp at e1 e2 e3
  subst e1; subst e2; subst e3
  exact ⟨A, n, c, l, x, y, z, rfl, hb, i64_of w1, i64_of w2, u64_of w3⟩

/-- An array of two times, by value. -/
theorem open_pair {H : Type} {enc : TypeId × Value → H} {w : World} {base b0 : Nat} {spare : Nat → Bool} {held : Bool} {r : Reach} {v : Value} {d : DataW H} {p : List MemPlace}
    (hv : Value.okWide Try.prog w r b0 39 v) (h : DataW.Trod enc Try.prog w base spare held 39 v d p) :
    ∃ x y, v = .agg #[.int .u64 x, .int .u64 y] ∧ U64 x ∧ U64 y := by
  obtain ⟨cs, rfl, hsz, _⟩ : ∃ cs, v = .agg cs ∧ cs.size = Try.prog.cellsOf 39 ∧ Row.okWide Try.prog w r b0 39 cs := by
    simpa [Value.okWide, Try.underlying39] using hv
  rw [show Try.prog.cellsOf 39 = 2 from by kernel_rfl] at hsz
  obtain ⟨l⟩ := cs
  match l, hsz with
  | [c0, c1], _ =>
    obtain ⟨fuel, hf⟩ := h
    obtain ⟨xs, m, _, _, _, hxl, hel⟩ := DataW.trod_array Try.underlying39 hf
    match xs, hxl with
    | [x0, x1], _ =>
      have f0 := hel 0 (by omega)
      have f1 := hel 1 (by omega)
      rw [cellsU64] at f0 f1
      obtain ⟨n0, e0, _, w0⟩ := DataW.trod_int Try.underlying27 f0
      obtain ⟨n1, e1, _, w1⟩ := DataW.trod_int Try.underlying27 f1
      simp [Value.cells] at e0 e1
      subst e0; subst e1
      exact ⟨_, _, rfl, u64_of w0, u64_of w1⟩

/-- An array of three bands, by value. -/
theorem open_three {H : Type} {enc : TypeId × Value → H} {w : World} {base b0 : Nat} {spare : Nat → Bool} {held : Bool} {r : Reach} {v : Value} {d : DataW H} {p : List MemPlace}
    (hv : Value.okWide Try.prog w r b0 47 v) (h : DataW.Trod enc Try.prog w base spare held 47 v d p) :
    ∃ a b c : BI, v = .agg #[.int .i64 a.used, .int .i64 a.live, .int .u64 a.age, .int .u64 a.wear, .int .i64 b.used, .int .i64 b.live, .int .u64 b.age, .int .u64 b.wear, .int .i64 c.used, .int .i64 c.live, .int .u64 c.age, .int .u64 c.wear] ∧ a.Ok ∧ b.Ok ∧ c.Ok := by
  obtain ⟨cs, rfl, hsz, _⟩ : ∃ cs, v = .agg cs ∧ cs.size = Try.prog.cellsOf 47 ∧ Row.okWide Try.prog w r b0 47 cs := by
    simpa [Value.okWide, Try.underlying47] using hv
  rw [show Try.prog.cellsOf 47 = 12 from by kernel_rfl] at hsz
  obtain ⟨l⟩ := cs
  match l, hsz with
  | [c0, c1, c2, c3, c4, c5, c6, c7, c8, c9, c10, c11], _ =>
    obtain ⟨fuel, hf⟩ := h
    obtain ⟨xs, m, _, _, _, hxl, hel⟩ := DataW.trod_array Try.underlying47 hf
    have one : ∀ d0 d1 d2 d3 x, DataW.trod enc Try.prog w base spare held m 35 [d0, d1, d2, d3] = some x → ∃ b : BI, [d0, d1, d2, d3] = [.int .i64 b.used, .int .i64 b.live, .int .u64 b.age, .int .u64 b.wear] ∧ b.Ok := by
      intro d0 d1 d2 d3 x hx
      obtain ⟨xs, k, _, _, _, hxl, hf⟩ := DataW.trod_struct Try.underlying35 hx
      match xs, hxl with
      | [x0, x1, x2, x3], _ =>
        have f0 : DataW.trod enc Try.prog w base spare held k 3 (([d0, d1, d2, d3].drop 0).take (Try.prog.cellsOf 3)) = some x0 := hf 0 _ rfl
        have f1 : DataW.trod enc Try.prog w base spare held k 3 (([d0, d1, d2, d3].drop 1).take (Try.prog.cellsOf 3)) = some x1 := hf 1 _ rfl
        have f2 : DataW.trod enc Try.prog w base spare held k 27 (([d0, d1, d2, d3].drop 2).take (Try.prog.cellsOf 27)) = some x2 := hf 2 _ rfl
        have f3 : DataW.trod enc Try.prog w base spare held k 27 (([d0, d1, d2, d3].drop 3).take (Try.prog.cellsOf 27)) = some x3 := hf 3 _ rfl
        rw [cellsInt] at f0 f1
        rw [cellsU64] at f2 f3
        obtain ⟨n0, e0, _, w0⟩ := DataW.trod_int Try.underlying3 f0
        obtain ⟨n1, e1, _, w1⟩ := DataW.trod_int Try.underlying3 f1
        obtain ⟨n2, e2, _, w2⟩ := DataW.trod_int Try.underlying27 f2
        obtain ⟨n3, e3, _, w3⟩ := DataW.trod_int Try.underlying27 f3
        simp at e0 e1 e2 e3
        subst e0; subst e1; subst e2; subst e3
        exact ⟨⟨n0, n1, n2, n3⟩, rfl, i64_of w0, i64_of w1, u64_of w2, u64_of w3⟩
    match xs, hxl with
    | [x0, x1, x2], _ =>
      have f0 := hel 0 (by omega)
      have f1 := hel 1 (by omega)
      have f2 := hel 2 (by omega)
      rw [cellsBand] at f0 f1 f2
      obtain ⟨a, ea, ha⟩ := one _ _ _ _ _ f0
      obtain ⟨b, eb, hb⟩ := one _ _ _ _ _ f1
      obtain ⟨c, ec, hc⟩ := one _ _ _ _ _ f2
      simp only [List.cons.injEq, and_true] at ea eb ec
      obtain ⟨rfl, rfl, rfl, rfl⟩ := ea
      obtain ⟨rfl, rfl, rfl, rfl⟩ := eb
      obtain ⟨rfl, rfl, rfl, rfl⟩ := ec
      exact ⟨a, b, c, rfl, ha, hb, hc⟩
end Go.Proofs.Ytbnkpknoknenjaa
