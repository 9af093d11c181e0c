/-
  WHAT IS SHOWN: tegulalaw16.awake returns true and changes nothing that was there. No condition.
-/
import Derived.Test.YtbnkpknoknenjaaBand5
namespace Go.Proofs.Ytbnkpknoknenjaa
set_option linter.unusedVariables false
open Go.RowKit

def ex4 : List BI := [⟨4, 0, 5, 0⟩, ⟨2, 0, 3, 0⟩, ⟨0, 0, 0, 0⟩, ⟨1, 0, 9, 0⟩]
theorem ex4_len : ex4.length = 4 := rfl
theorem ex4_ok : Oks ex4 := by
  intro b hb
  simp [ex4] at hb
  rcases hb with rfl | rfl | rfl | rfl <;> constructor <;> constructor <;> simp
theorem rd_row (w : World) (cs : Array Value) (t : TypeId) (xs : List Value) (h : cs.toList = xs) : Rd (w.alloc (.cells cs t)) (w.heap.size + 1) (some ⟨w.heap.size, 0, none⟩) xs := by
  subst h
  intro j u hu
  refine ⟨w.heap.size, 0, rfl, by omega, ?_⟩
  simp only [Nat.zero_add, World.cell?_alloc_new]
  simpa using hu

def ex4b : List BI := [⟨4, 0, 5, 0⟩, ⟨2, 0, 3, 0⟩, ⟨1, 1, 11, 0⟩, ⟨1, 0, 9, 0⟩]
theorem ex4_app : appE ex4 4 2 = 0 ∧ appL ex4 4 2 11 = ex4b := ⟨by decide, by
  have h : appE ex4 4 2 = 0 := by decide
  unfold appL; rw [if_pos h]; simp [ex4, ex4b, at_, appBI, wrap64]⟩
theorem ex4_val : validB ex4 4 = true ∧ openB ex4 4 = 3 ∧ openB (ex4.take 3) 4 = 1 ∧ freeN ex4 = 1 := ⟨rfl, rfl, rfl, rfl⟩
set_option maxHeartbeats 1000000 in
theorem awake_any (w : World) : Calls Try.prog 15 #[] w fun e w' => e = .returned (.bool true) ∧ Below w.heap.size w w' := by
  go_enter Try.func15, Try.ntmps15
  go_wp2_with fail
  have hr := rd_row w #[.int .i64 4, .int .i64 0, .int .u64 5, .int .u64 0, .int .i64 2, .int .i64 0, .int .u64 3, .int .u64 0, .int .i64 0, .int .i64 0, .int .u64 0, .int .u64 0, .int .i64 1, .int .i64 0, .int .u64 9, .int .u64 0] 35 (flat ex4) rfl
  have hB0 : Below w.heap.size w (w.alloc (.cells #[.int .i64 4, .int .i64 0, .int .u64 5, .int .u64 0, .int .i64 2, .int .i64 0, .int .u64 3, .int .u64 0, .int .i64 0, .int .i64 0, .int .u64 0, .int .u64 0, .int .i64 1, .int .i64 0, .int .u64 9, .int .u64 0] 35)) := (Below.refl _ _).alloc (Nat.le_refl _) _
  have hz : (w.alloc (.cells #[.int .i64 4, .int .i64 0, .int .u64 5, .int .u64 0, .int .i64 2, .int .i64 0, .int .u64 3, .int .u64 0, .int .i64 0, .int .i64 0, .int .u64 0, .int .u64 0, .int .i64 1, .int .i64 0, .int .u64 9, .int .u64 0] 35)).heap.size = w.heap.size + 1 := by simp
  generalize (w.alloc (.cells #[.int .i64 4, .int .i64 0, .int .u64 5, .int .u64 0, .int .i64 2, .int .i64 0, .int .u64 3, .int .u64 0, .int .i64 0, .int .i64 0, .int .u64 0, .int .u64 0, .int .i64 1, .int .i64 0, .int .u64 9, .int .u64 0] 35)) = w0 at *
  have HZ := Lib.hid hz
  rw [← hz] at hr
  clear hz
  have h1 := append_any ex4 4 2 11 ex4_ok _ 4 w0 hr (by decide)
  rw [ex4_len] at h1
  refine h1.mono ?_
  rintro e w1 ⟨A1, c1, rfl, hown, hb1⟩
  rw [ex4_app.1, ex4_app.2]
  rw [ex4_app.2] at hown
  rw [show ex4b.length = 4 from rfl] at hown ⊢
  obtain ⟨g, rfl, hg0, hg1⟩ := own_at hown (by omega)
  have hbw : Below w.heap.size w w1 := hB0.trans (hb1.mono (by rw [HZ.out]; omega))
  have HK := Lib.hid ((Rd.of_own hown).band (l := ex4b) (i := 2) rfl)
  have hr1 := (hr.below hb1 (Nat.le_refl _)).more hb1.size
  have hgx : Below w0.heap.size w0 w1 := hb1
  go_wp2_with fail
  have h2 := valid_any 4 ex4 _ 4 w1 hr1 (by decide)
  rw [ex4_len, ex4_val.1] at h2
  refine h2.mono ?_
  rintro e w2 ⟨rfl, hb2⟩
  have hr2 := (hr1.below hb2 (Nat.le_refl _)).more hb2.size
  clear h1 h2
  go_wp2_with fail
  have h2 := open_any 4 ex4 _ 4 w2 hr2 (by decide)
  rw [ex4_len, ex4_val.2.1] at h2
  refine h2.mono ?_
  rintro e w3 ⟨rfl, hb3⟩
  have hr3 := (hr2.below hb3 (Nat.le_refl _)).more hb3.size
  clear h2
  go_wp2_with fail
  have h2 := open_any 4 (ex4.take 3) (some ⟨w.heap.size, 0, none⟩) 4 w3 (hr3.take 12) (by decide)
  rw [ex4_val.2.2.1] at h2
  refine Calls.mono h2 ?_
  rintro e w4 ⟨rfl, hb4⟩
  have hr4 := (hr3.below hb4 (Nat.le_refl _)).more hb4.size
  clear h2
  go_wp2_with fail
  have h2 := free_any ex4 _ 4 w4 hr4 (by decide)
  rw [ex4_len, ex4_val.2.2.2] at h2
  refine h2.mono ?_
  rintro e w5 ⟨rfl, hb5⟩
  have hb15 : Below w1.heap.size w1 w5 := ((hb2.trans (hb3.mono hb2.size)).trans (hb4.mono (Nat.le_trans hb2.size hb3.size))).trans (hb5.mono (Nat.le_trans hb2.size (Nat.le_trans hb3.size hb4.size)))
  obtain ⟨g', o, e, _, a0, a1, a2, a3⟩ := HK.out
  simp only [Option.some.injEq, Addr.mk.injEq, and_true] at e
  obtain ⟨rfl, rfl⟩ := e
  have b0 := (hb15.cell (p := ⟨g, _, none⟩) hg1).trans a0
  have b1 := (hb15.cell (p := ⟨g, _, none⟩) hg1).trans a1
  have b2 := (hb15.cell (p := ⟨g, _, none⟩) hg1).trans a2
  have b3 := (hb15.cell (p := ⟨g, _, none⟩) hg1).trans a3
  simp only [Nat.zero_add, Nat.reduceMul, Nat.reduceAdd] at b0 b1 b2 b3
  clear a0 a1 a2 a3
  go_wp2
  go_ret
  exact ⟨rfl, hbw.trans (hb15.mono hbw.size)⟩
end Go.Proofs.Ytbnkpknoknenjaa
