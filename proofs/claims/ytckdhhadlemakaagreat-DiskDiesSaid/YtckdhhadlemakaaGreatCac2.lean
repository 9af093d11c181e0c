/-
  WHAT IS SHOWN: what Write and Erase of a cache return and leave, and do of tegulalaw12. Conditions: the cache lies in memory; the bytes can be read.
-/
import Derived.Test.YtckdhhadlemakaaGreatCac1
namespace Go.Proofs.YtckdhhadlemakaaGreat
set_option linter.unusedVariables false
open Go.RowKit

section
variable {w w' : World} {S : Nat → Prop} {B : Bd} {p : Nat} {g : Geo} {LM : List Sec} {ops : List OpV}
theorem DoPost.from {w0 : World} {o : OpV} {e : Ending} (h : DoPost w B p g LM ops o e w') (hk : KeptT CT B w0 w) : DoPost w0 B p g LM ops o e w' := ⟨h.1, h.2.1, hk.trans h.2.2⟩
set_option maxRecDepth 100000 in
set_option maxHeartbeats 1000000 in
theorem cerase_any (a : Int) (ha : I64 a) (xs : List Int) (hx : xs.length ≤ 100000) (h : CacheM w B p g LM ops) (hf : Fit g LM) (hB : B.top ≤ w.heap.size) (hn : ops.length ≤ 100000) :
    Calls Tryz.prog 62 #[.pointer (some ⟨p, 0, none⟩), .int .i64 a] w (DoPost w B p g LM ops ⟨true, a, xs, none, 0⟩) := by
  have hb0 : Below w.heap.size w (w.alloc (.cells #[.int .i64 a] 3)) := (Below.refl _ _).alloc (Nat.le_refl _) _
  have hv : OpFn (w.alloc (.cells #[.int .i64 a] 3)) (.func (.func 87) #[] #[.pointer (some ⟨w.heap.size, 0, none⟩)]) ⟨true, a, xs, none, 0⟩ :=
    ⟨ha, hx, .inl ⟨rfl, w.heap.size, _, rfl, heap_alloc_new _ _⟩⟩
  have HC := Lib.hid ((cdo_any (h.below0 hb0) hf hv (by simp; omega) hn).mono fun e w' hp => DoPost.from hp (KeptT.bel hb0))
  clear h hf hv ha
  go_enter Tryz.func62, Tryz.ntmps62
  go_wp2_with fail
  refine HC.out.mono ?_
  rintro e w1 ⟨rfl, h1, hk1⟩
  go_wp2
  go_ret
  exact ⟨rfl, h1, hk1⟩
set_option maxRecDepth 100000 in
set_option maxHeartbeats 1000000 in
theorem cwrite_any (a : Int) (ha : I64 a) (xs : List Int) (A : Option Addr) (c : Nat) (hr : Rd w w.heap.size A (xs.map (Value.int .u8))) (hx : xs.length ≤ 100000) (h : CacheM w B p g LM ops) (hf : Fit g LM) (hB : B.top ≤ w.heap.size) (hn : ops.length ≤ 100000) :
    Calls Tryz.prog 54 #[.pointer (some ⟨p, 0, none⟩), .int .i64 a, .slice A xs.length c] w (DoPost w B p g LM ops ⟨false, a, xs, none, 0⟩) := by
  have hb0 : Below w.heap.size w ((w.alloc (.cells #[.int .i64 a] 3)).alloc (.cells #[.slice A xs.length c] 53)) := ((Below.refl _ _).alloc (Nat.le_refl _) _).alloc (by simp) _
  have HC := Lib.hid (cloneb_any xs A c _ ((hr.below hb0 (Nat.le_refl _)).more hb0.size) hx)
  have o0 : ((w.alloc (.cells #[.int .i64 a] 3)).alloc (.cells #[.slice A xs.length c] 53)).heap[w.heap.size]? = some (.cells #[.int .i64 a] 3 (0, 0)) := by
    rw [belObj (B := w.heap.size + 1) (w := w.alloc (.cells #[.int .i64 a] 3)) ((Below.refl _ _).alloc (by simp) _) (heap_alloc_new w _) (by omega)]
  have o1 : ((w.alloc (.cells #[.int .i64 a] 3)).alloc (.cells #[.slice A xs.length c] 53)).heap[w.heap.size + 1]? = some (.cells #[.slice A xs.length c] 53 (0, 0)) := by
    have := heap_alloc_new (w.alloc (.cells #[.int .i64 a] 3)) (.cells #[.slice A xs.length c] 53)
    simpa using this
  have HD : Hid (∀ w1 v, Byt 5 w1 v xs → Below ((w.alloc (.cells #[.int .i64 a] 3)).alloc (.cells #[.slice A xs.length c] 53)).heap.size ((w.alloc (.cells #[.int .i64 a] 3)).alloc (.cells #[.slice A xs.length c] 53)) w1 →
      Calls Tryz.prog 83 #[.pointer (some ⟨p, 0, none⟩), .func (.func 84) #[] #[.pointer (some ⟨w.heap.size, 0, none⟩), .pointer (some ⟨w.heap.size + 1, 0, none⟩)]] (w1.setCell ⟨w.heap.size + 1, 0, none⟩ v) (DoPost w B p g LM ops ⟨false, a, xs, none, 0⟩)) := by
    unfold Hid; intro w1 v hv hb1
    have q0 := belObj hb1 o0 (by simp; omega)
    have q1 := belObj hb1 o1 (by simp)
    have hk := (Kept.refl (fun k => k = w.heap.size + 1) w1).setCell (p := ⟨w.heap.size + 1, 0, none⟩) (fun _ => rfl) v
    have hbs : Below w.heap.size w (w1.setCell ⟨w.heap.size + 1, 0, none⟩ v) := (hb0.trans (hb1.mono hb0.size)).setCell (p := ⟨w.heap.size + 1, 0, none⟩) (by simp) v
    have hv2 := hv.kept hk (Free.one q1 (by decide))
    obtain ⟨A', c', rfl, hrd, _⟩ := hv2
    have hF : OpFn (w1.setCell ⟨w.heap.size + 1, 0, none⟩ (.slice A' xs.length c')) (.func (.func 84) #[] #[.pointer (some ⟨w.heap.size, 0, none⟩), .pointer (some ⟨w.heap.size + 1, 0, none⟩)]) ⟨false, a, xs, none, 0⟩ :=
      ⟨ha, hx, .inr ⟨rfl, w.heap.size, w.heap.size + 1, A', c', _, _, rfl, hk.obj q0 (by show ¬ (w.heap.size = w.heap.size + 1); omega), one_setCell q1, hrd⟩⟩
    exact (cdo_any (h.below0 hbs) hf hF (Nat.le_trans hB hbs.size) hn).mono fun e w' hp => DoPost.from hp (KeptT.bel hbs)
  have HO1 : Hid (∀ w1, Below ((w.alloc (.cells #[.int .i64 a] 3)).alloc (.cells #[.slice A xs.length c] 53)).heap.size ((w.alloc (.cells #[.int .i64 a] 3)).alloc (.cells #[.slice A xs.length c] 53)) w1 → w1.heap[w.heap.size + 1]? = some (.cells #[.slice A xs.length c] 53 (0, 0))) := by
    unfold Hid; intro w1 hb1; exact belObj hb1 o1 (by simp)
  clear h hf hr ha o0 o1
  go_enter Tryz.func54, Tryz.ntmps54
  go_wp2_with fail
  refine HC.out.mono ?_
  rintro e w1 ⟨v, rfl, hv, hb1⟩
  have q1 := HO1.out w1 hb1
  have r0 := cell_of_one q1
  have r1 := free_of_one q1
  have HF := Lib.hid (HD.out w1 v hv hb1)
  obtain ⟨A', c', rfl, _, _⟩ := hv
  clear q1
  go_wp2_with fail
  refine HF.out.mono ?_
  rintro e w2 ⟨rfl, h2, hk2⟩
  go_wp2
  go_ret
  exact ⟨rfl, h2, hk2⟩
end
end Go.Proofs.YtckdhhadlemakaaGreat
