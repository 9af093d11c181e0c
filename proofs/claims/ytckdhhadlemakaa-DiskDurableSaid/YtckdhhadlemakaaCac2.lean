/-
  WHAT IS SHOWN: what Write and Erase of a cache return and leave, and do of tegulalaw12. Conditions: the cache lies in memory; the bytes can be read.
-/
import Derived.Test.YtckdhhadlemakaaCac1
namespace Go.Proofs.Ytckdhhadlemakaa
set_option linter.unusedVariables false
open Go.RowKit

section
variable {w w' : World} {S : Nat → Prop} {B : Bd} {p : Nat} {g : Geo} {LM : List Sec} {ops : List OpV}
theorem DoPost.from {w0 : World} {o : OpV} {e : Ending} (h : DoPost w B p g LM ops o e w') (hk : KeptT CT B w0 w) : DoPost w0 B p g LM ops o e w' := ⟨h.1, h.2.1, hk.trans h.2.2⟩
set_option maxRecDepth 100000 in
set_option maxHeartbeats 1000000 in
theorem cerase_any (a : Int) (ha : I64 a) (xs : List Int) (hx : xs.length ≤ 100000) (h : CacheM w B p g LM ops) (hf : Fit g LM) (hB : B.top ≤ w.heap.size) (hn : ops.length ≤ 100000) :
    Calls Try.prog 99 #[.pointer (some ⟨p, 0, none⟩), .int .i64 a] w (DoPost w B p g LM ops ⟨true, a, xs, none, 0⟩) := by
  have hb0 : Below w.heap.size w (w.alloc (.cells #[.int .i64 a] 3)) := (Below.refl _ _).alloc (Nat.le_refl _) _
  have hv : OpFn (w.alloc (.cells #[.int .i64 a] 3)) (.func (.func 120) #[] #[.pointer (some ⟨w.heap.size, 0, none⟩)]) ⟨true, a, xs, none, 0⟩ :=
    ⟨ha, hx, .inl ⟨rfl, w.heap.size, _, rfl, heap_alloc_new _ _⟩⟩
  have HC := Lib.hid ((cdo_any (h.below0 hb0) hf hv (by simp; omega) hn).mono fun e w' hp => DoPost.from hp (KeptT.bel hb0))
  clear h hf hv ha
  go_enter Try.func99, Try.ntmps99
  go_wp2_with fail
  refine HC.out.mono ?_
  rintro e w1 ⟨rfl, h1, hk1⟩
  go_wp2
  go_ret
  exact ⟨rfl, h1, hk1⟩
set_option maxRecDepth 100000 in
set_option maxHeartbeats 1000000 in
theorem cwrite_any (a : Int) (ha : I64 a) (xs : List Int) (A : Option Addr) (c : Nat) (hr : Rd w w.heap.size A (xs.map (Value.int .u8))) (hx : xs.length ≤ 100000) (h : CacheM w B p g LM ops) (hf : Fit g LM) (hB : B.top ≤ w.heap.size) (hn : ops.length ≤ 100000) :
    Calls Try.prog 65 #[.pointer (some ⟨p, 0, none⟩), .int .i64 a, .slice A xs.length c] w (DoPost w B p g LM ops ⟨false, a, xs, none, 0⟩) := by
  have hb0 : Below w.heap.size w ((w.alloc (.cells #[.int .i64 a] 3)).alloc (.cells #[.slice A xs.length c] 76)) := ((Below.refl _ _).alloc (Nat.le_refl _) _).alloc (by simp) _
  have HC := Lib.hid (cloneb_any xs A c _ ((hr.below hb0 (Nat.le_refl _)).more hb0.size) hx)
  have o0 : ((w.alloc (.cells #[.int .i64 a] 3)).alloc (.cells #[.slice A xs.length c] 76)).heap[w.heap.size]? = some (.cells #[.int .i64 a] 3 (0, 0)) := by
    rw [belObj (B := w.heap.size + 1) (w := w.alloc (.cells #[.int .i64 a] 3)) ((Below.refl _ _).alloc (by simp) _) (heap_alloc_new w _) (by omega)]
  have o1 : ((w.alloc (.cells #[.int .i64 a] 3)).alloc (.cells #[.slice A xs.length c] 76)).heap[w.heap.size + 1]? = some (.cells #[.slice A xs.length c] 76 (0, 0)) := by
    have := heap_alloc_new (w.alloc (.cells #[.int .i64 a] 3)) (.cells #[.slice A xs.length c] 76)
    simpa using this
  have HD : Hid (∀ w1 v, Byt 5 w1 v xs → Below ((w.alloc (.cells #[.int .i64 a] 3)).alloc (.cells #[.slice A xs.length c] 76)).heap.size ((w.alloc (.cells #[.int .i64 a] 3)).alloc (.cells #[.slice A xs.length c] 76)) w1 →
      Calls Try.prog 110 #[.pointer (some ⟨p, 0, none⟩), .func (.func 111) #[] #[.pointer (some ⟨w.heap.size, 0, none⟩), .pointer (some ⟨w.heap.size + 1, 0, none⟩)]] (w1.setCell ⟨w.heap.size + 1, 0, none⟩ v) (DoPost w B p g LM ops ⟨false, a, xs, none, 0⟩)) := by
    unfold Hid; intro w1 v hv hb1
    have q0 := belObj hb1 o0 (by simp; omega)
    have q1 := belObj hb1 o1 (by simp)
    have hk := (Kept.refl (fun k => k = w.heap.size + 1) w1).setCell (p := ⟨w.heap.size + 1, 0, none⟩) (fun _ => rfl) v
    have hbs : Below w.heap.size w (w1.setCell ⟨w.heap.size + 1, 0, none⟩ v) := (hb0.trans (hb1.mono hb0.size)).setCell (p := ⟨w.heap.size + 1, 0, none⟩) (by simp) v
    have hv2 := hv.kept hk (Free.one q1 (by decide))
    obtain ⟨A', c', rfl, hrd, _⟩ := hv2
    have hF : OpFn (w1.setCell ⟨w.heap.size + 1, 0, none⟩ (.slice A' xs.length c')) (.func (.func 111) #[] #[.pointer (some ⟨w.heap.size, 0, none⟩), .pointer (some ⟨w.heap.size + 1, 0, none⟩)]) ⟨false, a, xs, none, 0⟩ :=
      ⟨ha, hx, .inr ⟨rfl, w.heap.size, w.heap.size + 1, A', c', _, _, rfl, hk.obj q0 (by show ¬ (w.heap.size = w.heap.size + 1); omega), one_setCell q1, hrd⟩⟩
    exact (cdo_any (h.below0 hbs) hf hF (Nat.le_trans hB hbs.size) hn).mono fun e w' hp => DoPost.from hp (KeptT.bel hbs)
  have HO1 : Hid (∀ w1, Below ((w.alloc (.cells #[.int .i64 a] 3)).alloc (.cells #[.slice A xs.length c] 76)).heap.size ((w.alloc (.cells #[.int .i64 a] 3)).alloc (.cells #[.slice A xs.length c] 76)) w1 → w1.heap[w.heap.size + 1]? = some (.cells #[.slice A xs.length c] 76 (0, 0))) := by
    unfold Hid; intro w1 hb1; exact belObj hb1 o1 (by simp)
  clear h hf hr ha o0 o1
  go_enter Try.func65, Try.ntmps65
  go_wp2_with fail
  refine HC.out.mono ?_
  rintro e w1 ⟨v, rfl, hv, hb1⟩
  have q1 := HO1.out w1 hb1
  have r0 := cell_of_one q1
  have r1 := free_of_one q1
  have HF := Lib.hid (HD.out w1 v hv hb1)
  obtain ⟨A', c', rfl, _, _⟩ := hv
  clear q1
  go_wp2_with fail
  refine HF.out.mono ?_
  rintro e w2 ⟨rfl, h2, hk2⟩
  go_wp2
  go_ret
  exact ⟨rfl, h2, hk2⟩
set_option maxRecDepth 100000 in
set_option maxHeartbeats 1000000 in
theorem claw_any {B' : Nat} (o : OpV) (h : CacheM w B p g LM ops) (hf : Fit g LM) (ho : OpOk w B' o) (hB' : B' ≤ w.heap.size) (hB : B.top ≤ w.heap.size) (hn : ops.length ≤ 100000) :
    Calls Try.prog 71 #[.pointer (some ⟨p, 0, none⟩), .agg #[.bool o.er, .int .i64 o.at_, .slice o.A o.xs.length o.c]] w (DoPost w B p g LM ops o.bare) := by
  have hb0 : Below w.heap.size w (w.alloc (.cells #[.bool o.er, .int .i64 o.at_, .slice o.A o.xs.length o.c] 102)) := (Below.refl _ _).alloc (Nat.le_refl _) _
  have hh := h.below0 hb0
  have hr := (ho.rd.more hB').below hb0 (Nat.le_refl _)
  have hB1 : B.top ≤ (w.alloc (.cells #[.bool o.er, .int .i64 o.at_, .slice o.A o.xs.length o.c] 102)).heap.size := by simp; omega
  have ha := ho.at_
  have hxn := ho.n
  obtain ⟨er, at_, xs, A, c⟩ := o
  simp only at *
  cases er
  · have HC := Lib.hid ((cwrite_any at_ ha xs A c (hr.more hb0.size) hxn hh hf hB1 hn).mono fun e w' hp => DoPost.from hp (KeptT.bel hb0))
    have HO : Hid (∀ e w', DoPost w B p g LM ops ⟨false, at_, xs, none, 0⟩ e w' → DoPost w B p g LM ops (OpV.bare ⟨false, at_, xs, A, c⟩) e w') := fun _ _ h => h
    clear h hf ho hh hr ha
    go_enter Try.func71, Try.ntmps71
    go_wp2_with fail
    refine HC.out.mono ?_
    rintro e w1 ⟨rfl, h1, hk1⟩
    go_wp2
    go_ret
    exact HO.out _ _ ⟨rfl, h1, hk1⟩
  · have HC := Lib.hid ((cerase_any at_ ha xs hxn hh hf hB1 hn).mono fun e w' hp => DoPost.from hp (KeptT.bel hb0))
    have HO : Hid (∀ e w', DoPost w B p g LM ops ⟨true, at_, xs, none, 0⟩ e w' → DoPost w B p g LM ops (OpV.bare ⟨true, at_, xs, A, c⟩) e w') := fun _ _ h => h
    clear h hf ho hh hr ha
    go_enter Try.func71, Try.ntmps71
    go_wp2_with fail
    refine HC.out.mono ?_
    rintro e w1 ⟨rfl, h1, hk1⟩
    go_wp2
    go_ret
    exact HO.out _ _ ⟨rfl, h1, hk1⟩
end
end Go.Proofs.Ytckdhhadlemakaa
