/-
  WHAT IS SHOWN: what New, State, Read, Pending, Durable and Clone of a cache return. Conditions: the cache lies in memory.
-/
import Derived.Test.YtckdhhadlemakaaGreatCac3
import Derived.Deep.RegionHeld3
namespace Go.Proofs.YtckdhhadlemakaaGreat
set_option linter.unusedVariables false
open Go.RowKit

section
variable {w w' : World} {S : Nat → Prop} {B : Bd} {p : Nat} {g : Geo} {LM : List Sec} {ops : List OpV}
theorem cstate_any (a : Int) (h : CacheM w B p g LM ops) (hf : Fit g LM) :
    Calls Tryz.prog 75 #[.pointer (some ⟨p, 0, none⟩), .int .i64 a] w fun e w' => e = .returned (.int .i64 (stateN (playL g LM ops) a)) ∧ w = w' := by
  obtain ⟨m1, b1, m2, b2, A, c, F, h⟩ := h
  obtain ⟨c0, c1, c2⟩ := h.cells
  have HC := Lib.hid (state_any a h.med2 (hf.len (playL_len _ _ _)))
  clear h hf
  go_enter Tryz.func75, Tryz.ntmps75
  go_wp2_with fail
  refine HC.out.mono ?_
  rintro e w1 ⟨rfl, rfl⟩
  go_wp2
  go_ret
  exact ⟨rfl, rfl⟩
theorem cread_any (a : Int) (h : CacheM w B p g LM ops) (hf : Fit g LM) (hb : ShortB LM) :
    Calls Tryz.prog 57 #[.pointer (some ⟨p, 0, none⟩), .int .i64 a] w (ReadPost w (readB (playL g LM ops) a) (readE (playL g LM ops) a)) := by
  obtain ⟨m1, b1, m2, b2, A, c, F, h⟩ := h
  obtain ⟨c0, c1, c2⟩ := h.cells
  have HC := Lib.hid (read_any a h.med2 (hf.len (playL_len _ _ _)) (short_play ops hb))
  clear h hf
  go_enter Tryz.func57, Tryz.ntmps57
  go_wp2_with fail
  refine HC.out.mono ?_
  rintro e w1 ⟨v, rfl, hv, hb1⟩
  go_wp2
  go_ret2
  exact ⟨_, rfl, hv, hb1⟩
theorem cpending_any (h : CacheM w B p g LM ops) :
    Calls Tryz.prog 72 #[.pointer (some ⟨p, 0, none⟩)] w fun e w' => e = .returned (.int .i64 ops.length) ∧ w = w' := by
  obtain ⟨m1, b1, m2, b2, A, c, F, h⟩ := h
  obtain ⟨c0, c1, c2⟩ := h.cells
  clear h
  go_enter Tryz.func72, Tryz.ntmps72
  go_wp2
  go_ret
  exact ⟨rfl, rfl⟩
/-- What makes a new cache. -/
def CNewPost (w : World) (g : Geo) (LM : List Sec) (ops : List OpV) (e : Ending) (w' : World) : Prop :=
  ∃ p, e = .returned (.pointer (some ⟨p, 0, none⟩)) ∧ CacheM w' (Bd.of w.heap.size) p g LM ops ∧ Below w.heap.size w w'
theorem cac_new {w2 : World} {m1 b1 m2 b2 : Nat} {A : Option Addr} {c : Nat} {F : List Value} (hb : w.heap.size ≤ w2.heap.size) (h1 : w.heap.size ≤ b1) (h2 : w.heap.size ≤ b2) (hne : b1 ≠ b2) (hm1 : Med w2 m1 b1 g LM) (hm2 : Med w2 m2 b2 g (playL g LM ops))
    (ho : w2.ownsRow w.heap.size 120 1 (.slice A ops.length c) ops.length F) (hF : ∀ (i : Nat) (o : OpV), ops[i]? = some o → ∃ v, F[i]? = some v ∧ OpFn w2 v o) :
    CacheM (w2.alloc (.cells #[.pointer (some ⟨m1, 0, none⟩), .pointer (some ⟨m2, 0, none⟩), .slice A ops.length c] 118)) (Bd.of w.heap.size) w2.heap.size g LM ops := by
  have hb2 : Below w2.heap.size w2 (w2.alloc (.cells #[.pointer (some ⟨m1, 0, none⟩), .pointer (some ⟨m2, 0, none⟩), .slice A ops.length c] 118)) := (Below.refl _ _).alloc (Nat.le_refl _) _
  refine ⟨m1, b1, m2, b2, A, c, F, ?_, fun h => h, fun _ _ h => h, ⟨h1, fun h => h⟩, ⟨h2, fun h => h⟩, hne, hm1.below0 hb2, hm2.below0 hb2, ho.alloc _, fun i o h => ?_⟩
  · exact World.ownsRow_lit (base := w.heap.size) (e := 118) (size := 3) w2 #[.pointer (some ⟨m1, 0, none⟩), .pointer (some ⟨m2, 0, none⟩), .slice A ops.length c] 1 hb (by decide) rfl
  · obtain ⟨v, hv, h'⟩ := hF i o h
    exact ⟨v, hv, h'.kept (belKept0 (S := fun _ => False) hb2) (FreeF.none _)⟩
set_option maxHeartbeats 1000000 in
theorem cnew_any {m bs : Nat} {L : List Sec} (hm : Med w m bs g L) (hf : Fit g L) : Calls Tryz.prog 49 #[.pointer (some ⟨m, 0, none⟩)] w (CNewPost w g L []) := by
  have HC : Hid (∀ W, Below w.heap.size w W → Calls Tryz.prog 71 #[.pointer (some ⟨m, 0, none⟩)] W (ClonePost W g L)) := by
    unfold Hid; intro W hW; exact clone_any (hm.below0 hW) hf
  clear hm hf
  go_enter Tryz.func49, Tryz.ntmps49
  go_wp2_with fail
  refine (HC.out _ (Below.refl _ _)).mono ?_
  rintro e w1 ⟨m1, b1, rfl, hm1, hmm1, hbb1, hb1⟩
  go_wp2_with fail
  refine (HC.out _ hb1).mono ?_
  rintro e w2 ⟨m2, b2, rfl, hm2, hmm2, hbb2, hb2⟩
  have hl1 := hm1.lt
  have hN := cac_new (w := w) (ops := []) (LM := L) (A := none) (c := 0) (F := []) (Nat.le_trans hb1.size hb2.size) hbb1 (Nat.le_trans hb1.size hbb2) (by omega) (hm1.below0 hb2) hm2 (own_nil _ _ _) (fun i o h => by simp at h)
  have HN := Lib.hid hN
  have hbl : Below w.heap.size w w2 := hb1.trans (hb2.mono hb1.size)
  clear hm1 hm2 hN
  go_wp2
  go_ret
  exact ⟨_, rfl, HN.out, hbl.alloc hbl.size _⟩
end
end Go.Proofs.YtckdhhadlemakaaGreat
