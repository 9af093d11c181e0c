/-
  WHAT IS SHOWN: plain facts on two disks that share a power supply: each works, and the other one is kept. Conditions: as each theorem names them.
-/
import Derived.Test.YtckdhhadlemakaaDisk31
namespace Go.Proofs.Ytckdhhadlemakaa
set_option linter.unusedVariables false
open Go.RowKit

section
variable {w w' : World} {n pw q0 q1 : Nat} {g : Geo} {F0 F1 : List Flt} {s0 s1 : DS} {P : Pow} {L0 L1 : List Sec} {O0 O1 : List OpV}
theorem TwoM.first (h : TwoM w n pw q0 q1 g F0 F1 s0 s1 P L0 L1 O0 O1) : ∃ B : Bd, B.n = n ∧ DPm w B q0 pw g F0 s0 P L0 O0 ∧
    ∀ w' s' P' L' O', DPm w' B q0 pw g F0 s' P' L' O' → KeptT DAT B w w' → TwoM w' n pw q0 q1 g F0 F1 s' s1 P' L' L1 O' O1 := by
  obtain ⟨S0, S1, hn, h⟩ := h
  exact ⟨_, rfl, h.a, fun w' s' P' L' O' ha hk => h.step ha hk⟩
theorem TwoM.swap (h : TwoM w n pw q0 q1 g F0 F1 s0 s1 P L0 L1 O0 O1) : TwoM w n pw q1 q0 g F1 F0 s1 s0 P L1 L0 O1 O0 := by
  obtain ⟨S0, S1, hn, h⟩ := h
  exact ⟨S1, S0, hn, h.swap⟩
theorem TwoM.second (h : TwoM w n pw q0 q1 g F0 F1 s0 s1 P L0 L1 O0 O1) : ∃ B : Bd, B.n = n ∧ DPm w B q1 pw g F1 s1 P L1 O1 ∧
    ∀ w' s' P' L' O', DPm w' B q1 pw g F1 s' P' L' O' → KeptT DAT B w w' → TwoM w' n pw q0 q1 g F0 F1 s0 s' P' L0 L' O0 O' := by
  obtain ⟨B, h1, h2, h3⟩ := h.swap.first
  exact ⟨B, h1, h2, fun w' s' P' L' O' ha hk => (h3 w' s' P' L' O' ha hk).swap⟩
theorem TwoM.below (h : TwoM w n pw q0 q1 g F0 F1 s0 s1 P L0 L1 O0 O1) (hb : Below w.heap.size w w') : TwoM w' n pw q0 q1 g F0 F1 s0 s1 P L0 L1 O0 O1 := by
  obtain ⟨S0, S1, hn, h⟩ := h
  have hz := hb.size
  refine ⟨fun k => S0 k ∧ k < w.heap.size, fun k => S1 k ∧ k < w.heap.size, Nat.le_trans hn hz, ⟨h.a.move hb ⟨Nat.le_refl _, fun k hk hh => ?_⟩ (Nat.le_refl _), h.b.move hb ⟨Nat.le_refl _, fun k hk hh => ?_⟩ (Nat.le_refl _), fun k hk h0 h1 => h.no k h0.2 h0.1 h1.1⟩⟩
  · have := (Bd.on_has hk).1 hh
    exact (Bd.on_has (by omega)).2 ⟨this.1, this.2, hk⟩
  · have := (Bd.on_has hk).1 hh
    exact (Bd.on_has (by omega)).2 ⟨this.1, this.2, hk⟩
theorem TwoM.low (h : TwoM w n pw q0 q1 g F0 F1 s0 s1 P L0 L1 O0 O1) : n ≤ w.heap.size := by
  obtain ⟨S0, S1, hn, h⟩ := h; exact hn
end
/-- Within a law: the box of the case, the pair of disks, the disks. -/
structure StW (n0 : Nat) (wB wr : World) (X pw q0 q1 n : Nat) (g : Geo) (F0 F1 : List Flt) (s0 s1 : DS) (P : Pow) (L0 L1 : List Sec) (O0 O1 : List OpV) : Prop where
  box : Below n0 wB wr
  var : wr.ownsRow 0 68 3 (.slice (some ⟨X, 0, none⟩) 1 1) 1 [.pointer (some ⟨pw, 0, none⟩), .pointer (some ⟨q0, 0, none⟩), .pointer (some ⟨q1, 0, none⟩)]
  two : TwoM wr n pw q0 q1 g F0 F1 s0 s1 P L0 L1 O0 O1
  le : n0 ≤ n
section
variable {n0 X pw q0 q1 n : Nat} {wB wr w' : World} {g : Geo} {F0 F1 : List Flt} {s0 s1 : DS} {P : Pow} {L0 L1 : List Sec} {O0 O1 : List OpV}
theorem StW.cells (h : StW n0 wB wr X pw q0 q1 n g F0 F1 s0 s1 P L0 L1 O0 O1) : wr.cell? ⟨X, 0, none⟩ = some (.pointer (some ⟨pw, 0, none⟩)) ∧ wr.cell? ⟨X, 1, none⟩ = some (.pointer (some ⟨q0, 0, none⟩)) ∧ wr.cell? ⟨X, 2, none⟩ = some (.pointer (some ⟨q1, 0, none⟩)) :=
  ⟨(World.ownsRow.cellAt h.var 0 (by decide)).trans rfl, (World.ownsRow.cellAt h.var 1 (by decide)).trans rfl, (World.ownsRow.cellAt h.var 2 (by decide)).trans rfl⟩
theorem StW.first (h : StW n0 wB wr X pw q0 q1 n g F0 F1 s0 s1 P L0 L1 O0 O1) : ∃ B : Bd, B.n = n ∧ DPm wr B q0 pw g F0 s0 P L0 O0 ∧
    ∀ w' s' P' L' O', DPm w' B q0 pw g F0 s' P' L' O' → KeptT DAT B wr w' → StW n0 wB w' X pw q0 q1 n g F0 F1 s' s1 P' L' L1 O' O1 := by
  obtain ⟨B, h1, h2, h3⟩ := h.two.first
  refine ⟨B, h1, h2, fun w' s' P' L' O' ha hk => ⟨?_, own_typed h.var hk (by unfold DAT; decide), h3 w' s' P' L' O' ha hk, h.le⟩⟩
  exact h.box.trans ((hk.below (by rw [h1]; exact h.two.low)).mono (by rw [h1]; exact h.le))
theorem StW.swap0 (h : StW n0 wB wr X pw q0 q1 n g F0 F1 s0 s1 P L0 L1 O0 O1) : ∃ B : Bd, B.n = n ∧ DPm wr B q1 pw g F1 s1 P L1 O1 ∧
    ∀ w' s' P' L' O', DPm w' B q1 pw g F1 s' P' L' O' → KeptT DAT B wr w' → StW n0 wB w' X pw q0 q1 n g F0 F1 s0 s' P' L0 L' O0 O' := by
  obtain ⟨B, h1, h2, h3⟩ := h.two.second
  refine ⟨B, h1, h2, fun w' s' P' L' O' ha hk => ⟨?_, own_typed h.var hk (by unfold DAT; decide), h3 w' s' P' L' O' ha hk, h.le⟩⟩
  exact h.box.trans ((hk.below (by rw [h1]; exact h.two.low)).mono (by rw [h1]; exact h.le))
theorem StW.below (h : StW n0 wB wr X pw q0 q1 n g F0 F1 s0 s1 P L0 L1 O0 O1) (hb : Below wr.heap.size wr w') : StW n0 wB w' X pw q0 q1 n g F0 F1 s0 s1 P L0 L1 O0 O1 :=
  ⟨h.box.trans (hb.mono (Nat.le_trans h.le h.two.low)), own_kept h.var (belKept0 (S := fun _ => False) hb) (fun _ _ h => h), h.two.below hb, h.le⟩
theorem StW.arm (h : StW n0 wB wr X pw q0 q1 n g F0 F1 s0 s1 P L0 L1 O0 O1) (k : Int) : Calls Try.prog 37 #[.pointer (some ⟨pw, 0, none⟩), .int .i64 k] wr fun e w' => e = .returned (.tuple #[]) ∧ StW n0 wB w' X pw q0 q1 n g F0 F1 s0 s1 (armP P k) L0 L1 O0 O1 := by
  obtain ⟨B, _, hd, hs⟩ := h.first
  exact (arm_any k hd.p).mono (fun e w' hh => ⟨hh.1, hs w' _ _ _ _ (DPm.power hd hh.2.1 hh.2.2) (hh.2.2.sub (by unfold DAT; decide))⟩)
theorem StW.on (h : StW n0 wB wr X pw q0 q1 n g F0 F1 s0 s1 P L0 L1 O0 O1) : Calls Try.prog 41 #[.pointer (some ⟨pw, 0, none⟩)] wr fun e w' => e = .returned (.tuple #[]) ∧ StW n0 wB w' X pw q0 q1 n g F0 F1 s0 s1 { P with off := false } L0 L1 O0 O1 := by
  obtain ⟨B, _, hd, hs⟩ := h.first
  exact (don_any hd.p).mono (fun e w' hh => ⟨hh.1, hs w' _ _ _ _ (DPm.power hd hh.2.1 hh.2.2) (hh.2.2.sub (by unfold DAT; decide))⟩)
theorem StW.off (h : StW n0 wB wr X pw q0 q1 n g F0 F1 s0 s1 P L0 L1 O0 O1) : Calls Try.prog 39 #[.pointer (some ⟨pw, 0, none⟩)] wr fun e w' => e = .returned (.bool P.off) ∧ wr = w' := by
  obtain ⟨B, _, hd, _⟩ := h.first; exact off_any hd.p
theorem StW.flush1 (h : StW n0 wB wr X pw q0 q1 n g F0 F1 s0 s1 P L0 L1 O0 O1) (hn : F1.length ≤ 9223372036854775807) (ho : O1.length ≤ 99000) : Calls Try.prog 38 #[.pointer (some ⟨q1, 0, none⟩), .int .u64 0] wr fun e w' => e = .returned (.int .i64 (begD F1 s1 P 0).er) ∧ StW n0 wB w' X pw q0 q1 n g F0 F1 s0 (dFlS F1 s1 P 0) (begD F1 s1 P 0).P L0 (dFlLM g F1 s1 P L1 O1 0) O0 (dFlO F1 s1 P O1 0) := by
  obtain ⟨B, _, hd, hs⟩ := h.swap0
  exact (dflush_any 0 hd hn ho).mono (fun e w' hh => ⟨hh.1, hs w' _ _ _ _ hh.2.1 hh.2.2⟩)
theorem StW.restart1 (h : StW n0 wB wr X pw q0 q1 n g F0 F1 s0 s1 P L0 L1 O0 O1) (k : Int) (ho : O1.length ≤ 100000) : Calls Try.prog 40 #[.pointer (some ⟨q1, 0, none⟩), .int .i64 k] wr fun e w' => e = .returned (.int .i64 (rstE s1 P)) ∧ StW n0 wB w' X pw q0 q1 n g F0 F1 s0 (rstS s1 P) P L0 (rstLM g s1 P L1 O1 k) O0 (rstO s1 P O1) := by
  obtain ⟨B, _, hd, hs⟩ := h.swap0
  exact (drestart_any k hd ho).mono (fun e w' hh => ⟨hh.1, hs w' _ _ _ _ hh.2.1 hh.2.2⟩)
theorem StW.restart0 (h : StW n0 wB wr X pw q0 q1 n g F0 F1 s0 s1 P L0 L1 O0 O1) (k : Int) (ho : O0.length ≤ 100000) : Calls Try.prog 40 #[.pointer (some ⟨q0, 0, none⟩), .int .i64 k] wr fun e w' => e = .returned (.int .i64 (rstE s0 P)) ∧ StW n0 wB w' X pw q0 q1 n g F0 F1 (rstS s0 P) s1 P (rstLM g s0 P L0 O0 k) L1 (rstO s0 P O0) O1 := by
  obtain ⟨B, _, hd, hs⟩ := h.first
  exact (drestart_any k hd ho).mono (fun e w' hh => ⟨hh.1, hs w' _ _ _ _ hh.2.1 hh.2.2⟩)
theorem StW.acquire0 (h : StW n0 wB wr X pw q0 q1 n g F0 F1 s0 s1 P L0 L1 O0 O1) (key : Int) : Calls Try.prog 44 #[.pointer (some ⟨q0, 0, none⟩), .int .u64 key] wr fun e w' => e = .returned (.int .i64 (stE s0 P)) ∧ StW n0 wB w' X pw q0 q1 n g F0 F1 (acqS s0 P key) s1 P L0 L1 O0 O1 := by
  obtain ⟨B, _, hd, hs⟩ := h.first
  exact (dacquire_any key hd).mono (fun e w' hh => ⟨hh.1, hs w' _ _ _ _ hh.2.1 hh.2.2⟩)
theorem StW.kill0 (h : StW n0 wB wr X pw q0 q1 n g F0 F1 s0 s1 P L0 L1 O0 O1) : Calls Try.prog 51 #[.pointer (some ⟨q0, 0, none⟩)] wr fun e w' => e = .returned (.tuple #[]) ∧ StW n0 wB w' X pw q0 q1 n g F0 F1 { s0 with dead := true } s1 P L0 L1 O0 O1 := by
  obtain ⟨B, _, hd, hs⟩ := h.first
  exact (dkill_any hd).mono (fun e w' hh => ⟨hh.1, hs w' _ _ _ _ hh.2.1 hh.2.2⟩)
theorem StW.ops0 (h : StW n0 wB wr X pw q0 q1 n g F0 F1 s0 s1 P L0 L1 O0 O1) : Calls Try.prog 31 #[.pointer (some ⟨q0, 0, none⟩)] wr fun e w' => e = .returned (.int .i64 s0.ops) ∧ wr = w' := by
  obtain ⟨B, _, hd, _⟩ := h.first; exact dops_any hd
end
/-- Within a loop of a law over acts: the acts as well. -/
structure StL (n0 w0 : Nat) (wB wr : World) (X pw q0 q1 n : Nat) (g : Geo) (F0 F1 : List Flt) (s0 s1 : DS) (P : Pow) (L0 L1 : List Sec) (O0 O1 : List OpV) (l : List ActV) (A' : Option Addr) (c' k : Nat) : Prop where
  st : StW n0 wB wr X pw q0 q1 n g F0 F1 s0 s1 P L0 L1 O0 O1
  row : ∃ L, wr.ownsRow w0 78 6 (.slice A' l.length c') l.length L ∧ ∀ j, k * 6 ≤ j → L[j]? = (flatA l)[j]?
end Go.Proofs.Ytckdhhadlemakaa
