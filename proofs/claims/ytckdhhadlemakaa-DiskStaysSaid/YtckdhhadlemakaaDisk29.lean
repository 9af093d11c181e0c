/-
  WHAT IS SHOWN: what start of tegulalaw14 returns and leaves: two new disks with one power supply. Conditions: the geometry and the faults are valid, and can be read.
-/
import Derived.Test.YtckdhhadlemakaaDisk20
import Derived.Test.YtckdhhadlemakaaDisk10
namespace Go.Proofs.Ytckdhhadlemakaa
set_option linter.unusedVariables false
open Go.RowKit

section
variable {w w' : World} {B C : Bd} {q pw : Nat} {g : Geo} {F : List Flt} {s : DS} {P : Pow} {LM : List Sec} {O : List OpV}
theorem DPm.types (h : DPm w B q pw g F s P LM O) {ts : List TypeId} {C : Bd} (hk : KeptT ts C w w') (ht : ∀ t, t ∈ [147, 105, 139, 150, 3, 76, 5] → t ∉ ts) (h1 : 129 ∉ ts) (h2 : 122 ∉ ts) (h3 : 124 ∉ ts) : DPm w' B q pw g F s P LM O := by
  obtain ⟨⟨p, FA, fc, hd⟩, hp, hf, hs, hB⟩ := h
  exact ⟨⟨p, FA, fc, hd.keptT hk ht h1 h2⟩, hp.keptT hk h3, hf, hs, Nat.le_trans hB hk.size⟩
theorem PowM.bound (h : PowM w B pw P) (hn : C.n ≤ B.n) (hx : ¬ C.X pw) : PowM w C pw P := ⟨own_mono h.obj hn, hx⟩
theorem DPm.move (h : DPm w B q pw g F s P LM O) (hb : Below w.heap.size w w') (hs : Bd.Sub w.heap.size B C) (hC : C.top ≤ w'.heap.size) : DPm w' C q pw g F s P LM O := by
  obtain ⟨⟨p, FA, fc, hd⟩, hp, hf, hsb, hB⟩ := h
  exact ⟨⟨p, FA, fc, (hd.mono hs).below0 hb⟩, (hp.mono hs).below0 hb, hf, hsb, hC⟩
end
theorem TwoM.types {w w' : World} {n pw q0 q1 : Nat} {g : Geo} {F0 F1 : List Flt} {s0 s1 : DS} {P : Pow} {L0 L1 : List Sec} {O0 O1 : List OpV} (h : TwoM w n pw q0 q1 g F0 F1 s0 s1 P L0 L1 O0 O1) {ts : List TypeId} {C : Bd} (hk : KeptT ts C w w') (hz : w'.heap.size = w.heap.size)
    (ht : ∀ t, t ∈ [147, 105, 139, 150, 3, 76, 5] → t ∉ ts) (h1 : 129 ∉ ts) (h2 : 122 ∉ ts) (h3 : 124 ∉ ts) : TwoM w' n pw q0 q1 g F0 F1 s0 s1 P L0 L1 O0 O1 := by
  obtain ⟨S0, S1, hn, h⟩ := h
  refine ⟨S0, S1, by omega, ⟨(h.a.types hk ht h1 h2 h3).mono ⟨Nat.le_refl _, fun k hk' hh => ?_⟩ (Nat.le_refl _), (h.b.types hk ht h1 h2 h3).mono ⟨Nat.le_refl _, fun k hk' hh => ?_⟩ (Nat.le_refl _), fun k hk' => h.no k (by omega)⟩⟩
  · exact (Bd.on_has hk').2 ((Bd.on_has (by omega)).1 hh)
  · exact (Bd.on_has hk').2 ((Bd.on_has (by omega)).1 hh)
theorem setPair {w : World} {r : Nat} {p0 p1 p2 : Value} {base : Nat} (h : w.ownsRow base 68 3 (.slice (some ⟨r, 0, none⟩) 1 1) 1 [p0, p1, p2]) (j : Nat) (v : Value) : KeptT [68] (Bd.of 0) w (w.setCell ⟨r, j, none⟩ v) :=
  KeptT.of ((Kept.refl (fun k => k = r) w).setCell (p := ⟨r, j, none⟩) (fun _ => rfl) _) (fun k _ e => by have e' : k = r := e; subst e'; exact ⟨⟨Nat.zero_le _, fun h => h⟩, HasT.mem (IsT.own h) (by simp)⟩)
/-- The boxes of start. -/
structure StBox (w wr : World) (X pw : Nat) (cs : List Value) (v0 v1 : Value) : Prop where
  bel : Below w.heap.size w wr
  box : wr.ownsRow 0 64 8 (.slice (some ⟨w.heap.size, 0, none⟩) 1 1) 1 cs
  res : wr.ownsRow 0 68 3 (.slice (some ⟨w.heap.size + 1, 0, none⟩) 1 1) 1 [.pointer none, .pointer none, .pointer none]
  var : wr.ownsRow 0 68 3 (.slice (some ⟨X, 0, none⟩) 1 1) 1 [.pointer (some ⟨pw, 0, none⟩), v0, v1]
  lt : w.heap.size + 1 < X
theorem StBox.below {w wr w' : World} {X pw : Nat} {cs : List Value} {v0 v1 : Value} (h : StBox w wr X pw cs v0 v1) (hb : Below wr.heap.size wr w') : StBox w w' X pw cs v0 v1 :=
  ⟨h.bel.trans (hb.mono h.bel.size), own_kept h.box (belKept0 (S := fun _ => False) hb) (fun _ _ h => h), own_kept h.res (belKept0 (S := fun _ => False) hb) (fun _ _ h => h), own_kept h.var (belKept0 (S := fun _ => False) hb) (fun _ _ h => h), h.lt⟩
theorem StBox.store {w wr : World} {X pw : Nat} {cs : List Value} {v0 v1 v0' v1' : Value} (h : StBox w wr X pw cs v0 v1) (j : Nat) (v : Value) (e : [Value.pointer (some ⟨pw, 0, none⟩), v0, v1].set j v = [Value.pointer (some ⟨pw, 0, none⟩), v0', v1']) : StBox w (wr.setCell ⟨X, j, none⟩ v) X pw cs v0' v1' := by
  have hk : Kept (fun k => k = X) wr (wr.setCell ⟨X, j, none⟩ v) := (Kept.refl (fun k => k = X) wr).setCell (p := ⟨X, j, none⟩) (fun _ => rfl) _
  have hl := h.lt
  have := (World.ownsRow.stored h.var j v).1
  rw [e] at this
  exact ⟨h.bel.setCell (p := ⟨X, j, none⟩) (by show w.heap.size ≤ X; omega) v, own_kept h.box hk (fun k e => by simp [Value.ownBlock] at e; subst e; show ¬ (w.heap.size = X); omega), own_kept h.res hk (fun k e => by simp [Value.ownBlock] at e; subst e; show ¬ (w.heap.size + 1 = X); omega), this, hl⟩
theorem StBox.cells {w wr : World} {X pw : Nat} {v0 v1 c0 c1 c2 c3 c4 c5 c6 c7 : Value} (h : StBox w wr X pw [c0, c1, c2, c3, c4, c5, c6, c7] v0 v1) :
    (wr.cell? ⟨w.heap.size, 0, none⟩ = some c0 ∧ wr.cell? ⟨w.heap.size, 1, none⟩ = some c1 ∧ wr.cell? ⟨w.heap.size, 2, none⟩ = some c2 ∧ wr.cell? ⟨w.heap.size, 3, none⟩ = some c3 ∧ wr.cell? ⟨w.heap.size, 4, none⟩ = some c4 ∧ wr.cell? ⟨w.heap.size, 5, none⟩ = some c5 ∧ wr.cell? ⟨w.heap.size, 6, none⟩ = some c6) ∧
    (wr.cell? ⟨X, 0, none⟩ = some (.pointer (some ⟨pw, 0, none⟩)) ∧ wr.cell? ⟨X, 1, none⟩ = some v0 ∧ wr.cell? ⟨X, 2, none⟩ = some v1) ∧ (wr.frozen? ⟨X, 1, none⟩ = false ∧ wr.frozen? ⟨X, 2, none⟩ = false) :=
  ⟨⟨(World.ownsRow.cellAt h.box 0 (by decide)).trans rfl, (World.ownsRow.cellAt h.box 1 (by decide)).trans rfl, (World.ownsRow.cellAt h.box 2 (by decide)).trans rfl, (World.ownsRow.cellAt h.box 3 (by decide)).trans rfl, (World.ownsRow.cellAt h.box 4 (by decide)).trans rfl, (World.ownsRow.cellAt h.box 5 (by decide)).trans rfl, (World.ownsRow.cellAt h.box 6 (by decide)).trans rfl⟩,
   ⟨(World.ownsRow.cellAt h.var 0 (by decide)).trans rfl, (World.ownsRow.cellAt h.var 1 (by decide)).trans rfl, (World.ownsRow.cellAt h.var 2 (by decide)).trans rfl⟩, h.var.frozenAt 1, h.var.frozenAt 2⟩
def StartPost (w : World) (g : Geo) (l0 l1 : List Flt) (e : Ending) (w' : World) : Prop :=
  ∃ pw q0 q1, e = .returned (.tuple #[.agg #[.pointer (some ⟨pw, 0, none⟩), .pointer (some ⟨q0, 0, none⟩), .pointer (some ⟨q1, 0, none⟩)], .bool true]) ∧ TwoM w' w.heap.size pw q0 q1 g l0 l1 (newS P0) (newS P0) P0 (blankL g) (blankL g) [] [] ∧ Below w.heap.size w w'
/-- The rounds of start. -/
def StAt (w : World) (g : Geo) (l0 l1 : List Flt) (X pw : Nat) (cs : List Value) (k : Nat) (wr : World) : Prop :=
  (k = 0 ∧ StBox w wr X pw cs (.pointer none) (.pointer none) ∧ PowM wr (Bd.of w.heap.size) pw P0) ∨
  (k = 1 ∧ ∃ q0 B, StBox w wr X pw cs (.pointer (some ⟨q0, 0, none⟩)) (.pointer none) ∧ B.n = w.heap.size ∧ DPm wr B q0 pw g l0 (newS P0) P0 (blankL g) []) ∨
  (k = 2 ∧ ∃ q0 q1, StBox w wr X pw cs (.pointer (some ⟨q0, 0, none⟩)) (.pointer (some ⟨q1, 0, none⟩)) ∧ TwoM wr w.heap.size pw q0 q1 g l0 l1 (newS P0) (newS P0) P0 (blankL g) (blankL g) [] [])
set_option maxRecDepth 100000 in
set_option maxHeartbeats 4000000 in
theorem start14_any (g : Geo) (l0 l1 : List Flt) (A0 A1 AA : Option Addr) (c0 c1 na ca : Nat) (w : World) (h0 : Rd w w.heap.size A0 (flatF l0)) (h1 : Rd w w.heap.size A1 (flatF l1)) (hg : validG g = true) (hv0 : validF l0 = true) (hv1 : validF l1 = true) (n0 : l0.length * 24 ≤ 140737488355328) (n1 : l1.length * 24 ≤ 140737488355328) :
    Calls Try.prog 36 #[.agg #[.int .i64 g.random, .int .i64 g.bands, .int .i64 g.tracks, .int .i64 g.sectors, .int .i64 g.overlap, .slice A0 l0.length c0, .slice A1 l1.length c1, .slice AA na ca]] w (StartPost w g l0 l1) := by
  have HN0 : Hid (∀ W B pw, Below w.heap.size w W → PowM W B pw P0 → B.top ≤ W.heap.size → Calls Try.prog 27 #[.agg #[.int .i64 g.random, .int .i64 g.bands, .int .i64 g.tracks, .int .i64 g.sectors, .int .i64 g.overlap], .slice A0 l0.length c0, .pointer (some ⟨pw, 0, none⟩)] W (DNewPost W B pw g l0 P0)) := by
    unfold Hid; intro W B pw hW hp hB; exact dnew_yes l0 A0 c0 hg hv0 ((h0.below hW (Nat.le_refl _)).more hW.size) n0 hp hB
  have HN1 : Hid (∀ W B pw, Below w.heap.size w W → PowM W B pw P0 → B.top ≤ W.heap.size → Calls Try.prog 27 #[.agg #[.int .i64 g.random, .int .i64 g.bands, .int .i64 g.tracks, .int .i64 g.sectors, .int .i64 g.overlap], .slice A1 l1.length c1, .pointer (some ⟨pw, 0, none⟩)] W (DNewPost W B pw g l1 P0)) := by
    unfold Hid; intro W B pw hW hp hB; exact dnew_yes l1 A1 c1 hg hv1 ((h1.below hW (Nat.le_refl _)).more hW.size) n1 hp hB
  have HNP := Lib.hid newpower_any
  clear h0 h1 hg hv0 hv1
  obtain ⟨cs, hcs⟩ : ∃ cs : List Value, cs = [.int .i64 g.random, .int .i64 g.bands, .int .i64 g.tracks, .int .i64 g.sectors, .int .i64 g.overlap, .slice A0 l0.length c0, .slice A1 l1.length c1, .slice AA na ca] := ⟨_, rfl⟩
  have HCS := Lib.hid hcs
  clear hcs
  have hbA : Below w.heap.size w ((w.alloc (.cells #[.int .i64 g.random, .int .i64 g.bands, .int .i64 g.tracks, .int .i64 g.sectors, .int .i64 g.overlap, .slice A0 l0.length c0, .slice A1 l1.length c1, .slice AA na ca] 64)).alloc (.cells #[.pointer none, .pointer none, .pointer none] 68)) := ((Below.refl _ _).alloc (Nat.le_refl _) _).alloc (by simp) _
  have hox : ((w.alloc (.cells #[.int .i64 g.random, .int .i64 g.bands, .int .i64 g.tracks, .int .i64 g.sectors, .int .i64 g.overlap, .slice A0 l0.length c0, .slice A1 l1.length c1, .slice AA na ca] 64)).alloc (.cells #[.pointer none, .pointer none, .pointer none] 68)).ownsRow 0 64 8 (.slice (some ⟨w.heap.size, 0, none⟩) 1 1) 1 cs := by
    have := World.ownsRow_lit (base := 0) (e := 64) (size := 8) w #[.int .i64 g.random, .int .i64 g.bands, .int .i64 g.tracks, .int .i64 g.sectors, .int .i64 g.overlap, .slice A0 l0.length c0, .slice A1 l1.length c1, .slice AA na ca] 1 (Nat.zero_le _) (by decide) rfl
    rw [HCS.out]
    exact this.alloc _
  have hor : ((w.alloc (.cells #[.int .i64 g.random, .int .i64 g.bands, .int .i64 g.tracks, .int .i64 g.sectors, .int .i64 g.overlap, .slice A0 l0.length c0, .slice A1 l1.length c1, .slice AA na ca] 64)).alloc (.cells #[.pointer none, .pointer none, .pointer none] 68)).ownsRow 0 68 3 (.slice (some ⟨w.heap.size + 1, 0, none⟩) 1 1) 1 [.pointer none, .pointer none, .pointer none] := by
    have := World.ownsRow_lit (base := 0) (e := 68) (size := 3) (w.alloc (.cells #[.int .i64 g.random, .int .i64 g.bands, .int .i64 g.tracks, .int .i64 g.sectors, .int .i64 g.overlap, .slice A0 l0.length c0, .slice A1 l1.length c1, .slice AA na ca] 64)) #[.pointer none, .pointer none, .pointer none] 1 (Nat.zero_le _) (by decide) rfl
    rw [World.size_alloc] at this
    exact this
  have HA := Lib.hid (And.intro hbA (And.intro hox hor))
  clear hbA hox hor
  go_enter Try.func36, Try.ntmps36
  go_wp2_with fail
  refine (HNP.out _).mono ?_
  rintro e w1 ⟨pw, rfl, hp1, hb1⟩
  obtain ⟨hbA, hox, hor⟩ := HA.out
  have hz0 : w.heap.size + 2 ≤ w1.heap.size := by have := hb1.size; simp at this; omega
  have hb2 : Below w1.heap.size w1 (w1.alloc (.cells #[.pointer (some ⟨pw, 0, none⟩), .pointer none, .pointer none] 68)) := (Below.refl _ _).alloc (Nat.le_refl _) _
  have hs0 : StAt w g l0 l1 w1.heap.size pw cs 0 (w1.alloc (.cells #[.pointer (some ⟨pw, 0, none⟩), .pointer none, .pointer none] 68)) := by
    refine .inl ⟨rfl, ⟨(hbA.trans (hb1.mono hbA.size)).trans (hb2.mono (by omega)), own_kept (own_kept hox (belKept0 (S := fun _ => False) hb1) (fun _ _ h => h)) (belKept0 (S := fun _ => False) hb2) (fun _ _ h => h), own_kept (own_kept hor (belKept0 (S := fun _ => False) hb1) (fun _ _ h => h)) (belKept0 (S := fun _ => False) hb2) (fun _ _ h => h), World.ownsRow_lit (base := 0) (e := 68) (size := 3) w1 #[.pointer (some ⟨pw, 0, none⟩), .pointer none, .pointer none] 1 (Nat.zero_le _) (by decide) rfl, by omega⟩, ?_⟩
    exact (hp1.bound (C := Bd.of w.heap.size) (by simp [Bd.of]; omega) (fun h => h)).below0 hb2
  have HS0 := Lib.hid hs0
  clear hs0 hp1 hbA hox hor
  generalize hX : w1.heap.size = X at *
  go_wp2
  generalize w1.alloc (.cells #[.pointer (some ⟨pw, 0, none⟩), .pointer none, .pointer none] 68) = w2 at *
  go_loopw [5, 6, 7] (fun s5 s6 s7 wr => ∃ k : Nat, k ≤ 2 ∧ s5 = .int .i64 k ∧ Hid (StAt w g l0 l1 X pw cs k wr)) (fun v _ _ _ => 2 - (intOf v).toNat)
  case atStart => exact ⟨0, by omega, rfl, HS0⟩
  case round =>
    obtain ⟨k, hk, rfl, hst⟩ := hrel
    rcases hst.out with ⟨rfl, hbx, hpw⟩ | ⟨rfl, q0, B, hbx, hBn, hd0⟩ | ⟨rfl, q0, q1, hbx, htw⟩
    · have HBX := Lib.hid hbx
      rw [HCS.out] at hbx
      obtain ⟨⟨b0, b1, b2, b3, b4, b5, b6⟩, ⟨x0, x1, x2⟩, f1, f2⟩ := hbx.cells
      have hbl := hbx.bel
      have HNW := Lib.hid (HN0.out wr.drew (Bd.on w.heap.size wr.heap.size (fun k => k = pw) hbl.size) pw hbl.drew ((hpw.bound (C := Bd.on w.heap.size wr.heap.size (fun k => k = pw) hbl.size) (Nat.le_refl _) (fun h => h.2 rfl)).below0 ((Below.refl _ _).drew)) (Nat.le_refl _))
      have hbb : ∃ B : Bd, B = Bd.on w.heap.size wr.heap.size (fun k => k = pw) hbl.size := ⟨_, rfl⟩
      obtain ⟨B0, hB0⟩ := hbb
      rw [← hB0] at HNW
      have HBN : Hid (B0.n = w.heap.size) := by unfold Hid; rw [hB0]; rfl
      clear hst hbx hpw hB0
      go_wp2
      go_region_held3 (fun W => W.cell? ⟨w.heap.size, 0, none⟩ = some (.int .i64 g.random) ∧ W.cell? ⟨w.heap.size, 1, none⟩ = some (.int .i64 g.bands) ∧ W.cell? ⟨w.heap.size, 2, none⟩ = some (.int .i64 g.tracks) ∧ W.cell? ⟨w.heap.size, 3, none⟩ = some (.int .i64 g.sectors) ∧ W.cell? ⟨w.heap.size, 4, none⟩ = some (.int .i64 g.overlap) ∧ W.cell? ⟨w.heap.size, 5, none⟩ = some (.slice A0 l0.length c0) ∧ W.cell? ⟨w.heap.size, 6, none⟩ = some (.slice A1 l1.length c1) ∧ W.cell? ⟨X, 0, none⟩ = some (.pointer (some ⟨pw, 0, none⟩)))
        (first | (refine ⟨?_, ?_, ?_, ?_, ?_, ?_, ?_, ?_⟩ <;> assumption) | (simp (maxDischargeDepth := 20) [World.cell?_alloc_some, *]; done))
        ((go_at_call 27
          refine HNW.out.mono ?_
          rintro e w3 ⟨q0, rfl, hd3, hb3⟩
          have HDN := Lib.hid hd3
          have hb3' : Below wr.heap.size wr w3 := ((Below.refl wr.heap.size wr).drew).trans hb3
          have hbx3 := HBX.out.below hb3'
          rw [HCS.out] at hbx3
          obtain ⟨⟨e0, e1, e2, e3, e4, e5, e6⟩, ⟨y0, y1, y2⟩, g1, g2⟩ := hbx3.cells
          clear hd3 hbx3))
      have hbx4 := HBX.out.below hb3'
      have HFS := Lib.hid (And.intro (hbx4.store 1 (.pointer (some ⟨q0, 0, none⟩)) (v0' := .pointer (some ⟨q0, 0, none⟩)) (v1' := .pointer none) rfl) (HDN.out.types (setPair hbx4.var 1 (.pointer (some ⟨q0, 0, none⟩))) (by decide) (by decide) (by decide) (by decide)))
      clear hbx4 b0 b1 b2 b3 b4 b5 b6 x0 x1 x2 f1 f2
      go_wp2
      go_roundw
      case rel => exact ⟨1, by omega, by go_num, Lib.hid (.inr (.inl ⟨rfl, q0, B0, HFS.out.1, HBN.out, HFS.out.2⟩))⟩
      case measure => simp [intOf]
    · have HBX := Lib.hid hbx
      rw [HCS.out] at hbx
      obtain ⟨⟨b0, b1, b2, b3, b4, b5, b6⟩, ⟨x0, x1, x2⟩, f1, f2⟩ := hbx.cells
      have hbl := hbx.bel
      have HNW := Lib.hid (HN1.out wr.drew (Bd.on w.heap.size wr.heap.size (fun k => k = pw) hbl.size) pw hbl.drew ((hd0.p.bound (C := Bd.on w.heap.size wr.heap.size (fun k => k = pw) hbl.size) (by rw [hBn]; exact Nat.le_refl _) (fun h => h.2 rfl)).below0 ((Below.refl _ _).drew)) (Nat.le_refl _))
      have hbb : ∃ B : Bd, B = Bd.on w.heap.size wr.heap.size (fun k => k = pw) hbl.size := ⟨_, rfl⟩
      obtain ⟨B1, hB1⟩ := hbb
      rw [← hB1] at HNW
      have HBE := Lib.hid hB1
      have HD0 := Lib.hid hd0
      clear hst hbx hd0 hB1
      go_wp2
      go_region_held3 (fun W => W.cell? ⟨w.heap.size, 0, none⟩ = some (.int .i64 g.random) ∧ W.cell? ⟨w.heap.size, 1, none⟩ = some (.int .i64 g.bands) ∧ W.cell? ⟨w.heap.size, 2, none⟩ = some (.int .i64 g.tracks) ∧ W.cell? ⟨w.heap.size, 3, none⟩ = some (.int .i64 g.sectors) ∧ W.cell? ⟨w.heap.size, 4, none⟩ = some (.int .i64 g.overlap) ∧ W.cell? ⟨w.heap.size, 5, none⟩ = some (.slice A0 l0.length c0) ∧ W.cell? ⟨w.heap.size, 6, none⟩ = some (.slice A1 l1.length c1) ∧ W.cell? ⟨X, 0, none⟩ = some (.pointer (some ⟨pw, 0, none⟩)))
        (first | (refine ⟨?_, ?_, ?_, ?_, ?_, ?_, ?_, ?_⟩ <;> assumption) | (simp (maxDischargeDepth := 20) [World.cell?_alloc_some, *]; done))
        ((go_at_call 27
          refine HNW.out.mono ?_
          rintro e w3 ⟨q1, rfl, hd3, hb3⟩
          have HDN := Lib.hid hd3
          have hb3' : Below wr.heap.size wr w3 := ((Below.refl wr.heap.size wr).drew).trans hb3
          have hbx3 := HBX.out.below hb3'
          rw [HCS.out] at hbx3
          obtain ⟨⟨e0, e1, e2, e3, e4, e5, e6⟩, ⟨y0, y1, y2⟩, g1, g2⟩ := hbx3.cells
          clear hd3 hbx3))
      have hbx4 := HBX.out.below hb3'
      have hn3 : w.heap.size ≤ w3.heap.size := Nat.le_trans hbl.size hb3'.size
      have htw : TwoM w3 w.heap.size pw q0 q1 g l0 l1 (newS P0) (newS P0) P0 (blankL g) (blankL g) [] [] := by
        refine ⟨fun k => k < wr.heap.size, fun k => wr.heap.size ≤ k ∨ k = pw, hn3, ⟨HD0.out.move hb3' ⟨by rw [hBn]; exact Nat.le_refl _, fun k hk' hh => ?_⟩ (Nat.le_refl _), HDN.out.mono ⟨by rw [HBE.out]; exact Nat.le_refl _, fun k hk' hh => ?_⟩ (Nat.le_refl _), fun k hk' h0 h1 => ?_⟩⟩
        · have := hb3'.size
          exact (Bd.on_has (by omega)).2 ⟨by have := hh.1; rw [hBn] at this; exact this, hk'⟩
        · rw [HBE.out] at hh
          refine (Bd.on_has hk').2 ⟨hh.1, ?_⟩
          by_cases h2 : k < wr.heap.size
          · exact .inr ((Bd.on_has h2).1 hh).2
          · exact .inl (by omega)
        · rcases h1 with h1 | h1
          · omega
          · exact h1
      have HFS := Lib.hid (And.intro (hbx4.store 2 (.pointer (some ⟨q1, 0, none⟩)) (v0' := .pointer (some ⟨q0, 0, none⟩)) (v1' := .pointer (some ⟨q1, 0, none⟩)) rfl) (htw.types (setPair hbx4.var 2 (.pointer (some ⟨q1, 0, none⟩))) (by simp) (by decide) (by decide) (by decide) (by decide)))
      clear hbx4 htw b0 b1 b2 b3 b4 b5 b6 x0 x1 x2 f1 f2
      go_wp2
      go_roundw
      case rel => exact ⟨2, by omega, by go_num, Lib.hid (.inr (.inr ⟨rfl, q0, q1, HFS.out.1, HFS.out.2⟩))⟩
      case measure => simp [intOf]
    · have HBX := Lib.hid hbx
      rw [HCS.out] at hbx
      obtain ⟨_, ⟨x0, x1, x2⟩, f1, f2⟩ := hbx.cells
      have r0 : wr.cell? ⟨w.heap.size + 1, 0, none⟩ = some (.pointer none) := (World.ownsRow.cellAt hbx.res 0 (by decide)).trans rfl
      have r1 : wr.cell? ⟨w.heap.size + 1, 1, none⟩ = some (.pointer none) := (World.ownsRow.cellAt hbx.res 1 (by decide)).trans rfl
      have r2 : wr.cell? ⟨w.heap.size + 1, 2, none⟩ = some (.pointer none) := (World.ownsRow.cellAt hbx.res 2 (by decide)).trans rfl
      have h0' := hbx.res.frozenAt 0
      have h1' := hbx.res.frozenAt 1
      have h2' := hbx.res.frozenAt 2
      have k1 := setPair hbx.res 0 (.pointer (some ⟨pw, 0, none⟩))
      have o1 := (World.ownsRow.stored hbx.res 0 (.pointer (some ⟨pw, 0, none⟩))).1
      have k2 := setPair o1 1 (.pointer (some ⟨q0, 0, none⟩))
      have o2 := (World.ownsRow.stored o1 1 (.pointer (some ⟨q0, 0, none⟩))).1
      have k3 := setPair o2 2 (.pointer (some ⟨q1, 0, none⟩))
      have HTW := Lib.hid (htw.types ((k1.trans k2).trans k3) (by simp) (by decide) (by decide) (by decide) (by decide))
      have HBL := Lib.hid ((((hbx.bel.setCell (p := ⟨w.heap.size + 1, 0, none⟩) (by show w.heap.size ≤ w.heap.size + 1; omega) (.pointer (some ⟨pw, 0, none⟩))).setCell (p := ⟨w.heap.size + 1, 1, none⟩) (by show w.heap.size ≤ w.heap.size + 1; omega) (.pointer (some ⟨q0, 0, none⟩)))).setCell (p := ⟨w.heap.size + 1, 2, none⟩) (by show w.heap.size ≤ w.heap.size + 1; omega) (.pointer (some ⟨q1, 0, none⟩)))
      clear hst hbx htw k1 k2 k3 o1 o2
      go_wp2
      exact bodyPost_ret (v := .tuple #[.agg #[.pointer (some ⟨pw, 0, none⟩), .pointer (some ⟨q0, 0, none⟩), .pointer (some ⟨q1, 0, none⟩)], .bool true]) (by simp [results, Try.results36, go_sem, *]) rfl ⟨pw, q0, q1, rfl, HTW.out, HBL.out⟩
end Go.Proofs.Ytckdhhadlemakaa
