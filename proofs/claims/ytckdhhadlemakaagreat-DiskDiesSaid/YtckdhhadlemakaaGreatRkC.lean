/-
  WHAT IS SHOWN: what start of tegulalaw14 returns and leaves: two new disks with one power supply. what a walk is told of the cases of tegulalaw14. plain facts on the loops of tegulalaw14 over acts: what lies in memory, what keeps it. plain facts on two disks that share a power supply: each works, and the other one is kept. Conditions: as each theorem names them.
-/
import Derived.Test.YtckdhhadlemakaaGreatRkA
import Derived.Test.YtckdhhadlemakaaGreatDisk10
import Derived.Test.YtckdhhadlemakaaGreatRkB
import Derived.Test.YtckdhhadlemakaaGreatMedOpen
namespace Go.Proofs.YtckdhhadlemakaaGreat
set_option linter.unusedVariables false
open Go.RowKit

section
variable {w w' : World} {B C : Bd} {q pw : Nat} {g : Geo} {F : List Flt} {s : DS} {P : Pow} {LM : List Sec} {O : List OpV}
theorem DPm.types (h : DPm w B q pw g F s P LM O) {ts : List TypeId} {C : Bd} (hk : KeptT ts C w w') (ht : ∀ t, t ∈ [118, 126, 133, 120, 3, 53, 5] → t ∉ ts) (h1 : 79 ∉ ts) (h2 : 64 ∉ ts) (h3 : 83 ∉ ts) : DPm w' B q pw g F s P LM O := by
  obtain ⟨⟨p, FA, fc, hd⟩, hp, hf, hs, hB⟩ := h
  exact ⟨⟨p, FA, fc, hd.keptT hk ht h1 h2⟩, hp.keptT hk h3, hf, hs, Nat.le_trans hB hk.size⟩
theorem PowM.bound (h : PowM w B pw P) (hn : C.n ≤ B.n) (hx : ¬ C.X pw) : PowM w C pw P := ⟨own_mono h.obj hn, hx⟩
theorem DPm.move (h : DPm w B q pw g F s P LM O) (hb : Below w.heap.size w w') (hs : Bd.Sub w.heap.size B C) (hC : C.top ≤ w'.heap.size) : DPm w' C q pw g F s P LM O := by
  obtain ⟨⟨p, FA, fc, hd⟩, hp, hf, hsb, hB⟩ := h
  exact ⟨⟨p, FA, fc, (hd.mono hs).below0 hb⟩, (hp.mono hs).below0 hb, hf, hsb, hC⟩
end
theorem TwoM.types {w w' : World} {n pw q0 q1 : Nat} {g : Geo} {F0 F1 : List Flt} {s0 s1 : DS} {P : Pow} {L0 L1 : List Sec} {O0 O1 : List OpV} (h : TwoM w n pw q0 q1 g F0 F1 s0 s1 P L0 L1 O0 O1) {ts : List TypeId} {C : Bd} (hk : KeptT ts C w w') (hz : w'.heap.size = w.heap.size)
    (ht : ∀ t, t ∈ [118, 126, 133, 120, 3, 53, 5] → t ∉ ts) (h1 : 79 ∉ ts) (h2 : 64 ∉ ts) (h3 : 83 ∉ ts) : TwoM w' n pw q0 q1 g F0 F1 s0 s1 P L0 L1 O0 O1 := by
  obtain ⟨S0, S1, hn, h⟩ := h
  refine ⟨S0, S1, by omega, ⟨(h.a.types hk ht h1 h2 h3).mono ⟨Nat.le_refl _, fun k hk' hh => ?_⟩ (Nat.le_refl _), (h.b.types hk ht h1 h2 h3).mono ⟨Nat.le_refl _, fun k hk' hh => ?_⟩ (Nat.le_refl _), fun k hk' => h.no k (by omega)⟩⟩
  · exact (Bd.on_has hk').2 ((Bd.on_has (by omega)).1 hh)
  · exact (Bd.on_has hk').2 ((Bd.on_has (by omega)).1 hh)
theorem setPair {w : World} {r : Nat} {p0 p1 p2 : Value} {base : Nat} (h : w.ownsRow base 35 3 (.slice (some ⟨r, 0, none⟩) 1 1) 1 [p0, p1, p2]) (j : Nat) (v : Value) : KeptT [35] (Bd.of 0) w (w.setCell ⟨r, j, none⟩ v) :=
  KeptT.of ((Kept.refl (fun k => k = r) w).setCell (p := ⟨r, j, none⟩) (fun _ => rfl) _) (fun k _ e => by have e' : k = r := e; subst e'; exact ⟨⟨Nat.zero_le _, fun h => h⟩, HasT.mem (IsT.own h) (by simp)⟩)
/-- The boxes of start. -/
structure StBox (w wr : World) (X pw : Nat) (cs : List Value) (v0 v1 : Value) : Prop where
  bel : Below w.heap.size w wr
  box : wr.ownsRow 0 28 8 (.slice (some ⟨w.heap.size, 0, none⟩) 1 1) 1 cs
  res : wr.ownsRow 0 35 3 (.slice (some ⟨w.heap.size + 1, 0, none⟩) 1 1) 1 [.pointer none, .pointer none, .pointer none]
  var : wr.ownsRow 0 35 3 (.slice (some ⟨X, 0, none⟩) 1 1) 1 [.pointer (some ⟨pw, 0, none⟩), v0, v1]
  lt : w.heap.size + 1 < X
theorem StBox.below {w wr w' : World} {X pw : Nat} {cs : List Value} {v0 v1 : Value} (h : StBox w wr X pw cs v0 v1) (hb : Below wr.heap.size wr w') : StBox w w' X pw cs v0 v1 :=
  ⟨h.bel.trans (hb.mono h.bel.size), own_kept h.box (belKept0 (S := fun _ => False) hb) (fun _ _ h => h), own_kept h.res (belKept0 (S := fun _ => False) hb) (fun _ _ h => h), own_kept h.var (belKept0 (S := fun _ => False) hb) (fun _ _ h => h), h.lt⟩
theorem StBox.store {w wr : World} {X pw : Nat} {cs : List Value} {v0 v1 v0' v1' : Value} (h : StBox w wr X pw cs v0 v1) (j : Nat) (v : Value) (e : [Value.pointer (some ⟨pw, 0, none⟩), v0, v1].set j v = [Value.pointer (some ⟨pw, 0, none⟩), v0', v1']) : StBox w (wr.setCell ⟨X, j, none⟩ v) X pw cs v0' v1' := by
  have hk : Kept (fun k => k = X) wr (wr.setCell ⟨X, j, none⟩ v) := (Kept.refl (fun k => k = X) wr).setCell (p := ⟨X, j, none⟩) (fun _ => rfl) _
  have hl := h.lt
  have := (World.ownsRow.stored h.var j v).1
  rw [e] at this
  exact ⟨h.bel.setCell (p := ⟨X, j, none⟩) (by show w.heap.size ≤ X; omega) v, own_kept h.box hk (fun k e => by simp [Value.ownBlock] at e; subst e; show ¬ (w.heap.size = X); omega), own_kept h.res hk (fun k e => by simp [Value.ownBlock] at e; subst e; show ¬ (w.heap.size + 1 = X); omega), this, hl⟩
theorem StBox.cells {w wr : World} {X pw : Nat} {v0 v1 c0 c1 c2 c3 c4 c5 c6 c7 : Value} (h : StBox w wr X pw [c0, c1, c2, c3, c4, c5, c6, c7] v0 v1) :
    (wr.cell? ⟨w.heap.size, 0, none⟩ = some c0 ∧ wr.cell? ⟨w.heap.size, 1, none⟩ = some c1 ∧ wr.cell? ⟨w.heap.size, 2, none⟩ = some c2 ∧ wr.cell? ⟨w.heap.size, 3, none⟩ = some c3 ∧ wr.cell? ⟨w.heap.size, 4, none⟩ = some c4 ∧ wr.cell? ⟨w.heap.size, 5, none⟩ = some c5 ∧ wr.cell? ⟨w.heap.size, 6, none⟩ = some c6) ∧
    (wr.cell? ⟨X, 0, none⟩ = some (.pointer (some ⟨pw, 0, none⟩)) ∧ wr.cell? ⟨X, 1, none⟩ = some v0 ∧ wr.cell? ⟨X, 2, none⟩ = some v1) ∧ (wr.frozen? ⟨X, 1, none⟩ = false ∧ wr.frozen? ⟨X, 2, none⟩ = false) :=
  ⟨⟨(World.ownsRow.cellAt h.box 0 (by decide)).trans rfl, (World.ownsRow.cellAt h.box 1 (by decide)).trans rfl, (World.ownsRow.cellAt h.box 2 (by decide)).trans rfl, (World.ownsRow.cellAt h.box 3 (by decide)).trans rfl, (World.ownsRow.cellAt h.box 4 (by decide)).trans rfl, (World.ownsRow.cellAt h.box 5 (by decide)).trans rfl, (World.ownsRow.cellAt h.box 6 (by decide)).trans rfl⟩,
   ⟨(World.ownsRow.cellAt h.var 0 (by decide)).trans rfl, (World.ownsRow.cellAt h.var 1 (by decide)).trans rfl, (World.ownsRow.cellAt h.var 2 (by decide)).trans rfl⟩, h.var.frozenAt 1, h.var.frozenAt 2⟩
def StartPost (w : World) (g : Geo) (l0 l1 : List Flt) (e : Ending) (w' : World) : Prop :=
  ∃ pw q0 q1, e = .returned (.tuple #[.agg #[.pointer (some ⟨pw, 0, none⟩), .pointer (some ⟨q0, 0, none⟩), .pointer (some ⟨q1, 0, none⟩)], .bool true]) ∧ TwoM w' w.heap.size pw q0 q1 g l0 l1 (newS P0) (newS P0) P0 (blankL g) (blankL g) [] [] ∧ Below w.heap.size w w'
/-- The rounds of start. -/
def StAt (w : World) (g : Geo) (l0 l1 : List Flt) (X pw : Nat) (cs : List Value) (k : Nat) (wr : World) : Prop :=
  (k = 0 ∧ StBox w wr X pw cs (.pointer none) (.pointer none) ∧ PowM wr (Bd.of w.heap.size) pw P0) ∨
  (k = 1 ∧ ∃ q0 B, StBox w wr X pw cs (.pointer (some ⟨q0, 0, none⟩)) (.pointer none) ∧ B.n = w.heap.size ∧ DPm wr B q0 pw g l0 (newS P0) P0 (blankL g) []) ∨
  (k = 2 ∧ ∃ q0 q1, StBox w wr X pw cs (.pointer (some ⟨q0, 0, none⟩)) (.pointer (some ⟨q1, 0, none⟩)) ∧ TwoM wr w.heap.size pw q0 q1 g l0 l1 (newS P0) (newS P0) P0 (blankL g) (blankL g) [] [])
set_option maxRecDepth 100000 in
set_option maxHeartbeats 4000000 in
theorem start14_any (g : Geo) (l0 l1 : List Flt) (A0 A1 AA : Option Addr) (c0 c1 na ca : Nat) (w : World) (h0 : Rd w w.heap.size A0 (flatF l0)) (h1 : Rd w w.heap.size A1 (flatF l1)) (hg : validG g = true) (hv0 : validF l0 = true) (hv1 : validF l1 = true) (n0 : l0.length * 24 ≤ 140737488355328) (n1 : l1.length * 24 ≤ 140737488355328) :
    Calls Tryz.prog 6 #[.agg #[.int .i64 g.random, .int .i64 g.bands, .int .i64 g.tracks, .int .i64 g.sectors, .int .i64 g.overlap, .slice A0 l0.length c0, .slice A1 l1.length c1, .slice AA na ca]] w (StartPost w g l0 l1) := by
  have HN0 : Hid (∀ W B pw, Below w.heap.size w W → PowM W B pw P0 → B.top ≤ W.heap.size → Calls Tryz.prog 17 #[.agg #[.int .i64 g.random, .int .i64 g.bands, .int .i64 g.tracks, .int .i64 g.sectors, .int .i64 g.overlap], .slice A0 l0.length c0, .pointer (some ⟨pw, 0, none⟩)] W (DNewPost W B pw g l0 P0)) := by
    unfold Hid; intro W B pw hW hp hB; exact dnew_yes l0 A0 c0 hg hv0 ((h0.below hW (Nat.le_refl _)).more hW.size) n0 hp hB
  have HN1 : Hid (∀ W B pw, Below w.heap.size w W → PowM W B pw P0 → B.top ≤ W.heap.size → Calls Tryz.prog 17 #[.agg #[.int .i64 g.random, .int .i64 g.bands, .int .i64 g.tracks, .int .i64 g.sectors, .int .i64 g.overlap], .slice A1 l1.length c1, .pointer (some ⟨pw, 0, none⟩)] W (DNewPost W B pw g l1 P0)) := by
    unfold Hid; intro W B pw hW hp hB; exact dnew_yes l1 A1 c1 hg hv1 ((h1.below hW (Nat.le_refl _)).more hW.size) n1 hp hB
  have HNP := Lib.hid newpower_any
  clear h0 h1 hg hv0 hv1
  obtain ⟨cs, hcs⟩ : ∃ cs : List Value, cs = [.int .i64 g.random, .int .i64 g.bands, .int .i64 g.tracks, .int .i64 g.sectors, .int .i64 g.overlap, .slice A0 l0.length c0, .slice A1 l1.length c1, .slice AA na ca] := ⟨_, rfl⟩
  have HCS := Lib.hid hcs
  clear hcs
  have hbA : Below w.heap.size w ((w.alloc (.cells #[.int .i64 g.random, .int .i64 g.bands, .int .i64 g.tracks, .int .i64 g.sectors, .int .i64 g.overlap, .slice A0 l0.length c0, .slice A1 l1.length c1, .slice AA na ca] 28)).alloc (.cells #[.pointer none, .pointer none, .pointer none] 35)) := ((Below.refl _ _).alloc (Nat.le_refl _) _).alloc (by simp) _
  have hox : ((w.alloc (.cells #[.int .i64 g.random, .int .i64 g.bands, .int .i64 g.tracks, .int .i64 g.sectors, .int .i64 g.overlap, .slice A0 l0.length c0, .slice A1 l1.length c1, .slice AA na ca] 28)).alloc (.cells #[.pointer none, .pointer none, .pointer none] 35)).ownsRow 0 28 8 (.slice (some ⟨w.heap.size, 0, none⟩) 1 1) 1 cs := by
    have := World.ownsRow_lit (base := 0) (e := 28) (size := 8) w #[.int .i64 g.random, .int .i64 g.bands, .int .i64 g.tracks, .int .i64 g.sectors, .int .i64 g.overlap, .slice A0 l0.length c0, .slice A1 l1.length c1, .slice AA na ca] 1 (Nat.zero_le _) (by decide) rfl
    rw [HCS.out]
    exact this.alloc _
  have hor : ((w.alloc (.cells #[.int .i64 g.random, .int .i64 g.bands, .int .i64 g.tracks, .int .i64 g.sectors, .int .i64 g.overlap, .slice A0 l0.length c0, .slice A1 l1.length c1, .slice AA na ca] 28)).alloc (.cells #[.pointer none, .pointer none, .pointer none] 35)).ownsRow 0 35 3 (.slice (some ⟨w.heap.size + 1, 0, none⟩) 1 1) 1 [.pointer none, .pointer none, .pointer none] := by
    have := World.ownsRow_lit (base := 0) (e := 35) (size := 3) (w.alloc (.cells #[.int .i64 g.random, .int .i64 g.bands, .int .i64 g.tracks, .int .i64 g.sectors, .int .i64 g.overlap, .slice A0 l0.length c0, .slice A1 l1.length c1, .slice AA na ca] 28)) #[.pointer none, .pointer none, .pointer none] 1 (Nat.zero_le _) (by decide) rfl
    rw [World.size_alloc] at this
    exact this
  have HA := Lib.hid (And.intro hbA (And.intro hox hor))
  clear hbA hox hor
  go_enter Tryz.func6, Tryz.ntmps6
  go_wp2_with fail
  refine (HNP.out _).mono ?_
  rintro e w1 ⟨pw, rfl, hp1, hb1⟩
  obtain ⟨hbA, hox, hor⟩ := HA.out
  have hz0 : w.heap.size + 2 ≤ w1.heap.size := by have := hb1.size; simp at this; omega
  have hb2 : Below w1.heap.size w1 (w1.alloc (.cells #[.pointer (some ⟨pw, 0, none⟩), .pointer none, .pointer none] 35)) := (Below.refl _ _).alloc (Nat.le_refl _) _
  have hs0 : StAt w g l0 l1 w1.heap.size pw cs 0 (w1.alloc (.cells #[.pointer (some ⟨pw, 0, none⟩), .pointer none, .pointer none] 35)) := by
    refine .inl ⟨rfl, ⟨(hbA.trans (hb1.mono hbA.size)).trans (hb2.mono (by omega)), own_kept (own_kept hox (belKept0 (S := fun _ => False) hb1) (fun _ _ h => h)) (belKept0 (S := fun _ => False) hb2) (fun _ _ h => h), own_kept (own_kept hor (belKept0 (S := fun _ => False) hb1) (fun _ _ h => h)) (belKept0 (S := fun _ => False) hb2) (fun _ _ h => h), World.ownsRow_lit (base := 0) (e := 35) (size := 3) w1 #[.pointer (some ⟨pw, 0, none⟩), .pointer none, .pointer none] 1 (Nat.zero_le _) (by decide) rfl, by omega⟩, ?_⟩
    exact (hp1.bound (C := Bd.of w.heap.size) (by simp [Bd.of]; omega) (fun h => h)).below0 hb2
  have HS0 := Lib.hid hs0
  clear hs0 hp1 hbA hox hor
  generalize hX : w1.heap.size = X at *
  go_wp2
  generalize w1.alloc (.cells #[.pointer (some ⟨pw, 0, none⟩), .pointer none, .pointer none] 35) = w2 at *
  go_loopw [5, 6, 7] (fun s5 s6 s7 wr => ∃ k : Nat, k ≤ 2 ∧ s5 = .int .i64 k ∧ Hid (StAt w g l0 l1 X pw cs k wr)) (fun v _ _ _ => 2 - (intOf v).toNat)
  case atStart => exact ⟨0, by omega, rfl, HS0⟩
  case round =>
    obtain ⟨k, hk, rfl, hst⟩ := hrel
    rcases hst.out with ⟨rfl, hbx, hpw⟩ | ⟨rfl, q0, B, hbx, hBn, hd0⟩ | ⟨rfl, q0, q1, hbx, htw⟩
    · have HBX := Lib.hid hbx
      rw [HCS.out] at hbx
      obtain ⟨⟨b0, b1, b2, b3, b4, b5, b6⟩, ⟨x0, x1, x2⟩, f1, f2⟩ := hbx.cells
      have hbl := hbx.bel
      have HNW := Lib.hid (HN0.out wr.drew (Bd.on w.heap.size wr.heap.size (fun k => k = pw) hbl.size) pw hbl.drew ((hpw.bound (C := Bd.on w.heap.size wr.heap.size (fun k => k = pw) hbl.size) (Nat.le_refl _) (fun h => h.2 rfl)).below0 ((Below.refl _ _).drew)) (Nat.le_refl _))
      have hbb : ∃ B : Bd, B = Bd.on w.heap.size wr.heap.size (fun k => k = pw) hbl.size := ⟨_, rfl⟩
      obtain ⟨B0, hB0⟩ := hbb
      rw [← hB0] at HNW
      have HBN : Hid (B0.n = w.heap.size) := by unfold Hid; rw [hB0]; rfl
      clear hst hbx hpw hB0
      go_wp2
      go_region_held3 (fun W => W.cell? ⟨w.heap.size, 0, none⟩ = some (.int .i64 g.random) ∧ W.cell? ⟨w.heap.size, 1, none⟩ = some (.int .i64 g.bands) ∧ W.cell? ⟨w.heap.size, 2, none⟩ = some (.int .i64 g.tracks) ∧ W.cell? ⟨w.heap.size, 3, none⟩ = some (.int .i64 g.sectors) ∧ W.cell? ⟨w.heap.size, 4, none⟩ = some (.int .i64 g.overlap) ∧ W.cell? ⟨w.heap.size, 5, none⟩ = some (.slice A0 l0.length c0) ∧ W.cell? ⟨w.heap.size, 6, none⟩ = some (.slice A1 l1.length c1) ∧ W.cell? ⟨X, 0, none⟩ = some (.pointer (some ⟨pw, 0, none⟩)))
        (first | (refine ⟨?_, ?_, ?_, ?_, ?_, ?_, ?_, ?_⟩ <;> assumption) | (simp (maxDischargeDepth := 20) [World.cell?_alloc_some, *]; done))
        ((go_at_call 17
          refine HNW.out.mono ?_
          rintro e w3 ⟨q0, rfl, hd3, hb3⟩
          have HDN := Lib.hid hd3
          have hb3' : Below wr.heap.size wr w3 := ((Below.refl wr.heap.size wr).drew).trans hb3
          have hbx3 := HBX.out.below hb3'
          rw [HCS.out] at hbx3
          obtain ⟨⟨e0, e1, e2, e3, e4, e5, e6⟩, ⟨y0, y1, y2⟩, g1, g2⟩ := hbx3.cells
          clear hd3 hbx3))
      have hbx4 := HBX.out.below hb3'
      have HFS := Lib.hid (And.intro (hbx4.store 1 (.pointer (some ⟨q0, 0, none⟩)) (v0' := .pointer (some ⟨q0, 0, none⟩)) (v1' := .pointer none) rfl) (HDN.out.types (setPair hbx4.var 1 (.pointer (some ⟨q0, 0, none⟩))) (by decide) (by decide) (by decide) (by decide)))
      clear hbx4 b0 b1 b2 b3 b4 b5 b6 x0 x1 x2 f1 f2
      go_wp2
      go_roundw
      case rel => exact ⟨1, by omega, by go_num, Lib.hid (.inr (.inl ⟨rfl, q0, B0, HFS.out.1, HBN.out, HFS.out.2⟩))⟩
      case measure => simp [intOf]
    · have HBX := Lib.hid hbx
      rw [HCS.out] at hbx
      obtain ⟨⟨b0, b1, b2, b3, b4, b5, b6⟩, ⟨x0, x1, x2⟩, f1, f2⟩ := hbx.cells
      have hbl := hbx.bel
      have HNW := Lib.hid (HN1.out wr.drew (Bd.on w.heap.size wr.heap.size (fun k => k = pw) hbl.size) pw hbl.drew ((hd0.p.bound (C := Bd.on w.heap.size wr.heap.size (fun k => k = pw) hbl.size) (by rw [hBn]; exact Nat.le_refl _) (fun h => h.2 rfl)).below0 ((Below.refl _ _).drew)) (Nat.le_refl _))
      have hbb : ∃ B : Bd, B = Bd.on w.heap.size wr.heap.size (fun k => k = pw) hbl.size := ⟨_, rfl⟩
      obtain ⟨B1, hB1⟩ := hbb
      rw [← hB1] at HNW
      have HBE := Lib.hid hB1
      have HD0 := Lib.hid hd0
      clear hst hbx hd0 hB1
      go_wp2
      go_region_held3 (fun W => W.cell? ⟨w.heap.size, 0, none⟩ = some (.int .i64 g.random) ∧ W.cell? ⟨w.heap.size, 1, none⟩ = some (.int .i64 g.bands) ∧ W.cell? ⟨w.heap.size, 2, none⟩ = some (.int .i64 g.tracks) ∧ W.cell? ⟨w.heap.size, 3, none⟩ = some (.int .i64 g.sectors) ∧ W.cell? ⟨w.heap.size, 4, none⟩ = some (.int .i64 g.overlap) ∧ W.cell? ⟨w.heap.size, 5, none⟩ = some (.slice A0 l0.length c0) ∧ W.cell? ⟨w.heap.size, 6, none⟩ = some (.slice A1 l1.length c1) ∧ W.cell? ⟨X, 0, none⟩ = some (.pointer (some ⟨pw, 0, none⟩)))
        (first | (refine ⟨?_, ?_, ?_, ?_, ?_, ?_, ?_, ?_⟩ <;> assumption) | (simp (maxDischargeDepth := 20) [World.cell?_alloc_some, *]; done))
        ((go_at_call 17
          refine HNW.out.mono ?_
          rintro e w3 ⟨q1, rfl, hd3, hb3⟩
          have HDN := Lib.hid hd3
          have hb3' : Below wr.heap.size wr w3 := ((Below.refl wr.heap.size wr).drew).trans hb3
          have hbx3 := HBX.out.below hb3'
          rw [HCS.out] at hbx3
          obtain ⟨⟨e0, e1, e2, e3, e4, e5, e6⟩, ⟨y0, y1, y2⟩, g1, g2⟩ := hbx3.cells
          clear hd3 hbx3))
      have hbx4 := HBX.out.below hb3'
      have hn3 : w.heap.size ≤ w3.heap.size := Nat.le_trans hbl.size hb3'.size
      have htw : TwoM w3 w.heap.size pw q0 q1 g l0 l1 (newS P0) (newS P0) P0 (blankL g) (blankL g) [] [] := by
        refine ⟨fun k => k < wr.heap.size, fun k => wr.heap.size ≤ k ∨ k = pw, hn3, ⟨HD0.out.move hb3' ⟨by rw [hBn]; exact Nat.le_refl _, fun k hk' hh => ?_⟩ (Nat.le_refl _), HDN.out.mono ⟨by rw [HBE.out]; exact Nat.le_refl _, fun k hk' hh => ?_⟩ (Nat.le_refl _), fun k hk' h0 h1 => ?_⟩⟩
        · have := hb3'.size
          exact (Bd.on_has (by omega)).2 ⟨by have := hh.1; rw [hBn] at this; exact this, hk'⟩
        · rw [HBE.out] at hh
          refine (Bd.on_has hk').2 ⟨hh.1, ?_⟩
          by_cases h2 : k < wr.heap.size
          · exact .inr ((Bd.on_has h2).1 hh).2
          · exact .inl (by omega)
        · rcases h1 with h1 | h1
          · omega
          · exact h1
      have HFS := Lib.hid (And.intro (hbx4.store 2 (.pointer (some ⟨q1, 0, none⟩)) (v0' := .pointer (some ⟨q0, 0, none⟩)) (v1' := .pointer (some ⟨q1, 0, none⟩)) rfl) (htw.types (setPair hbx4.var 2 (.pointer (some ⟨q1, 0, none⟩))) (by simp) (by decide) (by decide) (by decide) (by decide)))
      clear hbx4 htw b0 b1 b2 b3 b4 b5 b6 x0 x1 x2 f1 f2
      go_wp2
      go_roundw
      case rel => exact ⟨2, by omega, by go_num, Lib.hid (.inr (.inr ⟨rfl, q0, q1, HFS.out.1, HFS.out.2⟩))⟩
      case measure => simp [intOf]
    · have HBX := Lib.hid hbx
      rw [HCS.out] at hbx
      obtain ⟨_, ⟨x0, x1, x2⟩, f1, f2⟩ := hbx.cells
      have r0 : wr.cell? ⟨w.heap.size + 1, 0, none⟩ = some (.pointer none) := (World.ownsRow.cellAt hbx.res 0 (by decide)).trans rfl
      have r1 : wr.cell? ⟨w.heap.size + 1, 1, none⟩ = some (.pointer none) := (World.ownsRow.cellAt hbx.res 1 (by decide)).trans rfl
      have r2 : wr.cell? ⟨w.heap.size + 1, 2, none⟩ = some (.pointer none) := (World.ownsRow.cellAt hbx.res 2 (by decide)).trans rfl
      have h0' := hbx.res.frozenAt 0
      have h1' := hbx.res.frozenAt 1
      have h2' := hbx.res.frozenAt 2
      have k1 := setPair hbx.res 0 (.pointer (some ⟨pw, 0, none⟩))
      have o1 := (World.ownsRow.stored hbx.res 0 (.pointer (some ⟨pw, 0, none⟩))).1
      have k2 := setPair o1 1 (.pointer (some ⟨q0, 0, none⟩))
      have o2 := (World.ownsRow.stored o1 1 (.pointer (some ⟨q0, 0, none⟩))).1
      have k3 := setPair o2 2 (.pointer (some ⟨q1, 0, none⟩))
      have HTW := Lib.hid (htw.types ((k1.trans k2).trans k3) (by simp) (by decide) (by decide) (by decide) (by decide))
      have HBL := Lib.hid ((((hbx.bel.setCell (p := ⟨w.heap.size + 1, 0, none⟩) (by show w.heap.size ≤ w.heap.size + 1; omega) (.pointer (some ⟨pw, 0, none⟩))).setCell (p := ⟨w.heap.size + 1, 1, none⟩) (by show w.heap.size ≤ w.heap.size + 1; omega) (.pointer (some ⟨q0, 0, none⟩)))).setCell (p := ⟨w.heap.size + 1, 2, none⟩) (by show w.heap.size ≤ w.heap.size + 1; omega) (.pointer (some ⟨q1, 0, none⟩)))
      clear hst hbx htw k1 k2 k3 o1 o2
      go_wp2
      exact bodyPost_ret (v := .tuple #[.agg #[.pointer (some ⟨pw, 0, none⟩), .pointer (some ⟨q0, 0, none⟩), .pointer (some ⟨q1, 0, none⟩)], .bool true]) (by simp [results, Tryz.results6, go_sem, *]) rfl ⟨pw, q0, q1, rfl, HTW.out, HBL.out⟩
end Go.Proofs.YtckdhhadlemakaaGreat
namespace Go.Proofs.YtckdhhadlemakaaGreat
set_option linter.unusedVariables false
open Go.ChangeShapes Go.WideShapes Go.ChangeAt Go.RowKit Go.Deep

theorem cellsFlt' : Tryz.prog.cellsOf 64 = 3 := by kernel_rfl
theorem cellsAct : Tryz.prog.cellsOf 55 = 6 := by kernel_rfl
theorem cellsU64' : Tryz.prog.cellsOf 44 = 1 := by kernel_rfl
theorem cellsFlts : Tryz.prog.cellsOf 24 = 1 := by kernel_rfl
theorem cellsFlts2 : Tryz.prog.cellsOf 25 = 2 := by kernel_rfl
theorem cellsActs : Tryz.prog.cellsOf 26 = 1 := by kernel_rfl
theorem cellsGeo5 : Tryz.prog.cellsOf 23 = 5 := by kernel_rfl
structure ActIn (w : World) (a : ActV) : Prop where
  at_ : I64 a.at_
  rd : Rd w w.heap.size a.A (a.xs.map (Value.int .u8))
  n : a.xs.length ≤ 9223372036854775807
  c : a.xs.length ≤ a.c
  dk : 0 ≤ a.disk ∧ a.disk ≤ 255
  kd : 0 ≤ a.kind ∧ a.kind ≤ 255
structure FltsIn (w : World) (A : Option Addr) (l : List Flt) : Prop where
  rd : Rd w w.heap.size A (flatF l)
  to_ : ∀ f ∈ l, I64 f.to_
  n : l.length ≤ 9223372036854775807
structure ActsIn (w : World) (A : Option Addr) (l : List ActV) : Prop where
  rd : Rd w w.heap.size A (flatA l)
  ok : ∀ a ∈ l, ActIn w a
  n : l.length ≤ 9223372036854775807
theorem flatA_len (l : List ActV) : (flatA l).length = l.length * 6 := flat_len _ 6 actcells_len l
section
variable {H : Type} {enc : TypeId × Value → H} {w : World} {base : Nat} {spare : Nat → Bool} {held : Bool}
set_option maxRecDepth 100000 in
theorem open_flt' {fuel : Nat} {cs : List Value} {y : DataW H × List MemPlace} (hcs : cs.length = 3) (h : DataW.trod enc Tryz.prog w base spare held fuel 64 cs = some y) : ∃ f : Flt, cs = f.cells ∧ I64 f.to_ := by
  match cs, hcs with
  | [c0, c1, c2], _ =>
    obtain ⟨xs, k, _, _, _, hxl, hf⟩ := DataW.trod_struct Tryz.underlying64 h
    match xs, hxl with
    | [x0, x1, x2], _ =>
      have f0 : DataW.trod enc Tryz.prog w base spare held k 3 (([c0, c1, c2].drop 0).take (Tryz.prog.cellsOf 3)) = some x0 := hf 0 _ rfl
      have f1 : DataW.trod enc Tryz.prog w base spare held k 3 (([c0, c1, c2].drop 1).take (Tryz.prog.cellsOf 3)) = some x1 := hf 1 _ rfl
      have f2 : DataW.trod enc Tryz.prog w base spare held k 3 (([c0, c1, c2].drop 2).take (Tryz.prog.cellsOf 3)) = some x2 := hf 2 _ rfl
      rw [cellsInt] at f0 f1 f2
      obtain ⟨n0, e0, _, _⟩ := DataW.trod_int Tryz.underlying3 f0
      obtain ⟨n1, e1, _, _⟩ := DataW.trod_int Tryz.underlying3 f1
      obtain ⟨n2, e2, _, w2⟩ := DataW.trod_int Tryz.underlying3 f2
      simp at e0 e1 e2
      subst e0; subst e1; subst e2
      exact ⟨⟨n0, n1, n2⟩, rfl, i64_of w2⟩
set_option maxRecDepth 100000 in
theorem open_flts' {fuel : Nat} {v : Value} {y : DataW H × List MemPlace} (h : DataW.trod enc Tryz.prog w base spare held fuel 24 [v] = some y) : ∃ A l c, v = .slice A l.length c ∧ FltsIn w A l := by
  rcases open_slice Tryz.underlying24 h with ⟨hcs, _⟩ | ⟨a, len, cap, m, n, D, Pl, hcs, _, hl, hm, hmm, hx, hel⟩
  · simp at hcs
    subst hcs
    exact ⟨none, [], 0, rfl, Rd.nil_ _ _ _, by simp, by simp⟩
  · simp at hcs
    subst hcs
    have hlm : len ≤ m := by rw [hmm]; split <;> omega
    obtain ⟨l, hll, hq⟩ := list_of (Q := fun i (o : Flt) => I64 o.to_ ∧ ∀ t u, o.cells[t]? = some u → w.cell? (a.add (i * 3 + t)) = some u) len (fun i hi => by
      obtain ⟨cs', hc, ht⟩ := hel i (by omega)
      rw [cellsFlt'] at hc
      obtain ⟨_, hcl, hat⟩ := World.cells?_some hc
      obtain ⟨o, rfl, h1⟩ := open_flt' hcl ht
      refine ⟨o, h1, fun t u hu => ?_⟩
      have ht3 : t < 3 := (List.getElem?_eq_some_iff.1 hu).1
      rw [← Go.Deep.add_add, hat t ht3]
      exact hu)
    refine ⟨some a, l, cap, by rw [hll], rd_of_add fun j u hu => ?_, fun b hb => ?_, by unfold maxLen at hm; omega⟩
    · have hj : j < l.length * 3 := by rw [← flatF_len]; exact (List.getElem?_eq_some_iff.1 hu).1
      have hj4 : j = j / 3 * 3 + j % 3 := by omega
      rw [hj4] at hu
      unfold flatF at hu
      rw [flat_get _ 3 fltcells_len l _ _ (by omega), List.getElem?_eq_getElem (show j / 3 < l.length by omega)] at hu
      have := (hq (j / 3) _ (List.getElem?_eq_getElem (by omega))).2 (j % 3) u hu
      rw [hj4]; exact this
    · obtain ⟨i, hi⟩ := List.mem_iff_getElem?.1 hb
      exact (hq i b hi).1
set_option maxRecDepth 100000 in
theorem open_act {fuel : Nat} {cs : List Value} {y : DataW H × List MemPlace} (hcs : cs.length = 6) (h : DataW.trod enc Tryz.prog w base spare held fuel 55 cs = some y) : ∃ a : ActV, cs = a.cells ∧ ActIn w a := by
  match cs, hcs with
  | [c0, c1, c2, c3, c4, c5], _ =>
    obtain ⟨xs, k, _, _, _, hxl, hf⟩ := DataW.trod_struct Tryz.underlying55 h
    match xs, hxl with
    | [x0, x1, x2, x3, x4, x5], _ =>
      have f0 : DataW.trod enc Tryz.prog w base spare held k 5 (([c0, c1, c2, c3, c4, c5].drop 0).take (Tryz.prog.cellsOf 5)) = some x0 := hf 0 _ rfl
      have f1 : DataW.trod enc Tryz.prog w base spare held k 5 (([c0, c1, c2, c3, c4, c5].drop 1).take (Tryz.prog.cellsOf 5)) = some x1 := hf 1 _ rfl
      have f2 : DataW.trod enc Tryz.prog w base spare held k 44 (([c0, c1, c2, c3, c4, c5].drop 2).take (Tryz.prog.cellsOf 44)) = some x2 := hf 2 _ rfl
      have f3 : DataW.trod enc Tryz.prog w base spare held k 3 (([c0, c1, c2, c3, c4, c5].drop 3).take (Tryz.prog.cellsOf 3)) = some x3 := hf 3 _ rfl
      have f4 : DataW.trod enc Tryz.prog w base spare held k 53 (([c0, c1, c2, c3, c4, c5].drop 4).take (Tryz.prog.cellsOf 53)) = some x4 := hf 4 _ rfl
      have f5 : DataW.trod enc Tryz.prog w base spare held k 4 (([c0, c1, c2, c3, c4, c5].drop 5).take (Tryz.prog.cellsOf 4)) = some x5 := hf 5 _ rfl
      rw [cellsU8] at f0 f1
      rw [cellsU64'] at f2
      rw [cellsInt] at f3
      rw [cellsBytes] at f4
      rw [cellsBool] at f5
      obtain ⟨n0, e0, _, w0⟩ := DataW.trod_int Tryz.underlying5 f0
      obtain ⟨n1, e1, _, w1⟩ := DataW.trod_int Tryz.underlying5 f1
      obtain ⟨n2, e2, _, _⟩ := DataW.trod_int Tryz.underlying44 f2
      obtain ⟨n3, e3, _, w3⟩ := DataW.trod_int Tryz.underlying3 f3
      obtain ⟨b5, e5, _⟩ := DataW.trod_bool Tryz.underlying4 f5
      have f4' : DataW.trod enc Tryz.prog w base spare held k 53 [c4] = some x4 := f4
      obtain ⟨A, bs, c, hb⟩ := open_bytes f4'
      have hcap : bs.length ≤ c := by
        rcases open_slice Tryz.underlying53 f4' with ⟨hcs, _⟩ | ⟨a, len, cap, m, n, D, Pl, hcs, _, hl, _⟩
        · have e := hb.val
          simp at hcs; rw [hcs] at e
          injection e with _ e2 e3; omega
        · have e := hb.val
          simp at hcs; rw [hcs] at e
          injection e with _ e2 e3; omega
      simp at e0 e1 e2 e3 e5
      have e4 := hb.val
      subst e0; subst e1; subst e2; subst e3; subst e4; subst e5
      exact ⟨⟨n0, n1, n2, n3, A, bs, c, b5⟩, rfl, i64_of w3, hb.rd, hb.big, hcap, u8_of w0, u8_of w1⟩
set_option maxRecDepth 100000 in
theorem open_acts {fuel : Nat} {v : Value} {y : DataW H × List MemPlace} (h : DataW.trod enc Tryz.prog w base spare held fuel 26 [v] = some y) : ∃ A l c, v = .slice A l.length c ∧ ActsIn w A l := by
  rcases open_slice Tryz.underlying26 h with ⟨hcs, _⟩ | ⟨a, len, cap, m, n, D, Pl, hcs, _, hl, hm, hmm, hx, hel⟩
  · simp at hcs
    subst hcs
    exact ⟨none, [], 0, rfl, Rd.nil_ _ _ _, by simp, by simp⟩
  · simp at hcs
    subst hcs
    have hlm : len ≤ m := by rw [hmm]; split <;> omega
    obtain ⟨l, hll, hq⟩ := list_of (Q := fun i (o : ActV) => ActIn w o ∧ ∀ t u, o.cells[t]? = some u → w.cell? (a.add (i * 6 + t)) = some u) len (fun i hi => by
      obtain ⟨cs', hc, ht⟩ := hel i (by omega)
      rw [cellsAct] at hc
      obtain ⟨_, hcl, hat⟩ := World.cells?_some hc
      obtain ⟨o, rfl, h1⟩ := open_act hcl ht
      refine ⟨o, h1, fun t u hu => ?_⟩
      have ht3 : t < 6 := (List.getElem?_eq_some_iff.1 hu).1
      rw [← Go.Deep.add_add, hat t ht3]
      exact hu)
    refine ⟨some a, l, cap, by rw [hll], rd_of_add fun j u hu => ?_, fun b hb => ?_, by unfold maxLen at hm; omega⟩
    · have hj : j < l.length * 6 := by rw [← flatA_len]; exact (List.getElem?_eq_some_iff.1 hu).1
      have hj4 : j = j / 6 * 6 + j % 6 := by omega
      rw [hj4] at hu
      unfold flatA at hu
      rw [flat_get _ 6 actcells_len l _ _ (by omega), List.getElem?_eq_getElem (show j / 6 < l.length by omega)] at hu
      have := (hq (j / 6) _ (List.getElem?_eq_getElem (by omega))).2 (j % 6) u hu
      rw [hj4]; exact this
    · obtain ⟨i, hi⟩ := List.mem_iff_getElem?.1 hb
      exact (hq i b hi).1
/-- What a walk is told of a case. -/
structure CaseIn (w : World) (g : Geo) (A0 A1 AA : Option Addr) (l0 l1 : List Flt) (acts : List ActV) : Prop where
  g : g.Ok
  f0 : FltsIn w A0 l0
  f1 : FltsIn w A1 l1
  a : ActsIn w AA acts
set_option maxRecDepth 100000 in
theorem open_casev {r : Reach} {b0 : Nat} {v : Value} {d : DataW H} {p : List MemPlace} (hv : Value.okWide Tryz.prog w r b0 28 v) (h : DataW.Trod enc Tryz.prog w base spare held 28 v d p) :
    ∃ (g : Geo) (A0 A1 AA : Option Addr) (l0 l1 : List Flt) (acts : List ActV) (c0 c1 ca : Nat), v = .agg #[.int .i64 g.random, .int .i64 g.bands, .int .i64 g.tracks, .int .i64 g.sectors, .int .i64 g.overlap, .slice A0 l0.length c0, .slice A1 l1.length c1, .slice AA acts.length ca] ∧ CaseIn w g A0 A1 AA l0 l1 acts := by
  obtain ⟨cs, rfl, hsz⟩ := Go.WideShapes.okWide_struct Tryz.underlying28 hv
  rw [show Tryz.prog.cellsOf 28 = 8 from by kernel_rfl] at hsz
  obtain ⟨l⟩ := cs
  match l, hsz with
  | [c0, c1, c2, c3, c4, c5, c6, c7], _ =>
    obtain ⟨fuel, hf⟩ := h
    obtain ⟨xs, k, _, _, _, hxl, hf⟩ := DataW.trod_struct Tryz.underlying28 hf
    match xs, hxl with
    | [x0, x1, x2], _ =>
      have f0 : DataW.trod enc Tryz.prog w base spare held k 23 (([c0, c1, c2, c3, c4, c5, c6, c7].drop 0).take (Tryz.prog.cellsOf 23)) = some x0 := hf 0 _ rfl
      have f1 : DataW.trod enc Tryz.prog w base spare held k 25 (([c0, c1, c2, c3, c4, c5, c6, c7].drop 5).take (Tryz.prog.cellsOf 25)) = some x1 := hf 1 _ rfl
      have f2 : DataW.trod enc Tryz.prog w base spare held k 26 (([c0, c1, c2, c3, c4, c5, c6, c7].drop 7).take (Tryz.prog.cellsOf 26)) = some x2 := hf 2 _ rfl
      rw [cellsGeo5] at f0
      rw [cellsFlts2] at f1
      rw [cellsActs] at f2
      have f0' : DataW.trod enc Tryz.prog w base spare held k 23 [c0, c1, c2, c3, c4] = some x0 := f0
      have f1' : DataW.trod enc Tryz.prog w base spare held k 25 [c5, c6] = some x1 := f1
      have f2' : DataW.trod enc Tryz.prog w base spare held k 26 [c7] = some x2 := f2
      obtain ⟨AA, acts, ca, rfl, ha⟩ := open_acts f2'
      obtain ⟨ys, m, _, _, _, hyl, hy⟩ := DataW.trod_array Tryz.underlying25 f1'
      match ys, hyl with
      | [y0, y1], _ =>
        have g0 := hy 0 (by decide)
        have g1 := hy 1 (by decide)
        rw [cellsFlts] at g0 g1
        have g0' : DataW.trod enc Tryz.prog w base spare held m 24 [c5] = some y0 := g0
        have g1' : DataW.trod enc Tryz.prog w base spare held m 24 [c6] = some y1 := g1
        obtain ⟨A0, l0, k0, rfl, h0⟩ := open_flts' g0'
        obtain ⟨A1, l1, k1, rfl, h1⟩ := open_flts' g1'
        obtain ⟨zs, m2, _, _, _, hzl, hz⟩ := DataW.trod_struct Tryz.underlying23 f0'
        match zs, hzl with
        | [z0, z1, z2, z3, z4], _ =>
          have i0 : DataW.trod enc Tryz.prog w base spare held m2 3 (([c0, c1, c2, c3, c4].drop 0).take (Tryz.prog.cellsOf 3)) = some z0 := hz 0 _ rfl
          have i1 : DataW.trod enc Tryz.prog w base spare held m2 3 (([c0, c1, c2, c3, c4].drop 1).take (Tryz.prog.cellsOf 3)) = some z1 := hz 1 _ rfl
          have i2 : DataW.trod enc Tryz.prog w base spare held m2 3 (([c0, c1, c2, c3, c4].drop 2).take (Tryz.prog.cellsOf 3)) = some z2 := hz 2 _ rfl
          have i3 : DataW.trod enc Tryz.prog w base spare held m2 3 (([c0, c1, c2, c3, c4].drop 3).take (Tryz.prog.cellsOf 3)) = some z3 := hz 3 _ rfl
          have i4 : DataW.trod enc Tryz.prog w base spare held m2 3 (([c0, c1, c2, c3, c4].drop 4).take (Tryz.prog.cellsOf 3)) = some z4 := hz 4 _ rfl
          rw [cellsInt] at i0 i1 i2 i3 i4
          obtain ⟨n0, e0, _, w0⟩ := DataW.trod_int Tryz.underlying3 i0
          obtain ⟨n1, e1, _, w1⟩ := DataW.trod_int Tryz.underlying3 i1
          obtain ⟨n2, e2, _, w2⟩ := DataW.trod_int Tryz.underlying3 i2
          obtain ⟨n3, e3, _, w3⟩ := DataW.trod_int Tryz.underlying3 i3
          obtain ⟨n4, e4, _, w4⟩ := DataW.trod_int Tryz.underlying3 i4
          simp at e0 e1 e2 e3 e4
          subst e0; subst e1; subst e2; subst e3; subst e4
          exact ⟨⟨n0, n1, n2, n3, n4⟩, A0, A1, AA, l0, l1, acts, k0, k1, ca, rfl, ⟨i64_of w0, i64_of w1, i64_of w2, i64_of w3, i64_of w4⟩, h0, h1, ha⟩
end
end Go.Proofs.YtckdhhadlemakaaGreat
namespace Go.Proofs.YtckdhhadlemakaaGreat
set_option linter.unusedVariables false
open Go.RowKit

/-- Within a loop over acts: the pair of disks, and the acts from number k on. -/
structure LpW (w wr : World) (X pw q0 q1 : Nat) (l : List ActV) (A' : Option Addr) (c' k : Nat) : Prop where
  bel : Below w.heap.size w wr
  var : wr.ownsRow 0 35 3 (.slice (some ⟨X, 0, none⟩) 1 1) 1 [.pointer (some ⟨pw, 0, none⟩), .pointer (some ⟨q0, 0, none⟩), .pointer (some ⟨q1, 0, none⟩)]
  row : ∃ L, wr.ownsRow w.heap.size 55 6 (.slice A' l.length c') l.length L ∧ ∀ j, k * 6 ≤ j → L[j]? = (flatA l)[j]?
section
variable {w wr w' : World} {X pw q0 q1 : Nat} {l : List ActV} {A' : Option Addr} {c' k : Nat}
theorem own_typed {w w' : World} {ts : List TypeId} {B : Bd} {base size n : Nat} {e : TypeId} {v : Value} {xs : List Value} (h : w.ownsRow base e size v n xs) (hk : KeptT ts B w w') (he : e ∉ ts) : w'.ownsRow base e size v n xs := by
  refine own_kept h hk (fun b hb => ?_)
  rcases h.2 with ⟨h2, _⟩ | ⟨g, cap, cur, h2, _, h4, _⟩
  · rw [h2] at hb; cases hb
  · rw [h2] at hb; injection hb with hb; subst hb; exact KeptT.no (IsT.of h4) he
theorem LpW.typed {ts : List TypeId} {B : Bd} (h : LpW w wr X pw q0 q1 l A' c' k) (hk : KeptT ts B wr w') (hB : w.heap.size ≤ B.n) (h1 : 35 ∉ ts) (h2 : 55 ∉ ts) : LpW w w' X pw q0 q1 l A' c' k := by
  obtain ⟨L, ho, hL⟩ := h.row
  refine ⟨?_, own_typed h.var hk h1, L, own_typed ho hk h2, hL⟩
  exact h.bel.trans (Kept.below (Kept.more hk (T := fun i => w.heap.size ≤ i) (fun i _ hi => Nat.le_trans hB hi.1.1)) (fun _ hi => hi) h.bel.size)
theorem LpW.below (h : LpW w wr X pw q0 q1 l A' c' k) (hb : Below wr.heap.size wr w') : LpW w w' X pw q0 q1 l A' c' k := by
  obtain ⟨L, ho, hL⟩ := h.row
  exact ⟨h.bel.trans (hb.mono h.bel.size), own_kept h.var (belKept0 (S := fun _ => False) hb) (fun _ _ h => h), L, own_kept ho (belKept0 (S := fun _ => False) hb) (fun _ _ h => h), hL⟩
theorem LpW.cells (h : LpW w wr X pw q0 q1 l A' c' k) : wr.cell? ⟨X, 0, none⟩ = some (.pointer (some ⟨pw, 0, none⟩)) ∧ wr.cell? ⟨X, 1, none⟩ = some (.pointer (some ⟨q0, 0, none⟩)) ∧ wr.cell? ⟨X, 2, none⟩ = some (.pointer (some ⟨q1, 0, none⟩)) :=
  ⟨(World.ownsRow.cellAt h.var 0 (by decide)).trans rfl, (World.ownsRow.cellAt h.var 1 (by decide)).trans rfl, (World.ownsRow.cellAt h.var 2 (by decide)).trans rfl⟩
/-- The act of number k. -/
theorem LpW.act (h : LpW w wr X pw q0 q1 l A' c' k) (hk : k < l.length) : ∃ ga, A' = some ⟨ga, 0, none⟩ ∧ (∀ t u, l[k].cells[t]? = some u → wr.cell? ⟨ga, k * 6 + t, none⟩ = some u) ∧ wr.frozen? ⟨ga, k * 6, none⟩ = false := by
  obtain ⟨L, ho, hL⟩ := h.row
  obtain ⟨ga, rfl, _⟩ := own_at ho (by omega)
  refine ⟨ga, rfl, fun t u hu => ?_, ho.frozenAt _⟩
  have ht : t < 6 := (List.getElem?_eq_some_iff.1 hu).1
  rw [World.ownsRow.cellAt ho (k * 6 + t) (by omega), hL _ (by omega)]
  unfold flatA; rw [flat_get _ 6 actcells_len l k t ht, List.getElem?_eq_getElem hk]; exact hu
theorem LpW.typ {ga : Nat} (h : LpW w wr X pw q0 q1 l (some ⟨ga, 0, none⟩) c' k) : IsT 55 wr ga := by
  obtain ⟨L, ho, _⟩ := h.row; exact IsT.own ho
theorem LpW.next (h : LpW w wr X pw q0 q1 l A' c' k) : LpW w wr X pw q0 q1 l A' c' (k + 1) := by
  obtain ⟨L, ho, hL⟩ := h.row
  exact ⟨h.bel, h.var, L, ho, fun j hj => hL j (by omega)⟩
/-- The act's disk becomes 0. -/
theorem LpW.zero {ga : Nat} (h : LpW w wr X pw q0 q1 l (some ⟨ga, 0, none⟩) c' k) (hk : k < l.length) :
    LpW w (wr.setCell ⟨ga, k * 6, none⟩ (.int .u8 0)) X pw q0 q1 l (some ⟨ga, 0, none⟩) c' (k + 1) ∧ KeptT [55] (Bd.of w.heap.size) wr (wr.setCell ⟨ga, k * 6, none⟩ (.int .u8 0)) ∧
    (∀ t u, ({ l[k] with disk := 0 } : ActV).cells[t]? = some u → (wr.setCell ⟨ga, k * 6, none⟩ (.int .u8 0)).cell? ⟨ga, k * 6 + t, none⟩ = some u) := by
  obtain ⟨L, ho, hL⟩ := h.row
  have hlow : w.heap.size ≤ ga := by
    rcases ho.2 with ⟨h2, _⟩ | ⟨g, cap, cur, h2, h3, _⟩
    · cases h2
    · injection h2 with h2; injection h2 with h2; injection h2 with h2; subst h2; exact h3
  have tg : IsT 55 wr ga := IsT.own ho
  have hk0 : Kept (fun i => i = ga) wr (wr.setCell ⟨ga, k * 6, none⟩ (.int .u8 0)) := (Kept.refl (fun i => i = ga) wr).setCell (p := ⟨ga, k * 6, none⟩) (fun _ => rfl) _
  have hkT : KeptT [55] (Bd.of w.heap.size) wr (wr.setCell ⟨ga, k * 6, none⟩ (.int .u8 0)) := KeptT.of hk0 (fun i _ e => by have e' : i = ga := e; subst e'; exact ⟨⟨hlow, fun h => h⟩, HasT.mem tg (by simp)⟩)
  have ho2 := (World.ownsRow.stored ho (k * 6) (.int .u8 0)).1
  have hgk : ∀ t, t < 6 → L[k * 6 + t]? = l[k].cells[t]? := fun t ht => by
    rw [hL _ (by omega)]; unfold flatA; rw [flat_get _ 6 actcells_len l k t ht, List.getElem?_eq_getElem hk]; rfl
  refine ⟨⟨h.bel.setCell (p := ⟨ga, k * 6, none⟩) hlow _, own_typed h.var hkT (by decide), _, ho2, fun j hj => ?_⟩, hkT, fun t u hu => ?_⟩
  · rw [List.getElem?_set_ne (by omega)]; exact hL j (by omega)
  · have ht : t < 6 := (List.getElem?_eq_some_iff.1 hu).1
    rw [World.ownsRow.cellAt ho2 (k * 6 + t) (by omega)]
    rcases Nat.eq_zero_or_pos t with rfl | h0
    · have hlen : k * 6 < L.length := by
        have := hgk 0 (by omega)
        rw [Nat.add_zero] at this
        exact (List.getElem?_eq_some_iff.1 (this.trans rfl)).1
      rw [Nat.add_zero, List.getElem?_set_self hlen]; exact hu
    · rw [List.getElem?_set_ne (by omega), hgk t ht]
      obtain ⟨u', hu'⟩ : ∃ t', t = t' + 1 := ⟨t - 1, by omega⟩
      subst hu'
      exact hu
end
theorem fair14_parts {g : Geo} {l0 l1 : List Flt} {acts : List ActV} (h : fair14B g l0 l1 acts = true) :
    validG g = true ∧ szN g ≤ 120 ∧ acts.length ≤ 60 ∧ l0.length ≤ 20 ∧ l1.length ≤ 20 ∧ (∀ a ∈ acts, a.xs.length ≤ 100) ∧ validF l0 = true ∧ validF l1 = true := by
  unfold fair14B at h
  simp only [Bool.and_eq_true, decide_eq_true_eq] at h
  obtain ⟨⟨h1, h2, h3, h4, h5⟩, h6, h7, h8⟩ := h
  exact ⟨h1, h2, h3, h4, h5, (shortA_iff acts).1 h6, h7, h8⟩
/-- The acts that only leaves. -/
theorem onlyA_mem {l : List ActV} {a : ActV} (h : a ∈ onlyA l) : a.kind ≤ 3 ∧ a.key = 0 ∧ ∃ b ∈ l, a = { b with key := 0 } := by
  unfold onlyA at h
  obtain ⟨b, hb, rfl⟩ := List.mem_map.1 h
  obtain ⟨h1, h2⟩ := List.mem_filter.1 hb
  exact ⟨by simpa using h2, rfl, b, h1, rfl⟩
theorem onlyA_in {w : World} {l : List ActV} (h : ∀ b ∈ l, ActIn w b) {a : ActV} (ha : a ∈ onlyA l) : ActIn w a := by
  obtain ⟨_, _, b, hb, rfl⟩ := onlyA_mem ha
  have := h b hb
  exact ⟨this.at_, this.rd, this.n, this.c, this.dk, this.kd⟩
theorem onlyA_short {l : List ActV} (h : ∀ b ∈ l, b.xs.length ≤ 100) {a : ActV} (ha : a ∈ onlyA l) : a.xs.length ≤ 100 := by
  obtain ⟨_, _, b, hb, rfl⟩ := onlyA_mem ha; exact h b hb
/-- An operation that does not come to its work. -/
theorem op_err {g : Geo} {F : List Flt} {d : DC} {a : ActV} {E : Int} {s' : DS} {P' : Pow} {f : Flt} (hk : 0 ≤ a.kind ∧ a.kind ≤ 3) (hb : begD F d.s d.P a.key = ⟨E, s', P', f⟩) (hE : E ≠ 0) :
    doEr g F d a = E ∧ doC g F d a = ⟨s', P', d.L, d.O⟩ := by
  have h4 : a.kind = 0 ∨ a.kind = 1 ∨ a.kind = 2 ∨ a.kind = 3 := by omega
  unfold doEr doC
  unfold dRdE dWrE dErE dRdS dWrS dWrLM dWrO dErS dErO dFlS dFlLM dFlO
  rw [hb]
  rcases h4 with h | h | h | h <;> rw [h] <;> simp [hE]
end Go.Proofs.YtckdhhadlemakaaGreat
namespace Go.Proofs.YtckdhhadlemakaaGreat
set_option linter.unusedVariables false
open Go.RowKit

section
variable {w w' : World} {n pw q0 q1 : Nat} {g : Geo} {F0 F1 : List Flt} {s0 s1 : DS} {P : Pow} {L0 L1 : List Sec} {O0 O1 : List OpV}
theorem TwoM.first (h : TwoM w n pw q0 q1 g F0 F1 s0 s1 P L0 L1 O0 O1) : ∃ B : Bd, B.n = n ∧ DPm w B q0 pw g F0 s0 P L0 O0 ∧
    ∀ w' s' P' L' O', DPm w' B q0 pw g F0 s' P' L' O' → KeptT DAT B w w' → TwoM w' n pw q0 q1 g F0 F1 s' s1 P' L' L1 O' O1 := by
  obtain ⟨S0, S1, hn, h⟩ := h
  exact ⟨_, rfl, h.a, fun w' s' P' L' O' ha hk => h.step ha hk⟩
theorem TwoM.swap (h : TwoM w n pw q0 q1 g F0 F1 s0 s1 P L0 L1 O0 O1) : TwoM w n pw q1 q0 g F1 F0 s1 s0 P L1 L0 O1 O0 := by
  obtain ⟨S0, S1, hn, h⟩ := h
  exact ⟨S1, S0, hn, h.swap⟩
theorem TwoM.second (h : TwoM w n pw q0 q1 g F0 F1 s0 s1 P L0 L1 O0 O1) : ∃ B : Bd, B.n = n ∧ DPm w B q1 pw g F1 s1 P L1 O1 ∧
    ∀ w' s' P' L' O', DPm w' B q1 pw g F1 s' P' L' O' → KeptT DAT B w w' → TwoM w' n pw q0 q1 g F0 F1 s0 s' P' L0 L' O0 O' := by
  obtain ⟨B, h1, h2, h3⟩ := h.swap.first
  exact ⟨B, h1, h2, fun w' s' P' L' O' ha hk => (h3 w' s' P' L' O' ha hk).swap⟩
theorem TwoM.below (h : TwoM w n pw q0 q1 g F0 F1 s0 s1 P L0 L1 O0 O1) (hb : Below w.heap.size w w') : TwoM w' n pw q0 q1 g F0 F1 s0 s1 P L0 L1 O0 O1 := by
  obtain ⟨S0, S1, hn, h⟩ := h
  have hz := hb.size
  refine ⟨fun k => S0 k ∧ k < w.heap.size, fun k => S1 k ∧ k < w.heap.size, Nat.le_trans hn hz, ⟨h.a.move hb ⟨Nat.le_refl _, fun k hk hh => ?_⟩ (Nat.le_refl _), h.b.move hb ⟨Nat.le_refl _, fun k hk hh => ?_⟩ (Nat.le_refl _), fun k hk h0 h1 => h.no k h0.2 h0.1 h1.1⟩⟩
  · have := (Bd.on_has hk).1 hh
    exact (Bd.on_has (by omega)).2 ⟨this.1, this.2, hk⟩
  · have := (Bd.on_has hk).1 hh
    exact (Bd.on_has (by omega)).2 ⟨this.1, this.2, hk⟩
theorem TwoM.low (h : TwoM w n pw q0 q1 g F0 F1 s0 s1 P L0 L1 O0 O1) : n ≤ w.heap.size := by
  obtain ⟨S0, S1, hn, h⟩ := h; exact hn
end
/-- Within a law: the box of the case, the pair of disks, the disks. -/
structure StW (n0 : Nat) (wB wr : World) (X pw q0 q1 n : Nat) (g : Geo) (F0 F1 : List Flt) (s0 s1 : DS) (P : Pow) (L0 L1 : List Sec) (O0 O1 : List OpV) : Prop where
  box : Below n0 wB wr
  var : wr.ownsRow 0 35 3 (.slice (some ⟨X, 0, none⟩) 1 1) 1 [.pointer (some ⟨pw, 0, none⟩), .pointer (some ⟨q0, 0, none⟩), .pointer (some ⟨q1, 0, none⟩)]
  two : TwoM wr n pw q0 q1 g F0 F1 s0 s1 P L0 L1 O0 O1
  le : n0 ≤ n
section
variable {n0 X pw q0 q1 n : Nat} {wB wr w' : World} {g : Geo} {F0 F1 : List Flt} {s0 s1 : DS} {P : Pow} {L0 L1 : List Sec} {O0 O1 : List OpV}
theorem StW.cells (h : StW n0 wB wr X pw q0 q1 n g F0 F1 s0 s1 P L0 L1 O0 O1) : wr.cell? ⟨X, 0, none⟩ = some (.pointer (some ⟨pw, 0, none⟩)) ∧ wr.cell? ⟨X, 1, none⟩ = some (.pointer (some ⟨q0, 0, none⟩)) ∧ wr.cell? ⟨X, 2, none⟩ = some (.pointer (some ⟨q1, 0, none⟩)) :=
  ⟨(World.ownsRow.cellAt h.var 0 (by decide)).trans rfl, (World.ownsRow.cellAt h.var 1 (by decide)).trans rfl, (World.ownsRow.cellAt h.var 2 (by decide)).trans rfl⟩
theorem StW.first (h : StW n0 wB wr X pw q0 q1 n g F0 F1 s0 s1 P L0 L1 O0 O1) : ∃ B : Bd, B.n = n ∧ DPm wr B q0 pw g F0 s0 P L0 O0 ∧
    ∀ w' s' P' L' O', DPm w' B q0 pw g F0 s' P' L' O' → KeptT DAT B wr w' → StW n0 wB w' X pw q0 q1 n g F0 F1 s' s1 P' L' L1 O' O1 := by
  obtain ⟨B, h1, h2, h3⟩ := h.two.first
  refine ⟨B, h1, h2, fun w' s' P' L' O' ha hk => ⟨?_, own_typed h.var hk (by unfold DAT; decide), h3 w' s' P' L' O' ha hk, h.le⟩⟩
  exact h.box.trans ((hk.below (by rw [h1]; exact h.two.low)).mono (by rw [h1]; exact h.le))
theorem StW.swap0 (h : StW n0 wB wr X pw q0 q1 n g F0 F1 s0 s1 P L0 L1 O0 O1) : ∃ B : Bd, B.n = n ∧ DPm wr B q1 pw g F1 s1 P L1 O1 ∧
    ∀ w' s' P' L' O', DPm w' B q1 pw g F1 s' P' L' O' → KeptT DAT B wr w' → StW n0 wB w' X pw q0 q1 n g F0 F1 s0 s' P' L0 L' O0 O' := by
  obtain ⟨B, h1, h2, h3⟩ := h.two.second
  refine ⟨B, h1, h2, fun w' s' P' L' O' ha hk => ⟨?_, own_typed h.var hk (by unfold DAT; decide), h3 w' s' P' L' O' ha hk, h.le⟩⟩
  exact h.box.trans ((hk.below (by rw [h1]; exact h.two.low)).mono (by rw [h1]; exact h.le))
theorem StW.below (h : StW n0 wB wr X pw q0 q1 n g F0 F1 s0 s1 P L0 L1 O0 O1) (hb : Below wr.heap.size wr w') : StW n0 wB w' X pw q0 q1 n g F0 F1 s0 s1 P L0 L1 O0 O1 :=
  ⟨h.box.trans (hb.mono (Nat.le_trans h.le h.two.low)), own_kept h.var (belKept0 (S := fun _ => False) hb) (fun _ _ h => h), h.two.below hb, h.le⟩
theorem StW.arm (h : StW n0 wB wr X pw q0 q1 n g F0 F1 s0 s1 P L0 L1 O0 O1) (k : Int) : Calls Tryz.prog 20 #[.pointer (some ⟨pw, 0, none⟩), .int .i64 k] wr fun e w' => e = .returned (.tuple #[]) ∧ StW n0 wB w' X pw q0 q1 n g F0 F1 s0 s1 (armP P k) L0 L1 O0 O1 := by
  obtain ⟨B, _, hd, hs⟩ := h.first
  exact (arm_any k hd.p).mono (fun e w' hh => ⟨hh.1, hs w' _ _ _ _ (DPm.power hd hh.2.1 hh.2.2) (hh.2.2.sub (by unfold DAT; decide))⟩)
theorem StW.on (h : StW n0 wB wr X pw q0 q1 n g F0 F1 s0 s1 P L0 L1 O0 O1) : Calls Tryz.prog 29 #[.pointer (some ⟨pw, 0, none⟩)] wr fun e w' => e = .returned (.tuple #[]) ∧ StW n0 wB w' X pw q0 q1 n g F0 F1 s0 s1 { P with off := false } L0 L1 O0 O1 := by
  obtain ⟨B, _, hd, hs⟩ := h.first
  exact (don_any hd.p).mono (fun e w' hh => ⟨hh.1, hs w' _ _ _ _ (DPm.power hd hh.2.1 hh.2.2) (hh.2.2.sub (by unfold DAT; decide))⟩)
theorem StW.off (h : StW n0 wB wr X pw q0 q1 n g F0 F1 s0 s1 P L0 L1 O0 O1) : Calls Tryz.prog 21 #[.pointer (some ⟨pw, 0, none⟩)] wr fun e w' => e = .returned (.bool P.off) ∧ wr = w' := by
  obtain ⟨B, _, hd, _⟩ := h.first; exact off_any hd.p
theorem StW.flush1 (h : StW n0 wB wr X pw q0 q1 n g F0 F1 s0 s1 P L0 L1 O0 O1) (hn : F1.length ≤ 9223372036854775807) (ho : O1.length ≤ 99000) : Calls Tryz.prog 28 #[.pointer (some ⟨q1, 0, none⟩), .int .u64 0] wr fun e w' => e = .returned (.int .i64 (begD F1 s1 P 0).er) ∧ StW n0 wB w' X pw q0 q1 n g F0 F1 s0 (dFlS F1 s1 P 0) (begD F1 s1 P 0).P L0 (dFlLM g F1 s1 P L1 O1 0) O0 (dFlO F1 s1 P O1 0) := by
  obtain ⟨B, _, hd, hs⟩ := h.swap0
  exact (dflush_any 0 hd hn ho).mono (fun e w' hh => ⟨hh.1, hs w' _ _ _ _ hh.2.1 hh.2.2⟩)
theorem StW.restart1 (h : StW n0 wB wr X pw q0 q1 n g F0 F1 s0 s1 P L0 L1 O0 O1) (k : Int) (ho : O1.length ≤ 100000) : Calls Tryz.prog 14 #[.pointer (some ⟨q1, 0, none⟩), .int .i64 k] wr fun e w' => e = .returned (.int .i64 (rstE s1 P)) ∧ StW n0 wB w' X pw q0 q1 n g F0 F1 s0 (rstS s1 P) P L0 (rstLM g s1 P L1 O1 k) O0 (rstO s1 P O1) := by
  obtain ⟨B, _, hd, hs⟩ := h.swap0
  exact (drestart_any k hd ho).mono (fun e w' hh => ⟨hh.1, hs w' _ _ _ _ hh.2.1 hh.2.2⟩)
theorem StW.restart0 (h : StW n0 wB wr X pw q0 q1 n g F0 F1 s0 s1 P L0 L1 O0 O1) (k : Int) (ho : O0.length ≤ 100000) : Calls Tryz.prog 14 #[.pointer (some ⟨q0, 0, none⟩), .int .i64 k] wr fun e w' => e = .returned (.int .i64 (rstE s0 P)) ∧ StW n0 wB w' X pw q0 q1 n g F0 F1 (rstS s0 P) s1 P (rstLM g s0 P L0 O0 k) L1 (rstO s0 P O0) O1 := by
  obtain ⟨B, _, hd, hs⟩ := h.first
  exact (drestart_any k hd ho).mono (fun e w' hh => ⟨hh.1, hs w' _ _ _ _ hh.2.1 hh.2.2⟩)
theorem StW.acquire0 (h : StW n0 wB wr X pw q0 q1 n g F0 F1 s0 s1 P L0 L1 O0 O1) (key : Int) : Calls Tryz.prog 13 #[.pointer (some ⟨q0, 0, none⟩), .int .u64 key] wr fun e w' => e = .returned (.int .i64 (stE s0 P)) ∧ StW n0 wB w' X pw q0 q1 n g F0 F1 (acqS s0 P key) s1 P L0 L1 O0 O1 := by
  obtain ⟨B, _, hd, hs⟩ := h.first
  exact (dacquire_any key hd).mono (fun e w' hh => ⟨hh.1, hs w' _ _ _ _ hh.2.1 hh.2.2⟩)
theorem StW.kill0 (h : StW n0 wB wr X pw q0 q1 n g F0 F1 s0 s1 P L0 L1 O0 O1) : Calls Tryz.prog 8 #[.pointer (some ⟨q0, 0, none⟩)] wr fun e w' => e = .returned (.tuple #[]) ∧ StW n0 wB w' X pw q0 q1 n g F0 F1 { s0 with dead := true } s1 P L0 L1 O0 O1 := by
  obtain ⟨B, _, hd, hs⟩ := h.first
  exact (dkill_any hd).mono (fun e w' hh => ⟨hh.1, hs w' _ _ _ _ hh.2.1 hh.2.2⟩)
theorem StW.ops0 (h : StW n0 wB wr X pw q0 q1 n g F0 F1 s0 s1 P L0 L1 O0 O1) : Calls Tryz.prog 42 #[.pointer (some ⟨q0, 0, none⟩)] wr fun e w' => e = .returned (.int .i64 s0.ops) ∧ wr = w' := by
  obtain ⟨B, _, hd, _⟩ := h.first; exact dops_any hd
end
/-- Within a loop of a law over acts: the acts as well. -/
structure StL (n0 w0 : Nat) (wB wr : World) (X pw q0 q1 n : Nat) (g : Geo) (F0 F1 : List Flt) (s0 s1 : DS) (P : Pow) (L0 L1 : List Sec) (O0 O1 : List OpV) (l : List ActV) (A' : Option Addr) (c' k : Nat) : Prop where
  st : StW n0 wB wr X pw q0 q1 n g F0 F1 s0 s1 P L0 L1 O0 O1
  row : ∃ L, wr.ownsRow w0 55 6 (.slice A' l.length c') l.length L ∧ ∀ j, k * 6 ≤ j → L[j]? = (flatA l)[j]?
end Go.Proofs.YtckdhhadlemakaaGreat
