/-
  WHAT IS SHOWN: how a disk and a power supply lie in memory; what state, call and has of disk return and leave. Conditions: they lie in memory.
-/
import Derived.Test.YtckdhhadlemakaaGreatDisk0
import Derived.Test.YtckdhhadlemakaaGreatCac4
namespace Go.Proofs.YtckdhhadlemakaaGreat
set_option linter.unusedVariables false
open Go.RowKit

/-- What a disk counts and knows. -/
structure DS where
  r : Int
  w : Int
  e : Int
  f : Int
  ops : Int
  seen : Int
  key : Int
  dead : Bool
/-- A power supply. -/
structure Pow where
  off : Bool
  armed : Bool
  left : Int
  fails : Int
def stE (s : DS) (P : Pow) : Int := if s.dead then 14 else if P.off || decide (s.seen ≠ P.fails) then 13 else 0
def trip (P : Pow) : Bool := P.armed && decide (P.left = 0)
def callP (P : Pow) : Pow := if trip P then ⟨true, false, wrap64 (P.left - 1), wrap64 (P.fails + 1)⟩ else ⟨P.off, P.armed, wrap64 (P.left - 1), P.fails⟩
def dObj (g : Geo) (s : DS) (p pw : Nat) (FA : Option Addr) (fn fc : Nat) : List Value :=
  [.int .i64 s.r, .int .i64 s.w, .int .i64 s.e, .int .i64 s.f, .int .i64 s.ops, .int .i64 g.random, .int .i64 g.bands, .int .i64 g.tracks, .int .i64 g.sectors, .int .i64 g.overlap,
   .pointer (some ⟨p, 0, none⟩), .slice FA fn fc, .pointer (some ⟨pw, 0, none⟩), .int .i64 s.seen, .int .u64 s.key, .bool s.dead]
def pObj (P : Pow) : List Value := [.bool P.off, .bool P.armed, .int .i64 P.left, .int .i64 P.fails]
/-- The power supply of block pw. -/
structure PowM (w : World) (B : Bd) (pw : Nat) (P : Pow) : Prop where
  obj : w.ownsRow B.n 83 4 (.slice (some ⟨pw, 0, none⟩) 1 1) 1 (pObj P)
  px : ¬ B.X pw
/-- The disk of block q, in its parts. -/
structure Dsk (w : World) (B : Bd) (q pw : Nat) (g : Geo) (F : List Flt) (s : DS) (LM : List Sec) (O : List OpV) (p : Nat) (FA : Option Addr) (fc : Nat) : Prop where
  obj : w.ownsRow B.n 79 16 (.slice (some ⟨q, 0, none⟩) 1 1) 1 (dObj g s p pw FA F.length fc)
  px : ¬ B.X q
  c : CacheM w B p g LM O
  fl : RdT w 64 FA (flatF F)
/-- The disk of block q. -/
def DiskM (w : World) (B : Bd) (q pw : Nat) (g : Geo) (F : List Flt) (s : DS) (LM : List Sec) (O : List OpV) : Prop := ∃ p FA fc, Dsk w B q pw g F s LM O p FA fc
section
variable {w w' : World} {B : Bd} {q pw p : Nat} {g : Geo} {F : List Flt} {s : DS} {P : Pow} {LM : List Sec} {O : List OpV} {FA : Option Addr} {fc : Nat}
theorem row_low {w : World} {B : Nat} {t : TypeId} {n k : Nat} {xs : List Value} (h : w.ownsRow B t n (.slice (some ⟨k, 0, none⟩) 1 1) 1 xs) : B ≤ k := by
  rcases h.2 with ⟨h2, _⟩ | ⟨g', cap, cur, h2, h3, _⟩
  · cases h2
  · injection h2 with h2; injection h2 with h2; injection h2 with h2; subst h2; exact h3
theorem CacheM.keptT {ts : List TypeId} {B' : Bd} (h : CacheM w B p g LM O) (hk : KeptT ts B' w w') (ht : ∀ t, t ∈ [118, 126, 133, 120, 3, 53, 5] → t ∉ ts) : CacheM w' B p g LM O := by
  obtain ⟨m1, b1, m2, b2, A, c, G, h⟩ := h
  exact ⟨m1, b1, m2, b2, A, c, G, h.keptT hk ht⟩
theorem Dsk.keptT {ts : List TypeId} {B' : Bd} (h : Dsk w B q pw g F s LM O p FA fc) (hk : KeptT ts B' w w') (ht : ∀ t, t ∈ [118, 126, 133, 120, 3, 53, 5] → t ∉ ts) (h1 : 79 ∉ ts) (h2 : 64 ∉ ts) : Dsk w' B q pw g F s LM O p FA fc :=
  ⟨own_kept h.obj hk (fun k e => by simp [Value.ownBlock] at e; subst e; exact KeptT.no (IsT.own h.obj) h1), h.px, h.c.keptT hk ht, h.fl.kept hk (KeptT.free h2)⟩
theorem Dsk.keptP {B' : Bd} (h : Dsk w B q pw g F s LM O p FA fc) (hk : KeptT [83] B' w w') : Dsk w' B q pw g F s LM O p FA fc := h.keptT hk (by decide) (by decide) (by decide)
theorem Dsk.below0 (h : Dsk w B q pw g F s LM O p FA fc) (hk : Below w.heap.size w w') : Dsk w' B q pw g F s LM O p FA fc := h.keptP (B' := Bd.of 0) (KeptT.bel hk)
theorem PowM.keptT {ts : List TypeId} {B' : Bd} (h : PowM w B pw P) (hk : KeptT ts B' w w') (ht : 83 ∉ ts) : PowM w' B pw P := ⟨own_kept h.obj hk (fun k e => by simp [Value.ownBlock] at e; subst e; exact KeptT.no (IsT.own h.obj) ht), h.px⟩
theorem PowM.below0 (h : PowM w B pw P) (hk : Below w.heap.size w w') : PowM w' B pw P := h.keptT (ts := []) (B' := Bd.of 0) (KeptT.bel hk) (by simp)
/-- A cell of a disk is stored. -/
theorem Dsk.store (h : Dsk w B q pw g F s LM O p FA fc) (j : Nat) (v : Value) (s' : DS) (e : (dObj g s p pw FA F.length fc).set j v = dObj g s' p pw FA F.length fc) :
    Dsk (w.setCell ⟨q, j, none⟩ v) B q pw g F s' LM O p FA fc ∧ KeptT [79] B w (w.setCell ⟨q, j, none⟩ v) := by
  have tq := IsT.own h.obj
  have hk : Kept (fun k => k = q) w (w.setCell ⟨q, j, none⟩ v) := (Kept.refl (fun k => k = q) w).setCell (p := ⟨q, j, none⟩) (fun _ => rfl) _
  have hkT : KeptT [79] B w (w.setCell ⟨q, j, none⟩ v) := KeptT.of hk (fun k _ e => by have e' : k = q := e; subst e'; exact ⟨⟨row_low h.obj, h.px⟩, HasT.mem tq (by simp)⟩)
  refine ⟨⟨?_, h.px, h.c.keptT hkT (by decide), h.fl.kept hkT (KeptT.free (by decide))⟩, hkT⟩
  have := (World.ownsRow.stored h.obj j v).1
  rw [e] at this; exact this
theorem PowM.store (h : PowM w B pw P) (j : Nat) (v : Value) (P' : Pow) (e : (pObj P).set j v = pObj P') : PowM (w.setCell ⟨pw, j, none⟩ v) B pw P' ∧ KeptT [83] B w (w.setCell ⟨pw, j, none⟩ v) := by
  have tq := IsT.own h.obj
  have hk : Kept (fun k => k = pw) w (w.setCell ⟨pw, j, none⟩ v) := (Kept.refl (fun k => k = pw) w).setCell (p := ⟨pw, j, none⟩) (fun _ => rfl) _
  refine ⟨⟨?_, h.px⟩, KeptT.of hk (fun k _ e => by have e' : k = pw := e; subst e'; exact ⟨⟨row_low h.obj, h.px⟩, HasT.mem tq (by simp)⟩)⟩
  have := (World.ownsRow.stored h.obj j v).1
  rw [e] at this; exact this
theorem PowM.cells (h : PowM w B pw P) : w.cell? ⟨pw, 0, none⟩ = some (.bool P.off) ∧ w.cell? ⟨pw, 1, none⟩ = some (.bool P.armed) ∧ w.cell? ⟨pw, 2, none⟩ = some (.int .i64 P.left) ∧ w.cell? ⟨pw, 3, none⟩ = some (.int .i64 P.fails) :=
  ⟨(World.ownsRow.cellAt h.obj 0 (by decide)).trans rfl, (World.ownsRow.cellAt h.obj 1 (by decide)).trans rfl, (World.ownsRow.cellAt h.obj 2 (by decide)).trans rfl, (World.ownsRow.cellAt h.obj 3 (by decide)).trans rfl⟩
theorem Dsk.cell (h : Dsk w B q pw g F s LM O p FA fc) (j : Nat) (hj : j < 16) : w.cell? ⟨q, j, none⟩ = (dObj g s p pw FA F.length fc)[j]? := World.ownsRow.cellAt h.obj j (by omega)
theorem Dsk.free (h : Dsk w B q pw g F s LM O p FA fc) (j : Nat) : w.frozen? ⟨q, j, none⟩ = false := h.obj.frozenAt j
set_option maxHeartbeats 1000000 in
theorem dstate_any (h : Dsk w B q pw g F s LM O p FA fc) (hp : PowM w B pw P) : Calls Tryz.prog 38 #[.pointer (some ⟨q, 0, none⟩)] w fun e w' => e = .returned (.int .i64 (stE s P)) ∧ Below w.heap.size w w' := by
  have c12 : w.cell? ⟨q, 12, none⟩ = some (.pointer (some ⟨pw, 0, none⟩)) := (h.cell 12 (by decide)).trans rfl
  have c13 : w.cell? ⟨q, 13, none⟩ = some (.int .i64 s.seen) := (h.cell 13 (by decide)).trans rfl
  have c15 : w.cell? ⟨q, 15, none⟩ = some (.bool s.dead) := (h.cell 15 (by decide)).trans rfl
  obtain ⟨p0, _, _, p3⟩ := hp.cells
  clear h hp
  cases hd : s.dead
  · rw [hd] at c15
    cases ho : P.off
    · rw [ho] at p0
      by_cases hs : s.seen = P.fails
      · have HE : Hid (stE s P = 0) := by unfold Hid stE; simp [hd, ho, hs]
        have e1 : (s.seen != P.fails) = false := by simpa using hs
        clear hd ho hs
        go_enter Tryz.func38, Tryz.ntmps38
        go_wp2
        go_quiet (fail)
        go_wp2
        go_ret
        exact ⟨by rw [HE.out]; rfl, ((Kept.refl (fun _ => False) _).drewN _).below0⟩
      · have HE : Hid (stE s P = 13) := by unfold Hid stE; simp [hd, ho, hs]
        have e1 : (s.seen != P.fails) = true := by simpa using hs
        clear hd ho hs
        go_enter Tryz.func38, Tryz.ntmps38
        go_wp2
        go_quiet (fail)
        go_wp2
        go_ret
        exact ⟨by rw [HE.out]; rfl, ((Kept.refl (fun _ => False) _).drewN _).below0⟩
    · rw [ho] at p0
      have HE : Hid (stE s P = 13) := by unfold Hid stE; simp [hd, ho]
      clear hd ho
      go_enter Tryz.func38, Tryz.ntmps38
      go_wp2
      go_quiet (fail)
      go_wp2
      go_ret
      exact ⟨by rw [HE.out]; rfl, ((Kept.refl (fun _ => False) _).drewN _).below0⟩
  · rw [hd] at c15
    have HE : Hid (stE s P = 14) := by unfold Hid stE; simp [hd]
    clear hd
    go_enter Tryz.func38, Tryz.ntmps38
    go_wp2
    go_ret
    exact ⟨by rw [HE.out]; rfl, Below.refl _ _⟩
set_option maxHeartbeats 1000000 in
theorem pcall_any (hp : PowM w B pw P) : Calls Tryz.prog 80 #[.pointer (some ⟨pw, 0, none⟩)] w fun e w' => e = .returned (.bool (!(callP P).off)) ∧ PowM w' B pw (callP P) ∧ KeptT [83] B w w' := by
  obtain ⟨p0, p1, p2, p3⟩ := hp.cells
  have f0 := hp.obj.frozenAt 0
  have f1 := hp.obj.frozenAt 1
  have f2 := hp.obj.frozenAt 2
  have f3 := hp.obj.frozenAt 3
  obtain ⟨off, armed, left, fails⟩ := P
  simp only at p0 p1 p2 p3
  by_cases ht : trip ⟨off, armed, left, fails⟩ = true
  · have hc : callP ⟨off, armed, left, fails⟩ = ⟨true, false, wrap64 (left - 1), wrap64 (fails + 1)⟩ := by unfold callP; rw [if_pos ht]
    have ⟨ha, hl⟩ : armed = true ∧ left = 0 := by unfold trip at ht; simpa using ht
    subst ha; subst hl
    obtain ⟨hp1, hk1⟩ := hp.store 0 (.bool true) ⟨true, true, 0, fails⟩ rfl
    obtain ⟨hp2, hk2⟩ := hp1.store 1 (.bool false) ⟨true, false, 0, fails⟩ rfl
    obtain ⟨hp3, hk3⟩ := hp2.store 3 (.int .i64 (wrap64 (fails + 1))) ⟨true, false, 0, wrap64 (fails + 1)⟩ rfl
    obtain ⟨hp4, hk4⟩ := hp3.store 2 (.int .i64 (-1)) ⟨true, false, -1, wrap64 (fails + 1)⟩ rfl
    have HP := Lib.hid hp4
    have HK := Lib.hid (((hk1.trans hk2).trans hk3).trans hk4)
    have hw0 : wrap64 (0 - 1) = -1 := by decide +kernel
    rw [hw0] at hc
    have HC := Lib.hid hc
    clear hp hp1 hp2 hp3 hp4 hk1 hk2 hk3 hk4 hc ht hw0
    go_enter Tryz.func80, Tryz.ntmps80
    go_wp2
    go_ret
    rw [HC.out]
    exact ⟨rfl, HP.out, HK.out⟩
  · have hc : callP ⟨off, armed, left, fails⟩ = ⟨off, armed, wrap64 (left - 1), fails⟩ := by unfold callP; rw [if_neg ht]
    obtain ⟨hp4, hk4⟩ := hp.store 2 (.int .i64 (wrap64 (left - 1))) ⟨off, armed, wrap64 (left - 1), fails⟩ rfl
    have HP := Lib.hid hp4
    have HK := Lib.hid hk4
    have HC := Lib.hid hc
    clear hp hp4 hk4 hc
    cases armed
    · clear ht
      go_enter Tryz.func80, Tryz.ntmps80
      go_wp2
      go_ret
      rw [HC.out]
      exact ⟨rfl, HP.out, HK.out⟩
    · have hl : (left == 0) = false := by unfold trip at ht; simpa using ht
      clear ht
      go_enter Tryz.func80, Tryz.ntmps80
      go_wp2
      go_ret
      rw [HC.out]
      exact ⟨rfl, HP.out, HK.out⟩
end
end Go.Proofs.YtckdhhadlemakaaGreat
