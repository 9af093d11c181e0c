/-
  WHAT IS SHOWN: how a disk and a power supply of the reference lie in memory; what the power supply's functions, Ready and has return and leave. what At of tegularef13 returns. Conditions: as each theorem names them.
-/
import Derived.Test.YtaggiceejcegdaaGreatNb25
import Derived.Test.YtaggiceejcegdaaGreatNb28
import Derived.Test.YtaggiceejcegdaaGreatNb29
import Derived.Test.YtaggiceejcegdaaGreatNb20
namespace Go.Proofs.YtaggiceejcegdaaGreat
set_option linter.unusedVariables false
open Go.RowKit

/-- The reference counts down only where the power is armed. -/
def RelP (P R : Pow) : Prop := P.off = R.off ∧ P.armed = R.armed ∧ P.fails = R.fails ∧ (P.armed = true → P.left = R.left)
def rcallP (R : Pow) : Pow := if R.armed then (if R.left = 0 then ⟨true, false, R.left, wrap64 (R.fails + 1)⟩ else ⟨R.off, R.armed, wrap64 (R.left - 1), R.fails⟩) else R
theorem RelP.refl (P : Pow) : RelP P P := ⟨rfl, rfl, rfl, fun _ => rfl⟩
theorem RelP.call {P R : Pow} (h : RelP P R) : RelP (callP P) (rcallP R) := by
  obtain ⟨h1, h2, h3, h4⟩ := h
  obtain ⟨po, pa, pl, pf⟩ := P
  obtain ⟨ro, ra, rl, rf⟩ := R
  simp only at h1 h2 h3 h4
  subst h1; subst h2; subst h3
  unfold callP rcallP trip
  cases pa
  · exact ⟨rfl, rfl, rfl, fun h => by simp at h⟩
  · obtain rfl := h4 rfl
    by_cases hl : pl = 0
    · subst hl; exact ⟨rfl, rfl, rfl, fun h => by simp at h⟩
    · simp only [Bool.true_and, decide_eq_true_eq, if_neg hl, if_true]; exact ⟨rfl, rfl, rfl, fun _ => rfl⟩
theorem RelP.on {P R : Pow} (h : RelP P R) : RelP { P with off := false } { R with off := false } := ⟨rfl, h.2.1, h.2.2.1, h.2.2.2⟩
def rObj (g : Geo) (s : DS) (p pw : Nat) (FA : Option Addr) (fn fc : Nat) : List Value :=
  [.int .i64 g.random, .int .i64 g.bands, .int .i64 g.tracks, .int .i64 g.sectors, .int .i64 g.overlap, .pointer (some ⟨p, 0, none⟩), .slice FA fn fc, .pointer (some ⟨pw, 0, none⟩), .int .u64 s.key, .bool s.dead, .int .i64 s.seen, .int .i64 s.ops,
   .int .i64 s.r, .int .i64 s.w, .int .i64 s.e, .int .i64 s.f]
structure RPow (w : World) (B : Bd) (pw : Nat) (R : Pow) : Prop where
  obj : w.ownsRow B.n 131 4 (.slice (some ⟨pw, 0, none⟩) 1 1) 1 (pObj R)
  px : ¬ B.X pw
structure RDsk (w : World) (B : Bd) (q pw : Nat) (g : Geo) (F : List Flt) (s : DS) (LM : List Sec) (O : List OpV) (p : Nat) (FA : Option Addr) (fc : Nat) : Prop where
  obj : w.ownsRow B.n 145 16 (.slice (some ⟨q, 0, none⟩) 1 1) 1 (rObj g s p pw FA F.length fc)
  px : ¬ B.X q
  c : RCacheM w B p g LM O
  fl : RdT w 138 FA (flatF F)
/-- The types of the blocks that the reference changes. -/
def RDT : List TypeId := [234, 204, 145, 131]
theorem rd_rdt : ∀ t, t ∈ [145] → t ∈ RDT := by unfold RDT; decide
structure RDPm (w : World) (B : Bd) (q pw : Nat) (g : Geo) (F : List Flt) (s : DS) (P : Pow) (LM : List Sec) (O : List OpV) : Prop where
  d : ∃ p FA fc, RDsk w B q pw g F s LM O p FA fc
  p : ∃ R, RelP P R ∧ RPow w B pw R
  f : Fit g LM
  s : ShortB LM
  B : B.top ≤ w.heap.size
section
variable {w w' : World} {B C : Bd} {q pw p : Nat} {g : Geo} {F : List Flt} {s : DS} {P R : Pow} {LM : List Sec} {O : List OpV} {FA : Option Addr} {fc : Nat}
theorem RCacheM.keptT {ts : List TypeId} {B' : Bd} (h : RCacheM w B p g LM O) (hk : KeptT ts B' w w') (ht : ∀ t, t ∈ [204, 200, 234, 172, 5] → t ∉ ts) : RCacheM w' B p g LM O := by
  obtain ⟨l, m, b, A, c, e, h⟩ := h
  exact ⟨l, m, b, A, c, e, h.keptT hk ht⟩
theorem RDsk.keptT {ts : List TypeId} {B' : Bd} (h : RDsk w B q pw g F s LM O p FA fc) (hk : KeptT ts B' w w') (ht : ∀ t, t ∈ [204, 200, 234, 172, 5] → t ∉ ts) (h1 : 145 ∉ ts) (h2 : 138 ∉ ts) : RDsk w' B q pw g F s LM O p FA fc :=
  ⟨own_kept h.obj hk (fun k e => by simp [Value.ownBlock] at e; subst e; exact KeptT.no (IsT.own h.obj) h1), h.px, h.c.keptT hk ht, h.fl.kept hk (KeptT.free h2)⟩
theorem RDsk.keptP {B' : Bd} (h : RDsk w B q pw g F s LM O p FA fc) (hk : KeptT [131] B' w w') : RDsk w' B q pw g F s LM O p FA fc := h.keptT hk (by decide) (by decide) (by decide)
theorem RDsk.below0 (h : RDsk w B q pw g F s LM O p FA fc) (hk : Below w.heap.size w w') : RDsk w' B q pw g F s LM O p FA fc := h.keptP (B' := Bd.of 0) (KeptT.bel hk)
theorem RPow.keptT {ts : List TypeId} {B' : Bd} (h : RPow w B pw R) (hk : KeptT ts B' w w') (ht : 131 ∉ ts) : RPow w' B pw R := ⟨own_kept h.obj hk (fun k e => by simp [Value.ownBlock] at e; subst e; exact KeptT.no (IsT.own h.obj) ht), h.px⟩
theorem RPow.below0 (h : RPow w B pw R) (hk : Below w.heap.size w w') : RPow w' B pw R := h.keptT (ts := []) (B' := Bd.of 0) (KeptT.bel hk) (by simp)
theorem RDsk.store (h : RDsk w B q pw g F s LM O p FA fc) (j : Nat) (v : Value) (s' : DS) (e : (rObj g s p pw FA F.length fc).set j v = rObj g s' p pw FA F.length fc) :
    RDsk (w.setCell ⟨q, j, none⟩ v) B q pw g F s' LM O p FA fc ∧ KeptT [145] B w (w.setCell ⟨q, j, none⟩ v) := by
  have tq := IsT.own h.obj
  have hk : Kept (fun k => k = q) w (w.setCell ⟨q, j, none⟩ v) := (Kept.refl (fun k => k = q) w).setCell (p := ⟨q, j, none⟩) (fun _ => rfl) _
  have hkT : KeptT [145] B w (w.setCell ⟨q, j, none⟩ v) := KeptT.of hk (fun k _ e => by have e' : k = q := e; subst e'; exact ⟨⟨row_low h.obj, h.px⟩, HasT.mem tq (by simp)⟩)
  refine ⟨⟨?_, h.px, h.c.keptT hkT (by decide), h.fl.kept hkT (KeptT.free (by decide))⟩, hkT⟩
  have := (World.ownsRow.stored h.obj j v).1
  rw [e] at this; exact this
theorem RPow.store (h : RPow w B pw R) (j : Nat) (v : Value) (R' : Pow) (e : (pObj R).set j v = pObj R') : RPow (w.setCell ⟨pw, j, none⟩ v) B pw R' ∧ KeptT [131] B w (w.setCell ⟨pw, j, none⟩ v) := by
  have tq := IsT.own h.obj
  have hk : Kept (fun k => k = pw) w (w.setCell ⟨pw, j, none⟩ v) := (Kept.refl (fun k => k = pw) w).setCell (p := ⟨pw, j, none⟩) (fun _ => rfl) _
  refine ⟨⟨?_, h.px⟩, KeptT.of hk (fun k _ e => by have e' : k = pw := e; subst e'; exact ⟨⟨row_low h.obj, h.px⟩, HasT.mem tq (by simp)⟩)⟩
  have := (World.ownsRow.stored h.obj j v).1
  rw [e] at this; exact this
theorem RPow.cells (h : RPow w B pw R) : w.cell? ⟨pw, 0, none⟩ = some (.bool R.off) ∧ w.cell? ⟨pw, 1, none⟩ = some (.bool R.armed) ∧ w.cell? ⟨pw, 2, none⟩ = some (.int .i64 R.left) ∧ w.cell? ⟨pw, 3, none⟩ = some (.int .i64 R.fails) :=
  ⟨(World.ownsRow.cellAt h.obj 0 (by decide)).trans rfl, (World.ownsRow.cellAt h.obj 1 (by decide)).trans rfl, (World.ownsRow.cellAt h.obj 2 (by decide)).trans rfl, (World.ownsRow.cellAt h.obj 3 (by decide)).trans rfl⟩
theorem RDsk.cell (h : RDsk w B q pw g F s LM O p FA fc) (j : Nat) (hj : j < 16) : w.cell? ⟨q, j, none⟩ = (rObj g s p pw FA F.length fc)[j]? := World.ownsRow.cellAt h.obj j (by omega)
theorem RDsk.free (h : RDsk w B q pw g F s LM O p FA fc) (j : Nat) : w.frozen? ⟨q, j, none⟩ = false := h.obj.frozenAt j
theorem RDsk.withC {B' : Bd} {LM' : List Sec} {O' : List OpV} (h : RDsk w B q pw g F s LM O p FA fc) (hk : KeptT RT B' w w') (hc : RCacheM w' B p g LM' O') : RDsk w' B q pw g F s LM' O' p FA fc :=
  ⟨own_kept h.obj hk (fun k e => by simp [Value.ownBlock] at e; subst e; exact KeptT.no (IsT.own h.obj) (by unfold RT; decide)), h.px, hc, h.fl.kept hk (KeptT.free (by unfold RT; decide))⟩
theorem RDPm.below0 (h : RDPm w B q pw g F s P LM O) (hk : Below w.heap.size w w') : RDPm w' B q pw g F s P LM O := by
  obtain ⟨⟨p, FA, fc, hd⟩, ⟨R, hr, hp⟩, hf, hs, hB⟩ := h
  exact ⟨⟨p, FA, fc, hd.below0 hk⟩, ⟨R, hr, hp.below0 hk⟩, hf, hs, Nat.le_trans hB hk.size⟩
/-! ### the power supply -/
theorem rnewpower_any (w : World) : Calls Tryz.prog 43 #[] w fun e w' => ∃ pw, e = .returned (.pointer (some ⟨pw, 0, none⟩)) ∧ RPow w' (Bd.of w.heap.size) pw ⟨false, false, 0, 0⟩ ∧ Below w.heap.size w w' := by
  have hr := World.ownsRow_lit (base := w.heap.size) (e := 131) (size := 4) w #[.bool false, .bool false, .int .i64 0, .int .i64 0] 1 (Nat.le_refl _) (by decide) rfl
  have HR := Lib.hid hr
  clear hr
  go_enter Tryz.func43, Tryz.ntmps43
  go_wp2
  go_ret
  exact ⟨_, rfl, ⟨HR.out, fun h => h⟩, (Below.refl _ _).alloc (Nat.le_refl _) _⟩
/-- Whether a call passes. -/
def passP (R : Pow) : Bool := !(R.armed && decide (R.left = 0))
/-! ### the disk -/
def readyB (s : DS) (P : Pow) : Bool := !P.off && decide (s.seen = P.fails)
end
end Go.Proofs.YtaggiceejcegdaaGreat
namespace Go.Proofs.YtaggiceejcegdaaGreat
set_option linter.unusedVariables false
open Go.RowKit

end Go.Proofs.YtaggiceejcegdaaGreat
