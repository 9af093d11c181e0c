/-
  WHAT IS SHOWN: plain facts on memory, of no program: two disks that share a power supply, and what keeps the one while the other one works. how a disk and a power supply of the reference lie in memory; what the power supply's functions, Ready and has return and leave. what At of tegularef13 returns. what begin of the reference's disk returns and leaves. what Read of the reference's cache and of its disk return and leave. what Flush and Erase of the reference's disk return and leave. what Write of the reference's disk returns and leaves. what Acquire and Restart of the reference's disk return and leave. Conditions: as each theorem names them.
-/
import Derived.Test.YtckdhhadlemakaaGreatDisk16
import Derived.Test.YtckdhhadlemakaaGreatCac6
import Derived.Test.YtckdhhadlemakaaGreatDisk12
import Derived.Test.YtckdhhadlemakaaGreatDisk1
namespace Go.Proofs.YtckdhhadlemakaaGreat
set_option linter.unusedVariables false
open Go.RowKit

/-- The blocks of S, and the new ones. -/
def Bd.on (n N : Nat) (S : Nat → Prop) (h : n ≤ N) : Bd := ⟨n, fun k => k < N ∧ ¬ S k, N, fun _ h => h.1, h⟩
theorem Bd.on_has {n N : Nat} {S : Nat → Prop} {h : n ≤ N} {k : Nat} (hk : k < N) : (Bd.on n N S h).has k ↔ n ≤ k ∧ S k := by
  refine ⟨fun ⟨h1, h2⟩ => ⟨h1, ?_⟩, fun ⟨h1, h2⟩ => ⟨h1, fun h3 => h3.2 h2⟩⟩
  by_cases hs : S k
  · exact hs
  · exact absurd (show (Bd.on n N S h).X k from ⟨hk, hs⟩) h2
section
variable {w w' : World} {B C : Bd} {q pw p : Nat} {g : Geo} {F : List Flt} {s : DS} {P P' : Pow} {LM : List Sec} {O : List OpV} {FA : Option Addr} {fc : Nat}
theorem PowM.lt (h : PowM w B pw P) : pw < w.heap.size := (IsT.own h.obj).lt
theorem PowM.low (h : PowM w B pw P) : B.has pw := ⟨row_low h.obj, h.px⟩
theorem PowM.mono (h : PowM w B pw P) (hs : Bd.Sub w.heap.size B C) : PowM w C pw P := ⟨own_mono h.obj hs.1, (hs.2 _ h.lt h.low).2⟩
theorem Dsk.mono (h : Dsk w B q pw g F s LM O p FA fc) (hs : Bd.Sub w.heap.size B C) : Dsk w C q pw g F s LM O p FA fc :=
  ⟨own_mono h.obj hs.1, (hs.2 _ (IsT.own h.obj).lt ⟨row_low h.obj, h.px⟩).2, h.c.mono hs, h.fl⟩
theorem DPm.mono (h : DPm w B q pw g F s P LM O) (hs : Bd.Sub w.heap.size B C) (hC : C.top ≤ w.heap.size) : DPm w C q pw g F s P LM O := by
  obtain ⟨⟨p, FA, fc, hd⟩, hp, hf, hb, _⟩ := h
  exact ⟨⟨p, FA, fc, hd.mono hs⟩, hp.mono hs, hf, hb, hC⟩
/-- The blocks of one bound are none of another one's, but for one block of another type. -/
theorem CacheM.shut (h : CacheM w B p g LM O) {ts : List TypeId} (hk : KeptT ts C w w') (ht : 126 ∉ ts ∧ 3 ∉ ts ∧ 53 ∉ ts ∧ 5 ∉ ts) (tp : IsT 83 w pw) (hd : ∀ k, k < w.heap.size → B.has k → C.has k → k = pw) : CacheM w' B p g LM O := by
  obtain ⟨m1, b1, m2, b2, A, c, G, h⟩ := h
  have no : ∀ {k : Nat} {t : TypeId}, IsT t w k → t ≠ 83 → B.has k → ¬ (C.has k ∧ HasT ts w k) := fun hk' hne hB hC => (hk'.ne tp hne) (hd _ hk'.lt hB hC.1)
  exact ⟨m1, b1, m2, b2, A, c, G, h.kept hk (no h.typ (by decide) h.low) (KeptT.no h.med1.types.1 ht.1) (no h.med1.types.2 (by decide) h.lb1) (KeptT.no h.med2.types.1 ht.1) (no h.med2.types.2 (by decide) h.lb2)
    (fun k hk' => no (h.typA k hk').1 (by decide) (h.typA k hk').2) (FreeF.all ht.2.1 ht.2.2.1 ht.2.2.2)⟩
theorem Dsk.shut (h : Dsk w B q pw g F s LM O p FA fc) (hk : KeptT DAT C w w') (tp : IsT 83 w pw) (hd : ∀ k, k < w.heap.size → B.has k → C.has k → k = pw) : Dsk w' B q pw g F s LM O p FA fc :=
  ⟨own_kept h.obj hk (fun k e => by
      simp [Value.ownBlock] at e; subst e
      exact fun hC => ((IsT.own h.obj).ne tp (by decide)) (hd _ (IsT.own h.obj).lt ⟨row_low h.obj, h.px⟩ hC.1)), h.px, h.c.shut hk (by unfold DAT; decide) tp hd, h.fl.kept hk (KeptT.free (by unfold DAT; decide))⟩
/-- Another disk has worked. -/
theorem DPm.other {D : Bd} (h : DPm w B q pw g F s P LM O) (hp : PowM w' C pw P') (hk : KeptT DAT C w w') (hs : Bd.Sub w.heap.size B D) (hn : C.n = D.n) (hD : D.top ≤ w'.heap.size) (hd : ∀ k, k < w.heap.size → D.has k → C.has k → k = pw) : DPm w' D q pw g F s P' LM O := by
  obtain ⟨⟨p, FA, fc, hd'⟩, hp', hf, hb, hB⟩ := h
  exact ⟨⟨p, FA, fc, (hd'.mono hs).shut hk (IsT.own hp'.obj) hd⟩, ⟨by rw [← hn]; exact hp.obj, (hp'.mono hs).px⟩, hf, hb, hD⟩
end
/-- Two disks that share a power supply. -/
structure Two (w : World) (n pw q0 q1 : Nat) (g : Geo) (F0 F1 : List Flt) (s0 s1 : DS) (P : Pow) (L0 L1 : List Sec) (O0 O1 : List OpV) (S0 S1 : Nat → Prop) (hn : n ≤ w.heap.size) : Prop where
  a : DPm w (Bd.on n w.heap.size S0 hn) q0 pw g F0 s0 P L0 O0
  b : DPm w (Bd.on n w.heap.size S1 hn) q1 pw g F1 s1 P L1 O1
  no : ∀ k, k < w.heap.size → S0 k → S1 k → k = pw
def TwoM (w : World) (n pw q0 q1 : Nat) (g : Geo) (F0 F1 : List Flt) (s0 s1 : DS) (P : Pow) (L0 L1 : List Sec) (O0 O1 : List OpV) : Prop := ∃ S0 S1 hn, Two w n pw q0 q1 g F0 F1 s0 s1 P L0 L1 O0 O1 S0 S1 hn
section
variable {w w' : World} {n pw q0 q1 : Nat} {g : Geo} {F0 F1 : List Flt} {s0 s1 : DS} {P : Pow} {L0 L1 : List Sec} {O0 O1 : List OpV} {S0 S1 : Nat → Prop} {hn : n ≤ w.heap.size}
theorem Two.swap (h : Two w n pw q0 q1 g F0 F1 s0 s1 P L0 L1 O0 O1 S0 S1 hn) : Two w n pw q1 q0 g F1 F0 s1 s0 P L1 L0 O1 O0 S1 S0 hn := ⟨h.b, h.a, fun k hk h1 h0 => h.no k hk h0 h1⟩
/-- The first one has worked. -/
theorem Two.step {s' : DS} {P' : Pow} {L' : List Sec} {O' : List OpV} (h : Two w n pw q0 q1 g F0 F1 s0 s1 P L0 L1 O0 O1 S0 S1 hn) (ha : DPm w' (Bd.on n w.heap.size S0 hn) q0 pw g F0 s' P' L' O') (hk : KeptT DAT (Bd.on n w.heap.size S0 hn) w w') :
    ∃ S0' S1' hn', Two w' n pw q0 q1 g F0 F1 s' s1 P' L' L1 O' O1 S0' S1' hn' := by
  have hsz := hk.size
  refine ⟨fun k => S0 k ∨ w.heap.size ≤ k, fun k => S1 k ∧ k < w.heap.size, Nat.le_trans hn hsz, ?_, ?_, ?_⟩
  · refine ha.mono ⟨Nat.le_refl _, fun k hk' hh => ?_⟩ (Nat.le_refl _)
    refine (Bd.on_has hk').2 ⟨hh.1, ?_⟩
    by_cases h2 : k < w.heap.size
    · exact .inl ((Bd.on_has h2).1 hh).2
    · exact .inr (by omega)
  · refine h.b.other ha.p hk ⟨Nat.le_refl _, fun k hk' hh => ?_⟩ rfl (Nat.le_refl _) (fun k hk' h1 h0 => ?_)
    · exact (Bd.on_has (by omega)).2 ⟨hh.1, ((Bd.on_has hk').1 hh).2, hk'⟩
    · exact h.no k hk' ((Bd.on_has hk').1 h0).2 ((Bd.on_has (by omega)).1 h1).2.1
  · rintro k hk' (h0 | h0) ⟨h1, h2⟩
    · exact h.no k h2 h0 h1
    · omega
end
end Go.Proofs.YtckdhhadlemakaaGreat
namespace Go.Proofs.YtckdhhadlemakaaGreat
set_option linter.unusedVariables false
open Go.RowKit

/-- The reference counts down only where the power is armed. -/
def RelP (P R : Pow) : Prop := P.off = R.off ∧ P.armed = R.armed ∧ P.fails = R.fails ∧ (P.armed = true → P.left = R.left)
def rcallP (R : Pow) : Pow := if R.armed then (if R.left = 0 then ⟨true, false, R.left, wrap64 (R.fails + 1)⟩ else ⟨R.off, R.armed, wrap64 (R.left - 1), R.fails⟩) else R
theorem RelP.refl (P : Pow) : RelP P P := ⟨rfl, rfl, rfl, fun _ => rfl⟩
theorem RelP.call {P R : Pow} (h : RelP P R) : RelP (callP P) (rcallP R) := by
  obtain ⟨h1, h2, h3, h4⟩ := h
  obtain ⟨po, pa, pl, pf⟩ := P
  obtain ⟨ro, ra, rl, rf⟩ := R
  simp only at h1 h2 h3 h4
  subst h1; subst h2; subst h3
  unfold callP rcallP trip
  cases pa
  · exact ⟨rfl, rfl, rfl, fun h => by simp at h⟩
  · obtain rfl := h4 rfl
    by_cases hl : pl = 0
    · subst hl; exact ⟨rfl, rfl, rfl, fun h => by simp at h⟩
    · simp only [Bool.true_and, decide_eq_true_eq, if_neg hl, if_true]; exact ⟨rfl, rfl, rfl, fun _ => rfl⟩
theorem RelP.arm {P R : Pow} (h : RelP P R) (n : Int) : RelP (armP P n) (armP R n) := by
  obtain ⟨h1, h2, h3, h4⟩ := h
  unfold armP
  rw [← h1]
  cases P.off
  · exact ⟨rfl, rfl, h3, fun _ => rfl⟩
  · exact ⟨h1, h2, h3, h4⟩
theorem RelP.on {P R : Pow} (h : RelP P R) : RelP { P with off := false } { R with off := false } := ⟨rfl, h.2.1, h.2.2.1, h.2.2.2⟩
def rObj (g : Geo) (s : DS) (p pw : Nat) (FA : Option Addr) (fn fc : Nat) : List Value :=
  [.int .i64 g.random, .int .i64 g.bands, .int .i64 g.tracks, .int .i64 g.sectors, .int .i64 g.overlap, .pointer (some ⟨p, 0, none⟩), .slice FA fn fc, .pointer (some ⟨pw, 0, none⟩), .int .u64 s.key, .bool s.dead, .int .i64 s.seen, .int .i64 s.ops,
   .int .i64 s.r, .int .i64 s.w, .int .i64 s.e, .int .i64 s.f]
structure RPow (w : World) (B : Bd) (pw : Nat) (R : Pow) : Prop where
  obj : w.ownsRow B.n 107 4 (.slice (some ⟨pw, 0, none⟩) 1 1) 1 (pObj R)
  px : ¬ B.X pw
structure RDsk (w : World) (B : Bd) (q pw : Nat) (g : Geo) (F : List Flt) (s : DS) (LM : List Sec) (O : List OpV) (p : Nat) (FA : Option Addr) (fc : Nat) : Prop where
  obj : w.ownsRow B.n 48 16 (.slice (some ⟨q, 0, none⟩) 1 1) 1 (rObj g s p pw FA F.length fc)
  px : ¬ B.X q
  c : RCacheM w B p g LM O
  fl : RdT w 64 FA (flatF F)
/-- The types of the blocks that the reference changes. -/
def RDT : List TypeId := [123, 90, 48, 107]
theorem rt_rdt : ∀ t, t ∈ RT → t ∈ RDT := by unfold RT RDT; decide
theorem rd_rdt : ∀ t, t ∈ [48] → t ∈ RDT := by unfold RDT; decide
theorem rp_rdt : ∀ t, t ∈ [107] → t ∈ RDT := by unfold RDT; decide
structure RDPm (w : World) (B : Bd) (q pw : Nat) (g : Geo) (F : List Flt) (s : DS) (P : Pow) (LM : List Sec) (O : List OpV) : Prop where
  d : ∃ p FA fc, RDsk w B q pw g F s LM O p FA fc
  p : ∃ R, RelP P R ∧ RPow w B pw R
  f : Fit g LM
  s : ShortB LM
  B : B.top ≤ w.heap.size
section
variable {w w' : World} {B C : Bd} {q pw p : Nat} {g : Geo} {F : List Flt} {s : DS} {P R : Pow} {LM : List Sec} {O : List OpV} {FA : Option Addr} {fc : Nat}
theorem RCacheM.keptT {ts : List TypeId} {B' : Bd} (h : RCacheM w B p g LM O) (hk : KeptT ts B' w w') (ht : ∀ t, t ∈ [90, 94, 123, 115, 5] → t ∉ ts) : RCacheM w' B p g LM O := by
  obtain ⟨l, m, b, A, c, e, h⟩ := h
  exact ⟨l, m, b, A, c, e, h.keptT hk ht⟩
theorem RDsk.keptT {ts : List TypeId} {B' : Bd} (h : RDsk w B q pw g F s LM O p FA fc) (hk : KeptT ts B' w w') (ht : ∀ t, t ∈ [90, 94, 123, 115, 5] → t ∉ ts) (h1 : 48 ∉ ts) (h2 : 64 ∉ ts) : RDsk w' B q pw g F s LM O p FA fc :=
  ⟨own_kept h.obj hk (fun k e => by simp [Value.ownBlock] at e; subst e; exact KeptT.no (IsT.own h.obj) h1), h.px, h.c.keptT hk ht, h.fl.kept hk (KeptT.free h2)⟩
theorem RDsk.keptP {B' : Bd} (h : RDsk w B q pw g F s LM O p FA fc) (hk : KeptT [107] B' w w') : RDsk w' B q pw g F s LM O p FA fc := h.keptT hk (by decide) (by decide) (by decide)
theorem RDsk.below0 (h : RDsk w B q pw g F s LM O p FA fc) (hk : Below w.heap.size w w') : RDsk w' B q pw g F s LM O p FA fc := h.keptP (B' := Bd.of 0) (KeptT.bel hk)
theorem RPow.keptT {ts : List TypeId} {B' : Bd} (h : RPow w B pw R) (hk : KeptT ts B' w w') (ht : 107 ∉ ts) : RPow w' B pw R := ⟨own_kept h.obj hk (fun k e => by simp [Value.ownBlock] at e; subst e; exact KeptT.no (IsT.own h.obj) ht), h.px⟩
theorem RPow.below0 (h : RPow w B pw R) (hk : Below w.heap.size w w') : RPow w' B pw R := h.keptT (ts := []) (B' := Bd.of 0) (KeptT.bel hk) (by simp)
theorem RDsk.store (h : RDsk w B q pw g F s LM O p FA fc) (j : Nat) (v : Value) (s' : DS) (e : (rObj g s p pw FA F.length fc).set j v = rObj g s' p pw FA F.length fc) :
    RDsk (w.setCell ⟨q, j, none⟩ v) B q pw g F s' LM O p FA fc ∧ KeptT [48] B w (w.setCell ⟨q, j, none⟩ v) := by
  have tq := IsT.own h.obj
  have hk : Kept (fun k => k = q) w (w.setCell ⟨q, j, none⟩ v) := (Kept.refl (fun k => k = q) w).setCell (p := ⟨q, j, none⟩) (fun _ => rfl) _
  have hkT : KeptT [48] B w (w.setCell ⟨q, j, none⟩ v) := KeptT.of hk (fun k _ e => by have e' : k = q := e; subst e'; exact ⟨⟨row_low h.obj, h.px⟩, HasT.mem tq (by simp)⟩)
  refine ⟨⟨?_, h.px, h.c.keptT hkT (by decide), h.fl.kept hkT (KeptT.free (by decide))⟩, hkT⟩
  have := (World.ownsRow.stored h.obj j v).1
  rw [e] at this; exact this
theorem RPow.store (h : RPow w B pw R) (j : Nat) (v : Value) (R' : Pow) (e : (pObj R).set j v = pObj R') : RPow (w.setCell ⟨pw, j, none⟩ v) B pw R' ∧ KeptT [107] B w (w.setCell ⟨pw, j, none⟩ v) := by
  have tq := IsT.own h.obj
  have hk : Kept (fun k => k = pw) w (w.setCell ⟨pw, j, none⟩ v) := (Kept.refl (fun k => k = pw) w).setCell (p := ⟨pw, j, none⟩) (fun _ => rfl) _
  refine ⟨⟨?_, h.px⟩, KeptT.of hk (fun k _ e => by have e' : k = pw := e; subst e'; exact ⟨⟨row_low h.obj, h.px⟩, HasT.mem tq (by simp)⟩)⟩
  have := (World.ownsRow.stored h.obj j v).1
  rw [e] at this; exact this
theorem RPow.cells (h : RPow w B pw R) : w.cell? ⟨pw, 0, none⟩ = some (.bool R.off) ∧ w.cell? ⟨pw, 1, none⟩ = some (.bool R.armed) ∧ w.cell? ⟨pw, 2, none⟩ = some (.int .i64 R.left) ∧ w.cell? ⟨pw, 3, none⟩ = some (.int .i64 R.fails) :=
  ⟨(World.ownsRow.cellAt h.obj 0 (by decide)).trans rfl, (World.ownsRow.cellAt h.obj 1 (by decide)).trans rfl, (World.ownsRow.cellAt h.obj 2 (by decide)).trans rfl, (World.ownsRow.cellAt h.obj 3 (by decide)).trans rfl⟩
theorem RDsk.cell (h : RDsk w B q pw g F s LM O p FA fc) (j : Nat) (hj : j < 16) : w.cell? ⟨q, j, none⟩ = (rObj g s p pw FA F.length fc)[j]? := World.ownsRow.cellAt h.obj j (by omega)
theorem RDsk.free (h : RDsk w B q pw g F s LM O p FA fc) (j : Nat) : w.frozen? ⟨q, j, none⟩ = false := h.obj.frozenAt j
theorem RDsk.withC {B' : Bd} {LM' : List Sec} {O' : List OpV} (h : RDsk w B q pw g F s LM O p FA fc) (hk : KeptT RT B' w w') (hc : RCacheM w' B p g LM' O') : RDsk w' B q pw g F s LM' O' p FA fc :=
  ⟨own_kept h.obj hk (fun k e => by simp [Value.ownBlock] at e; subst e; exact KeptT.no (IsT.own h.obj) (by unfold RT; decide)), h.px, hc, h.fl.kept hk (KeptT.free (by unfold RT; decide))⟩
theorem RDPm.below0 (h : RDPm w B q pw g F s P LM O) (hk : Below w.heap.size w w') : RDPm w' B q pw g F s P LM O := by
  obtain ⟨⟨p, FA, fc, hd⟩, ⟨R, hr, hp⟩, hf, hs, hB⟩ := h
  exact ⟨⟨p, FA, fc, hd.below0 hk⟩, ⟨R, hr, hp.below0 hk⟩, hf, hs, Nat.le_trans hB hk.size⟩
/-! ### the power supply -/
theorem rnewpower_any (w : World) : Calls Tryz.prog 25 #[] w fun e w' => ∃ pw, e = .returned (.pointer (some ⟨pw, 0, none⟩)) ∧ RPow w' (Bd.of w.heap.size) pw ⟨false, false, 0, 0⟩ ∧ Below w.heap.size w w' := by
  have hr := World.ownsRow_lit (base := w.heap.size) (e := 107) (size := 4) w #[.bool false, .bool false, .int .i64 0, .int .i64 0] 1 (Nat.le_refl _) (by decide) rfl
  have HR := Lib.hid hr
  clear hr
  go_enter Tryz.func25, Tryz.ntmps25
  go_wp2
  go_ret
  exact ⟨_, rfl, ⟨HR.out, fun h => h⟩, (Below.refl _ _).alloc (Nat.le_refl _) _⟩
set_option maxHeartbeats 1000000 in
theorem rarm_any (n : Int) (hp : RPow w B pw R) : Calls Tryz.prog 36 #[.pointer (some ⟨pw, 0, none⟩), .int .i64 n] w fun e w' => e = .returned (.tuple #[]) ∧ RPow w' B pw (armP R n) ∧ KeptT [107] B w w' := by
  obtain ⟨p0, p1, p2, p3⟩ := hp.cells
  have f0 := hp.obj.frozenAt 0
  have f1 := hp.obj.frozenAt 1
  have f2 := hp.obj.frozenAt 2
  obtain ⟨off, armed, left, fails⟩ := R
  simp only at p0 p1 p2 p3
  cases off
  · obtain ⟨hp1, hk1⟩ := hp.store 1 (.bool (decide (0 ≤ n))) ⟨false, decide (0 ≤ n), left, fails⟩ rfl
    obtain ⟨hp2, hk2⟩ := hp1.store 2 (.int .i64 n) ⟨false, decide (0 ≤ n), n, fails⟩ rfl
    have HP := Lib.hid hp2
    have HK := Lib.hid (hk1.trans hk2)
    clear hp hp1 hp2 hk1 hk2
    go_enter Tryz.func36, Tryz.ntmps36
    go_wp2
    go_end0
    exact ⟨rfl, HP.out, HK.out⟩
  · have HP := Lib.hid hp
    clear hp
    go_enter Tryz.func36, Tryz.ntmps36
    go_wp2
    first | go_end0 | refine bodyPost_ret (results_none rfl _ _ _) rfl ?_
    exact ⟨rfl, HP.out, KeptT.refl _ _ _⟩
theorem ron_any (hp : RPow w B pw R) : Calls Tryz.prog 37 #[.pointer (some ⟨pw, 0, none⟩)] w fun e w' => e = .returned (.tuple #[]) ∧ RPow w' B pw { R with off := false } ∧ KeptT [107] B w w' := by
  obtain ⟨p0, _, _, _⟩ := hp.cells
  have f0 := hp.obj.frozenAt 0
  have h' := hp.store 0 (.bool false) { R with off := false } rfl
  have HF := Lib.hid h'
  clear hp h'
  go_enter Tryz.func37, Tryz.ntmps37
  go_wp2
  go_end0
  exact ⟨rfl, HF.out⟩
/-- Whether a call passes. -/
def passP (R : Pow) : Bool := !(R.armed && decide (R.left = 0))
set_option maxHeartbeats 1000000 in
theorem rcall_any (hp : RPow w B pw R) : Calls Tryz.prog 89 #[.pointer (some ⟨pw, 0, none⟩)] w fun e w' => e = .returned (.bool (passP R)) ∧ RPow w' B pw (rcallP R) ∧ KeptT [107] B w w' := by
  obtain ⟨p0, p1, p2, p3⟩ := hp.cells
  have f0 := hp.obj.frozenAt 0
  have f1 := hp.obj.frozenAt 1
  have f2 := hp.obj.frozenAt 2
  have f3 := hp.obj.frozenAt 3
  obtain ⟨off, armed, left, fails⟩ := R
  simp only at p0 p1 p2 p3
  cases armed
  · have HP := Lib.hid hp
    have HC : Hid (rcallP ⟨off, false, left, fails⟩ = ⟨off, false, left, fails⟩ ∧ passP ⟨off, false, left, fails⟩ = true) := ⟨rfl, rfl⟩
    clear hp
    go_enter Tryz.func89, Tryz.ntmps89
    go_wp2
    go_ret
    rw [HC.out.1, HC.out.2]
    exact ⟨rfl, HP.out, KeptT.refl _ _ _⟩
  · by_cases hl : left = 0
    · subst hl
      obtain ⟨hp1, hk1⟩ := hp.store 0 (.bool true) ⟨true, true, 0, fails⟩ rfl
      obtain ⟨hp2, hk2⟩ := hp1.store 1 (.bool false) ⟨true, false, 0, fails⟩ rfl
      obtain ⟨hp3, hk3⟩ := hp2.store 3 (.int .i64 (wrap64 (fails + 1))) ⟨true, false, 0, wrap64 (fails + 1)⟩ rfl
      have HP := Lib.hid hp3
      have HK := Lib.hid ((hk1.trans hk2).trans hk3)
      have HC : Hid (rcallP ⟨off, true, 0, fails⟩ = ⟨true, false, 0, wrap64 (fails + 1)⟩ ∧ passP ⟨off, true, 0, fails⟩ = false) := ⟨rfl, rfl⟩
      clear hp hp1 hp2 hp3 hk1 hk2 hk3
      go_enter Tryz.func89, Tryz.ntmps89
      go_wp2
      go_ret
      rw [HC.out.1, HC.out.2]
      exact ⟨rfl, HP.out, HK.out⟩
    · have hc : rcallP ⟨off, true, left, fails⟩ = ⟨off, true, wrap64 (left - 1), fails⟩ := by unfold rcallP; rw [if_pos rfl, if_neg hl]
      have hpp : passP ⟨off, true, left, fails⟩ = true := by unfold passP; simp [hl]
      obtain ⟨hp4, hk4⟩ := hp.store 2 (.int .i64 (wrap64 (left - 1))) ⟨off, true, wrap64 (left - 1), fails⟩ rfl
      have HP := Lib.hid hp4
      have HK := Lib.hid hk4
      have HC := Lib.hid (And.intro hc hpp)
      have hl1 : (left == 0) = false := by simpa using hl
      clear hp hp4 hk4 hc hpp hl
      go_enter Tryz.func89, Tryz.ntmps89
      go_wp2
      go_ret
      rw [HC.out.1, HC.out.2]
      exact ⟨rfl, HP.out, HK.out⟩
/-! ### the disk -/
def readyB (s : DS) (P : Pow) : Bool := !P.off && decide (s.seen = P.fails)
set_option maxHeartbeats 1000000 in
theorem rready_any (h : RDsk w B q pw g F s LM O p FA fc) (hp : RPow w B pw R) : Calls Tryz.prog 69 #[.pointer (some ⟨q, 0, none⟩)] w fun e w' => e = .returned (.bool (readyB s R)) ∧ Below w.heap.size w w' := by
  have c7 : w.cell? ⟨q, 7, none⟩ = some (.pointer (some ⟨pw, 0, none⟩)) := (h.cell 7 (by decide)).trans rfl
  have c10 : w.cell? ⟨q, 10, none⟩ = some (.int .i64 s.seen) := (h.cell 10 (by decide)).trans rfl
  obtain ⟨p0, _, _, p3⟩ := hp.cells
  clear h hp
  cases ho : R.off
  · rw [ho] at p0
    by_cases hs : s.seen = R.fails
    · have HE : Hid (readyB s R = true) := by unfold Hid readyB; simp [ho, hs]
      have e1 : (s.seen == R.fails) = true := by simpa using hs
      clear ho hs
      go_enter Tryz.func69, Tryz.ntmps69
      go_wp2
      go_quiet (fail)
      go_wp2
      go_ret
      exact ⟨by rw [HE.out]; rfl, ((Kept.refl (fun _ => False) _).drewN _).below0⟩
    · have HE : Hid (readyB s R = false) := by unfold Hid readyB; simp [ho, hs]
      have e1 : (s.seen == R.fails) = false := by simpa using hs
      clear ho hs
      go_enter Tryz.func69, Tryz.ntmps69
      go_wp2
      go_quiet (fail)
      go_wp2
      go_ret
      exact ⟨by rw [HE.out]; rfl, ((Kept.refl (fun _ => False) _).drewN _).below0⟩
  · rw [ho] at p0
    have HE : Hid (readyB s R = false) := by unfold Hid readyB; simp [ho]
    clear ho
    go_enter Tryz.func69, Tryz.ntmps69
    go_wp2
    go_quiet (fail)
    go_wp2
    go_ret
    exact ⟨by rw [HE.out]; rfl, ((Kept.refl (fun _ => False) _).drewN _).below0⟩
set_option maxHeartbeats 1000000 in
theorem r14has_any (a : Int) (h : RDsk w B q pw g F s LM O p FA fc) (hf : Fit g LM) : Calls Tryz.prog 65 #[.pointer (some ⟨q, 0, none⟩), .int .i64 a] w fun e w' => e = .returned (.bool (inL LM a)) ∧ Below w.heap.size w w' := by
  have c0 : w.cell? ⟨q, 0, none⟩ = some (.int .i64 g.random) := (h.cell 0 (by decide)).trans rfl
  have c1 : w.cell? ⟨q, 1, none⟩ = some (.int .i64 g.bands) := (h.cell 1 (by decide)).trans rfl
  have c2 : w.cell? ⟨q, 2, none⟩ = some (.int .i64 g.tracks) := (h.cell 2 (by decide)).trans rfl
  have c3 : w.cell? ⟨q, 3, none⟩ = some (.int .i64 g.sectors) := (h.cell 3 (by decide)).trans rfl
  have c4 : w.cell? ⟨q, 4, none⟩ = some (.int .i64 g.overlap) := (h.cell 4 (by decide)).trans rfl
  have HS : Hid (∀ W, Calls Tryz.prog 23 #[.agg #[.int .i64 g.random, .int .i64 g.bands, .int .i64 g.tracks, .int .i64 g.sectors, .int .i64 g.overlap]] W fun e w' => e = .returned (.int .i64 LM.length) ∧ Below W.heap.size W w') := by
    unfold Hid; intro W
    have := rsz_any g W
    rw [show szN g = (LM.length : Int) from by unfold szN; rw [if_pos ((validG_iff g).2 hf.v)]; exact hf.n.symm] at this
    exact this
  clear h
  by_cases h0 : a < 0
  · have HI : Hid (inL LM a = false) := by unfold Hid inL; simp; omega
    clear hf
    go_enter Tryz.func65, Tryz.ntmps65
    go_wp2
    go_ret
    exact ⟨by rw [HI.out]; rfl, Below.refl _ _⟩
  · by_cases h1 : a < LM.length
    · have HI : Hid (inL LM a = true) := by unfold Hid inL; simp; omega
      clear hf
      go_enter Tryz.func65, Tryz.ntmps65
      go_wp2_with fail
      refine (HS.out _).mono ?_
      rintro e w1 ⟨rfl, hb1⟩
      go_wp2
      go_ret
      exact ⟨by rw [HI.out]; rfl, hb1⟩
    · have HI : Hid (inL LM a = false) := by unfold Hid inL; simp; omega
      clear hf
      go_enter Tryz.func65, Tryz.ntmps65
      go_wp2_with fail
      refine (HS.out _).mono ?_
      rintro e w1 ⟨rfl, hb1⟩
      go_wp2
      go_ret
      exact ⟨by rw [HI.out]; first | rfl | (simp [h1]; done) | (simp; omega), hb1⟩
end
end Go.Proofs.YtckdhhadlemakaaGreat
namespace Go.Proofs.YtckdhhadlemakaaGreat
set_option linter.unusedVariables false
open Go.RowKit

set_option maxRecDepth 100000 in
set_option maxHeartbeats 2000000 in
theorem rfat_any (l : List Flt) (op : Int) (A : Option Addr) (c : Nat) (w : World) (hl : Rd w w.heap.size A (flatF l)) (hn : l.length ≤ 9223372036854775807) :
    Calls Tryz.prog 90 #[.slice A l.length c, .int .i64 op] w (AtPost w (atF l op)) := by
  have hb0 : Below w.heap.size w (w.alloc (.cells #[.int .i64 0, .int .i64 0, .int .i64 0] 64)) := (Below.refl _ _).alloc (Nat.le_refl _) _
  have q := World.ownsRow_lit (base := w.heap.size) (e := 64) (size := 3) w #[.int .i64 0, .int .i64 0, .int .i64 0] 1 (Nat.le_refl _) (by decide) rfl
  have HR := Lib.hid (hl.below hb0 (Nat.le_refl _))
  have HM := Lib.hid (atF_miss l op)
  have HH := Lib.hid (atF_hit l op)
  have hbw := hb0
  clear hl
  go_enter Tryz.func90, Tryz.ntmps90
  go_wp2
  generalize w.alloc (.cells #[.int .i64 0, .int .i64 0, .int .i64 0] 64) = wr at *
  go_loop [6] (fun v => ∃ k : Nat, k ≤ l.length ∧ v = .int .i64 k ∧ Hid (∀ j (hj : j < l.length), j < k → l[j].at_ ≠ op)) (fun v => l.length - (intOf v).toNat)
  case atStart => exact ⟨0, Nat.zero_le _, rfl, by unfold Hid; intro j _ h; omega⟩
  case round =>
    obtain ⟨k, hk, rfl, HA⟩ := hrel
    by_cases hlt : k < l.length
    · obtain ⟨go, oo, rfl, hgo, c0, c1, c2⟩ := flt_at HR.out hlt
      have k0 : (0 : Int) ≤ k := by omega
      have k1 : (k : Int) < l.length := by omega
      by_cases he : l[k].at_ = op
      · have HE : Hid (atF l op = l[k]) := HH.out k hlt (fun j hj => HA.out j (by omega) hj) he
        have e1 : (l[k].at_ == op) = true := by simpa using he
        generalize l[k] = f at *
        clear he
        have r0 := (World.ownsRow.cellAt q 0 (by decide)).trans rfl
        have r1 := (World.ownsRow.cellAt q 1 (by decide)).trans rfl
        have r2 := (World.ownsRow.cellAt q 2 (by decide)).trans rfl
        have f0 := q.frozenAt 0
        have f1 := q.frozenAt 1
        have f2 := q.frozenAt 2
        clear q
        go_wp2
        have hbe := Lib.hid (((hbw.setCell (p := ⟨w.heap.size, 0, none⟩) (Nat.le_refl _) (.int .i64 f.at_)).setCell (p := ⟨w.heap.size, 1, none⟩) (Nat.le_refl _) (.int .i64 f.kind)).setCell (p := ⟨w.heap.size, 2, none⟩) (Nat.le_refl _) (.int .i64 f.to_))
        exact bodyPost_ret (v := .tuple #[.agg #[.int .i64 f.at_, .int .i64 f.kind, .int .i64 f.to_], .bool true]) (by simp [results, Tryz.results90, go_sem, *]) rfl ⟨true, by rw [HE.out]; rfl, hbe.out⟩
      · have e1 : (l[k].at_ == op) = false := by simpa using he
        have HY : Hid (∀ j (hj : j < l.length), j < k + 1 → l[j].at_ ≠ op) := by
          unfold Hid; intro j hj hj2
          by_cases e : j = k
          · subst e; exact he
          · exact HA.out j hj (by omega)
        generalize l[k] = f at *
        clear he
        go_wp2
        go_round
        case rel => exact ⟨k + 1, by omega, by go_num, HY⟩
        case measure => simp [intOf]; omega
    · have HE : Hid (atF l op = noF) := HM.out (fun j hj => HA.out j hj (by omega))
      have r0 := (World.ownsRow.cellAt q 0 (by decide)).trans rfl
      have r1 := (World.ownsRow.cellAt q 1 (by decide)).trans rfl
      have r2 := (World.ownsRow.cellAt q 2 (by decide)).trans rfl
      have f0 := q.frozenAt 0
      have f1 := q.frozenAt 1
      have f2 := q.frozenAt 2
      clear q
      go_wp2
      have hbe := Lib.hid (((hbw.setCell (p := ⟨w.heap.size, 0, none⟩) (Nat.le_refl _) (.int .i64 0)).setCell (p := ⟨w.heap.size, 1, none⟩) (Nat.le_refl _) (.int .i64 0)).setCell (p := ⟨w.heap.size, 2, none⟩) (Nat.le_refl _) (.int .i64 0))
      exact bodyPost_ret (v := .tuple #[.agg #[.int .i64 0, .int .i64 0, .int .i64 0], .bool false]) (by simp [results, Tryz.results90, go_sem, *]) rfl ⟨false, by rw [HE.out]; rfl, hbe.out⟩
end Go.Proofs.YtckdhhadlemakaaGreat
namespace Go.Proofs.YtckdhhadlemakaaGreat
set_option linter.unusedVariables false
open Go.RowKit

/-- What an operation of the reference does ahead of its work. -/
def RBegPost (w : World) (B : Bd) (q pw : Nat) (g : Geo) (F : List Flt) (LM : List Sec) (O : List OpV) (p : Nat) (FA : Option Addr) (fc : Nat) (b : Beg) (e : Ending) (w' : World) : Prop :=
  ∃ f R', e = .returned (.tuple #[Flt.val f, .int .i64 b.er]) ∧ (b.er = 0 → f = b.f) ∧ RDsk w' B q pw g F b.s LM O p FA fc ∧ RPow w' B pw R' ∧ RelP b.P R' ∧ KeptT [48, 107] B w w'
section
variable {w w' : World} {B C : Bd} {q pw p : Nat} {g : Geo} {F : List Flt} {s : DS} {P R : Pow} {LM : List Sec} {O : List OpV} {FA : Option Addr} {fc : Nat}
theorem rel_ready (s : DS) (h : RelP P R) (hd : s.dead = false) : (stE s P = 0 ↔ readyB s R = true) ∧ (stE s P ≠ 0 → stE s P = 13) := by
  obtain ⟨h1, _, h3, _⟩ := h
  unfold stE readyB
  rw [hd, h1, h3]
  cases R.off
  · by_cases e : s.seen = R.fails <;> simp [e]
  · simp
theorem rel_pass (h : RelP P R) (ho : P.off = false) : (callP P).off = !(passP R) := by
  obtain ⟨h1, h2, _, h4⟩ := h
  have ha : R.armed = P.armed := h2.symm
  unfold callP trip passP
  rw [ha]
  cases hp : P.armed
  · simp [ho]
  · rw [← h4 hp]
    by_cases hl : P.left = 0 <;> simp [hl, ho]
theorem stE_off (hs : stE s P = 0) : P.off = false := by
  unfold stE at hs
  cases ho : P.off
  · rfl
  · rw [ho] at hs; cases hd : s.dead <;> simp [hd] at hs
/-- The types that begin changes. -/
def RDPT : List TypeId := [48, 107]
theorem RDsk.of {w0 : World} (ho : w.ownsRow B.n 48 16 (.slice (some ⟨q, 0, none⟩) 1 1) 1 (rObj g s p pw FA F.length fc)) (hqx : ¬ B.X q) (hc : RCacheM w0 B p g LM O) (hfl : RdT w0 64 FA (flatF F)) (hk : KeptT RDPT B w0 w) : RDsk w B q pw g F s LM O p FA fc :=
  ⟨ho, hqx, hc.keptT hk (by unfold RDPT; decide), hfl.kept hk (KeptT.free (by unfold RDPT; decide))⟩
/-- Within begin: the disk, the power supply, and the result's block. -/
structure RMid (w0 w : World) (B : Bd) (q pw : Nat) (g : Geo) (n fc p : Nat) (FA : Option Addr) (s : DS) (R : Pow) : Prop where
  o : w.ownsRow B.n 48 16 (.slice (some ⟨q, 0, none⟩) 1 1) 1 (rObj g s p pw FA n fc)
  p : RPow w B pw R
  k : KeptT RDPT B w0 w
  x : ¬ B.X q
  z : w.ownsRow w0.heap.size 64 3 (.slice (some ⟨w0.heap.size, 0, none⟩) 1 1) 1 [.int .i64 0, .int .i64 0, .int .i64 0]
theorem RMid.below {w0 : World} {n : Nat} (h : RMid w0 w B q pw g n fc p FA s R) (hb : Below w.heap.size w w') : RMid w0 w' B q pw g n fc p FA s R :=
  ⟨own_kept h.o (belKept0 (S := fun _ => False) hb) (fun _ _ h => h), h.p.below0 hb, h.k.thenBelow hb, h.x, own_kept h.z (belKept0 (S := fun _ => False) hb) (fun _ _ h => h)⟩
theorem RMid.store {w0 : World} {n : Nat} (h : RMid w0 w B q pw g n fc p FA s R) (j : Nat) (v : Value) (s' : DS) (e : (rObj g s p pw FA n fc).set j v = rObj g s' p pw FA n fc) : RMid w0 (w.setCell ⟨q, j, none⟩ v) B q pw g n fc p FA s' R := by
  have tq := IsT.own h.o
  have tz := IsT.own h.z
  have hk : Kept (fun k => k = q) w (w.setCell ⟨q, j, none⟩ v) := (Kept.refl (fun k => k = q) w).setCell (p := ⟨q, j, none⟩) (fun _ => rfl) _
  have hkT : KeptT RDPT B w (w.setCell ⟨q, j, none⟩ v) := KeptT.of hk (fun k _ e => by have e' : k = q := e; subst e'; exact ⟨⟨row_low h.o, h.x⟩, HasT.mem tq (by simp [RDPT])⟩)
  have hkD : KeptT [48] B w (w.setCell ⟨q, j, none⟩ v) := KeptT.of hk (fun k _ e => by have e' : k = q := e; subst e'; exact ⟨⟨row_low h.o, h.x⟩, HasT.mem tq (by simp)⟩)
  have := (World.ownsRow.stored h.o j v).1
  rw [e] at this
  exact ⟨this, h.p.keptT hkD (by decide), h.k.trans hkT, h.x, own_kept h.z hk (fun k e => by simp [Value.ownBlock] at e; subst e; exact tz.ne tq (by decide))⟩
theorem RMid.power {w0 : World} {n : Nat} {R' : Pow} (h : RMid w0 w B q pw g n fc p FA s R) (hp : RPow w' B pw R') (hk : KeptT [107] B w w') : RMid w0 w' B q pw g n fc p FA s R' :=
  ⟨own_kept h.o hk (fun k e => by simp [Value.ownBlock] at e; subst e; exact KeptT.no (IsT.own h.o) (by decide)), hp, h.k.trans (hk.sub (by unfold RDPT; decide)), h.x, own_kept h.z hk (fun k e => by simp [Value.ownBlock] at e; subst e; exact KeptT.no (IsT.own h.z) (by decide))⟩
/-- The result is stored. -/
theorem RMid.fin {w0 : World} (h : RMid w0 w B q pw g F.length fc p FA s R) (hc : RCacheM w0 B p g LM O) (hfl : RdT w0 64 FA (flatF F)) (a b c : Value) :
    RDsk (((w.setCell ⟨w0.heap.size, 0, none⟩ a).setCell ⟨w0.heap.size, 1, none⟩ b).setCell ⟨w0.heap.size, 2, none⟩ c) B q pw g F s LM O p FA fc ∧ RPow (((w.setCell ⟨w0.heap.size, 0, none⟩ a).setCell ⟨w0.heap.size, 1, none⟩ b).setCell ⟨w0.heap.size, 2, none⟩ c) B pw R ∧
    KeptT RDPT B w0 (((w.setCell ⟨w0.heap.size, 0, none⟩ a).setCell ⟨w0.heap.size, 1, none⟩ b).setCell ⟨w0.heap.size, 2, none⟩ c) := by
  have tq := IsT.own h.o
  have tp := IsT.own h.p.obj
  have tz := IsT.own h.z
  have hk : Kept (fun k => k = w0.heap.size) w (((w.setCell ⟨w0.heap.size, 0, none⟩ a).setCell ⟨w0.heap.size, 1, none⟩ b).setCell ⟨w0.heap.size, 2, none⟩ c) :=
    (((Kept.refl (fun k => k = w0.heap.size) w).setCell (p := ⟨w0.heap.size, 0, none⟩) (fun _ => rfl) _).setCell (p := ⟨w0.heap.size, 1, none⟩) (fun _ => rfl) _).setCell (p := ⟨w0.heap.size, 2, none⟩) (fun _ => rfl) _
  have hk1 : KeptT RDPT B w0 (((w.setCell ⟨w0.heap.size, 0, none⟩ a).setCell ⟨w0.heap.size, 1, none⟩ b).setCell ⟨w0.heap.size, 2, none⟩ c) := Kept.trans h.k hk (fun i hi e => by have e' : i = w0.heap.size := e; omega)
  exact ⟨RDsk.of (own_kept h.o hk (fun k e => by simp [Value.ownBlock] at e; subst e; exact tq.ne tz (by decide))) h.x hc hfl hk1, ⟨own_kept h.p.obj hk (fun k e => by simp [Value.ownBlock] at e; subst e; exact tp.ne tz (by decide)), h.p.px⟩, hk1⟩
theorem RMid.fin0 {w0 : World} (h : RMid w0 w B q pw g F.length fc p FA s R) (hc : RCacheM w0 B p g LM O) (hfl : RdT w0 64 FA (flatF F)) : RDsk w B q pw g F s LM O p FA fc ∧ RPow w B pw R ∧ KeptT RDPT B w0 w := ⟨RDsk.of h.o h.x hc hfl h.k, h.p, h.k⟩
theorem RMid.res {w0 : World} {n : Nat} (h : RMid w0 w B q pw g n fc p FA s R) : (w.cell? ⟨w0.heap.size, 0, none⟩ = some (.int .i64 0) ∧ w.cell? ⟨w0.heap.size, 1, none⟩ = some (.int .i64 0) ∧ w.cell? ⟨w0.heap.size, 2, none⟩ = some (.int .i64 0)) ∧ w.frozen? ⟨w0.heap.size, 0, none⟩ = false ∧ w.frozen? ⟨w0.heap.size, 1, none⟩ = false ∧ w.frozen? ⟨w0.heap.size, 2, none⟩ = false :=
  ⟨⟨(World.ownsRow.cellAt h.z 0 (by decide)).trans rfl, (World.ownsRow.cellAt h.z 1 (by decide)).trans rfl, (World.ownsRow.cellAt h.z 2 (by decide)).trans rfl⟩, h.z.frozenAt 0, h.z.frozenAt 1, h.z.frozenAt 2⟩
set_option maxRecDepth 100000 in
set_option maxHeartbeats 4000000 in
theorem rbegin_any (key : Int) (h : RDsk w B q pw g F s LM O p FA fc) (hp : RPow w B pw R) (hr : RelP P R) (hn : F.length ≤ 9223372036854775807) :
    Calls Tryz.prog 64 #[.pointer (some ⟨q, 0, none⟩), .int .u64 key] w (RBegPost w B q pw g F LM O p FA fc (begD F s P key)) := by
  have hb0 : Below w.heap.size w (w.alloc (.cells #[.int .i64 0, .int .i64 0, .int .i64 0] 64)) := (Below.refl _ _).alloc (Nat.le_refl _) _
  have hz := World.ownsRow_lit (base := w.heap.size) (e := 64) (size := 3) w #[.int .i64 0, .int .i64 0, .int .i64 0] 1 (Nat.le_refl _) (by decide) rfl
  have hm0 : RMid w (w.alloc (.cells #[.int .i64 0, .int .i64 0, .int .i64 0] 64)) B q pw g F.length fc p FA s R := ⟨(h.below0 hb0).obj, hp.below0 hb0, KeptT.bel hb0, h.px, hz⟩
  have HFIN := Lib.hid (fun W s' R' (hm : RMid w W B q pw g F.length fc p FA s' R') a b c => RMid.fin (a := a) (b := b) (c := c) hm h.c h.fl)
  have HFI0 := Lib.hid (fun W s' R' (hm : RMid w W B q pw g F.length fc p FA s' R') => RMid.fin0 hm h.c h.fl)
  have HCE : Hid (∀ W s' R', RMid w W B q pw g F.length fc p FA s' R' → W.cell? ⟨q, 6, none⟩ = some (.slice FA F.length fc) ∧ W.cell? ⟨q, 7, none⟩ = some (.pointer (some ⟨pw, 0, none⟩)) ∧ W.cell? ⟨q, 8, none⟩ = some (.int .u64 s'.key) ∧ W.cell? ⟨q, 9, none⟩ = some (.bool s'.dead) ∧ W.cell? ⟨q, 11, none⟩ = some (.int .i64 s'.ops) ∧ W.frozen? ⟨q, 9, none⟩ = false ∧ W.frozen? ⟨q, 11, none⟩ = false) := by
    unfold Hid; intro W s' R' hm
    exact ⟨(World.ownsRow.cellAt hm.o 6 (by decide)).trans rfl, (World.ownsRow.cellAt hm.o 7 (by decide)).trans rfl, (World.ownsRow.cellAt hm.o 8 (by decide)).trans rfl, (World.ownsRow.cellAt hm.o 9 (by decide)).trans rfl, (World.ownsRow.cellAt hm.o 11 (by decide)).trans rfl, hm.o.frozenAt 9, hm.o.frozenAt 11⟩
  have HBM := Lib.hid (fun W W' s' R' (hm : RMid w W B q pw g F.length fc p FA s' R') (hb : Below W.heap.size W W') => hm.below hb)
  have HSO := Lib.hid (fun W s' R' j v s'' (hm : RMid w W B q pw g F.length fc p FA s' R') e => hm.store j v s'' e)
  have HRY : Hid (∀ W, RMid w W B q pw g F.length fc p FA s R → Calls Tryz.prog 69 #[.pointer (some ⟨q, 0, none⟩)] W fun e w' => e = .returned (.bool (readyB s R)) ∧ Below W.heap.size W w') := by
    unfold Hid; intro W hm; exact rready_any (RDsk.of hm.o hm.x h.c h.fl hm.k) hm.p
  have HPC : Hid (∀ W, RMid w W B q pw g F.length fc p FA s R → Calls Tryz.prog 89 #[.pointer (some ⟨pw, 0, none⟩)] W fun e w' => e = .returned (.bool (passP R)) ∧ RMid w w' B q pw g F.length fc p FA s (rcallP R)) := by
    unfold Hid; intro W hm
    refine (rcall_any hm.p).mono ?_
    rintro e w' ⟨rfl, hp', hk'⟩
    exact ⟨rfl, hm.power hp' hk'⟩
  have HAT : Hid (∀ W s' R', RMid w W B q pw g F.length fc p FA s' R' → Calls Tryz.prog 90 #[.slice FA F.length fc, .int .i64 s'.ops] W (AtPost W (atF F s'.ops))) := by
    unfold Hid; intro W s' R' hm; exact rfat_any F s'.ops FA fc W (RDsk.of hm.o hm.x h.c h.fl hm.k).fl.rd hn
  have HRL := Lib.hid hr
  have HM0 := Lib.hid hm0
  have hce0 := HCE.out _ _ _ hm0
  obtain ⟨_, _, _, c9, _⟩ := hce0
  obtain ⟨⟨r0, r1, r2⟩, g0, g1, g2⟩ := hm0.res
  have HRES := Lib.hid (fun W s' R' (hm : RMid w W B q pw g F.length fc p FA s' R') => hm.res)
  clear h hp hr hb0 hz hm0
  cases hdd : s.dead
  · rw [hdd] at c9
    have hsr := rel_ready s HRL.out hdd
    cases hrd : readyB s R
    · rw [hrd] at HRY hsr
      have hne : stE s P ≠ 0 := fun e => by have := hsr.1.1 e; cases this
      have HB : Hid (begD F s P key = ⟨13, s, P, noF⟩) := by unfold Hid begD; rw [if_pos hne, hsr.2 hne]
      clear hdd hrd hsr hne
      go_enter Tryz.func64, Tryz.ntmps64
      go_wp2_with fail
      refine (HRY.out _ HM0.out).mono ?_
      rintro e w1 ⟨rfl, hb1⟩
      have HM1 := Lib.hid (HBM.out _ _ _ _ HM0.out hb1)
      obtain ⟨⟨q0, q1, q2⟩, x0, x1, x2⟩ := HRES.out _ _ _ HM1.out
      have HF := Lib.hid (HFIN.out _ _ _ HM1.out (.int .i64 0) (.int .i64 0) (.int .i64 0))
      go_wp2
      exact bodyPost_ret (by simp [results, Tryz.results64, go_sem, *]; rfl) rfl ⟨noF, R, by rw [HB.out]; rfl, fun h => by first | (rw [HB.out]; done) | (rw [HB.out] at h; simp at h), by rw [HB.out]; exact HF.out.1, HF.out.2.1, by rw [HB.out]; exact HRL.out, HF.out.2.2⟩
    rw [hrd] at HRY hsr
    have hst : stE s P = 0 := hsr.1.2 rfl
    have hof := stE_off hst
    have hpp := rel_pass HRL.out hof
    cases hpa : passP R
    · rw [hpa] at HPC hpp
      have HB : Hid (begD F s P key = ⟨13, s, callP P, noF⟩) := by unfold Hid begD; rw [if_neg (by simp [hst]), if_pos (show (callP P).off = true by rw [hpp]; rfl)]
      clear hdd hrd hsr hst hof hpp hpa
      skip
      go_enter Tryz.func64, Tryz.ntmps64
      go_wp2_with fail
      refine (HRY.out _ HM0.out).mono ?_
      rintro e w1 ⟨rfl, hb1⟩
      have hm1 := HBM.out _ _ _ _ HM0.out hb1
      obtain ⟨_, d7, _⟩ := HCE.out _ _ _ hm1
      have HPC1 := Lib.hid (HPC.out _ hm1)
      clear hm1 r0 r1 r2 g0 g1 g2 c9
      go_wp2_with fail
      refine HPC1.out.mono ?_
      rintro e w2 ⟨rfl, hm2⟩
      clear d7 HPC1
      have HM2 := Lib.hid hm2
      obtain ⟨⟨q0, q1, q2⟩, x0, x1, x2⟩ := HRES.out _ _ _ hm2
      have HF := Lib.hid (HFIN.out _ _ _ hm2 (.int .i64 0) (.int .i64 0) (.int .i64 0))
      clear hm2
      go_wp2
      exact bodyPost_ret (by simp [results, Tryz.results64, go_sem, *]; rfl) rfl ⟨noF, (rcallP R), by rw [HB.out]; rfl, fun h => by first | (rw [HB.out]; done) | (rw [HB.out] at h; simp at h), by rw [HB.out]; exact HF.out.1, HF.out.2.1, by rw [HB.out]; exact HRL.out.call, HF.out.2.2⟩
    rw [hpa] at HPC hpp
    have hpo : ¬ (callP P).off = true := by rw [hpp]; decide
    by_cases h3 : key ≠ s.key
    · have HB : Hid (begD F s P key = ⟨17, s, callP P, noF⟩) := by unfold Hid begD; rw [if_neg (by simp [hst]), if_neg hpo, if_pos h3]
      have e3 : (key != s.key) = true := by simpa using h3
      clear hdd hrd hsr hst hof hpp hpa hpo h3
      skip
      go_enter Tryz.func64, Tryz.ntmps64
      go_wp2_with fail
      refine (HRY.out _ HM0.out).mono ?_
      rintro e w1 ⟨rfl, hb1⟩
      have hm1 := HBM.out _ _ _ _ HM0.out hb1
      obtain ⟨_, d7, _⟩ := HCE.out _ _ _ hm1
      have HPC1 := Lib.hid (HPC.out _ hm1)
      clear hm1 r0 r1 r2 g0 g1 g2 c9
      go_wp2_with fail
      refine HPC1.out.mono ?_
      rintro e w2 ⟨rfl, hm2⟩
      clear d7 HPC1
      have HM2 := Lib.hid hm2
      obtain ⟨_, _, d8, _⟩ := HCE.out _ _ _ hm2
      obtain ⟨⟨q0, q1, q2⟩, x0, x1, x2⟩ := HRES.out _ _ _ hm2
      have HF := Lib.hid (HFIN.out _ _ _ hm2 (.int .i64 0) (.int .i64 0) (.int .i64 0))
      clear hm2
      go_wp2
      exact bodyPost_ret (by simp [results, Tryz.results64, go_sem, *]; rfl) rfl ⟨noF, (rcallP R), by rw [HB.out]; rfl, fun h => by first | (rw [HB.out]; done) | (rw [HB.out] at h; simp at h), by rw [HB.out]; exact HF.out.1, HF.out.2.1, by rw [HB.out]; exact HRL.out.call, HF.out.2.2⟩
    have h3' : key = s.key := by simpa using h3
    subst h3'
    have hBB : begD F s P s.key = if (atF F s.ops).kind = 7 then ⟨14, { s with ops := wrap64 (s.ops + 1), dead := true }, callP P, noF⟩ else if (atF F s.ops).kind = 6 then ⟨16, { s with ops := wrap64 (s.ops + 1) }, callP P, noF⟩ else ⟨0, { s with ops := wrap64 (s.ops + 1) }, callP P, atF F s.ops⟩ := by unfold begD; rw [if_neg (by simp [hst]), if_neg hpo, if_neg h3]
    have HBB := Lib.hid hBB
    clear hdd hrd hsr hst hof hpp hpa hpo h3 hBB
    generalize hG : atF F s.ops = f at *
    have HAT2 : Hid (∀ W, RMid w W B q pw g F.length fc p FA s (rcallP R) → Calls Tryz.prog 90 #[.slice FA F.length fc, .int .i64 s.ops] W (fun e w' => ∃ b : Bool, e = .returned (.tuple #[.agg #[.int .i64 f.at_, .int .i64 f.kind, .int .i64 f.to_], .bool b]) ∧ Below W.heap.size W w')) := by unfold Hid; intro W hm; have := HAT.out W s _ hm; rw [hG] at this; exact this
    clear hG
    skip
    go_enter Tryz.func64, Tryz.ntmps64
    go_wp2_with fail
    refine (HRY.out _ HM0.out).mono ?_
    rintro e w1 ⟨rfl, hb1⟩
    have hm1 := HBM.out _ _ _ _ HM0.out hb1
    obtain ⟨_, d7, _⟩ := HCE.out _ _ _ hm1
    have HPC1 := Lib.hid (HPC.out _ hm1)
    clear hm1 r0 r1 r2 g0 g1 g2 c9
    go_wp2_with fail
    refine HPC1.out.mono ?_
    rintro e w2 ⟨rfl, hm2⟩
    clear d7 HPC1
    obtain ⟨d6, _, d8, d9, d11, f9, f11⟩ := HCE.out w2 _ _ hm2
    have HM2 := Lib.hid hm2
    have hq2 := block_lt_of_cell d11
    simp only at hq2
    have hne2 : ¬ (w2.heap.size = q) := by omega
    have hA0 : Below w2.heap.size w2 w2.drew := (Below.refl _ _).drew
    have hB0 : Below w2.heap.size w2 (w2.drew.alloc (.cells #[.int .i64 0, .int .i64 0, .int .i64 0] 64)) := ((Below.refl w2.heap.size w2).drew).alloc (Nat.le_refl _) _
    have HMA := Lib.hid (HBM.out w2 _ _ _ hm2 hA0)
    have HMB := Lib.hid (HBM.out w2 _ _ _ hm2 hB0)
    have HRW : Hid ((w2.drew.alloc (.cells #[.int .i64 0, .int .i64 0, .int .i64 0] 64)).ownsRow w2.heap.size 64 3 (.slice (some ⟨w2.heap.size, 0, none⟩) 1 1) 1 [.int .i64 0, .int .i64 0, .int .i64 0]) := World.ownsRow_lit (base := w2.heap.size) (e := 64) (size := 3) w2.drew #[.int .i64 0, .int .i64 0, .int .i64 0] 1 (Nat.le_refl _) (by decide) rfl
    clear hm2
    go_upto_region 7 with fail
    go_cut [6, 7] (fun s8 s9 wx => ∃ T : Nat, s8 = .pointer (some ⟨T, 0, none⟩) ∧ Below w2.heap.size w2 wx ∧ Cells3 wx T (.int .i64 f.at_) (.int .i64 f.kind) (.int .i64 f.to_) ∧ w2.heap.size ≤ T)
    case first =>
      have d6B := (hB0.cell (p := ⟨q, 6, none⟩) hq2).trans d6
      have d11B := (hB0.cell (p := ⟨q, 11, none⟩) hq2).trans d11
      go_region_held3 (fun W => W.cell? ⟨q, 6, none⟩ = some (.slice FA F.length fc) ∧ W.cell? ⟨q, 11, none⟩ = some (.int .i64 s.ops))
        (first | (refine ⟨?_, ?_⟩ <;> assumption) | (simp (maxDischargeDepth := 20) [World.cell?_alloc_some, World.cell?_setCell_far, *]; done))
        ((go_at_call 90
          first
          | (refine (HAT2.out _ HMA.out).mono ?_
             rintro e w3 ⟨b9, rfl, hb3⟩
             have hw3 : Below w2.heap.size w2 w3 := hA0.trans hb3
             have g6 := (hw3.cell (p := ⟨q, 6, none⟩) hq2).trans d6
             have g11 := (hw3.cell (p := ⟨q, 11, none⟩) hq2).trans d11
             have hrw := World.ownsRow_lit (base := w3.heap.size) (e := 64) (size := 3) w3 #[.int .i64 0, .int .i64 0, .int .i64 0] 1 (Nat.le_refl _) (by decide) rfl
             have z0 : (w3.alloc (.cells #[.int .i64 0, .int .i64 0, .int .i64 0] 64)).cell? ⟨w3.heap.size, 0, none⟩ = some (.int .i64 0) := (World.ownsRow.cellAt hrw 0 (by decide)).trans rfl
             have z1 : (w3.alloc (.cells #[.int .i64 0, .int .i64 0, .int .i64 0] 64)).cell? ⟨w3.heap.size, 1, none⟩ = some (.int .i64 0) := (World.ownsRow.cellAt hrw 1 (by decide)).trans rfl
             have z2 : (w3.alloc (.cells #[.int .i64 0, .int .i64 0, .int .i64 0] 64)).cell? ⟨w3.heap.size, 2, none⟩ = some (.int .i64 0) := (World.ownsRow.cellAt hrw 2 (by decide)).trans rfl
             have y0 := hrw.frozenAt 0
             have y1 := hrw.frozenAt 1
             have y2 := hrw.frozenAt 2
             have HRW3 := Lib.hid hrw
             have hne3 : ¬ (w3.heap.size = q) := by have := hw3.size; omega
             have HW3 := Lib.hid hw3
             clear hrw)
          | (refine (HAT2.out _ HMB.out).mono ?_
             rintro e w3 ⟨b9, rfl, hb3⟩
             have hw3 : Below w2.heap.size w2 w3 := hB0.trans (hb3.mono (by simp))
             have g6 := (hw3.cell (p := ⟨q, 6, none⟩) hq2).trans d6
             have g11 := (hw3.cell (p := ⟨q, 11, none⟩) hq2).trans d11
             have hrw := own_kept HRW.out (belKept0 (S := fun _ => False) hb3) (fun _ _ h => h)
             have z0 : w3.cell? ⟨w2.heap.size, 0, none⟩ = some (.int .i64 0) := (World.ownsRow.cellAt hrw 0 (by decide)).trans rfl
             have z1 : w3.cell? ⟨w2.heap.size, 1, none⟩ = some (.int .i64 0) := (World.ownsRow.cellAt hrw 1 (by decide)).trans rfl
             have z2 : w3.cell? ⟨w2.heap.size, 2, none⟩ = some (.int .i64 0) := (World.ownsRow.cellAt hrw 2 (by decide)).trans rfl
             have y0 := hrw.frozenAt 0
             have y1 := hrw.frozenAt 1
             have y2 := hrw.frozenAt 2
             have HRW3 := Lib.hid hrw
             have HW3 := Lib.hid hw3
             clear hrw)))
      all_goals go_wp2_with fail
      all_goals go_meet
      · exact ⟨_, rfl, HW3.out.alloc HW3.out.size _, Cells3.new_at _ _ _ _ _ _ rfl, HW3.out.size⟩
      · exact ⟨_, rfl, ((HW3.out.setCell (p := ⟨w2.heap.size, 0, none⟩) (Nat.le_refl _) _).setCell (p := ⟨w2.heap.size, 1, none⟩) (Nat.le_refl _) _).setCell (p := ⟨w2.heap.size, 2, none⟩) (Nat.le_refl _) _, row3_set HRW3.out _ _ _, Nat.le_refl _⟩
    case rest =>
      obtain ⟨T, rfl, hbc, hC, hT⟩ := hcut
      have hmc := HBM.out w2 _ _ _ HM2.out hbc
      obtain ⟨_, _, _, _, x11, _, y11⟩ := HCE.out wc _ _ hmc
      have hm3 := HSO.out wc s _ 11 (.int .i64 (wrap64 (s.ops + 1))) { s with ops := wrap64 (s.ops + 1) } hmc rfl
      have hTq : ¬ (T = q) := by omega
      have hkx : Kept (fun k => k = q) wc (wc.setCell ⟨q, 11, none⟩ (.int .i64 (wrap64 (s.ops + 1)))) := (Kept.refl (fun k => k = q) wc).setCell (p := ⟨q, 11, none⟩) (fun _ => rfl) _
      have k0 := hkx.cell hC.c0 hTq
      have k1 := hkx.cell hC.c1 hTq
      have k2 := hkx.cell hC.c2 hTq
      obtain ⟨_, _, _, z9, _, y9, _⟩ := HCE.out _ _ _ hm3
      have HM3 := Lib.hid hm3
      clear hm3 hmc hkx d6 d8 d9 d11 f9 f11
      by_cases h7 : f.kind = 7
      · have HB : Hid (begD F s P s.key = ⟨14, { s with ops := wrap64 (s.ops + 1), dead := true }, callP P, noF⟩) := by unfold Hid; rw [HBB.out, if_pos h7]
        have n7 : (f.kind == 7) = true := by simpa using h7
        have hm4 := HSO.out _ _ _ 9 (.bool true) { s with ops := wrap64 (s.ops + 1), dead := true } HM3.out rfl
        have hky : Kept (fun k => k = q) (wc.setCell ⟨q, 11, none⟩ (.int .i64 (wrap64 (s.ops + 1)))) ((wc.setCell ⟨q, 11, none⟩ (.int .i64 (wrap64 (s.ops + 1)))).setCell ⟨q, 9, none⟩ (.bool true)) := (Kept.refl (fun k => k = q) _).setCell (p := ⟨q, 9, none⟩) (fun _ => rfl) _
        have l0 := hky.cell k0 hTq
        have l1 := hky.cell k1 hTq
        have l2 := hky.cell k2 hTq
        obtain ⟨⟨q0, q1, q2⟩, x0, x1, x2⟩ := HRES.out _ _ _ hm4
        have HF := Lib.hid (HFIN.out _ _ _ hm4 (.int .i64 f.at_) (.int .i64 f.kind) (.int .i64 f.to_))
        clear h7 hm4 hky
        go_wp2
        exact bodyPost_ret (by simp [results, Tryz.results64, go_sem, *]; rfl) rfl ⟨f, (rcallP R), by rw [HB.out]; rfl, fun h => by first | (rw [HB.out]; done) | (rw [HB.out] at h; simp at h), by rw [HB.out]; exact HF.out.1, HF.out.2.1, by rw [HB.out]; exact HRL.out.call, HF.out.2.2⟩
      have n7 : (f.kind == 7) = false := by simpa using h7
      obtain ⟨⟨q0, q1, q2⟩, x0, x1, x2⟩ := HRES.out _ _ _ HM3.out
      have HF := Lib.hid (HFIN.out _ _ _ HM3.out (.int .i64 f.at_) (.int .i64 f.kind) (.int .i64 f.to_))
      by_cases h6 : f.kind = 6
      · have HB : Hid (begD F s P s.key = ⟨16, { s with ops := wrap64 (s.ops + 1) }, callP P, noF⟩) := by unfold Hid; rw [HBB.out, if_neg h7, if_pos h6]
        have n6 : (f.kind == 6) = true := by simpa using h6
        clear h7 h6
        go_wp2
        exact bodyPost_ret (by simp [results, Tryz.results64, go_sem, *]; rfl) rfl ⟨f, (rcallP R), by rw [HB.out]; rfl, fun h => by first | (rw [HB.out]; done) | (rw [HB.out] at h; simp at h), by rw [HB.out]; exact HF.out.1, HF.out.2.1, by rw [HB.out]; exact HRL.out.call, HF.out.2.2⟩
      have n6 : (f.kind == 6) = false := by simpa using h6
      have HB : Hid (begD F s P s.key = ⟨0, { s with ops := wrap64 (s.ops + 1) }, callP P, f⟩) := by unfold Hid; rw [HBB.out, if_neg h7, if_neg h6]
      clear h7 h6
      go_wp2
      exact bodyPost_ret (by simp [results, Tryz.results64, go_sem, *]; rfl) rfl ⟨f, (rcallP R), by rw [HB.out]; rfl, fun h => by first | (rw [HB.out]; done) | (rw [HB.out] at h; simp at h), by rw [HB.out]; exact HF.out.1, HF.out.2.1, by rw [HB.out]; exact HRL.out.call, HF.out.2.2⟩
  · have HB : Hid (begD F s P key = ⟨14, s, P, noF⟩) := by unfold Hid begD stE; rw [hdd]; rfl
    rw [hdd] at c9
    clear hdd
    have HF := Lib.hid (HFI0.out _ _ _ HM0.out)
    go_enter Tryz.func64, Tryz.ntmps64
    go_wp2
    exact bodyPost_ret (by simp [results, Tryz.results64, go_sem, *]; rfl) rfl ⟨noF, R, by rw [HB.out]; rfl, fun h => by first | (rw [HB.out]; done) | (rw [HB.out] at h; simp at h), by rw [HB.out]; exact HF.out.1, HF.out.2.1, by rw [HB.out]; exact HRL.out, HF.out.2.2⟩
end
end Go.Proofs.YtckdhhadlemakaaGreat
namespace Go.Proofs.YtckdhhadlemakaaGreat
set_option linter.unusedVariables false
open Go.RowKit

section
variable {w w' : World} {B C : Bd} {q pw p : Nat} {g : Geo} {F : List Flt} {s : DS} {P R : Pow} {LM : List Sec} {O : List OpV} {FA : Option Addr} {fc : Nat}
set_option maxHeartbeats 1000000 in
theorem rcread_any (a : Int) (h : RCacheM w B p g LM O) (hf : Fit g LM) (hn : O.length ≤ 100000) : Calls Tryz.prog 66 #[.pointer (some ⟨p, 0, none⟩), .int .i64 a] w (ReadPost w (norm (readB (playL g LM O) a)) (readE (playL g LM O) a)) := by
  have HC := Lib.hid (rcontents_any h hf hn)
  have HF := Lib.hid (hf.len (playL_len g O LM))
  have HR : Hid (∀ W m bs, RMed W m bs g (playL g LM O) → Calls Tryz.prog 91 #[.pointer (some ⟨m, 0, none⟩), .int .i64 a] W (ReadPost W (norm (readB (playL g LM O) a)) (readE (playL g LM O) a))) := by
    unfold Hid; intro W m bs hm; exact rread_any a hm HF.out
  generalize playL g LM O = X at *
  clear h hf
  go_enter Tryz.func66, Tryz.ntmps66
  go_wp2_with fail
  refine HC.out.mono ?_
  rintro e w1 ⟨m, bs, rfl, hm, _, _, hb1⟩
  have HR1 := Lib.hid (HR.out w1 m bs hm)
  clear hm
  go_wp2_with fail
  refine HR1.out.mono ?_
  rintro e w2 ⟨v, rfl, hv, hb2⟩
  have HV := Lib.hid hv
  clear hv
  go_wp2
  go_ret2
  exact ⟨v, rfl, HV.out, hb1.trans (hb2.mono hb1.size)⟩
def RDReadPost (w : World) (B : Bd) (q pw : Nat) (g : Geo) (F : List Flt) (s : DS) (P : Pow) (LM : List Sec) (O : List OpV) (key a : Int) (e : Ending) (w' : World) : Prop :=
  ∃ v ys, e = .returned (.tuple #[v, .int .i64 (dRdE F s P LM (playL g LM O) key a)]) ∧ Byt 5 w' v ys ∧ strOfNums ys = strOfNums (dRdB F s P LM (playL g LM O) key a) ∧ RDPm w' B q pw g F (dRdS F s P LM (playL g LM O) key a) (begD F s P key).P LM O ∧ KeptT RDT B w w'
theorem rdx_some {f : Flt} {t a : Int} {bs : DS} (hin : inL LM a = true) (h4 : ¬ f.kind = 4) (hfo : frO a f = t) :
    (readE (playL g LM O) t = 0 → rdE LM (playL g LM O) a f = 0 ∧ rdB LM (playL g LM O) a f = readB (playL g LM O) t ∧ rdS LM (playL g LM O) a f bs = { bs with r := wrap64 (bs.r + 1) }) ∧
    (¬ readE (playL g LM O) t = 0 → rdE LM (playL g LM O) a f = 15 ∧ rdB LM (playL g LM O) a f = [] ∧ rdS LM (playL g LM O) a f bs = bs) := by
  unfold rdB rdS rdE
  rw [hin, hfo, if_pos rfl, if_neg h4]
  refine ⟨fun h => ?_, fun h => ?_⟩
  · rw [if_pos h]; exact ⟨rfl, rfl, rfl⟩
  · rw [if_neg h]; exact ⟨rfl, rfl, rfl⟩
theorem rdp_rdt : ∀ t, t ∈ [48, 107] → t ∈ RDT := by unfold RDT; decide
set_option maxRecDepth 100000 in
set_option maxHeartbeats 4000000 in
theorem rdread_any (key a : Int) (h : RDPm w B q pw g F s P LM O) (hn : F.length ≤ 9223372036854775807) (hon : O.length ≤ 99000) : Calls Tryz.prog 30 #[.pointer (some ⟨q, 0, none⟩), .int .u64 key, .int .i64 a] w (RDReadPost w B q pw g F s P LM O key a) := by
  obtain ⟨⟨p, FA, fc, hd⟩, ⟨R, hrel, hp⟩, hf, hs, hB⟩ := h
  have HBG := Lib.hid (rbegin_any key hd hp hrel hn)
  have HF := Lib.hid hf
  have HMK : Hid (∀ W s' R', RDsk W B q pw g F s' LM O p FA fc → RPow W B pw R' → RelP (begD F s P key).P R' → w.heap.size ≤ W.heap.size → RDPm W B q pw g F s' (begD F s P key).P LM O) := by
    unfold Hid; intro W s' R' h1 h2 h3 h4; exact ⟨⟨p, FA, fc, h1⟩, ⟨R', h3, h2⟩, hf, hs, Nat.le_trans hB h4⟩
  clear hd hp hrel hf hs hB
  by_cases he : (begD F s P key).er = 0
  · have HE : Hid (dRdE F s P LM (playL g LM O) key a = rdE LM (playL g LM O) a (begD F s P key).f) := by unfold Hid dRdE; rw [if_pos he]
    have HBY : Hid (dRdB F s P LM (playL g LM O) key a = rdB LM (playL g LM O) a (begD F s P key).f) := by unfold Hid dRdB; rw [if_pos he]
    have HDS : Hid (dRdS F s P LM (playL g LM O) key a = rdS LM (playL g LM O) a (begD F s P key).f (begD F s P key).s) := by unfold Hid dRdS; rw [if_pos he]
    have HE0 := Lib.hid he
    clear he
    go_enter Tryz.func30, Tryz.ntmps30
    go_wp2_with fail
    refine HBG.out.mono ?_
    rintro e w1 ⟨f, R', rfl, hfe, hd, hp, hrl, hk⟩
    obtain rfl := hfe HE0.out
    rw [HE0.out]
    have HMK1 := Lib.hid (fun W s' h1 h2 h4 => HMK.out W s' R' h1 h2 hrl h4)
    generalize hbe : begD F s P key = b at *
    have HPE := Lib.hid hbe
    clear hbe
    obtain ⟨ber, bs, bP, f⟩ := b
    unfold Flt.val
    simp only at *
    have HHAS := Lib.hid (fun W (hb : Below w1.heap.size w1 W) => r14has_any a (hd.below0 hb) HF.out)
    have HCR := Lib.hid (fun W t (hb : Below w1.heap.size w1 W) => rcread_any t (hd.below0 hb).c HF.out (Nat.le_trans hon (by decide)))
    have HCE : Hid (∀ W, Below w1.heap.size w1 W → W.cell? ⟨q, 5, none⟩ = some (.pointer (some ⟨p, 0, none⟩)) ∧ W.cell? ⟨q, 12, none⟩ = some (.int .i64 bs.r) ∧ W.frozen? ⟨q, 12, none⟩ = false) := by
      unfold Hid; intro W hb; exact ⟨((hd.below0 hb).cell 5 (by decide)).trans rfl, ((hd.below0 hb).cell 12 (by decide)).trans rfl, (hd.below0 hb).free 12⟩
    have HFI : Hid (∀ W, Below w1.heap.size w1 W → RDPm W B q pw g F bs bP LM O ∧ KeptT RDT B w W) := by
      unfold Hid; intro W hb; exact ⟨HMK1.out W bs (hd.below0 hb) (hp.below0 hb) (Nat.le_trans hk.size hb.size), (hk.sub rdp_rdt).thenBelow hb⟩
    have HFS : Hid (∀ W, Below w1.heap.size w1 W → RDPm (W.setCell ⟨q, 12, none⟩ (.int .i64 (wrap64 (bs.r + 1)))) B q pw g F { bs with r := wrap64 (bs.r + 1) } bP LM O ∧ KeptT RDT B w (W.setCell ⟨q, 12, none⟩ (.int .i64 (wrap64 (bs.r + 1)))) ∧ KeptT [48] B W (W.setCell ⟨q, 12, none⟩ (.int .i64 (wrap64 (bs.r + 1))))) := by
      unfold Hid; intro W hb
      have h' := (hd.below0 hb).store 12 (.int .i64 (wrap64 (bs.r + 1))) { bs with r := wrap64 (bs.r + 1) } rfl
      exact ⟨HMK1.out _ _ h'.1 ((hp.below0 hb).keptT h'.2 (by decide)) (Nat.le_trans (Nat.le_trans hk.size hb.size) h'.2.size), ((hk.sub rdp_rdt).thenBelow hb).trans (h'.2.sub rd_rdt), h'.2⟩
    clear hd hp hk
    have hbF : Below w1.heap.size w1 (w1.alloc (.cells #[.int .i64 f.at_, .int .i64 f.kind, .int .i64 f.to_] 64)) := (Below.refl _ _).alloc (Nat.le_refl _) _
    have hTT := heap_alloc_new w1 (.cells #[.int .i64 f.at_, .int .i64 f.kind, .int .i64 f.to_] 64)
    go_wp2_with fail
    refine (HHAS.out _ hbF).mono ?_
    rintro e w2 ⟨rfl, hb2⟩
    have hbl2 := hbF.trans (hb2.mono hbF.size)
    have hT2 := belObj hb2 hTT (by simp)
    have t1 : w2.cell? ⟨w1.heap.size, 1, none⟩ = some (.int .i64 f.kind) := by rw [cell_of_row _ _ _ _ _ _ hT2]; rfl
    have t2 : w2.cell? ⟨w1.heap.size, 2, none⟩ = some (.int .i64 f.to_) := by rw [cell_of_row _ _ _ _ _ _ hT2]; rfl
    obtain ⟨q5, q12, f12⟩ := HCE.out w2 hbl2
    have HFI2 := Lib.hid (HFI.out w2 hbl2)
    have HC2 := Lib.hid (fun t => HCR.out w2 t hbl2)
    clear hTT hT2
    cases hin : inL LM a
    · have HX : Hid (rdE LM (playL g LM O) a f = 2 ∧ rdB LM (playL g LM O) a f = [] ∧ rdS LM (playL g LM O) a f bs = bs) := by unfold Hid rdB rdS rdE; rw [hin]; exact ⟨rfl, rfl, rfl⟩
      clear hin
      go_wp2
      go_ret2
      exact ⟨_, [], by rw [HE.out, HX.out.1]; rfl, Byt.nil _ _, by rw [HBY.out, HX.out.2.1], by rw [HPE.out, HDS.out, HX.out.2.2]; exact HFI2.out.1, HFI2.out.2⟩
    · by_cases h4 : f.kind = 4
      · have HX : Hid (rdE LM (playL g LM O) a f = 15 ∧ rdB LM (playL g LM O) a f = [] ∧ rdS LM (playL g LM O) a f bs = bs) := by unfold Hid rdB rdS rdE; rw [hin, if_pos h4]; exact ⟨rfl, rfl, rfl⟩
        have n4 : (f.kind == 4) = true := by simpa using h4
        clear hin h4
        go_wp2
        go_ret2
        exact ⟨_, [], by rw [HE.out, HX.out.1]; rfl, Byt.nil _ _, by rw [HBY.out, HX.out.2.1], by rw [HPE.out, HDS.out, HX.out.2.2]; exact HFI2.out.1, HFI2.out.2⟩
      · have n4 : (f.kind == 4) = false := by simpa using h4
        by_cases h5 : f.kind = 5
        · have n5 : (f.kind == 5) = true := by simpa using h5
          have hfo : frO a f = f.to_ := by unfold frO; rw [if_pos h5]
          skip
          have HX := Lib.hid (rdx_some (g := g) (O := O) (bs := bs) hin h4 hfo)
          clear hin h4 h5 hfo
          by_cases hre : readE (playL g LM O) (f.to_) = 0
          · have HX1 := Lib.hid (HX.out.1 hre)
            have hR := HC2.out (f.to_)
            rw [hre] at hR
            have HR := Lib.hid hR
            generalize readB (playL g LM O) (f.to_) = xs at *
            clear hre hR
            go_wp2_with fail
            refine HR.out.mono ?_
            rintro e w3 ⟨v, rfl, hv, hb3⟩
            have hbl3 := hbl2.trans (hb3.mono hbl2.size)
            clear q5 q12 f12 t1 t2
            obtain ⟨q5, q12, f12⟩ := HCE.out w3 hbl3
            have HS := Lib.hid (HFS.out w3 hbl3)
            have HV := Lib.hid (hv.kept HS.out.2.2 (KeptT.free (by decide)))
            clear hv
            go_wp2
            go_ret2
            exact ⟨v, _, by rw [HE.out, HX1.out.1]; rfl, HV.out, by rw [HBY.out, HX1.out.2.1]; exact norm_str _, by rw [HPE.out, HDS.out, HX1.out.2.2]; exact HS.out.1, HS.out.2.1⟩
          · have HX1 := Lib.hid (HX.out.2 hre)
            have e3 : (readE (playL g LM O) (f.to_) != 0) = true := by simpa using hre
            have HR := Lib.hid (HC2.out (f.to_))
            generalize readE (playL g LM O) (f.to_) = er3 at *
            clear hre
            go_wp2_with fail
            refine HR.out.mono ?_
            rintro e w3 ⟨v, rfl, hv, hb3⟩
            have hbl3 := hbl2.trans (hb3.mono hbl2.size)
            have HFI3 := Lib.hid (HFI.out w3 hbl3)
            clear hv q5 q12 f12 t1 t2
            go_wp2
            go_ret2
            exact ⟨_, [], by rw [HE.out, HX1.out.1]; rfl, Byt.nil _ _, by rw [HBY.out, HX1.out.2.1], by rw [HPE.out, HDS.out, HX1.out.2.2]; exact HFI3.out.1, HFI3.out.2⟩
        · have n5 : (f.kind == 5) = false := by simpa using h5
          have hfo : frO a f = a := by unfold frO; rw [if_neg h5]
          skip
          have HX := Lib.hid (rdx_some (g := g) (O := O) (bs := bs) hin h4 hfo)
          clear hin h4 h5 hfo
          by_cases hre : readE (playL g LM O) (a) = 0
          · have HX1 := Lib.hid (HX.out.1 hre)
            have hR := HC2.out (a)
            rw [hre] at hR
            have HR := Lib.hid hR
            generalize readB (playL g LM O) (a) = xs at *
            clear hre hR
            go_wp2_with fail
            refine HR.out.mono ?_
            rintro e w3 ⟨v, rfl, hv, hb3⟩
            have hbl3 := hbl2.trans (hb3.mono hbl2.size)
            clear q5 q12 f12 t1 t2
            obtain ⟨q5, q12, f12⟩ := HCE.out w3 hbl3
            have HS := Lib.hid (HFS.out w3 hbl3)
            have HV := Lib.hid (hv.kept HS.out.2.2 (KeptT.free (by decide)))
            clear hv
            go_wp2
            go_ret2
            exact ⟨v, _, by rw [HE.out, HX1.out.1]; rfl, HV.out, by rw [HBY.out, HX1.out.2.1]; exact norm_str _, by rw [HPE.out, HDS.out, HX1.out.2.2]; exact HS.out.1, HS.out.2.1⟩
          · have HX1 := Lib.hid (HX.out.2 hre)
            have e3 : (readE (playL g LM O) (a) != 0) = true := by simpa using hre
            have HR := Lib.hid (HC2.out (a))
            generalize readE (playL g LM O) (a) = er3 at *
            clear hre
            go_wp2_with fail
            refine HR.out.mono ?_
            rintro e w3 ⟨v, rfl, hv, hb3⟩
            have hbl3 := hbl2.trans (hb3.mono hbl2.size)
            have HFI3 := Lib.hid (HFI.out w3 hbl3)
            clear hv q5 q12 f12 t1 t2
            go_wp2
            go_ret2
            exact ⟨_, [], by rw [HE.out, HX1.out.1]; rfl, Byt.nil _ _, by rw [HBY.out, HX1.out.2.1], by rw [HPE.out, HDS.out, HX1.out.2.2]; exact HFI3.out.1, HFI3.out.2⟩
  · have HE : Hid (dRdE F s P LM (playL g LM O) key a = (begD F s P key).er) := by unfold Hid dRdE; rw [if_neg he]
    have HBY : Hid (dRdB F s P LM (playL g LM O) key a = []) := by unfold Hid dRdB; rw [if_neg he]
    have HDS : Hid (dRdS F s P LM (playL g LM O) key a = (begD F s P key).s) := by unfold Hid dRdS; rw [if_neg he]
    have e1 : ((begD F s P key).er != 0) = true := by simpa using he
    clear he
    go_enter Tryz.func30, Tryz.ntmps30
    go_wp2_with fail
    refine HBG.out.mono ?_
    rintro e w1 ⟨f, R', rfl, _, hd, hp, hrl, hk⟩
    unfold Flt.val
    have hbF : Below w1.heap.size w1 (w1.alloc (.cells #[.int .i64 f.at_, .int .i64 f.kind, .int .i64 f.to_] 64)) := (Below.refl _ _).alloc (Nat.le_refl _) _
    have HFI2 := Lib.hid (And.intro (HMK.out _ _ _ (hd.below0 hbF) (hp.below0 hbF) hrl (Nat.le_trans hk.size hbF.size)) ((hk.sub rdp_rdt).thenBelow hbF))
    clear hd hp hk hbF
    generalize hbe : begD F s P key = b at *
    have HPE := Lib.hid hbe
    clear hbe
    obtain ⟨ber, bs, bP, fb⟩ := b
    simp only at *
    go_wp2
    go_ret2
    exact ⟨_, [], by rw [HE.out]; rfl, Byt.nil _ _, by rw [HBY.out], by rw [HPE.out, HDS.out]; exact HFI2.out.1, HFI2.out.2⟩
end
end Go.Proofs.YtckdhhadlemakaaGreat
namespace Go.Proofs.YtckdhhadlemakaaGreat
set_option linter.unusedVariables false
open Go.RowKit

section
variable {w w' : World} {B C : Bd} {q pw p : Nat} {g : Geo} {F : List Flt} {s : DS} {P R : Pow} {LM : List Sec} {O : List OpV} {FA : Option Addr} {fc : Nat}
def RDFlushPost (w : World) (B : Bd) (q pw : Nat) (g : Geo) (F : List Flt) (s : DS) (P : Pow) (LM : List Sec) (O : List OpV) (key : Int) (e : Ending) (w' : World) : Prop :=
  e = .returned (.int .i64 (begD F s P key).er) ∧ RDPm w' B q pw g F (dFlS F s P key) (begD F s P key).P (dFlLM g F s P LM O key) (dFlO F s P O key) ∧ KeptT RDT B w w'
set_option maxRecDepth 100000 in
set_option maxHeartbeats 4000000 in
theorem rdflush_any (key : Int) (h : RDPm w B q pw g F s P LM O) (hn : F.length ≤ 9223372036854775807) (hon : O.length ≤ 99000) : Calls Tryz.prog 33 #[.pointer (some ⟨q, 0, none⟩), .int .u64 key] w (RDFlushPost w B q pw g F s P LM O key) := by
  obtain ⟨⟨p, FA, fc, hd⟩, ⟨R, hrel, hp⟩, hf, hs, hBt⟩ := h
  have HBG := Lib.hid (rbegin_any key hd hp hrel hn)
  have HF := Lib.hid hf
  have HS := Lib.hid hs
  have HMK : Hid (∀ W s' R' L' O', RDsk W B q pw g F s' L' O' p FA fc → RPow W B pw R' → RelP (begD F s P key).P R' → L'.length = LM.length → ShortB L' → w.heap.size ≤ W.heap.size → RDPm W B q pw g F s' (begD F s P key).P L' O') := by
    unfold Hid; intro W s' R' L' O' h1 h2 h3 h4 h5 h6; exact ⟨⟨p, FA, fc, h1⟩, ⟨R', h3, h2⟩, hf.len h4, h5, Nat.le_trans hBt h6⟩
  clear hd hp hrel hf hs
  by_cases he : (begD F s P key).er = 0
  · have HDS : Hid (dFlS F s P key = { (begD F s P key).s with f := wrap64 ((begD F s P key).s.f + 1) }) := by unfold Hid dFlS; rw [if_pos he]
    have HDL : Hid (dFlLM g F s P LM O key = playL g LM (O.take O.length)) := by unfold Hid dFlLM; rw [if_pos he]
    have HDO : Hid (dFlO F s P O key = []) := by unfold Hid dFlO; rw [if_pos he]
    skip
    have HE0 := Lib.hid he
    clear he
    go_enter Tryz.func33, Tryz.ntmps33
    go_wp2_with fail
    refine HBG.out.mono ?_
    rintro e w1 ⟨f, R', rfl, hfe, hd, hp, hrl, hk⟩
    obtain rfl := hfe HE0.out
    rw [HE0.out]
    have HMK1 := Lib.hid (fun W s' L' O' h1 h2 h4 h5 h6 => HMK.out W s' R' L' O' h1 h2 hrl h4 h5 h6)
    generalize hbe : begD F s P key = b at *
    have HPE := Lib.hid hbe
    clear hbe
    obtain ⟨ber, bs, bP, f⟩ := b
    unfold Flt.val
    have hez : ber = 0 := HE0.out
    subst hez
    simp only at *
    have hbF : Below w1.heap.size w1 (w1.alloc (.cells #[.int .i64 f.at_, .int .i64 f.kind, .int .i64 f.to_] 64)) := (Below.refl _ _).alloc (Nat.le_refl _) _
    have hkF : KeptT RDT B w (w1.alloc (.cells #[.int .i64 f.at_, .int .i64 f.kind, .int .i64 f.to_] 64)) := (hk.sub rdp_rdt).thenBelow hbF
    have HFL := Lib.hid (rcflush_any (hd.below0 hbF).c HF.out (Nat.le_trans hBt (Nat.le_trans hk.size hbF.size)) (Nat.le_trans hon (by decide)))
    have c5 : (w1.alloc (.cells #[.int .i64 f.at_, .int .i64 f.kind, .int .i64 f.to_] 64)).cell? ⟨q, 5, none⟩ = some (.pointer (some ⟨p, 0, none⟩)) := ((hd.below0 hbF).cell 5 (by decide)).trans rfl
    have HFS : Hid (∀ W, RCacheM W B p g (playL g LM (O.take O.length)) [] → KeptT RT B (w1.alloc (.cells #[.int .i64 f.at_, .int .i64 f.kind, .int .i64 f.to_] 64)) W → (W.cell? ⟨q, 15, none⟩ = some (.int .i64 bs.f) ∧ W.frozen? ⟨q, 15, none⟩ = false) ∧
        RDPm (W.setCell ⟨q, 15, none⟩ (.int .i64 (wrap64 (bs.f + 1)))) B q pw g F { bs with f := wrap64 (bs.f + 1) } bP (playL g LM (O.take O.length)) [] ∧ KeptT RDT B w (W.setCell ⟨q, 15, none⟩ (.int .i64 (wrap64 (bs.f + 1))))) := by
      unfold Hid; intro W hc hkW
      have h1 := (hd.below0 hbF).withC hkW hc
      have h' := h1.store 15 (.int .i64 (wrap64 (bs.f + 1))) { bs with f := wrap64 (bs.f + 1) } rfl
      refine ⟨⟨(h1.cell 15 (by decide)).trans rfl, h1.free 15⟩, HMK1.out _ _ _ _ h'.1 (((hp.below0 hbF).keptT hkW (by unfold RT; decide)).keptT h'.2 (by decide)) (playL_len _ _ _) (short_play _ HS.out) (Nat.le_trans (Nat.le_trans (Nat.le_trans hk.size hbF.size) hkW.size) h'.2.size), ((hkF.trans (hkW.sub rt_rdt)).trans (h'.2.sub rd_rdt))⟩
    clear hd hp hk hkF
    go_wp2_with fail
    refine HFL.out.mono ?_
    rintro e w2 ⟨rfl, hc2, hk2⟩
    obtain ⟨⟨x15, f15⟩, hF⟩ := HFS.out w2 hc2 hk2
    have HFF := Lib.hid hF
    clear hF hc2 c5 hk2
    go_wp2
    go_ret
    unfold RDFlushPost
    rw [HPE.out, HDS.out, HDL.out, HDO.out]
    exact ⟨rfl, HFF.out.1, HFF.out.2⟩
  · have HDS : Hid (dFlS F s P key = (begD F s P key).s) := by unfold Hid dFlS; rw [if_neg he]
    have HDL : Hid (dFlLM g F s P LM O key = LM) := by unfold Hid dFlLM; rw [if_neg he]
    have HDO : Hid (dFlO F s P O key = O) := by unfold Hid dFlO; rw [if_neg he]
    skip
    have e1 : ((begD F s P key).er != 0) = true := by simpa using he
    clear he
    go_enter Tryz.func33, Tryz.ntmps33
    go_wp2_with fail
    refine HBG.out.mono ?_
    rintro e w1 ⟨f, R', rfl, _, hd, hp, hrl, hk⟩
    unfold Flt.val
    have hbF : Below w1.heap.size w1 (w1.alloc (.cells #[.int .i64 f.at_, .int .i64 f.kind, .int .i64 f.to_] 64)) := (Below.refl _ _).alloc (Nat.le_refl _) _
    have HFI2 := Lib.hid (And.intro (HMK.out _ _ _ _ _ (hd.below0 hbF) (hp.below0 hbF) hrl rfl HS.out (Nat.le_trans hk.size hbF.size)) ((hk.sub rdp_rdt).thenBelow hbF))
    clear hd hp hk hbF
    generalize hbe : begD F s P key = b at *
    have HPE := Lib.hid hbe
    clear hbe
    obtain ⟨ber, bs, bP, fb⟩ := b
    simp only at *
    go_wp2
    go_ret
    unfold RDFlushPost
    rw [HDS.out, HDL.out, HDO.out, HPE.out]
    exact ⟨rfl, HFI2.out.1, HFI2.out.2⟩
def RDErasePost (w : World) (B : Bd) (q pw : Nat) (g : Geo) (F : List Flt) (s : DS) (P : Pow) (LM : List Sec) (O : List OpV) (key a : Int) (e : Ending) (w' : World) : Prop :=
  e = .returned (.int .i64 (dErE g F s P LM O key a)) ∧ RDPm w' B q pw g F (dErS g F s P LM O key a) (begD F s P key).P LM (dErO g F s P LM O key a) ∧ KeptT RDT B w w'
set_option maxRecDepth 100000 in
set_option maxHeartbeats 4000000 in
theorem rderase_any (key a : Int) (ha : I64 a) (h : RDPm w B q pw g F s P LM O) (hn : F.length ≤ 9223372036854775807) (hon : O.length ≤ 99000) : Calls Tryz.prog 32 #[.pointer (some ⟨q, 0, none⟩), .int .u64 key, .int .i64 a] w (RDErasePost w B q pw g F s P LM O key a) := by
  obtain ⟨⟨p, FA, fc, hd⟩, ⟨R, hrel, hp⟩, hf, hs, hBt⟩ := h
  have HBG := Lib.hid (rbegin_any key hd hp hrel hn)
  have HF := Lib.hid hf
  have HS := Lib.hid hs
  have HMK : Hid (∀ W s' R' L' O', RDsk W B q pw g F s' L' O' p FA fc → RPow W B pw R' → RelP (begD F s P key).P R' → L'.length = LM.length → ShortB L' → w.heap.size ≤ W.heap.size → RDPm W B q pw g F s' (begD F s P key).P L' O') := by
    unfold Hid; intro W s' R' L' O' h1 h2 h3 h4 h5 h6; exact ⟨⟨p, FA, fc, h1⟩, ⟨R', h3, h2⟩, hf.len h4, h5, Nat.le_trans hBt h6⟩
  clear hd hp hrel hf hs
  by_cases he : (begD F s P key).er = 0
  · have HE : Hid (dErE g F s P LM O key a = doE g (playL g LM O) ⟨true, a, [], none, 0⟩) := by unfold Hid dErE; rw [if_pos he]
    have HDS : Hid (dErS g F s P LM O key a = erS g LM O a (begD F s P key).s) := by unfold Hid dErS; rw [if_pos he]
    have HDO : Hid (dErO g F s P LM O key a = erO g LM O a) := by unfold Hid dErO; rw [if_pos he]
    skip
    have HE0 := Lib.hid he
    clear he
    go_enter Tryz.func32, Tryz.ntmps32
    go_wp2_with fail
    refine HBG.out.mono ?_
    rintro e w1 ⟨f, R', rfl, hfe, hd, hp, hrl, hk⟩
    obtain rfl := hfe HE0.out
    rw [HE0.out]
    have HMK1 := Lib.hid (fun W s' L' O' h1 h2 h4 h5 h6 => HMK.out W s' R' L' O' h1 h2 hrl h4 h5 h6)
    generalize hbe : begD F s P key = b at *
    have HPE := Lib.hid hbe
    clear hbe
    obtain ⟨ber, bs, bP, f⟩ := b
    unfold Flt.val
    have hez : ber = 0 := HE0.out
    subst hez
    simp only at *
    have hbF : Below w1.heap.size w1 (w1.alloc (.cells #[.int .i64 f.at_, .int .i64 f.kind, .int .i64 f.to_] 64)) := (Below.refl _ _).alloc (Nat.le_refl _) _
    have hkF : KeptT RDT B w (w1.alloc (.cells #[.int .i64 f.at_, .int .i64 f.kind, .int .i64 f.to_] 64)) := (hk.sub rdp_rdt).thenBelow hbF
    have hrd0 : Rd (w1.alloc (.cells #[.int .i64 f.at_, .int .i64 f.kind, .int .i64 f.to_] 64)) (w1.alloc (.cells #[.int .i64 f.at_, .int .i64 f.kind, .int .i64 f.to_] 64)).heap.size none (([] : List Int).map (Value.int .u8)) := fun j u h => by simp at h
    have HDO2 := Lib.hid (rcdo_any (B' := (w1.alloc (.cells #[.int .i64 f.at_, .int .i64 f.kind, .int .i64 f.to_] 64)).heap.size) ⟨true, a, [], none, 0⟩ (hd.below0 hbF).c HF.out ⟨ha, hrd0, by simp⟩ (Nat.le_refl _) (Nat.le_trans hBt (Nat.le_trans hk.size hbF.size)) (Nat.le_trans hon (by decide)))
    have c5 : (w1.alloc (.cells #[.int .i64 f.at_, .int .i64 f.kind, .int .i64 f.to_] 64)).cell? ⟨q, 5, none⟩ = some (.pointer (some ⟨p, 0, none⟩)) := ((hd.below0 hbF).cell 5 (by decide)).trans rfl
    have HFS : Hid (∀ W O', RCacheM W B p g LM O' → KeptT RT B (w1.alloc (.cells #[.int .i64 f.at_, .int .i64 f.kind, .int .i64 f.to_] 64)) W → (W.cell? ⟨q, 14, none⟩ = some (.int .i64 bs.e) ∧ W.frozen? ⟨q, 14, none⟩ = false) ∧
        (RDPm W B q pw g F bs bP LM O' ∧ KeptT RDT B w W) ∧ RDPm (W.setCell ⟨q, 14, none⟩ (.int .i64 (wrap64 (bs.e + 1)))) B q pw g F { bs with e := wrap64 (bs.e + 1) } bP LM O' ∧ KeptT RDT B w (W.setCell ⟨q, 14, none⟩ (.int .i64 (wrap64 (bs.e + 1))))) := by
      unfold Hid; intro W O' hc hkW
      have h1 := (hd.below0 hbF).withC hkW hc
      have h' := h1.store 14 (.int .i64 (wrap64 (bs.e + 1))) { bs with e := wrap64 (bs.e + 1) } rfl
      refine ⟨⟨(h1.cell 14 (by decide)).trans rfl, h1.free 14⟩, ⟨HMK1.out _ _ _ _ h1 ((hp.below0 hbF).keptT hkW (by unfold RT; decide)) rfl HS.out (Nat.le_trans (Nat.le_trans hk.size hbF.size) hkW.size), hkF.trans (hkW.sub rt_rdt)⟩,
        HMK1.out _ _ _ _ h'.1 (((hp.below0 hbF).keptT hkW (by unfold RT; decide)).keptT h'.2 (by decide)) rfl HS.out (Nat.le_trans (Nat.le_trans (Nat.le_trans hk.size hbF.size) hkW.size) h'.2.size), ((hkF.trans (hkW.sub rt_rdt)).trans (h'.2.sub rd_rdt))⟩
    clear hd hp hk hkF hrd0
    by_cases hz : doE g (playL g LM O) ⟨true, a, [], none, 0⟩ = 0
    · have HX : Hid (erS g LM O a bs = { bs with e := wrap64 (bs.e + 1) } ∧ erO g LM O a = O ++ [⟨true, a, [], none, 0⟩] ∧ doE g (playL g LM O) ⟨true, a, [], none, 0⟩ = 0) := by unfold Hid erS erO; rw [if_pos hz, if_pos hz]; exact ⟨rfl, rfl, hz⟩
      clear hz
      go_wp2_with fail
      refine HDO2.out.mono ?_
      intro e w2 hpp
      unfold RDoPost OpV.bare at hpp
      simp only at hpp
      rw [HX.out.2.2, if_pos rfl] at hpp
      obtain ⟨rfl, hc2, hk2⟩ := hpp
      obtain ⟨⟨x14, f14⟩, _, hF⟩ := HFS.out w2 _ hc2 hk2
      have HFF := Lib.hid hF
      clear hF hc2 c5 hk2
      go_wp2
      go_ret
      unfold RDErasePost
      rw [HE.out, HDS.out, HDO.out, HPE.out, HX.out.1, HX.out.2.1, HX.out.2.2]
      exact ⟨rfl, HFF.out.1, HFF.out.2⟩
    · have HX : Hid (erS g LM O a bs = bs ∧ erO g LM O a = O) := by unfold Hid erS erO; rw [if_neg hz, if_neg hz]; exact ⟨rfl, rfl⟩
      have HNZ := Lib.hid hz
      have e2 : (doE g (playL g LM O) ⟨true, a, [], none, 0⟩ == 0) = false := by simpa using hz
      generalize hEE : doE g (playL g LM O) ⟨true, a, [], none, 0⟩ = E at *
      have HEE := Lib.hid hEE
      clear hz hEE
      go_wp2_with fail
      refine HDO2.out.mono ?_
      intro e w2 hpp
      unfold RDoPost OpV.bare at hpp
      simp only at hpp
      rw [HEE.out, if_neg HNZ.out] at hpp
      obtain ⟨rfl, hc2, hk2⟩ := hpp
      obtain ⟨⟨x14, f14⟩, hF, _⟩ := HFS.out w2 _ hc2 hk2
      have HFF := Lib.hid hF
      clear hF hc2 c5 hk2
      go_wp2
      go_ret
      unfold RDErasePost
      rw [HE.out, HDS.out, HDO.out, HPE.out, HX.out.1, HX.out.2]
      exact ⟨rfl, HFF.out.1, HFF.out.2⟩
  · have HE : Hid (dErE g F s P LM O key a = (begD F s P key).er) := by unfold Hid dErE; rw [if_neg he]
    have HDS : Hid (dErS g F s P LM O key a = (begD F s P key).s) := by unfold Hid dErS; rw [if_neg he]
    have HDO : Hid (dErO g F s P LM O key a = O) := by unfold Hid dErO; rw [if_neg he]
    skip
    have e1 : ((begD F s P key).er != 0) = true := by simpa using he
    clear he
    go_enter Tryz.func32, Tryz.ntmps32
    go_wp2_with fail
    refine HBG.out.mono ?_
    rintro e w1 ⟨f, R', rfl, _, hd, hp, hrl, hk⟩
    unfold Flt.val
    have hbF : Below w1.heap.size w1 (w1.alloc (.cells #[.int .i64 f.at_, .int .i64 f.kind, .int .i64 f.to_] 64)) := (Below.refl _ _).alloc (Nat.le_refl _) _
    have HFI2 := Lib.hid (And.intro (HMK.out _ _ _ _ _ (hd.below0 hbF) (hp.below0 hbF) hrl rfl HS.out (Nat.le_trans hk.size hbF.size)) ((hk.sub rdp_rdt).thenBelow hbF))
    clear hd hp hk hbF
    generalize hbe : begD F s P key = b at *
    have HPE := Lib.hid hbe
    clear hbe
    obtain ⟨ber, bs, bP, fb⟩ := b
    simp only at *
    go_wp2
    go_ret
    unfold RDErasePost
    rw [HE.out, HDS.out, HDO.out, HPE.out]
    exact ⟨rfl, HFI2.out.1, HFI2.out.2⟩
end
end Go.Proofs.YtckdhhadlemakaaGreat
namespace Go.Proofs.YtckdhhadlemakaaGreat
set_option linter.unusedVariables false
open Go.RowKit

section
variable {w w' : World} {B C : Bd} {q pw p : Nat} {g : Geo} {F : List Flt} {s : DS} {P R : Pow} {LM : List Sec} {O : List OpV} {FA : Option Addr} {fc : Nat}
def RDWritePost (w : World) (B : Bd) (q pw : Nat) (g : Geo) (F : List Flt) (s : DS) (P : Pow) (LM : List Sec) (O : List OpV) (key a : Int) (xs : List Int) (force : Bool) (e : Ending) (w' : World) : Prop :=
  e = .returned (.int .i64 (dWrE F s P LM key a xs)) ∧ RDPm w' B q pw g F (dWrS F s P LM key a xs) (begD F s P key).P (dWrLM g F s P LM O key a xs force) (dWrO g F s P LM O key a xs force) ∧ KeptT RDT B w w'
/-- What a write that is not dropped does. -/
theorem wr_hit {f : Flt} {a tt : Int} {xs ys : List Int} {force : Bool} (he : wrE LM a xs = 0) (h1 : ¬ f.kind = 1) (ho : wOp a xs f = ⟨false, tt, ys, none, 0⟩) (hy : ys.length ≤ 64) :
    (inL LM tt = false → wrLM g LM O a xs force f = LM ∧ wrO g LM O a xs force f = O) ∧
    (inL LM tt = true → doE g (playL g LM O) ⟨false, tt, ys, none, 0⟩ = 0 ∧ wrLM g LM O a xs force f = (if force then playL g LM ((O ++ [(⟨false, tt, ys, none, 0⟩ : OpV)]).take (O ++ [(⟨false, tt, ys, none, 0⟩ : OpV)]).length) else LM) ∧ wrO g LM O a xs force f = (if force then [] else O ++ [(⟨false, tt, ys, none, 0⟩ : OpV)])) := by
  have hin : inL (playL g LM O) tt = inL LM tt := by unfold inL; rw [playL_len]
  have hd : doE g (playL g LM O) ⟨false, tt, ys, none, 0⟩ = if inL LM tt then 0 else 2 := by
    unfold doE; rw [if_neg (by simp)]; unfold writeE; simp only; rw [hin, if_pos hy]
  unfold wrLM wrO wHit
  rw [ho, he, hd]
  refine ⟨fun h => ?_, fun h => ?_⟩
  · rw [h]; simp
  · rw [h]; simp [h1]
theorem wr_drop {f : Flt} {a : Int} {xs : List Int} {force : Bool} (h1 : f.kind = 1) : wrLM g LM O a xs force f = LM ∧ wrO g LM O a xs force f = O := by
  unfold wrLM wrO wHit; simp [h1]
set_option maxRecDepth 100000 in
set_option maxHeartbeats 8000000 in
theorem rdwrite_any (key a : Int) (xs : List Int) (force : Bool) (A : Option Addr) (c : Nat) (h : RDPm w B q pw g F s P LM O) (hn : F.length ≤ 9223372036854775807) (hon : O.length ≤ 99000) (hai : I64 a) (hfi : I64 (begD F s P key).f.to_) (hr : ∀ W, KeptT RDT B w W → Rd W W.heap.size A (xs.map (Value.int .u8))) (hx : xs.length ≤ 100000) (hc : xs.length ≤ c) :
    Calls Tryz.prog 31 #[.pointer (some ⟨q, 0, none⟩), .int .u64 key, .int .i64 a, .slice A xs.length c, .bool force] w (RDWritePost w B q pw g F s P LM O key a xs force) := by
  obtain ⟨⟨p, FA, fc, hd⟩, ⟨R, hrel, hp⟩, hf, hs, hBt⟩ := h
  have HBG := Lib.hid (rbegin_any key hd hp hrel hn)
  have HF := Lib.hid hf
  have HS := Lib.hid hs
  have HMK : Hid (∀ W s' R' L' O', RDsk W B q pw g F s' L' O' p FA fc → RPow W B pw R' → RelP (begD F s P key).P R' → L'.length = LM.length → ShortB L' → w.heap.size ≤ W.heap.size → RDPm W B q pw g F s' (begD F s P key).P L' O') := by
    unfold Hid; intro W s' R' L' O' h1 h2 h3 h4 h5 h6; exact ⟨⟨p, FA, fc, h1⟩, ⟨R', h3, h2⟩, hf.len h4, h5, Nat.le_trans hBt h6⟩
  clear hd hp hrel hf hs
  by_cases he : (begD F s P key).er = 0
  · have HE : Hid (dWrE F s P LM key a xs = wrE LM a xs) := by unfold Hid dWrE; rw [if_pos he]
    have HDS : Hid (dWrS F s P LM key a xs = wrS LM a xs (begD F s P key).s) := by unfold Hid dWrS; rw [if_pos he]
    have HDL : Hid (dWrLM g F s P LM O key a xs force = wrLM g LM O a xs force (begD F s P key).f) := by unfold Hid dWrLM; rw [if_pos he]
    have HDO : Hid (dWrO g F s P LM O key a xs force = wrO g LM O a xs force (begD F s P key).f) := by unfold Hid dWrO; rw [if_pos he]
    skip
    have HE0 := Lib.hid he
    clear he
    go_enter Tryz.func31, Tryz.ntmps31
    go_wp2_with fail
    refine HBG.out.mono ?_
    rintro e w1 ⟨f, R', rfl, hfe, hd, hp, hrl, hk⟩
    obtain rfl := hfe HE0.out
    rw [HE0.out]
    have HMK1 := Lib.hid (fun W s' L' O' h1 h2 h4 h5 h6 => HMK.out W s' R' L' O' h1 h2 hrl h4 h5 h6)
    generalize hbe : begD F s P key = b at *
    have HPE := Lib.hid hbe
    clear hbe
    obtain ⟨ber, bs, bP, f⟩ := b
    unfold Flt.val
    have hez : ber = 0 := HE0.out
    subst hez
    simp only at *
    have hbF : Below w1.heap.size w1 (w1.alloc (.cells #[.int .i64 f.at_, .int .i64 f.kind, .int .i64 f.to_] 64)) := (Below.refl _ _).alloc (Nat.le_refl _) _
    have hkF : KeptT RDT B w (w1.alloc (.cells #[.int .i64 f.at_, .int .i64 f.kind, .int .i64 f.to_] 64)) := (hk.sub rdp_rdt).thenBelow hbF
    have HHAS := Lib.hid (r14has_any a (hd.below0 hbF) HF.out)
    have HD1 := Lib.hid (fun W (hb : Below w1.heap.size w1 W) => (⟨hd.below0 hb, hp.below0 hb, (hk.sub rdp_rdt).thenBelow hb⟩ : RDsk W B q pw g F bs LM O p FA fc ∧ RPow W B pw R' ∧ KeptT RDT B w W))
    have hql : q < w1.heap.size := (IsT.own hd.obj).lt
    have hTq : ¬ (w1.heap.size = q) := by omega
    have hTT := heap_alloc_new w1 (.cells #[.int .i64 f.at_, .int .i64 f.kind, .int .i64 f.to_] 64)
    have HRR := Lib.hid hr
    clear hd hp hk hkF hr
    go_wp2_with fail
    refine HHAS.out.mono ?_
    rintro e w2 ⟨rfl, hb2⟩
    have hbl2 := hbF.trans (hb2.mono hbF.size)
    have hT2 := belObj hb2 hTT (by simp)
    have t1 : w2.cell? ⟨w1.heap.size, 1, none⟩ = some (.int .i64 f.kind) := by rw [cell_of_row _ _ _ _ _ _ hT2]; rfl
    have t2 : w2.cell? ⟨w1.heap.size, 2, none⟩ = some (.int .i64 f.to_) := by rw [cell_of_row _ _ _ _ _ _ hT2]; rfl
    obtain ⟨hd2, hp2, hk2⟩ := HD1.out w2 hbl2
    clear hTT hT2
    cases hin : inL LM a
    · have HX : Hid (wrE LM a xs = 2) := by unfold Hid wrE; rw [hin]; rfl
      have HNH : Hid (wrLM g LM O a xs force f = LM ∧ wrO g LM O a xs force f = O ∧ wrS LM a xs bs = bs) := by
        have e0 : ¬ (wrE LM a xs = 0) := by rw [HX.out]; decide
        have e1 : wHit g LM O a xs f = false := by unfold wHit; rw [decide_eq_false e0]; rfl
        unfold Hid wrLM wrO wrS; rw [e1, if_neg e0]; exact ⟨rfl, rfl, rfl⟩
      have HFF := Lib.hid (And.intro (HMK1.out _ _ _ _ hd2 hp2 rfl HS.out hk2.size) hk2)
      clear hin hd2 hp2 hk2
      go_wp2
      go_ret
      unfold RDWritePost
      rw [HE.out, HDS.out, HDL.out, HDO.out, HPE.out, HX.out, HNH.out.1, HNH.out.2.1, HNH.out.2.2]
      exact ⟨rfl, HFF.out⟩
    by_cases h64 : xs.length ≤ 64
    · have h64i : ¬ ((64 : Int) < (xs.length : Int)) := by omega
      have HX : Hid (wrE LM a xs = 0) := by unfold Hid wrE; rw [hin, if_pos h64]; rfl
      have HXS : Hid (wrS LM a xs bs = { bs with w := wrap64 (bs.w + 1) }) := by unfold Hid wrS; rw [HX.out, if_pos rfl]
      have q13 : w2.cell? ⟨q, 13, none⟩ = some (.int .i64 bs.w) := (hd2.cell 13 (by decide)).trans rfl
      have f13 := hd2.free 13
      have h' := hd2.store 13 (.int .i64 (wrap64 (bs.w + 1))) { bs with w := wrap64 (bs.w + 1) } rfl
      have hkx : Kept (fun k => k = q) w2 (w2.setCell ⟨q, 13, none⟩ (.int .i64 (wrap64 (bs.w + 1)))) := (Kept.refl (fun k => k = q) w2).setCell (p := ⟨q, 13, none⟩) (fun _ => rfl) _
      have u1 := hkx.cell t1 hTq
      have u2 := hkx.cell t2 hTq
      have hd3 := h'.1
      have hp3 := hp2.keptT h'.2 (by decide)
      have hk3 := hk2.trans (h'.2.sub rd_rdt)
      have hsz3 := hk3.size
      clear hd2 hp2 hk2 h' hkx t1 t2 hbF hb2 hbl2
      have hfin : Hid (∀ W, RDsk W B q pw g F { bs with w := wrap64 (bs.w + 1) } LM O p FA fc → RPow W B pw R' → w.heap.size ≤ W.heap.size → RDPm W B q pw g F { bs with w := wrap64 (bs.w + 1) } bP LM O) := by
        unfold Hid; intro W h1 h2 h3; exact HMK1.out _ _ _ _ h1 h2 rfl HS.out h3
      have HD3 := Lib.hid (fun W (hb : Below (w2.setCell ⟨q, 13, none⟩ (.int .i64 (wrap64 (bs.w + 1)))).heap.size (w2.setCell ⟨q, 13, none⟩ (.int .i64 (wrap64 (bs.w + 1)))) W) => (⟨hd3.below0 hb, hp3.below0 hb, hk3.thenBelow hb⟩ : RDsk W B q pw g F { bs with w := wrap64 (bs.w + 1) } LM O p FA fc ∧ RPow W B pw R' ∧ KeptT RDT B w W))
      have HHT := Lib.hid (fun t => r14has_any t hd3 HF.out)
      clear hd3 hp3 hk3 hin
      by_cases h1 : f.kind = 1
      · have HXX := Lib.hid (wr_drop (g := g) (LM := LM) (O := O) (a := a) (xs := xs) (force := force) h1)
        have n1 : (f.kind == 1) = true := by simpa using h1
        have n2 : (f.kind == 2) = false := by rw [h1]; rfl
        have n3 : (f.kind == 3) = false := by rw [h1]; rfl
        obtain ⟨hd4, hp4, hk4⟩ := HD3.out _ (Below.refl _ _)
        have HFF := Lib.hid (And.intro (hfin.out _ hd4 hp4 hk4.size) hk4)
        clear h1 hd4 hp4 hk4
        go_wp2
        go_ret
        unfold RDWritePost
        rw [HE.out, HDS.out, HDL.out, HDO.out, HPE.out, HX.out, HXS.out, HXX.out.1, HXX.out.2]
        exact ⟨rfl, HFF.out⟩
      have n1 : (f.kind == 1) = false := by simpa using h1
      by_cases h2 : f.kind = 2
      · obtain ⟨hh, eh, hhl⟩ : ∃ hh : Nat, ((xs.length : Int) / 2) = (hh : Int) ∧ xs.length / 2 = hh := ⟨xs.length / 2, by omega, rfl⟩
        have hhc : (hh : Int) ≤ c := by omega
        have hop : wOp a xs f = ⟨false, a, xs.take hh, none, 0⟩ := by unfold wOp toO byO; simp [h2, hhl]
        have HYL : Hid ((xs.take hh).length = hh) := by unfold Hid; rw [List.length_take]; omega
        have hyl : (xs.take hh).length ≤ 64 := by rw [HYL.out]; omega
        have HYR : Hid (∀ W, KeptT RDT B w W → Rd W W.heap.size A ((xs.take hh).map (Value.int .u8))) := by unfold Hid; intro W hW; rw [List.map_take]; exact (HRR.out W hW).take hh
        have HTT := Lib.hid hai
        have n2 : (f.kind == 2) = true := by simpa using h2
        have n3 : (f.kind == 3) = false := by rw [h2]; rfl
        clear hhl
        skip
        have HXX := Lib.hid (wr_hit (g := g) (LM := LM) (O := O) (force := force) HX.out h1 hop hyl)
        clear hop h1 hyl
        go_wp2_with fail
        refine (HHT.out a).mono ?_
        rintro e w4 ⟨rfl, hb4⟩
        obtain ⟨hd4, hp4, hk4⟩ := HD3.out w4 hb4
        cases hit : inL LM a
        · have HX2 := Lib.hid (HXX.out.1 hit)
          have HFF := Lib.hid (And.intro (hfin.out _ hd4 hp4 hk4.size) hk4)
          clear hit hd4 hp4 hk4
          go_wp2
          go_ret
          unfold RDWritePost
          rw [HE.out, HDS.out, HDL.out, HDO.out, HPE.out, HX.out, HXS.out, HX2.out.1, HX2.out.2]
          exact ⟨rfl, HFF.out⟩
        · have HX2 := Lib.hid (HXX.out.2 hit)
          have q5 : w4.cell? ⟨q, 5, none⟩ = some (.pointer (some ⟨p, 0, none⟩)) := (hd4.cell 5 (by decide)).trans rfl
          have HDO4 := rcdo_any (B' := w4.heap.size) ⟨false, a, (xs.take hh), A, c⟩ hd4.c HF.out ⟨HTT.out, HYR.out w4 hk4, show ((xs.take hh)).length ≤ 100000 by have := HYL.out; omega⟩ (Nat.le_refl _) (Nat.le_trans hBt hk4.size) (Nat.le_trans hon (by decide))
          simp only at HDO4
          try rw [HYL.out] at HDO4
          have HDO5 := Lib.hid HDO4
          have HD4 := Lib.hid (And.intro hd4 (And.intro hp4 hk4))
          clear hit hd4 hp4 hk4 HDO4
          go_wp2_with fail
          refine HDO5.out.mono ?_
          intro e w5 hpp
          unfold RDoPost OpV.bare at hpp
          simp only at hpp
          rw [HX2.out.1, if_pos rfl] at hpp
          obtain ⟨rfl, hc5, hk5⟩ := hpp
          have hd5 := HD4.out.1.withC hk5 hc5
          have hp5 := HD4.out.2.1.keptT hk5 (by unfold RT; decide)
          have hkk5 := HD4.out.2.2.trans (hk5.sub rt_rdt)
          cases force
          · have HFF := Lib.hid (And.intro (HMK1.out _ _ _ _ hd5 hp5 rfl HS.out hkk5.size) hkk5)
            clear hd5 hp5 hkk5 hc5 hk5 q5
            go_wp2
            go_ret
            unfold RDWritePost
            rw [HE.out, HDS.out, HDL.out, HDO.out, HPE.out, HX.out, HXS.out, HX2.out.2.1, HX2.out.2.2]
            exact ⟨rfl, HFF.out⟩
          · have r5 : w5.cell? ⟨q, 5, none⟩ = some (.pointer (some ⟨p, 0, none⟩)) := (hd5.cell 5 (by decide)).trans rfl
            have HFL := Lib.hid (rcflush_any hc5 HF.out (Nat.le_trans hBt hkk5.size) (by simp; omega))
            have HD5 := Lib.hid (And.intro hd5 (And.intro hp5 hkk5))
            clear hd5 hp5 hkk5 hc5 hk5 q5
            go_wp2_with fail
            refine HFL.out.mono ?_
            rintro e w6 ⟨rfl, hc6, hk6⟩
            have hd6 := HD5.out.1.withC hk6 hc6
            have hkk6 := HD5.out.2.2.trans (hk6.sub rt_rdt)
            have HFF := Lib.hid (And.intro (HMK1.out _ _ _ _ hd6 (HD5.out.2.1.keptT hk6 (by unfold RT; decide)) (playL_len _ _ _) (short_play _ HS.out) hkk6.size) hkk6)
            clear hd6 hkk6 hc6 hk6 r5
            go_wp2
            go_ret
            unfold RDWritePost
            rw [HE.out, HDS.out, HDL.out, HDO.out, HPE.out, HX.out, HXS.out, HX2.out.2.1, HX2.out.2.2]
            exact ⟨rfl, HFF.out⟩
      have n2 : (f.kind == 2) = false := by simpa using h2
      have HYL : Hid (xs.length = xs.length) := rfl
      have HYR := HRR
      have hyl := h64
      by_cases h3 : f.kind = 3
      · have hop : wOp a xs f = ⟨false, f.to_, xs, none, 0⟩ := by unfold wOp toO byO; simp [h3]
        have HTT := Lib.hid hfi
        have n3 : (f.kind == 3) = true := by simpa using h3
        skip
        have HXX := Lib.hid (wr_hit (g := g) (LM := LM) (O := O) (force := force) HX.out h1 hop hyl)
        clear hop h1 hyl
        go_wp2_with fail
        refine (HHT.out f.to_).mono ?_
        rintro e w4 ⟨rfl, hb4⟩
        obtain ⟨hd4, hp4, hk4⟩ := HD3.out w4 hb4
        cases hit : inL LM f.to_
        · have HX2 := Lib.hid (HXX.out.1 hit)
          have HFF := Lib.hid (And.intro (hfin.out _ hd4 hp4 hk4.size) hk4)
          clear hit hd4 hp4 hk4
          go_wp2
          go_ret
          unfold RDWritePost
          rw [HE.out, HDS.out, HDL.out, HDO.out, HPE.out, HX.out, HXS.out, HX2.out.1, HX2.out.2]
          exact ⟨rfl, HFF.out⟩
        · have HX2 := Lib.hid (HXX.out.2 hit)
          have q5 : w4.cell? ⟨q, 5, none⟩ = some (.pointer (some ⟨p, 0, none⟩)) := (hd4.cell 5 (by decide)).trans rfl
          have HDO4 := rcdo_any (B' := w4.heap.size) ⟨false, f.to_, xs, A, c⟩ hd4.c HF.out ⟨HTT.out, HYR.out w4 hk4, show (xs).length ≤ 100000 by have := HYL.out; omega⟩ (Nat.le_refl _) (Nat.le_trans hBt hk4.size) (Nat.le_trans hon (by decide))
          simp only at HDO4
          try rw [HYL.out] at HDO4
          have HDO5 := Lib.hid HDO4
          have HD4 := Lib.hid (And.intro hd4 (And.intro hp4 hk4))
          clear hit hd4 hp4 hk4 HDO4
          go_wp2_with fail
          refine HDO5.out.mono ?_
          intro e w5 hpp
          unfold RDoPost OpV.bare at hpp
          simp only at hpp
          rw [HX2.out.1, if_pos rfl] at hpp
          obtain ⟨rfl, hc5, hk5⟩ := hpp
          have hd5 := HD4.out.1.withC hk5 hc5
          have hp5 := HD4.out.2.1.keptT hk5 (by unfold RT; decide)
          have hkk5 := HD4.out.2.2.trans (hk5.sub rt_rdt)
          cases force
          · have HFF := Lib.hid (And.intro (HMK1.out _ _ _ _ hd5 hp5 rfl HS.out hkk5.size) hkk5)
            clear hd5 hp5 hkk5 hc5 hk5 q5
            go_wp2
            go_ret
            unfold RDWritePost
            rw [HE.out, HDS.out, HDL.out, HDO.out, HPE.out, HX.out, HXS.out, HX2.out.2.1, HX2.out.2.2]
            exact ⟨rfl, HFF.out⟩
          · have r5 : w5.cell? ⟨q, 5, none⟩ = some (.pointer (some ⟨p, 0, none⟩)) := (hd5.cell 5 (by decide)).trans rfl
            have HFL := Lib.hid (rcflush_any hc5 HF.out (Nat.le_trans hBt hkk5.size) (by simp; omega))
            have HD5 := Lib.hid (And.intro hd5 (And.intro hp5 hkk5))
            clear hd5 hp5 hkk5 hc5 hk5 q5
            go_wp2_with fail
            refine HFL.out.mono ?_
            rintro e w6 ⟨rfl, hc6, hk6⟩
            have hd6 := HD5.out.1.withC hk6 hc6
            have hkk6 := HD5.out.2.2.trans (hk6.sub rt_rdt)
            have HFF := Lib.hid (And.intro (HMK1.out _ _ _ _ hd6 (HD5.out.2.1.keptT hk6 (by unfold RT; decide)) (playL_len _ _ _) (short_play _ HS.out) hkk6.size) hkk6)
            clear hd6 hkk6 hc6 hk6 r5
            go_wp2
            go_ret
            unfold RDWritePost
            rw [HE.out, HDS.out, HDL.out, HDO.out, HPE.out, HX.out, HXS.out, HX2.out.2.1, HX2.out.2.2]
            exact ⟨rfl, HFF.out⟩
      have n3 : (f.kind == 3) = false := by simpa using h3
      have hop : wOp a xs f = ⟨false, a, xs, none, 0⟩ := by unfold wOp toO byO; simp [h3, h2]
      have HTT := Lib.hid hai
      skip
      have HXX := Lib.hid (wr_hit (g := g) (LM := LM) (O := O) (force := force) HX.out h1 hop hyl)
      clear hop h1 hyl
      go_wp2_with fail
      refine (HHT.out a).mono ?_
      rintro e w4 ⟨rfl, hb4⟩
      obtain ⟨hd4, hp4, hk4⟩ := HD3.out w4 hb4
      cases hit : inL LM a
      · have HX2 := Lib.hid (HXX.out.1 hit)
        have HFF := Lib.hid (And.intro (hfin.out _ hd4 hp4 hk4.size) hk4)
        clear hit hd4 hp4 hk4
        go_wp2
        go_ret
        unfold RDWritePost
        rw [HE.out, HDS.out, HDL.out, HDO.out, HPE.out, HX.out, HXS.out, HX2.out.1, HX2.out.2]
        exact ⟨rfl, HFF.out⟩
      · have HX2 := Lib.hid (HXX.out.2 hit)
        have q5 : w4.cell? ⟨q, 5, none⟩ = some (.pointer (some ⟨p, 0, none⟩)) := (hd4.cell 5 (by decide)).trans rfl
        have HDO4 := rcdo_any (B' := w4.heap.size) ⟨false, a, xs, A, c⟩ hd4.c HF.out ⟨HTT.out, HYR.out w4 hk4, show (xs).length ≤ 100000 by have := HYL.out; omega⟩ (Nat.le_refl _) (Nat.le_trans hBt hk4.size) (Nat.le_trans hon (by decide))
        simp only at HDO4
        try rw [HYL.out] at HDO4
        have HDO5 := Lib.hid HDO4
        have HD4 := Lib.hid (And.intro hd4 (And.intro hp4 hk4))
        clear hit hd4 hp4 hk4 HDO4
        go_wp2_with fail
        refine HDO5.out.mono ?_
        intro e w5 hpp
        unfold RDoPost OpV.bare at hpp
        simp only at hpp
        rw [HX2.out.1, if_pos rfl] at hpp
        obtain ⟨rfl, hc5, hk5⟩ := hpp
        have hd5 := HD4.out.1.withC hk5 hc5
        have hp5 := HD4.out.2.1.keptT hk5 (by unfold RT; decide)
        have hkk5 := HD4.out.2.2.trans (hk5.sub rt_rdt)
        cases force
        · have HFF := Lib.hid (And.intro (HMK1.out _ _ _ _ hd5 hp5 rfl HS.out hkk5.size) hkk5)
          clear hd5 hp5 hkk5 hc5 hk5 q5
          go_wp2
          go_ret
          unfold RDWritePost
          rw [HE.out, HDS.out, HDL.out, HDO.out, HPE.out, HX.out, HXS.out, HX2.out.2.1, HX2.out.2.2]
          exact ⟨rfl, HFF.out⟩
        · have r5 : w5.cell? ⟨q, 5, none⟩ = some (.pointer (some ⟨p, 0, none⟩)) := (hd5.cell 5 (by decide)).trans rfl
          have HFL := Lib.hid (rcflush_any hc5 HF.out (Nat.le_trans hBt hkk5.size) (by simp; omega))
          have HD5 := Lib.hid (And.intro hd5 (And.intro hp5 hkk5))
          clear hd5 hp5 hkk5 hc5 hk5 q5
          go_wp2_with fail
          refine HFL.out.mono ?_
          rintro e w6 ⟨rfl, hc6, hk6⟩
          have hd6 := HD5.out.1.withC hk6 hc6
          have hkk6 := HD5.out.2.2.trans (hk6.sub rt_rdt)
          have HFF := Lib.hid (And.intro (HMK1.out _ _ _ _ hd6 (HD5.out.2.1.keptT hk6 (by unfold RT; decide)) (playL_len _ _ _) (short_play _ HS.out) hkk6.size) hkk6)
          clear hd6 hkk6 hc6 hk6 r5
          go_wp2
          go_ret
          unfold RDWritePost
          rw [HE.out, HDS.out, HDL.out, HDO.out, HPE.out, HX.out, HXS.out, HX2.out.2.1, HX2.out.2.2]
          exact ⟨rfl, HFF.out⟩
    · have h64i : (64 : Int) < (xs.length : Int) := by omega
      have HX : Hid (wrE LM a xs = 7) := by unfold Hid wrE; rw [hin, if_neg h64]; rfl
      have HNH : Hid (wrLM g LM O a xs force f = LM ∧ wrO g LM O a xs force f = O ∧ wrS LM a xs bs = bs) := by
        have e0 : ¬ (wrE LM a xs = 0) := by rw [HX.out]; decide
        have e1 : wHit g LM O a xs f = false := by unfold wHit; rw [decide_eq_false e0]; rfl
        unfold Hid wrLM wrO wrS; rw [e1, if_neg e0]; exact ⟨rfl, rfl, rfl⟩
      have HFF := Lib.hid (And.intro (HMK1.out _ _ _ _ hd2 hp2 rfl HS.out hk2.size) hk2)
      clear hin hd2 hp2 hk2
      go_wp2
      go_ret
      unfold RDWritePost
      rw [HE.out, HDS.out, HDL.out, HDO.out, HPE.out, HX.out, HNH.out.1, HNH.out.2.1, HNH.out.2.2]
      exact ⟨rfl, HFF.out⟩
  · have HE : Hid (dWrE F s P LM key a xs = (begD F s P key).er) := by unfold Hid dWrE; rw [if_neg he]
    have HDS : Hid (dWrS F s P LM key a xs = (begD F s P key).s) := by unfold Hid dWrS; rw [if_neg he]
    have HDL : Hid (dWrLM g F s P LM O key a xs force = LM) := by unfold Hid dWrLM; rw [if_neg he]
    have HDO : Hid (dWrO g F s P LM O key a xs force = O) := by unfold Hid dWrO; rw [if_neg he]
    skip
    have e1 : ((begD F s P key).er != 0) = true := by simpa using he
    clear he
    go_enter Tryz.func31, Tryz.ntmps31
    go_wp2_with fail
    refine HBG.out.mono ?_
    rintro e w1 ⟨f, R', rfl, _, hd, hp, hrl, hk⟩
    unfold Flt.val
    have hbF : Below w1.heap.size w1 (w1.alloc (.cells #[.int .i64 f.at_, .int .i64 f.kind, .int .i64 f.to_] 64)) := (Below.refl _ _).alloc (Nat.le_refl _) _
    have HFI2 := Lib.hid (And.intro (HMK.out _ _ _ _ _ (hd.below0 hbF) (hp.below0 hbF) hrl rfl HS.out (Nat.le_trans hk.size hbF.size)) ((hk.sub rdp_rdt).thenBelow hbF))
    clear hd hp hk hbF
    generalize hbe : begD F s P key = b at *
    have HPE := Lib.hid hbe
    clear hbe
    obtain ⟨ber, bs, bP, fb⟩ := b
    simp only at *
    go_wp2
    go_ret
    unfold RDWritePost
    rw [HE.out, HDS.out, HDL.out, HDO.out, HPE.out]
    exact ⟨rfl, HFI2.out.1, HFI2.out.2⟩
end
end Go.Proofs.YtckdhhadlemakaaGreat
namespace Go.Proofs.YtckdhhadlemakaaGreat
set_option linter.unusedVariables false
open Go.RowKit

section
variable {w w' : World} {B C : Bd} {q pw p : Nat} {g : Geo} {F : List Flt} {s : DS} {P P' R : Pow} {LM : List Sec} {O : List OpV} {FA : Option Addr} {fc : Nat}
theorem RDPm.power {R' : Pow} (h : RDPm w B q pw g F s P LM O) (hp : RPow w' B pw R') (hr : RelP P' R') (hk : KeptT [107] B w w') : RDPm w' B q pw g F s P' LM O := by
  obtain ⟨⟨p, FA, fc, hd⟩, _, hf, hs, hB⟩ := h
  exact ⟨⟨p, FA, fc, hd.keptP hk⟩, ⟨R', hr, hp⟩, hf, hs, Nat.le_trans hB hk.size⟩
/-- A cell of the disk is stored. -/
theorem RDPm.store (h : RDPm w B q pw g F s P LM O) (j : Nat) (v : Value) (s' : DS) (e : ∀ p FA fc, (rObj g s p pw FA F.length fc).set j v = rObj g s' p pw FA F.length fc) :
    RDPm (w.setCell ⟨q, j, none⟩ v) B q pw g F s' P LM O ∧ KeptT RDT B w (w.setCell ⟨q, j, none⟩ v) := by
  obtain ⟨⟨p, FA, fc, hd⟩, ⟨R, hr, hp⟩, hf, hs, hB⟩ := h
  have h' := hd.store j v s' (e p FA fc)
  exact ⟨⟨⟨p, FA, fc, h'.1⟩, ⟨R, hr, hp.keptT h'.2 (by decide)⟩, hf, hs, Nat.le_trans hB h'.2.size⟩, h'.2.sub rd_rdt⟩
theorem RDPm.cells (h : RDPm w B q pw g F s P LM O) : ∃ p R, RelP P R ∧ (w.cell? ⟨q, 5, none⟩ = some (.pointer (some ⟨p, 0, none⟩)) ∧ w.cell? ⟨q, 7, none⟩ = some (.pointer (some ⟨pw, 0, none⟩)) ∧ w.cell? ⟨q, 9, none⟩ = some (.bool s.dead) ∧ w.cell? ⟨q, 10, none⟩ = some (.int .i64 s.seen)) ∧
    (w.cell? ⟨pw, 0, none⟩ = some (.bool R.off) ∧ w.cell? ⟨pw, 3, none⟩ = some (.int .i64 R.fails)) := by
  obtain ⟨⟨p, FA, fc, hd⟩, ⟨R, hr, hp⟩, hf, hs, hB⟩ := h
  exact ⟨p, R, hr, ⟨(hd.cell 5 (by decide)).trans rfl, (hd.cell 7 (by decide)).trans rfl, (hd.cell 9 (by decide)).trans rfl, (hd.cell 10 (by decide)).trans rfl⟩, hp.cells.1, hp.cells.2.2.2⟩
theorem RDPm.free (h : RDPm w B q pw g F s P LM O) (j : Nat) : w.frozen? ⟨q, j, none⟩ = false := by
  obtain ⟨⟨p, FA, fc, hd⟩, _⟩ := h; exact hd.free j
theorem rdready_any (h : RDPm w B q pw g F s P LM O) (hd : s.dead = false) : Calls Tryz.prog 69 #[.pointer (some ⟨q, 0, none⟩)] w fun e w' => e = .returned (.bool (decide (stE s P = 0))) ∧ Below w.heap.size w w' := by
  obtain ⟨⟨p, FA, fc, h1⟩, ⟨R, hr, hp⟩, _⟩ := h
  have e := (rel_ready s hr hd).1
  have : decide (stE s P = 0) = readyB s R := by
    cases hb : readyB s R
    · rw [hb] at e; exact decide_eq_false (fun h => by have := e.1 h; cases this)
    · rw [hb] at e; exact decide_eq_true (e.2 rfl)
  rw [this]
  exact rready_any h1 hp
set_option maxHeartbeats 1000000 in
theorem rdacquire_any (key : Int) (h : RDPm w B q pw g F s P LM O) : Calls Tryz.prog 34 #[.pointer (some ⟨q, 0, none⟩), .int .u64 key] w fun e w' => e = .returned (.int .i64 (stE s P)) ∧ RDPm w' B q pw g F (acqS s P key) P LM O ∧ KeptT RDT B w w' := by
  obtain ⟨p, R, hr, ⟨c5, c7, c9, c10⟩, p0, p3⟩ := h.cells
  cases hd : s.dead
  · rw [hd] at c9
    have HR := rdready_any h hd
    by_cases h1 : stE s P = 0
    · have HS : Hid (acqS s P key = { s with key := key }) := by unfold Hid acqS; rw [if_pos h1]
      have HE := Lib.hid h1
      rw [decide_eq_true h1] at HR
      have HRD := Lib.hid HR
      have HST : Hid (∀ W, Below w.heap.size w W → W.frozen? ⟨q, 8, none⟩ = false ∧ W.cell? ⟨q, 8, none⟩ = some (.int .u64 s.key) ∧ RDPm (W.setCell ⟨q, 8, none⟩ (.int .u64 key)) B q pw g F { s with key := key } P LM O ∧ KeptT RDT B w (W.setCell ⟨q, 8, none⟩ (.int .u64 key))) := by
        unfold Hid; intro W hW
        have h' := (h.below0 hW).store 8 (.int .u64 key) { s with key := key } (fun _ _ _ => rfl)
        obtain ⟨⟨p, FA, fc, hd1⟩, _⟩ := h.below0 hW
        exact ⟨hd1.free 8, (hd1.cell 8 (by decide)).trans rfl, h'.1, (KeptT.bel hW).trans h'.2⟩
      clear h HR h1 hd
      go_enter Tryz.func34, Tryz.ntmps34
      go_wp2_with fail
      refine HRD.out.mono ?_
      rintro e w1 ⟨rfl, hb1⟩
      obtain ⟨f8, c8, hF⟩ := HST.out w1 hb1
      have HF := Lib.hid hF
      clear hF
      go_wp2
      go_ret
      rw [HE.out, HS.out]
      exact ⟨rfl, HF.out⟩
    · have HS : Hid (acqS s P key = s) := by unfold Hid acqS; rw [if_neg h1]
      have h13 := (rel_ready s hr hd).2 h1
      have HE := Lib.hid h13
      rw [decide_eq_false h1] at HR
      have HRD := Lib.hid HR
      have HST := Lib.hid (fun W (hW : Below w.heap.size w W) => (⟨h.below0 hW, KeptT.bel hW⟩ : RDPm W B q pw g F s P LM O ∧ KeptT RDT B w W))
      clear h HR h1 h13 hd
      go_enter Tryz.func34, Tryz.ntmps34
      go_wp2_with fail
      refine HRD.out.mono ?_
      rintro e w1 ⟨rfl, hb1⟩
      have HF := Lib.hid (HST.out w1 hb1)
      go_wp2
      go_ret
      rw [HE.out, HS.out]
      exact ⟨rfl, HF.out⟩
  · rw [hd] at c9
    have h14 : stE s P = 14 := by unfold stE; rw [hd]; rfl
    have HS : Hid (acqS s P key = s) := by unfold Hid acqS; rw [if_neg (by rw [h14]; decide)]
    have HE := Lib.hid h14
    have HF := Lib.hid (And.intro h (KeptT.refl RDT B w))
    clear h h14 hd
    go_enter Tryz.func34, Tryz.ntmps34
    go_wp2
    go_ret
    rw [HE.out, HS.out]
    exact ⟨rfl, HF.out⟩
set_option maxHeartbeats 1000000 in
theorem rdrestart_any (keep : Int) (h : RDPm w B q pw g F s P LM O) (hn : O.length ≤ 100000) : Calls Tryz.prog 35 #[.pointer (some ⟨q, 0, none⟩), .int .i64 keep] w fun e w' => e = .returned (.int .i64 (rstE s P)) ∧ RDPm w' B q pw g F (rstS s P) P (rstLM g s P LM O keep) (rstO s P O) ∧ KeptT RDT B w w' := by
  have HH := Lib.hid h
  obtain ⟨⟨p, FA, fc, hd⟩, ⟨R, hr, hp⟩, hf, hs, hB⟩ := h
  have c5 := (hd.cell 5 (by decide)).trans (show _ = some (Value.pointer (some ⟨p, 0, none⟩)) from rfl)
  have c7 := (hd.cell 7 (by decide)).trans (show _ = some (Value.pointer (some ⟨pw, 0, none⟩)) from rfl)
  have c9 := (hd.cell 9 (by decide)).trans (show _ = some (Value.bool s.dead) from rfl)
  obtain ⟨p0, _, _, p3⟩ := hp.cells
  cases hdd : s.dead
  · rw [hdd] at c9
    cases ho : R.off
    · rw [ho] at p0
      have hpo : P.off = false := hr.1.trans ho
      have HE : Hid (rstE s P = 8) := by unfold Hid rstE; rw [hdd, hpo]; rfl
      clear hd hp hf hs
      go_enter Tryz.func35, Tryz.ntmps35
      go_wp2
      go_ret
      unfold rstS rstLM rstO
      rw [HE.out]
      exact ⟨rfl, HH.out, KeptT.refl _ _ _⟩
    · rw [ho] at p0
      have hpo : P.off = true := hr.1.trans ho
      have HE : Hid (rstE s P = 0) := by unfold Hid rstE; rw [hdd, hpo]; rfl
      have HC := Lib.hid (rccut_any keep hd.c hf hB hn)
      have hfe : R.fails = P.fails := hr.2.2.1.symm
      have HFX : Hid (∀ W, RCacheM W B p g (playL g LM (O.take (cutN keep O.length))) [] → KeptT RT B w W → (W.cell? ⟨q, 7, none⟩ = some (.pointer (some ⟨pw, 0, none⟩)) ∧ W.cell? ⟨q, 10, none⟩ = some (.int .i64 s.seen) ∧ W.cell? ⟨pw, 3, none⟩ = some (.int .i64 P.fails) ∧ W.frozen? ⟨q, 10, none⟩ = false) ∧
          RDPm (W.setCell ⟨q, 10, none⟩ (.int .i64 P.fails)) B q pw g F { s with seen := P.fails } P (playL g LM (O.take (cutN keep O.length))) [] ∧ KeptT RDT B w (W.setCell ⟨q, 10, none⟩ (.int .i64 P.fails))) := by
        unfold Hid; intro W hc hkW
        have h1 := hd.withC hkW hc
        have hp1 := hp.keptT hkW (by unfold RT; decide)
        have h' := h1.store 10 (.int .i64 P.fails) { s with seen := P.fails } rfl
        have e3 := hp1.cells.2.2.2
        rw [hfe] at e3
        exact ⟨⟨(h1.cell 7 (by decide)).trans rfl, (h1.cell 10 (by decide)).trans rfl, e3, h1.free 10⟩, ⟨⟨p, FA, fc, h'.1⟩, ⟨R, hr, hp1.keptT h'.2 (by decide)⟩, hf.len (playL_len _ _ _), short_play _ hs, Nat.le_trans (Nat.le_trans hB hkW.size) h'.2.size⟩, (hkW.sub rt_rdt).trans (h'.2.sub rd_rdt)⟩
      clear hd hp hf hs
      go_enter Tryz.func35, Tryz.ntmps35
      go_wp2_with fail
      refine HC.out.mono ?_
      rintro e w1 ⟨rfl, hc1, hk1⟩
      obtain ⟨⟨x7, x10, y3, f10⟩, hF⟩ := HFX.out w1 hc1 hk1
      have HF := Lib.hid hF
      clear hF hc1 hk1
      go_wp2
      go_ret
      unfold rstS rstLM rstO
      rw [HE.out]
      exact ⟨rfl, HF.out⟩
  · rw [hdd] at c9
    have HE : Hid (rstE s P = 14) := by unfold Hid rstE; rw [hdd]; rfl
    clear hd hp hf hs
    go_enter Tryz.func35, Tryz.ntmps35
    go_wp2
    go_ret
    unfold rstS rstLM rstO
    rw [HE.out]
    exact ⟨rfl, HH.out, KeptT.refl _ _ _⟩
end
end Go.Proofs.YtckdhhadlemakaaGreat
