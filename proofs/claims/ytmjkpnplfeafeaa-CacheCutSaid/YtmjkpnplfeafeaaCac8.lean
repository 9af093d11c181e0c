/-
  WHAT IS SHOWN: what fair, start and play of tegulalaw12 return and leave. Conditions: the steps can be read; the caches lie in memory.
-/
import Derived.Test.YtmjkpnplfeafeaaCac6
import Derived.Test.YtmjkpnplfeafeaaCac7
import Derived.Test.YtmjkpnplfeafeaaMed10
namespace Go.Proofs.Ytmjkpnplfeafeaa
set_option linter.unusedVariables false
open Go.RowKit

/-- A step. -/
structure StepV where
  kind : Int
  o : OpV
  keep : Int
def StepV.cells (s : StepV) : List Value := [.int .u8 s.kind, .bool s.o.er, .int .i64 s.o.at_, .slice s.o.A s.o.xs.length s.o.c, .int .i64 s.keep]
theorem stepcells_len (s : StepV) : s.cells.length = 5 := rfl
def flatSteps (l : List StepV) : List Value := l.flatMap StepV.cells
theorem steps_at {w : World} {B : Nat} {A : Option Addr} {l : List StepV} (h : Rd w B A (flatSteps l)) {k : Nat} (hk : k < l.length) : ∃ g o, A = some ⟨g, o, none⟩ ∧ g < B ∧ w.cell? ⟨g, o + k * 5, none⟩ = some (.int .u8 l[k].kind) ∧ w.cell? ⟨g, o + k * 5 + 1, none⟩ = some (.bool l[k].o.er) ∧ w.cell? ⟨g, o + k * 5 + 2, none⟩ = some (.int .i64 l[k].o.at_) ∧
    w.cell? ⟨g, o + k * 5 + 3, none⟩ = some (.slice l[k].o.A l[k].o.xs.length l[k].o.c) ∧ w.cell? ⟨g, o + k * 5 + 4, none⟩ = some (.int .i64 l[k].keep) := by
  have e : ∀ t, t < 5 → (flatSteps l)[k * 5 + t]? = l[k].cells[t]? := fun t ht => by
    unfold flatSteps; rw [flat_get _ 5 stepcells_len l k t ht, List.getElem?_eq_getElem hk]; rfl
  obtain ⟨g, o, e0, hg, h0⟩ := h (k * 5 + 0) _ (e 0 (by omega))
  obtain ⟨g1, o1, e1, _, h1⟩ := h (k * 5 + 1) _ (e 1 (by omega))
  obtain ⟨g2, o2, e2, _, h2⟩ := h (k * 5 + 2) _ (e 2 (by omega))
  obtain ⟨g3, o3, e3, _, h3⟩ := h (k * 5 + 3) _ (e 3 (by omega))
  obtain ⟨g4, o4, e4, _, h4⟩ := h (k * 5 + 4) _ (e 4 (by omega))
  rw [e0] at e1 e2 e3 e4
  injection e1 with e1; injection e1 with e1 e1'; subst e1; subst e1'
  injection e2 with e2; injection e2 with e2 e2'; subst e2; subst e2'
  injection e3 with e3; injection e3 with e3 e3'; subst e3; subst e3'
  injection e4 with e4; injection e4 with e4 e4'; subst e4; subst e4'
  exact ⟨g, o, e0, hg, h0, h1, h2, h3, h4⟩
def shortSteps (l : List StepV) : Bool := l.all fun s => decide (s.o.xs.length ≤ 100)
theorem shortSteps_iff (l : List StepV) : shortSteps l = true ↔ ∀ s ∈ l, s.o.xs.length ≤ 100 := by unfold shortSteps; simp
def fair12B (g : Geo) (l : List StepV) : Bool := (validG g && decide (szN g ≤ 150) && decide (l.length ≤ 40)) && shortSteps l
set_option maxHeartbeats 800000 in
theorem fair12_any (g : Geo) (l : List StepV) (A : Option Addr) (c : Nat) (w : World) (hl : Rd w w.heap.size A (flatSteps l)) (hn : l.length ≤ 9223372036854775807) (hx : ∀ s ∈ l, s.o.xs.length ≤ 9223372036854775807) :
    Calls Try.prog 36 #[.agg #[.int .i64 g.random, .int .i64 g.bands, .int .i64 g.tracks, .int .i64 g.sectors, .int .i64 g.overlap], .slice A l.length c] w fun e w' => e = .returned (.bool (fair12B g l)) ∧ Below w.heap.size w w' := by
  have HR := Lib.hid hl
  have HX := Lib.hid hx
  clear hl hx
  cases hv : validG g
  · have HF : Hid (fair12B g l = false) := by unfold Hid fair12B; rw [hv]; rfl
    clear hn
    go_enter Try.func36, Try.ntmps36
    go_wp2_with fail
    refine (rgvalid_any g _).mono ?_
    rintro e w1 ⟨rfl, hb1⟩
    rw [hv]
    clear hv
    go_wp2
    go_ret
    exact ⟨by rw [HF.out]; rfl, ((Below.refl _ _).alloc (Nat.le_refl _) _).trans (hb1.mono (by simp))⟩
  · have HS := Lib.hid (fun W => rsz_any g W)
    by_cases hz : szN g ≤ 150
    · by_cases h40 : l.length ≤ 40
      · have HF : Hid (fair12B g l = shortSteps l) := by unfold Hid fair12B; rw [hv, decide_eq_true hz, decide_eq_true h40]; rfl
        generalize szN g = Z at *
        go_enter Try.func36, Try.ntmps36
        go_wp2_with fail
        refine (rgvalid_any g _).mono ?_
        rintro e w1 ⟨rfl, hb1⟩
        rw [hv]
        have PG := (Cells5.new w 23 _ _ _ _ _).below hb1 (by simp)
        have p0 := PG.c0; have p1 := PG.c1; have p2 := PG.c2; have p3 := PG.c3; have p4 := PG.c4
        have hbl1 : Below w.heap.size w w1 := ((Below.refl _ _).alloc (Nat.le_refl _) _).trans (hb1.mono (by simp))
        clear hv
        go_wp2_with fail
        refine (HS.out _).mono ?_
        rintro e w2 ⟨rfl, hb2⟩
        have hbl2 := hbl1.trans (hb2.mono hbl1.size)
        have hz2 : ¬ (150 < Z) := by omega
        have hll : (l.length : Int) ≤ 40 := by omega
        clear p0 p1 p2 p3 p4 hz
        go_wp2
        go_loop [5] (fun v => ∃ k : Nat, k ≤ l.length ∧ v = .int .i64 k ∧ Hid (∀ s ∈ l.take k, s.o.xs.length ≤ 100)) (fun v => l.length - (intOf v).toNat)
        case atStart => exact ⟨0, Nat.zero_le _, rfl, by unfold Hid; simp⟩
        case round =>
          obtain ⟨k, hk, rfl, HA⟩ := hrel
          by_cases hlt : k < l.length
          · obtain ⟨go, oo, rfl, _, c0, c1, c2, c3, c4⟩ := steps_at (HR.out.below hbl2 (Nat.le_refl _)) hlt
            have hb := HX.out _ (List.getElem_mem hlt)
            have HT := Lib.hid (List.take_succ_eq_append_getElem hlt)
            by_cases h100 : l[k].o.xs.length ≤ 100
            · go_wp2
              go_round
              case rel =>
                refine ⟨k + 1, by omega, by go_num, ?_⟩
                unfold Hid
                intro o ho
                rw [HT.out, List.mem_append] at ho
                rcases ho with ho | ho
                · exact HA.out o ho
                · simp only [List.mem_singleton] at ho; subst ho; exact h100
              case measure => simp [intOf]; omega
            · have HFF : Hid (shortSteps l = false) := by
                unfold Hid
                cases hs : shortSteps l
                · rfl
                · have := (shortSteps_iff l).1 hs _ (List.getElem_mem hlt); omega
              go_wp2
              go_ret
              exact ⟨by rw [HF.out, HFF.out]; rfl, hbl2⟩
          · have HFF : Hid (shortSteps l = true) := by
              unfold Hid
              have := HA.out
              rw [List.take_of_length_le (by omega)] at this
              exact (shortSteps_iff l).2 this
            go_wp2
            go_ret
            exact ⟨by rw [HF.out, HFF.out]; rfl, hbl2⟩
      · have HF : Hid (fair12B g l = false) := by unfold Hid fair12B; rw [decide_eq_false h40]; simp
        generalize szN g = Z at *
        go_enter Try.func36, Try.ntmps36
        go_wp2_with fail
        refine (rgvalid_any g _).mono ?_
        rintro e w1 ⟨rfl, hb1⟩
        rw [hv]
        have PG := (Cells5.new w 23 _ _ _ _ _).below hb1 (by simp)
        have p0 := PG.c0; have p1 := PG.c1; have p2 := PG.c2; have p3 := PG.c3; have p4 := PG.c4
        have hbl1 : Below w.heap.size w w1 := ((Below.refl _ _).alloc (Nat.le_refl _) _).trans (hb1.mono (by simp))
        clear hv
        go_wp2_with fail
        refine (HS.out _).mono ?_
        rintro e w2 ⟨rfl, hb2⟩
        have hbl2 := hbl1.trans (hb2.mono hbl1.size)
        have hz2 : ¬ (150 < Z) := by omega
        have hll : (40 : Int) < (l.length : Int) := by omega
        clear p0 p1 p2 p3 p4 hz h40
        go_wp2
        go_ret
        exact ⟨by rw [HF.out]; rfl, hbl2⟩
    · have HF : Hid (fair12B g l = false) := by unfold Hid fair12B; rw [decide_eq_false hz]; simp
      generalize szN g = Z at *
      go_enter Try.func36, Try.ntmps36
      go_wp2_with fail
      refine (rgvalid_any g _).mono ?_
      rintro e w1 ⟨rfl, hb1⟩
      rw [hv]
      have PG := (Cells5.new w 23 _ _ _ _ _).below hb1 (by simp)
      have p0 := PG.c0; have p1 := PG.c1; have p2 := PG.c2; have p3 := PG.c3; have p4 := PG.c4
      have hbl1 : Below w.heap.size w w1 := ((Below.refl _ _).alloc (Nat.le_refl _) _).trans (hb1.mono (by simp))
      clear hv
      go_wp2_with fail
      refine (HS.out _).mono ?_
      rintro e w2 ⟨rfl, hb2⟩
      have hbl2 := hbl1.trans (hb2.mono hbl1.size)
      have hz2 : (150 < Z) := by omega
      clear p0 p1 p2 p3 p4 hz
      go_wp2
      go_ret
      exact ⟨by rw [HF.out]; rfl, hbl2⟩
theorem fair12_parts {g : Geo} {l : List StepV} (h : fair12B g l = true) : validG g = true ∧ l.length ≤ 40 ∧ ∀ s ∈ l, s.o.xs.length ≤ 100 := by
  unfold fair12B at h
  simp only [Bool.and_eq_true, decide_eq_true_eq] at h
  exact ⟨h.1.1.1, h.1.2, (shortSteps_iff l).1 h.2⟩
/-- What start returns. -/
def StartPost (w : World) (g : Geo) (e : Ending) (w' : World) : Prop :=
  ∃ p d, e = .returned (.tuple #[.pointer (some ⟨p, 0, none⟩), .pointer (some ⟨d, 0, none⟩), .bool true]) ∧ CacheM w' w.heap.size p g (blankL g) [] ∧ RCacheM w' w.heap.size d g (blankL g) [] ∧ Below w.heap.size w w'
set_option maxRecDepth 100000 in
set_option maxHeartbeats 1000000 in
theorem start_any (g : Geo) (hv : validG g = true) (w : World) : Calls Try.prog 43 #[.agg #[.int .i64 g.random, .int .i64 g.bands, .int .i64 g.tracks, .int .i64 g.sectors, .int .i64 g.overlap]] w (StartPost w g) := by
  have HF := Lib.hid (blank_fit ((validG_iff g).1 hv))
  have HN := Lib.hid (fun W => new_yes g hv W)
  have HRN := Lib.hid (fun W => rnew_yes g hv W)
  have hb0 : Below w.heap.size w (w.alloc (.cells #[.int .i64 g.random, .int .i64 g.bands, .int .i64 g.tracks, .int .i64 g.sectors, .int .i64 g.overlap] 23)) := (Below.refl _ _).alloc (Nat.le_refl _) _
  clear hv
  go_enter Try.func43, Try.ntmps43
  go_wp2_with fail
  refine (HN.out _).mono ?_
  rintro e w1 ⟨m, bs, rfl, hm, hmb, hbb, hb1⟩
  have HM := Lib.hid hm
  have PG := (Cells5.new w 23 (.int .i64 g.random) (.int .i64 g.bands) (.int .i64 g.tracks) (.int .i64 g.sectors) (.int .i64 g.overlap)).below hb1 (by simp)
  have p0 := PG.c0; have p1 := PG.c1; have p2 := PG.c2; have p3 := PG.c3; have p4 := PG.c4
  have hbl1 := hb0.trans (hb1.mono hb0.size)
  clear hm
  go_wp2_with fail
  refine (HRN.out _).mono ?_
  rintro e w2 ⟨n, rs, rfl, hn, hnb, hrb, hb2⟩
  have HRM := Lib.hid hn
  have hbl2 := hbl1.trans (hb2.mono hbl1.size)
  have HM2 := Lib.hid (HM.out.below0 hb2)
  clear hn p0 p1 p2 p3 p4 PG
  go_wp2_with fail
  refine (cnew_any HM2.out HF.out).mono ?_
  rintro e w3 ⟨p, rfl, hp, hb3⟩
  have hbl3 := hbl2.trans (hb3.mono hbl2.size)
  have HP := Lib.hid hp
  have HRM3 := Lib.hid (HRM.out.below0 hb3)
  clear hp
  go_wp2_with fail
  refine (rcnew_any HRM3.out HF.out).mono ?_
  rintro e w4 ⟨d, rfl, hd, hb4⟩
  have hbl4 := hbl3.trans (hb4.mono hbl3.size)
  have HP4 := Lib.hid ((HP.out.below0 hb4).mono hbl2.size)
  have HD4 := Lib.hid (hd.mono hbl3.size)
  clear hd
  go_wp2
  go_ret3
  exact ⟨p, d, rfl, HP4.out, HD4.out, hbl4⟩
end Go.Proofs.Ytmjkpnplfeafeaa
