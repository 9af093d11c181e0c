/-
  WHAT IS SHOWN: what fair of tegulalaw14 returns. Conditions: the faults and the acts can be read.
-/
import Derived.Test.YtckdhhadlemakaaDisk17
import Derived.Test.YtckdhhadlemakaaDisk12
namespace Go.Proofs.Ytckdhhadlemakaa
set_option linter.unusedVariables false
open Go.RowKit

def shortA (l : List ActV) : Bool := l.all fun a => decide (a.xs.length ≤ 100)
theorem shortA_iff (l : List ActV) : shortA l = true ↔ ∀ a ∈ l, a.xs.length ≤ 100 := by unfold shortA; simp
def fair14B (g : Geo) (l0 l1 : List Flt) (acts : List ActV) : Bool := (validG g && (decide (szN g ≤ 120) && (decide (acts.length ≤ 60) && (decide (l0.length ≤ 20) && decide (l1.length ≤ 20))))) && (shortA acts && (validF l0 && validF l1))
set_option maxRecDepth 100000 in
set_option maxHeartbeats 4000000 in
theorem fair14_any (g : Geo) (l0 l1 : List Flt) (acts : List ActV) (A0 A1 AA : Option Addr) (c0 c1 ca : Nat) (w : World) (h0 : Rd w w.heap.size A0 (flatF l0)) (h1 : Rd w w.heap.size A1 (flatF l1)) (ha : Rd w w.heap.size AA (flatA acts))
    (n0 : l0.length ≤ 9223372036854775807) (n1 : l1.length ≤ 9223372036854775807) (na : acts.length ≤ 9223372036854775807) (nx : ∀ a ∈ acts, a.xs.length ≤ 9223372036854775807) :
    Calls Try.prog 35 #[.agg #[.int .i64 g.random, .int .i64 g.bands, .int .i64 g.tracks, .int .i64 g.sectors, .int .i64 g.overlap, .slice A0 l0.length c0, .slice A1 l1.length c1, .slice AA acts.length ca]] w fun e w' => e = .returned (.bool (fair14B g l0 l1 acts)) ∧ Below w.heap.size w w' := by
  have hb0 : Below w.heap.size w (w.alloc (.cells #[.int .i64 g.random, .int .i64 g.bands, .int .i64 g.tracks, .int .i64 g.sectors, .int .i64 g.overlap, .slice A0 l0.length c0, .slice A1 l1.length c1, .slice AA acts.length ca] 64)) := (Below.refl _ _).alloc (Nat.le_refl _) _
  have o0 := heap_alloc_new w (.cells #[.int .i64 g.random, .int .i64 g.bands, .int .i64 g.tracks, .int .i64 g.sectors, .int .i64 g.overlap, .slice A0 l0.length c0, .slice A1 l1.length c1, .slice AA acts.length ca] 64)
  have HBX : Hid (∀ W, Below (w.heap.size + 1) (w.alloc (.cells #[.int .i64 g.random, .int .i64 g.bands, .int .i64 g.tracks, .int .i64 g.sectors, .int .i64 g.overlap, .slice A0 l0.length c0, .slice A1 l1.length c1, .slice AA acts.length ca] 64)) W →
      Below w.heap.size w W ∧ W.cell? ⟨w.heap.size, 0, none⟩ = some (.int .i64 g.random) ∧ W.cell? ⟨w.heap.size, 1, none⟩ = some (.int .i64 g.bands) ∧ W.cell? ⟨w.heap.size, 2, none⟩ = some (.int .i64 g.tracks) ∧ W.cell? ⟨w.heap.size, 3, none⟩ = some (.int .i64 g.sectors) ∧ W.cell? ⟨w.heap.size, 4, none⟩ = some (.int .i64 g.overlap) ∧
      W.cell? ⟨w.heap.size, 5, none⟩ = some (.slice A0 l0.length c0) ∧ W.cell? ⟨w.heap.size, 6, none⟩ = some (.slice A1 l1.length c1) ∧ W.cell? ⟨w.heap.size, 7, none⟩ = some (.slice AA acts.length ca) ∧ w.heap.size + 1 ≤ W.heap.size) := by
    unfold Hid; intro W hW
    have q := belObj hW o0 (by omega)
    exact ⟨hb0.trans (hW.mono (by omega)), by rw [cell_of_row _ _ _ _ _ _ q]; rfl, by rw [cell_of_row _ _ _ _ _ _ q]; rfl, by rw [cell_of_row _ _ _ _ _ _ q]; rfl, by rw [cell_of_row _ _ _ _ _ _ q]; rfl, by rw [cell_of_row _ _ _ _ _ _ q]; rfl, by rw [cell_of_row _ _ _ _ _ _ q]; rfl, by rw [cell_of_row _ _ _ _ _ _ q]; rfl, by rw [cell_of_row _ _ _ _ _ _ q]; rfl, by have := hW.size; simpa using this⟩
  have HGV := Lib.hid (fun W => rgvalid_any g W)
  have HSZ := Lib.hid (fun W => rsz_any g W)
  have HV0 : Hid (∀ W, Below w.heap.size w W → Calls Try.prog 28 #[.slice A0 l0.length c0] W fun e w' => e = .returned (.bool (validF l0)) ∧ Below W.heap.size W w') := by
    unfold Hid; intro W hW; exact rfvalid_any l0 A0 c0 W ((h0.below hW (Nat.le_refl _)).more hW.size) n0
  have HV1 : Hid (∀ W, Below w.heap.size w W → Calls Try.prog 28 #[.slice A1 l1.length c1] W fun e w' => e = .returned (.bool (validF l1)) ∧ Below W.heap.size W w') := by
    unfold Hid; intro W hW; exact rfvalid_any l1 A1 c1 W ((h1.below hW (Nat.le_refl _)).more hW.size) n1
  have HRA := Lib.hid ha
  have HNX := Lib.hid nx
  clear h0 h1 ha nx o0
  obtain ⟨_, x0, x1, x2, x3, x4, x5, x6, x7, _⟩ := HBX.out _ (Below.refl _ _)
  cases hv : validG g
  · have HF : Hid (fair14B g l0 l1 acts = false) := by unfold Hid fair14B; rw [hv]; rfl
    rw [hv] at HGV
    clear hv
    skip
    go_enter Try.func35, Try.ntmps35
    go_wp2_with fail
    refine (HGV.out _).mono ?_
    rintro e w1 ⟨rfl, hb1⟩
    have hbc1 := hb1
    rw [World.size_alloc] at hbc1
    clear x0 x1 x2 x3 x4 x5 x6 x7
    obtain ⟨hbw1, x0, x1, x2, x3, x4, x5, x6, x7, hz1⟩ := HBX.out w1 hbc1
    go_wp2
    go_ret
    exact ⟨by rw [HF.out]; rfl, hbw1⟩
  rw [hv] at HGV
  by_cases hz : szN g ≤ 120
  · by_cases h60 : acts.length ≤ 60
    · by_cases h20 : l0.length ≤ 20
      · by_cases h21 : l1.length ≤ 20
        · have HF : Hid (fair14B g l0 l1 acts = (shortA acts && (validF l0 && validF l1))) := by unfold Hid fair14B; rw [hv, decide_eq_true hz, decide_eq_true h60, decide_eq_true h20, decide_eq_true h21]; rfl
          generalize szN g = Z at *
          clear hv
          skip
          go_enter Try.func35, Try.ntmps35
          go_wp2_with fail
          refine (HGV.out _).mono ?_
          rintro e w1 ⟨rfl, hb1⟩
          have hbc1 := hb1
          rw [World.size_alloc] at hbc1
          clear x0 x1 x2 x3 x4 x5 x6 x7
          obtain ⟨hbw1, x0, x1, x2, x3, x4, x5, x6, x7, hz1⟩ := HBX.out w1 hbc1
          go_wp2_with fail
          refine (HSZ.out _).mono ?_
          rintro e w2 ⟨rfl, hb2⟩
          have hbc2 := hbc1.trans (hb2.mono hz1)
          clear x0 x1 x2 x3 x4 x5 x6 x7
          obtain ⟨hbw2, x0, x1, x2, x3, x4, x5, x6, x7, hz2⟩ := HBX.out w2 hbc2
          have z1 : ¬ (120 < Z) := by omega
          have z2 : (acts.length : Int) ≤ 60 := by omega
          have z3 : (l0.length : Int) ≤ 20 := by omega
          have z4 : (l1.length : Int) ≤ 20 := by omega
          clear hz h60 h20 h21
          go_wp2
          go_loop [3] (fun v => ∃ k : Nat, k ≤ acts.length ∧ v = .int .i64 k ∧ Hid (∀ i (hi : i < acts.length), i < k → acts[i].xs.length ≤ 100)) (fun v => acts.length - (intOf v).toNat)
          case atStart => exact ⟨0, Nat.zero_le _, rfl, Lib.hid (fun i _ h => by omega)⟩
          case round =>
            obtain ⟨k, hk, rfl, hsh⟩ := hrel
            by_cases hlt : k < acts.length
            · obtain ⟨ga, oa, hAA, hga, hc⟩ := acts_at (HRA.out.below hbw2 (Nat.le_refl _)) hlt
              have c4 := hc 4 _ rfl
              have HN4 := Lib.hid (HNX.out acts[k] (List.getElem_mem hlt))
              have k0 : (0 : Int) ≤ k := by omega
              have k1 : (k : Int) < acts.length := by omega
              subst hAA
              clear hc
              by_cases hx : acts[k].xs.length ≤ 100
              · have hx1 : ¬ ((100 : Int) < (acts[k].xs.length : Int)) := by omega
                have HS1 : Hid (∀ i (hi : i < acts.length), i < k + 1 → acts[i].xs.length ≤ 100) := by
                  unfold Hid; intro i hi h
                  by_cases e : i = k
                  · subst e; exact hx
                  · exact hsh.out i hi (by omega)
                clear hx hsh
                generalize acts[k] = a at *
                go_wp2
                go_round
                case rel => exact ⟨k + 1, by omega, by go_num, HS1⟩
                case measure => simp [intOf]; omega
              · have hx1 : (100 : Int) < (acts[k].xs.length : Int) := by omega
                have HF2 : Hid (fair14B g l0 l1 acts = false) := by
                  unfold Hid; rw [HF.out]
                  have : shortA acts = false := by
                    cases h : shortA acts
                    · rfl
                    · exact absurd ((shortA_iff acts).1 h _ (List.getElem_mem hlt)) hx
                  rw [this]; rfl
                clear hx hsh
                generalize acts[k] = a at *
                go_wp2
                go_ret
                exact ⟨by rw [HF2.out]; rfl, hbw2⟩
            · obtain rfl : k = acts.length := by omega
              have HF2 : Hid (fair14B g l0 l1 acts = (validF l0 && validF l1)) := by
                unfold Hid; rw [HF.out]
                have : shortA acts = true := (shortA_iff acts).2 (fun a ha => by
                  obtain ⟨i, hi, rfl⟩ := List.getElem_of_mem ha
                  exact hsh.out i hi hi)
                rw [this]; rfl
              clear hsh
              cases hv0 : validF l0
              · rw [hv0] at HV0
                have HF3 : Hid (fair14B g l0 l1 acts = false) := by unfold Hid; rw [HF2.out, hv0]; rfl
                clear hv0
                go_wp2_with fail
                refine (HV0.out _ hbw2).mono ?_
                rintro e w3 ⟨rfl, hb3⟩
                have hbw3 := hbw2.trans (hb3.mono hbw2.size)
                clear x0 x1 x2 x3 x4 x5 x6 x7
                obtain ⟨_, x0, x1, x2, x3, x4, x5, x6, x7, hz3⟩ := HBX.out w3 (hbc2.trans (hb3.mono hz2))
                go_wp2
                go_ret
                exact ⟨by rw [HF3.out]; rfl, hbw3⟩
              · rw [hv0] at HV0
                have HF3 : Hid (fair14B g l0 l1 acts = validF l1) := by unfold Hid; rw [HF2.out, hv0]; rfl
                clear hv0
                go_wp2_with fail
                refine (HV0.out _ hbw2).mono ?_
                rintro e w3 ⟨rfl, hb3⟩
                have hbw3 := hbw2.trans (hb3.mono hbw2.size)
                clear x0 x1 x2 x3 x4 x5 x6 x7
                obtain ⟨_, x0, x1, x2, x3, x4, x5, x6, x7, hz3⟩ := HBX.out w3 (hbc2.trans (hb3.mono hz2))
                go_wp2_with fail
                refine (HV1.out _ hbw3).mono ?_
                rintro e w4 ⟨rfl, hb4⟩
                go_wp2
                go_ret
                exact ⟨by rw [HF3.out]; rfl, hbw3.trans (hb4.mono hbw3.size)⟩
        · have HF : Hid (fair14B g l0 l1 acts = false) := by unfold Hid fair14B; rw [decide_eq_false h21]; simp
          generalize szN g = Z at *
          clear hv
          skip
          go_enter Try.func35, Try.ntmps35
          go_wp2_with fail
          refine (HGV.out _).mono ?_
          rintro e w1 ⟨rfl, hb1⟩
          have hbc1 := hb1
          rw [World.size_alloc] at hbc1
          clear x0 x1 x2 x3 x4 x5 x6 x7
          obtain ⟨hbw1, x0, x1, x2, x3, x4, x5, x6, x7, hz1⟩ := HBX.out w1 hbc1
          go_wp2_with fail
          refine (HSZ.out _).mono ?_
          rintro e w2 ⟨rfl, hb2⟩
          have hbc2 := hbc1.trans (hb2.mono hz1)
          clear x0 x1 x2 x3 x4 x5 x6 x7
          obtain ⟨hbw2, x0, x1, x2, x3, x4, x5, x6, x7, hz2⟩ := HBX.out w2 hbc2
          have z1 : ¬ (120 < Z) := by omega
          have z2 : (acts.length : Int) ≤ 60 := by omega
          have z3 : (l0.length : Int) ≤ 20 := by omega
          have z4 : (20 : Int) < l1.length := by omega
          clear hz h60 h20 h21
          go_wp2
          go_ret
          exact ⟨by rw [HF.out]; rfl, hbw2⟩
      · have HF : Hid (fair14B g l0 l1 acts = false) := by unfold Hid fair14B; rw [decide_eq_false h20]; simp
        generalize szN g = Z at *
        clear hv
        skip
        go_enter Try.func35, Try.ntmps35
        go_wp2_with fail
        refine (HGV.out _).mono ?_
        rintro e w1 ⟨rfl, hb1⟩
        have hbc1 := hb1
        rw [World.size_alloc] at hbc1
        clear x0 x1 x2 x3 x4 x5 x6 x7
        obtain ⟨hbw1, x0, x1, x2, x3, x4, x5, x6, x7, hz1⟩ := HBX.out w1 hbc1
        go_wp2_with fail
        refine (HSZ.out _).mono ?_
        rintro e w2 ⟨rfl, hb2⟩
        have hbc2 := hbc1.trans (hb2.mono hz1)
        clear x0 x1 x2 x3 x4 x5 x6 x7
        obtain ⟨hbw2, x0, x1, x2, x3, x4, x5, x6, x7, hz2⟩ := HBX.out w2 hbc2
        have z1 : ¬ (120 < Z) := by omega
        have z2 : (acts.length : Int) ≤ 60 := by omega
        have z3 : (20 : Int) < l0.length := by omega
        clear hz h60 h20
        go_wp2
        go_ret
        exact ⟨by rw [HF.out]; rfl, hbw2⟩
    · have HF : Hid (fair14B g l0 l1 acts = false) := by unfold Hid fair14B; rw [decide_eq_false h60]; simp
      generalize szN g = Z at *
      clear hv
      skip
      go_enter Try.func35, Try.ntmps35
      go_wp2_with fail
      refine (HGV.out _).mono ?_
      rintro e w1 ⟨rfl, hb1⟩
      have hbc1 := hb1
      rw [World.size_alloc] at hbc1
      clear x0 x1 x2 x3 x4 x5 x6 x7
      obtain ⟨hbw1, x0, x1, x2, x3, x4, x5, x6, x7, hz1⟩ := HBX.out w1 hbc1
      go_wp2_with fail
      refine (HSZ.out _).mono ?_
      rintro e w2 ⟨rfl, hb2⟩
      have hbc2 := hbc1.trans (hb2.mono hz1)
      clear x0 x1 x2 x3 x4 x5 x6 x7
      obtain ⟨hbw2, x0, x1, x2, x3, x4, x5, x6, x7, hz2⟩ := HBX.out w2 hbc2
      have z1 : ¬ (120 < Z) := by omega
      have z2 : (60 : Int) < acts.length := by omega
      clear hz h60
      go_wp2
      go_ret
      exact ⟨by rw [HF.out]; rfl, hbw2⟩
  · have HF : Hid (fair14B g l0 l1 acts = false) := by unfold Hid fair14B; rw [decide_eq_false hz]; simp
    generalize szN g = Z at *
    clear hv
    skip
    go_enter Try.func35, Try.ntmps35
    go_wp2_with fail
    refine (HGV.out _).mono ?_
    rintro e w1 ⟨rfl, hb1⟩
    have hbc1 := hb1
    rw [World.size_alloc] at hbc1
    clear x0 x1 x2 x3 x4 x5 x6 x7
    obtain ⟨hbw1, x0, x1, x2, x3, x4, x5, x6, x7, hz1⟩ := HBX.out w1 hbc1
    go_wp2_with fail
    refine (HSZ.out _).mono ?_
    rintro e w2 ⟨rfl, hb2⟩
    have hbc2 := hbc1.trans (hb2.mono hz1)
    clear x0 x1 x2 x3 x4 x5 x6 x7
    obtain ⟨hbw2, x0, x1, x2, x3, x4, x5, x6, x7, hz2⟩ := HBX.out w2 hbc2
    have z1 : (120 < Z) := by omega
    clear hz
    go_wp2
    go_ret
    exact ⟨by rw [HF.out]; rfl, hbw2⟩
end Go.Proofs.Ytckdhhadlemakaa
