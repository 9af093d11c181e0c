/-
  WHAT IS SHOWN: what the functions of tegularef16 return: the same as those of band; they change nothing that was there. Conditions: the slices read as lists of bands.
-/
import Derived.Test.YtbnkpknoknenjaaBand3
namespace Go.Proofs.Ytbnkpknoknenjaa
set_option linter.unusedVariables false
open Go.RowKit

theorem anyBad_drop (sz : Int) (l : List BI) (k : Nat) (h : k < l.length) : anyBad sz (l.drop k) = (badB sz l[k].used l[k].live || anyBad sz (l.drop (k + 1))) := by
  rw [List.drop_eq_getElem_cons h]; rfl
set_option maxHeartbeats 400000 in
theorem rvalid_any (sz : Int) (l : List BI) (A : Option Addr) (c : Nat) (w : World) (hl : Rd w w.heap.size A (flat l)) (hn : l.length ≤ 9223372036854775807) :
    Calls Try.prog 17 #[.slice A l.length c, .int .i64 sz] w fun e w' => e = .returned (.bool (validB l sz)) ∧ Below w.heap.size w w' := by
  have HV : ∀ x, Hid (validB l sz = x) → validB l sz = x := fun _ h => h.out
  unfold validB
  by_cases g1 : 1 ≤ l.length
  · by_cases g2 : l.length ≤ 64
    · by_cases g3 : 1 ≤ sz
      · have e1 : decide (1 ≤ l.length) = true := decide_eq_true (by omega)
        have e2 : decide (l.length ≤ 64) = true := decide_eq_true (by omega)
        have e3 : decide (1 ≤ sz) = true := decide_eq_true (by omega)
        rw [e1, e2, e3]
        clear e1 e2 e3 HV
        simp only [Bool.true_and]
        go_enter Try.func17, Try.ntmps17
        go_wp2
        go_loopw [5] (fun i wr => ∃ k : Nat, k ≤ l.length ∧ i = .int .i64 k ∧ anyBad sz l = anyBad sz (l.drop k) ∧ Below w.heap.size w wr) (fun i _ => l.length - (intOf i).toNat)
        case atStart => exact ⟨0, Nat.zero_le _, rfl, rfl, Below.refl _ _⟩
        case round =>
          obtain ⟨k, hk, rfl, hfb, hbl⟩ := hrel
          have HF := Lib.hid hfb; clear hfb
          by_cases hlt : k < l.length
          · obtain ⟨g, o, rfl, hg, h0, h1, h2, h3⟩ := (hl).band (get_some hlt)
            have j0 := (hbl.cell (p := ⟨g, _, none⟩) hg).trans h0
            have j1 := (hbl.cell (p := ⟨g, _, none⟩) hg).trans h1
            have j2 := (hbl.cell (p := ⟨g, _, none⟩) hg).trans h2
            have j3 := (hbl.cell (p := ⟨g, _, none⟩) hg).trans h3
            clear h0 h1 h2 h3
            have HS := Lib.hid (anyBad_drop sz l k hlt)
            by_cases t1 : l[k].live < 0
            · have HB : Hid (badB sz l[k].used l[k].live = true) := by unfold Hid badB; simp [t1]
              go_wp2
              go_quiet (fail)
              go_wp2
              go_ret
              exact ⟨by rw [HF.out, HS.out, HB.out]; rfl, below_drewN' hbl _⟩
            · have d1 : decide (l[k].live < 0) = false := decide_eq_false t1
              by_cases t2 : l[k].used < l[k].live
              · have HB : Hid (badB sz l[k].used l[k].live = true) := by unfold Hid badB; simp [t2]
                have d2 : decide (l[k].used < l[k].live) = true := decide_eq_true t2
                clear t1 t2
                go_wp2
                go_quiet (fail)
                go_wp2
                go_ret
                exact ⟨by rw [HF.out, HS.out, HB.out]; rfl, below_drewN' hbl _⟩
              · have d2 : decide (l[k].used < l[k].live) = false := decide_eq_false t2
                by_cases t3 : sz < l[k].used
                · have HB : Hid (badB sz l[k].used l[k].live = true) := by unfold Hid badB; simp [t3]
                  have d3 : decide (sz < l[k].used) = true := decide_eq_true t3
                  clear t1 t2 t3
                  go_wp2
                  go_quiet (fail)
                  go_wp2
                  go_ret
                  exact ⟨by rw [HF.out, HS.out, HB.out]; rfl, below_drewN' hbl _⟩
                · have HB : Hid (badB sz l[k].used l[k].live = false) := by unfold Hid badB; simp [t1, t2, t3]
                  have d3 : decide (sz < l[k].used) = false := decide_eq_false t3
                  clear t1 t2 t3
                  go_wp2
                  go_quiet (fail)
                  go_wp2
                  go_roundw
                  case rel => exact ⟨k + 1, by omega, by go_num, by rw [HF.out, HS.out, HB.out]; rfl, below_drewN' hbl _⟩
                  case measure => simp [intOf]; omega
          · have hk' : k = l.length := by omega
            subst hk'
            go_wp2
            go_ret
            exact ⟨by rw [HF.out, List.drop_of_length_le (Nat.le_refl _)]; rfl, hbl⟩
      · have e3 : decide (1 ≤ sz) = false := decide_eq_false (by omega)
        rw [e3]
        clear e3 HV
        go_enter Try.func17, Try.ntmps17
        go_wp2
        go_ret
        exact ⟨by simp, Below.refl _ _⟩
    · have e3 : decide (l.length ≤ 64) = false := decide_eq_false (by omega)
      rw [e3]
      clear e3 HV
      go_enter Try.func17, Try.ntmps17
      go_wp2
      go_ret
      exact ⟨by simp, Below.refl _ _⟩
  · have e3 : decide (1 ≤ l.length) = false := decide_eq_false (by omega)
    rw [e3]
    clear e3 HV
    go_enter Try.func17, Try.ntmps17
    go_wp2
    go_ret
    exact ⟨by simp, Below.refl _ _⟩

set_option maxHeartbeats 400000 in
theorem rfree_any (l : List BI) (A : Option Addr) (c : Nat) (w : World) (hl : Rd w w.heap.size A (flat l)) (hn : l.length ≤ 100000) :
    Calls Try.prog 19 #[.slice A l.length c] w fun e w' => e = .returned (.int .i64 (freeN l)) ∧ Below w.heap.size w w' := by
  go_enter Try.func19, Try.ntmps19
  go_wp2
  go_loopw [3, 4] (fun n i wr => ∃ k : Nat, k ≤ l.length ∧ i = .int .i64 k ∧ n = .int .i64 (freeN (l.take k)) ∧ Below w.heap.size w wr) (fun _ i _ => l.length - (intOf i).toNat)
  case atStart => exact ⟨0, Nat.zero_le _, rfl, rfl, Below.refl _ _⟩
  case round =>
    obtain ⟨k, hk, rfl, rfl, hbl⟩ := hrel
    have hfl := freeN_le (l.take k)
    have hll : (l.take k).length ≤ k := List.length_take_le _ _
    by_cases hlt : k < l.length
    · obtain ⟨g, o, rfl, hg, h0, h1, h2, h3⟩ := (hl).band (get_some hlt)
      have j0 := (hbl.cell (p := ⟨g, _, none⟩) hg).trans h0
      have j1 := (hbl.cell (p := ⟨g, _, none⟩) hg).trans h1
      have j2 := (hbl.cell (p := ⟨g, _, none⟩) hg).trans h2
      have j3 := (hbl.cell (p := ⟨g, _, none⟩) hg).trans h3
      clear h0 h1 h2 h3
      have HS := Lib.hid (freeN_take l k hlt)
      cases hbd : l[k].used == 0
      all_goals
        go_wp2
        go_roundw
        case rel => exact ⟨k + 1, by omega, by go_num, by rw [HS.out, hbd]; simp, hbl⟩
        case measure => simp [intOf]; omega
    · have hk' : k = l.length := by omega
      subst hk'
      go_wp2
      go_ret
      exact ⟨by rw [List.take_of_length_le (Nat.le_refl _)]; rfl, hbl⟩

theorem liveN_take (l : List BI) (k : Nat) (h : k < l.length) : liveN (l.take (k + 1)) = wrap64 (liveN (l.take k) + l[k].live) := by
  unfold liveN; rw [List.take_succ_eq_append_getElem h, List.foldl_append]; rfl
set_option maxHeartbeats 400000 in
theorem rlive_any (l : List BI) (A : Option Addr) (c : Nat) (w : World) (hl : Rd w w.heap.size A (flat l)) (hn : l.length ≤ 100000) :
    Calls Try.prog 30 #[.slice A l.length c] w fun e w' => e = .returned (.int .i64 (liveN l)) ∧ Below w.heap.size w w' := by
  go_enter Try.func30, Try.ntmps30
  go_wp2
  go_loopw [3, 4] (fun n i wr => ∃ k : Nat, k ≤ l.length ∧ i = .int .i64 k ∧ n = .int .i64 (liveN (l.take k)) ∧ Below w.heap.size w wr) (fun _ i _ => l.length - (intOf i).toNat)
  case atStart => exact ⟨0, Nat.zero_le _, rfl, rfl, Below.refl _ _⟩
  case round =>
    obtain ⟨k, hk, rfl, rfl, hbl⟩ := hrel
    by_cases hlt : k < l.length
    · obtain ⟨g, o, rfl, hg, h0, h1, h2, h3⟩ := (hl).band (get_some hlt)
      have j0 := (hbl.cell (p := ⟨g, _, none⟩) hg).trans h0
      have j1 := (hbl.cell (p := ⟨g, _, none⟩) hg).trans h1
      have j2 := (hbl.cell (p := ⟨g, _, none⟩) hg).trans h2
      have j3 := (hbl.cell (p := ⟨g, _, none⟩) hg).trans h3
      clear h0 h1 h2 h3
      have HS := Lib.hid (liveN_take l k hlt)
      go_wp2
      go_roundw
      case rel => exact ⟨k + 1, by omega, by go_num, by rw [HS.out], hbl⟩
      case measure => simp [intOf]; omega
    · have hk' : k = l.length := by omega
      subst hk'
      go_wp2
      go_ret
      exact ⟨by rw [List.take_of_length_le (Nat.le_refl _)]; rfl, hbl⟩

set_option maxHeartbeats 400000 in
theorem rlive_same (l : List BI) (A : Option Addr) (c : Nat) (w : World) (hl : Rd w w.heap.size A (flat l)) (hn : l.length ≤ 100000) :
    Calls Try.prog 30 #[.slice A l.length c] w fun e w' => e = .returned (.int .i64 (liveN l)) ∧ w' = w := by
  go_enter Try.func30, Try.ntmps30
  go_wp2
  go_loop [3, 4] (fun n i => ∃ k : Nat, k ≤ l.length ∧ i = .int .i64 k ∧ n = .int .i64 (liveN (l.take k))) (fun _ i => l.length - (intOf i).toNat)
  case atStart => exact ⟨0, Nat.zero_le _, rfl, rfl⟩
  case round =>
    obtain ⟨k, hk, rfl, rfl⟩ := hrel
    by_cases hlt : k < l.length
    · obtain ⟨g, o, rfl, hg, h0, h1, h2, h3⟩ := hl.band (get_some hlt)
      have HS := Lib.hid (liveN_take l k hlt)
      go_wp2
      go_round
      case rel => exact ⟨k + 1, by omega, by go_num, by rw [HS.out]⟩
      case measure => simp [intOf]; omega
    · have hk' : k = l.length := by omega
      subst hk'
      go_wp2
      go_ret
      exact ⟨rfl, rfl⟩

set_option maxHeartbeats 1000000 in
theorem same_true (l : List BI) (A A2 : Option Addr) (c c2 : Nat) (w : World) (hl : Rd w w.heap.size A (flat l)) (hl2 : Rd w w.heap.size A2 (flat l)) (hn : l.length ≤ 100000) :
    Calls Try.prog 25 #[.slice A l.length c, .slice A2 l.length c2] w fun e w' => e = .returned (.bool true) ∧ Below w.heap.size w w' := by
  go_enter Try.func25, Try.ntmps25
  go_wp2
  go_loopw [5] (fun i wr => ∃ k : Nat, k ≤ l.length ∧ i = .int .i64 k ∧ Below w.heap.size w wr) (fun i _ => l.length - (intOf i).toNat)
  case atStart => exact ⟨0, Nat.zero_le _, rfl, Below.refl _ _⟩
  case round =>
    obtain ⟨k, hk, rfl, hbl⟩ := hrel
    by_cases hlt : k < l.length
    · obtain ⟨g, o, rfl, hg, h0, h1, h2, h3⟩ := (hl).band (get_some hlt)
      have j0 := (hbl.cell (p := ⟨g, _, none⟩) hg).trans h0
      have j1 := (hbl.cell (p := ⟨g, _, none⟩) hg).trans h1
      have j2 := (hbl.cell (p := ⟨g, _, none⟩) hg).trans h2
      have j3 := (hbl.cell (p := ⟨g, _, none⟩) hg).trans h3
      clear h0 h1 h2 h3
      obtain ⟨g', o', rfl, hg', h0, h1, h2, h3⟩ := hl2.band (get_some hlt)
      have i0 := (hbl.cell (p := ⟨g', _, none⟩) hg').trans h0
      have i1 := (hbl.cell (p := ⟨g', _, none⟩) hg').trans h1
      have i2 := (hbl.cell (p := ⟨g', _, none⟩) hg').trans h2
      have i3 := (hbl.cell (p := ⟨g', _, none⟩) hg').trans h3
      clear h0 h1 h2 h3
      go_wp2
      go_quiet (fail)
      go_wp2
      go_roundw
      case rel => exact ⟨k + 1, by omega, by go_num, below_drewN' hbl _⟩
      case measure => simp [intOf]; omega
    · have hk' : k = l.length := by omega
      subst hk'
      go_wp2
      go_ret
      exact ⟨rfl, hbl⟩
end Go.Proofs.Ytbnkpknoknenjaa
