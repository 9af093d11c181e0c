/-
  WHAT IS SHOWN: what band.Open returns, and that it changes nothing that was there. Conditions: the slice reads as a list of bands.
-/
import Derived.Test.YtbnkpknoknenjaaBand1
namespace Go.Proofs.Ytbnkpknoknenjaa
set_option linter.unusedVariables false
open Go.RowKit

theorem openStep_no {sz : Int} {s : Int × Int} {k : Nat} {b : BI} (h : partB sz b = false) : openStep sz s k b = s := by unfold openStep; rw [h]; simp
theorem openStep_first {sz : Int} {s : Int × Int} {k : Nat} {b : BI} (h : partB sz b = true) (hs : s.1 = -1) : openStep sz s k b = ((k : Int), b.age) := by unfold openStep; rw [h, hs]; simp
theorem openStep_next {sz : Int} {s : Int × Int} {k j : Nat} {b : BI} (h : partB sz b = true) (hs : s.1 = (j : Int)) : openStep sz s k b = if decide (s.2 < b.age) = true then ((k : Int), b.age) else s := by
  unfold openStep; rw [h, hs]
  have : decide ((j : Int) < 0) = false := decide_eq_false (by omega)
  simp only [this, Bool.true_and, Bool.false_or]

set_option maxHeartbeats 1000000 in
theorem open_any (sz : Int) (l : List BI) (A : Option Addr) (c : Nat) (w : World) (hl : Rd w w.heap.size A (flat l)) (hn : l.length ≤ 100000) :
    Calls Try.prog 20 #[.slice A l.length c, .int .i64 sz] w fun e w' => e = .returned (.int .i64 (openB l sz)) ∧ Below w.heap.size w w' := by
  have hl1 : Rd (w.alloc (.cells #[.slice A l.length c] 22)) (w.heap.size + 1) A (flat l) := (hl.alloc (Nat.le_refl _) _).more (by omega)
  unfold openB
  cases hv : validB l sz
  · go_enter Try.func20, Try.ntmps20
    go_wp2_with (go_at_call 16; refine (valid_any sz l A c _ (by simpa using hl1) (by omega)).mono ?_; rintro e w1 ⟨rfl, hb1⟩)
    go_ret
    exact ⟨rfl, ((Below.refl _ _).alloc (Nat.le_refl _) _).trans (hb1.mono (by simp))⟩
  · go_enter Try.func20, Try.ntmps20
    go_wp2_with fail
    refine (valid_any sz l A c _ (by simpa using hl1) (by omega)).mono ?_
    rintro e w1 ⟨rfl, hb1⟩
    have hbox : w1.cell? ⟨w.heap.size, 0, none⟩ = some (.slice A l.length c) := (hb1.cell (p := ⟨w.heap.size, 0, none⟩) (by simp)).trans (by simp)
    have hsz : w.heap.size + 1 ≤ w1.heap.size := by simpa using hb1.size
    have hbw : Below w.heap.size w w1 := ((Below.refl _ _).alloc (Nat.le_refl _) _).trans (hb1.mono (by simp))
    have hrd := hl.below hbw (Nat.le_refl _)
    have hz1 : w.heap.size < w1.heap.size := by omega
    go_wp2
    go_loopw [16] (fun i wr => ∃ k : Nat, k ≤ l.length ∧ i = .int .i64 k ∧ wr.heap[w1.heap.size]? = some (.cells #[.int .i64 (openFrom sz (-1, 0) 0 (l.take k)).1] 3 (0, 0)) ∧ wr.cell? ⟨w.heap.size, 0, none⟩ = some (.slice A l.length c) ∧ Below w.heap.size w wr) (fun i _ => l.length - (intOf i).toNat)
    case atStart => exact ⟨0, Nat.zero_le _, rfl, heap_alloc_new _ _, by rw [World.cell?_alloc_past _ _ _ hz1]; exact hbox, hbw.alloc (by omega) _⟩
    case round =>
      obtain ⟨k, hk, rfl, hop, hbx, hbl⟩ := hrel
      have hopc := cell_of_one hop
      have hopf := free_of_one hop
      have hopl := lt_of_block hop
      by_cases hlt : k < l.length
      · obtain ⟨g, o, rfl, hg, h0, h1, h2, h3⟩ := hl.band (get_some hlt)
        have j0 := (hbl.cell (p := ⟨g, _, none⟩) hg).trans h0
        have j1 := (hbl.cell (p := ⟨g, _, none⟩) hg).trans h1
        have j2 := (hbl.cell (p := ⟨g, _, none⟩) hg).trans h2
        have j3 := (hbl.cell (p := ⟨g, _, none⟩) hg).trans h3
        have HS := Lib.hid (openFrom_take sz l (-1, 0) k hlt)
        have HI := Lib.hid (openFrom_inv sz l k hk)
        have hz := hbl.size
        by_cases hp1 : 0 < l[k].used
        · by_cases hp2 : l[k].used < sz
          · have HP : Hid (partB sz l[k] = true) := by unfold Hid partB; simp [hp1, hp2]
            rcases HI.out with hm | ⟨j, hjk, hm, bb, hbb, hage⟩
            · have HM := Lib.hid hm
              have HN := Lib.hid (openStep_first (k := k) HP.out hm)
              rw [hm] at hopc
              clear hm
              go_wp2_with fail
              refine (newer_first _ _ _ _ _ w1.heap.size w.heap.size (by rw [World.cell?_alloc_past _ _ _ hopl]; exact hopc) (by rw [World.cell?_alloc_past _ _ _ (by omega)]; exact hbx)).mono ?_
              rintro e w2 ⟨rfl, hb2⟩
              have hop2 := (hb2.block w1.heap.size (by first | omega | (simp; done) | (simp; omega))).trans ((Below.heap_alloc _ _ _ hopl).trans hop)
              have hbx2 := (hb2.cell (p := ⟨w.heap.size, 0, none⟩) (by first | omega | (simp; done) | (simp; omega))).trans ((World.cell?_alloc_past _ _ _ (by omega)).trans hbx)
              have hbl2 := (hbl.alloc hz _).trans (hb2.mono (by first | omega | (simp; done) | (simp; omega)))
              have hopc2 := cell_of_one hop2
              have hopf2 := free_of_one hop2
              have HO2 := Lib.hid hop2; clear hop2
              go_wp2
              go_roundw
              case rel => exact ⟨k + 1, by omega, by go_num, by rw [one_setCell HO2.out, HS.out, HN.out], by rw [World.cell?_setCell_other _ _ _ _ (by first | omega | (simp; done) | (simp; omega))]; exact hbx2, hbl2.setCell (by first | omega | (simp; done) | (simp; omega)) _⟩
              case measure => simp [intOf]; omega
            · have HM := Lib.hid hm
              have HN := Lib.hid (openStep_next (k := k) HP.out hm)
              have HA := Lib.hid hage
              have hj : j < l.length := by omega
              have HB : Hid (bb = l[j]) := by unfold Hid; rw [get_some hj] at hbb; injection hbb with h; exact h.symm
              rw [hm] at hopc
              clear hm hage hbb
              go_wp2_with fail
              refine (newer_any l _ c k j hlt hj _ w.heap.size w1.heap.size w.heap.size ((hl.below hbl (Nat.le_refl _)).alloc hz _) hn (by rw [World.cell?_alloc_past _ _ _ hopl]; exact hopc) (by rw [World.cell?_alloc_past _ _ _ (by omega)]; exact hbx)).mono ?_
              rintro e w2 ⟨rfl, hb2⟩
              have hop2 := (hb2.block w1.heap.size (by first | omega | (simp; done) | (simp; omega))).trans ((Below.heap_alloc _ _ _ hopl).trans hop)
              have hbx2 := (hb2.cell (p := ⟨w.heap.size, 0, none⟩) (by first | omega | (simp; done) | (simp; omega))).trans ((World.cell?_alloc_past _ _ _ (by omega)).trans hbx)
              have hbl2 := (hbl.alloc hz _).trans (hb2.mono (by first | omega | (simp; done) | (simp; omega)))
              have hopc2 := cell_of_one hop2
              have hopf2 := free_of_one hop2
              have HO2 := Lib.hid hop2; clear hop2
              have HX : Hid (openStep sz (openFrom sz (-1, 0) 0 (l.take k)) k l[k] = if decide (l[j].age < l[k].age) = true then ((k : Int), l[k].age) else openFrom sz (-1, 0) 0 (l.take k)) := by
                unfold Hid; rw [HN.out, ← HA.out, HB.out]
              cases hage : decide (l[j].age < l[k].age)
              · have HG := Lib.hid hage; clear hage
                go_wp2
                go_roundw
                case rel => exact ⟨k + 1, by omega, by go_num, by rw [HO2.out, HS.out, HX.out, HG.out]; rfl, hbx2, hbl2⟩
                case measure => simp [intOf]; omega
              · have HG := Lib.hid hage; clear hage
                go_wp2
                go_roundw
                case rel => exact ⟨k + 1, by omega, by go_num, by rw [one_setCell HO2.out, HS.out, HX.out, HG.out]; rfl, by rw [World.cell?_setCell_other _ _ _ _ (by first | omega | (simp; done) | (simp; omega))]; exact hbx2, hbl2.setCell (by first | omega | (simp; done) | (simp; omega)) _⟩
                case measure => simp [intOf]; omega
          · have HP : Hid (partB sz l[k] = false) := by unfold Hid partB; simp [hp2]
            go_wp2
            go_roundw
            case rel => exact ⟨k + 1, by omega, by go_num, by rw [Below.heap_alloc _ _ _ hopl, hop, HS.out, openStep_no HP.out], by rw [World.cell?_alloc_past _ _ _ (by omega)]; exact hbx, hbl.alloc hz _⟩
            case measure => simp [intOf]; omega
        · have HP : Hid (partB sz l[k] = false) := by unfold Hid partB; simp [hp1]
          go_wp2
          go_roundw
          case rel => exact ⟨k + 1, by omega, by go_num, by rw [Below.heap_alloc _ _ _ hopl, hop, HS.out, openStep_no HP.out], by rw [World.cell?_alloc_past _ _ _ (by omega)]; exact hbx, hbl.alloc hz _⟩
          case measure => simp [intOf]; omega
      · have hk' : k = l.length := by omega
        subst hk'
        go_wp2
        go_ret
        exact ⟨rfl, hbl⟩
end Go.Proofs.Ytbnkpknoknenjaa
