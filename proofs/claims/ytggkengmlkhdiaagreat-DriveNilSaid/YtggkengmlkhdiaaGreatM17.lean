/-
  WHAT IS SHOWN: what band.Valid, band.Free and band.Open return, and that they change nothing that was there. what band.Open returns, and that it changes nothing that was there. what victim.Choose returns; it changes nothing that was there. what wear.Least and open of drive return. what AppendUint of codec and of tegularef09 return: the bytes, and those of the number behind them. Conditions: as each theorem names them.
-/
import Derived.Test.YtggkengmlkhdiaaGreatRows
import Derived.Test.YtggkengmlkhdiaaGreatM10
import Derived.Deep.QuietTactic
import Derived.BigQuiet
import Derived.Handy
import Derived.Test.YtggkengmlkhdiaaGreatM11
import Derived.Test.YtggkengmlkhdiaaGreatM00
import Derived.Test.YtggkengmlkhdiaaGreatM16
import Derived.Lib.VarintBits
namespace Go.Proofs.YtggkengmlkhdiaaGreat.V
set_option linter.unusedVariables false
open Go.RowKit

set_option maxHeartbeats 400000 in
theorem bad_any (sz : Int) (u l a wr : Int) (w : World) (b : Nat) (hc : w.cell? ⟨b, 0, none⟩ = some (.int .i64 sz)) :
    Calls Tryz.prog 130 #[.agg #[.int .i64 u, .int .i64 l, .int .u64 a, .int .u64 wr], .pointer (some ⟨b, 0, none⟩)] w fun e w' => e = .returned (.bool (badB sz u l)) ∧ Below w.heap.size w w' := by
  have hb := block_lt_of_cell hc
  simp only at hb
  unfold badB
  go_enter Tryz.func130, Tryz.ntmps130
  go_wp2
  all_goals (go_ret; exact ⟨by simp [*], (Below.refl _ _).alloc (Nat.le_refl _) _⟩)

set_option maxHeartbeats 400000 in
theorem idx_any (sz : Int) (l : List BI) (A : Option Addr) (c : Nat) (w : World) (b : Nat) (hl : Rd w w.heap.size A (flat l)) (hn : l.length ≤ 100000) (hc : w.cell? ⟨b, 0, none⟩ = some (.int .i64 sz)) :
    Calls Tryz.prog 163 #[.slice A l.length c, .func (.func 130) #[] #[.pointer (some ⟨b, 0, none⟩)]] w fun e w' => e = .returned (.int .i64 (firstBad sz l 0)) ∧ Below w.heap.size w w' := by
  have hb := block_lt_of_cell hc
  simp only at hb
  go_enter Tryz.func163, Tryz.ntmps163
  go_wp2
  go_loopw [8] (fun i wr => ∃ k : Nat, k ≤ l.length ∧ i = .int .i64 k ∧ firstBad sz l 0 = firstBad sz (l.drop k) k ∧ Below w.heap.size w wr) (fun i _ => l.length - (intOf i).toNat)
  case atStart => exact ⟨0, Nat.zero_le _, rfl, rfl, Below.refl _ _⟩
  case round =>
    obtain ⟨k, hk, rfl, hfb, hbl⟩ := hrel
    have HF := Lib.hid hfb; clear hfb
    by_cases hlt : k < l.length
    · obtain ⟨g, o, rfl, hg, h0, h1, h2, h3⟩ := hl.band (get_some hlt)
      have j0 := (hbl.cell (p := ⟨g, _, none⟩) hg).trans h0
      have j1 := (hbl.cell (p := ⟨g, _, none⟩) hg).trans h1
      have j2 := (hbl.cell (p := ⟨g, _, none⟩) hg).trans h2
      have j3 := (hbl.cell (p := ⟨g, _, none⟩) hg).trans h3
      have hcr := (hbl.cell (p := ⟨b, 0, none⟩) hb).trans hc
      have hfirst : firstBad sz (l.drop k) k = if badB sz l[k].used l[k].live then (k : Int) else firstBad sz (l.drop (k + 1)) (k + 1) := by
        rw [List.drop_eq_getElem_cons hlt]; rfl
      have HS := Lib.hid hfirst; clear hfirst
      go_wp2_with fail
      refine (bad_any sz _ _ _ _ _ b hcr).mono ?_
      rintro e w1 ⟨rfl, hb1⟩
      have hbl1 := hbl.trans (hb1.mono hbl.size)
      cases hbd : badB sz l[k].used l[k].live
      · go_wp2
        go_roundw
        case rel => exact ⟨k + 1, by omega, by go_num, by rw [HF.out, HS.out, hbd]; rfl, hbl1⟩
        case measure => simp [intOf]; omega
      · go_wp2
        go_ret
        exact ⟨by rw [HF.out, HS.out, hbd]; rfl, hbl1⟩
    · have hk' : k = l.length := by omega
      subst hk'
      go_wp2
      go_ret
      exact ⟨by rw [HF.out, List.drop_of_length_le (Nat.le_refl _)]; rfl, hbl⟩

set_option maxHeartbeats 400000 in
theorem contains_any (sz : Int) (l : List BI) (A : Option Addr) (c : Nat) (w : World) (b : Nat) (hl : Rd w w.heap.size A (flat l)) (hn : l.length ≤ 100000) (hc : w.cell? ⟨b, 0, none⟩ = some (.int .i64 sz)) :
    Calls Tryz.prog 129 #[.slice A l.length c, .func (.func 130) #[] #[.pointer (some ⟨b, 0, none⟩)]] w fun e w' => e = .returned (.bool (anyBad sz l)) ∧ Below w.heap.size w w' := by
  have hfb := firstBad_ge sz l 0
  have HF := Lib.hid hfb; clear hfb
  go_enter Tryz.func129, Tryz.ntmps129
  go_wp2_with (go_at_call 163; refine (idx_any sz l A c _ b hl hn hc).mono ?_; rintro e w1 ⟨rfl, hb1⟩)
  go_ret
  exact ⟨by rw [← HF.out]; rfl, hb1⟩

set_option maxHeartbeats 400000 in
theorem valid_any (sz : Int) (l : List BI) (A : Option Addr) (c : Nat) (w : World) (hl : Rd w w.heap.size A (flat l)) (hn : l.length ≤ 9223372036854775807) :
    Calls Tryz.prog 103 #[.slice A l.length c, .int .i64 sz] w fun e w' => e = .returned (.bool (validB l sz)) ∧ Below w.heap.size w w' := by
  unfold validB
  go_enter Tryz.func103, Tryz.ntmps103
  go_wp2_with fail
  · have hc : (w.alloc (.cells #[.int .i64 sz] 3)).cell? ⟨w.heap.size, 0, none⟩ = some (.int .i64 sz) := by simp
    refine (contains_any sz l A c _ w.heap.size ((hl.alloc (Nat.le_refl _) _).more (by simp)) (by omega) hc).mono ?_
    rintro e w1 ⟨rfl, hb1⟩
    have hbl : Below w.heap.size w w1 := ((Below.refl _ _).alloc (Nat.le_refl _) _).trans (hb1.mono (by simp))
    go_wp2
    go_ret
    refine ⟨?_, hbl⟩
    have e1 : decide (1 ≤ l.length) = true := decide_eq_true (by omega)
    have e2 : decide (l.length ≤ 64) = true := decide_eq_true (by omega)
    have e3 : decide (1 ≤ sz) = true := decide_eq_true (by omega)
    rw [e1, e2, e3]; rfl
  · go_ret
    refine ⟨?_, (Below.refl _ _).alloc (Nat.le_refl _) _⟩
    have e3 : decide (1 ≤ sz) = false := decide_eq_false (by omega)
    rw [e3]; simp
  · go_ret
    refine ⟨?_, (Below.refl _ _).alloc (Nat.le_refl _) _⟩
    have e3 : decide (l.length ≤ 64) = false := decide_eq_false (by omega)
    rw [e3]; simp
  · go_ret
    refine ⟨?_, (Below.refl _ _).alloc (Nat.le_refl _) _⟩
    have e3 : decide (1 ≤ l.length) = false := decide_eq_false (by omega)
    rw [e3]; simp

set_option maxHeartbeats 400000 in
theorem free_any (l : List BI) (A : Option Addr) (c : Nat) (w : World) (hl : Rd w w.heap.size A (flat l)) (hn : l.length ≤ 100000) :
    Calls Tryz.prog 70 #[.slice A l.length c] w fun e w' => e = .returned (.int .i64 (freeN l)) ∧ Below w.heap.size w w' := by
  go_enter Tryz.func70, Tryz.ntmps70
  go_wp2
  go_loopw [3, 8] (fun n i wr => ∃ k : Nat, k ≤ l.length ∧ i = .int .i64 k ∧ n = .int .i64 (freeN (l.take k)) ∧ Below w.heap.size w wr) (fun _ i _ => l.length - (intOf i).toNat)
  case atStart => exact ⟨0, Nat.zero_le _, rfl, rfl, Below.refl _ _⟩
  case round =>
    obtain ⟨k, hk, rfl, rfl, hbl⟩ := hrel
    have hfl := freeN_le (l.take k)
    have hll : (l.take k).length ≤ k := List.length_take_le _ _
    by_cases hlt : k < l.length
    · obtain ⟨g, o, rfl, hg, h0, h1, h2, h3⟩ := hl.band (get_some hlt)
      have j0 := (hbl.cell (p := ⟨g, _, none⟩) hg).trans h0
      have j1 := (hbl.cell (p := ⟨g, _, none⟩) hg).trans h1
      have j2 := (hbl.cell (p := ⟨g, _, none⟩) hg).trans h2
      have j3 := (hbl.cell (p := ⟨g, _, none⟩) hg).trans h3
      have HS := Lib.hid (freeN_take l k hlt)
      have hz := hbl.size
      cases hbd : l[k].used == 0
      all_goals
        go_wp2
        go_roundw
        case rel => exact ⟨k + 1, by omega, by go_num, by rw [HS.out, hbd]; simp, hbl.alloc hz _⟩
        case measure => simp [intOf]; omega
    · have hk' : k = l.length := by omega
      subst hk'
      go_wp2
      go_ret
      exact ⟨by rw [List.take_of_length_le (Nat.le_refl _)]; rfl, hbl⟩

set_option maxHeartbeats 400000 in
theorem newer_first (A : Option Addr) (n c : Nat) (i : Int) (w : World) (b1 b2 : Nat) (h1 : w.cell? ⟨b1, 0, none⟩ = some (.int .i64 (-1))) (h2 : w.cell? ⟨b2, 0, none⟩ = some (.slice A n c)) :
    Calls Tryz.prog 105 #[.int .i64 i, .pointer (some ⟨b1, 0, none⟩), .pointer (some ⟨b2, 0, none⟩)] w fun e w' => e = .returned (.bool true) ∧ Below w.heap.size w w' := by
  go_enter Tryz.func105, Tryz.ntmps105
  go_wp2
  go_quiet (fail)
  go_wp2
  go_ret
  exact ⟨rfl, below_drewN' (Below.refl _ _) _⟩

set_option maxHeartbeats 400000 in
theorem newer_any (l : List BI) (A : Option Addr) (c : Nat) (k j : Nat) (hk : k < l.length) (hj : j < l.length) (w : World) (B b1 b2 : Nat) (hl : Rd w B A (flat l)) (hn : l.length ≤ 100000) (h1 : w.cell? ⟨b1, 0, none⟩ = some (.int .i64 j)) (h2 : w.cell? ⟨b2, 0, none⟩ = some (.slice A l.length c)) :
    Calls Tryz.prog 105 #[.int .i64 k, .pointer (some ⟨b1, 0, none⟩), .pointer (some ⟨b2, 0, none⟩)] w fun e w' => e = .returned (.bool (decide (l[j].age < l[k].age))) ∧ Below w.heap.size w w' := by
  obtain ⟨g, o, rfl, hg, _, _, a2, _⟩ := hl.band (get_some hk)
  obtain ⟨g', o', e, _, _, _, b2', _⟩ := hl.band (get_some hj)
  simp only [Option.some.injEq, Addr.mk.injEq, and_true] at e
  obtain ⟨rfl, rfl⟩ := e
  have d1 : decide ((j : Int) < 0) = false := by simp
  have d2 : (0 : Int) ≤ k := by omega
  have d3 : (k : Int) < l.length := by omega
  have d4 : (0 : Int) ≤ j := by omega
  have d5 : (j : Int) < l.length := by omega
  go_enter Tryz.func105, Tryz.ntmps105
  go_wp2
  go_quiet (fail)
  go_wp2
  go_ret
  exact ⟨by simp, below_drewN' (Below.refl _ _) _⟩
end Go.Proofs.YtggkengmlkhdiaaGreat.V
namespace Go.Proofs.YtggkengmlkhdiaaGreat.V
set_option linter.unusedVariables false
open Go.RowKit

theorem openStep_no {sz : Int} {s : Int × Int} {k : Nat} {b : BI} (h : partB sz b = false) : openStep sz s k b = s := by unfold openStep; rw [h]; simp
theorem openStep_first {sz : Int} {s : Int × Int} {k : Nat} {b : BI} (h : partB sz b = true) (hs : s.1 = -1) : openStep sz s k b = ((k : Int), b.age) := by unfold openStep; rw [h, hs]; simp
theorem openStep_next {sz : Int} {s : Int × Int} {k j : Nat} {b : BI} (h : partB sz b = true) (hs : s.1 = (j : Int)) : openStep sz s k b = if decide (s.2 < b.age) = true then ((k : Int), b.age) else s := by
  unfold openStep; rw [h, hs]
  have : decide ((j : Int) < 0) = false := decide_eq_false (by omega)
  simp only [this, Bool.true_and, Bool.false_or]

set_option maxHeartbeats 1000000 in
theorem open_any (sz : Int) (l : List BI) (A : Option Addr) (c : Nat) (w : World) (hl : Rd w w.heap.size A (flat l)) (hn : l.length ≤ 100000) :
    Calls Tryz.prog 73 #[.slice A l.length c, .int .i64 sz] w fun e w' => e = .returned (.int .i64 (openB l sz)) ∧ Below w.heap.size w w' := by
  have hl1 : Rd (w.alloc (.cells #[.slice A l.length c] 35)) (w.heap.size + 1) A (flat l) := (hl.alloc (Nat.le_refl _) _).more (by omega)
  unfold openB
  cases hv : validB l sz
  · go_enter Tryz.func73, Tryz.ntmps73
    go_wp2_with (go_at_call 103; refine (valid_any sz l A c _ (by simpa using hl1) (by omega)).mono ?_; rintro e w1 ⟨rfl, hb1⟩)
    go_ret
    exact ⟨rfl, ((Below.refl _ _).alloc (Nat.le_refl _) _).trans (hb1.mono (by simp))⟩
  · go_enter Tryz.func73, Tryz.ntmps73
    go_wp2_with fail
    refine (valid_any sz l A c _ (by simpa using hl1) (by omega)).mono ?_
    rintro e w1 ⟨rfl, hb1⟩
    have hbox : w1.cell? ⟨w.heap.size, 0, none⟩ = some (.slice A l.length c) := (hb1.cell (p := ⟨w.heap.size, 0, none⟩) (by simp)).trans (by simp)
    have hsz : w.heap.size + 1 ≤ w1.heap.size := by simpa using hb1.size
    have hbw : Below w.heap.size w w1 := ((Below.refl _ _).alloc (Nat.le_refl _) _).trans (hb1.mono (by simp))
    have hrd := hl.below hbw (Nat.le_refl _)
    have hz1 : w.heap.size < w1.heap.size := by omega
    go_wp2
    go_loopw [16] (fun i wr => ∃ k : Nat, k ≤ l.length ∧ i = .int .i64 k ∧ wr.heap[w1.heap.size]? = some (.cells #[.int .i64 (openFrom sz (-1, 0) 0 (l.take k)).1] 3 (0, 0)) ∧ wr.cell? ⟨w.heap.size, 0, none⟩ = some (.slice A l.length c) ∧ Below w.heap.size w wr) (fun i _ => l.length - (intOf i).toNat)
    case atStart => exact ⟨0, Nat.zero_le _, rfl, heap_alloc_new _ _, by rw [World.cell?_alloc_past _ _ _ hz1]; exact hbox, hbw.alloc (by omega) _⟩
    case round =>
      obtain ⟨k, hk, rfl, hop, hbx, hbl⟩ := hrel
      have hopc := cell_of_one hop
      have hopf := free_of_one hop
      have hopl := lt_of_block hop
      by_cases hlt : k < l.length
      · obtain ⟨g, o, rfl, hg, h0, h1, h2, h3⟩ := hl.band (get_some hlt)
        have j0 := (hbl.cell (p := ⟨g, _, none⟩) hg).trans h0
        have j1 := (hbl.cell (p := ⟨g, _, none⟩) hg).trans h1
        have j2 := (hbl.cell (p := ⟨g, _, none⟩) hg).trans h2
        have j3 := (hbl.cell (p := ⟨g, _, none⟩) hg).trans h3
        have HS := Lib.hid (openFrom_take sz l (-1, 0) k hlt)
        have HI := Lib.hid (openFrom_inv sz l k hk)
        have hz := hbl.size
        by_cases hp1 : 0 < l[k].used
        · by_cases hp2 : l[k].used < sz
          · have HP : Hid (partB sz l[k] = true) := by unfold Hid partB; simp [hp1, hp2]
            rcases HI.out with hm | ⟨j, hjk, hm, bb, hbb, hage⟩
            · have HM := Lib.hid hm
              have HN := Lib.hid (openStep_first (k := k) HP.out hm)
              rw [hm] at hopc
              clear hm
              go_wp2_with fail
              refine (newer_first _ _ _ _ _ w1.heap.size w.heap.size (by rw [World.cell?_alloc_past _ _ _ hopl]; exact hopc) (by rw [World.cell?_alloc_past _ _ _ (by omega)]; exact hbx)).mono ?_
              rintro e w2 ⟨rfl, hb2⟩
              have hop2 := (hb2.block w1.heap.size (by first | omega | (simp; done) | (simp; omega))).trans ((Below.heap_alloc _ _ _ hopl).trans hop)
              have hbx2 := (hb2.cell (p := ⟨w.heap.size, 0, none⟩) (by first | omega | (simp; done) | (simp; omega))).trans ((World.cell?_alloc_past _ _ _ (by omega)).trans hbx)
              have hbl2 := (hbl.alloc hz _).trans (hb2.mono (by first | omega | (simp; done) | (simp; omega)))
              have hopc2 := cell_of_one hop2
              have hopf2 := free_of_one hop2
              have HO2 := Lib.hid hop2; clear hop2
              go_wp2
              go_roundw
              case rel => exact ⟨k + 1, by omega, by go_num, by rw [one_setCell HO2.out, HS.out, HN.out], by rw [World.cell?_setCell_other _ _ _ _ (by first | omega | (simp; done) | (simp; omega))]; exact hbx2, hbl2.setCell (by first | omega | (simp; done) | (simp; omega)) _⟩
              case measure => simp [intOf]; omega
            · have HM := Lib.hid hm
              have HN := Lib.hid (openStep_next (k := k) HP.out hm)
              have HA := Lib.hid hage
              have hj : j < l.length := by omega
              have HB : Hid (bb = l[j]) := by unfold Hid; rw [get_some hj] at hbb; injection hbb with h; exact h.symm
              rw [hm] at hopc
              clear hm hage hbb
              go_wp2_with fail
              refine (newer_any l _ c k j hlt hj _ w.heap.size w1.heap.size w.heap.size ((hl.below hbl (Nat.le_refl _)).alloc hz _) hn (by rw [World.cell?_alloc_past _ _ _ hopl]; exact hopc) (by rw [World.cell?_alloc_past _ _ _ (by omega)]; exact hbx)).mono ?_
              rintro e w2 ⟨rfl, hb2⟩
              have hop2 := (hb2.block w1.heap.size (by first | omega | (simp; done) | (simp; omega))).trans ((Below.heap_alloc _ _ _ hopl).trans hop)
              have hbx2 := (hb2.cell (p := ⟨w.heap.size, 0, none⟩) (by first | omega | (simp; done) | (simp; omega))).trans ((World.cell?_alloc_past _ _ _ (by omega)).trans hbx)
              have hbl2 := (hbl.alloc hz _).trans (hb2.mono (by first | omega | (simp; done) | (simp; omega)))
              have hopc2 := cell_of_one hop2
              have hopf2 := free_of_one hop2
              have HO2 := Lib.hid hop2; clear hop2
              have HX : Hid (openStep sz (openFrom sz (-1, 0) 0 (l.take k)) k l[k] = if decide (l[j].age < l[k].age) = true then ((k : Int), l[k].age) else openFrom sz (-1, 0) 0 (l.take k)) := by
                unfold Hid; rw [HN.out, ← HA.out, HB.out]
              cases hage : decide (l[j].age < l[k].age)
              · have HG := Lib.hid hage; clear hage
                go_wp2
                go_roundw
                case rel => exact ⟨k + 1, by omega, by go_num, by rw [HO2.out, HS.out, HX.out, HG.out]; rfl, hbx2, hbl2⟩
                case measure => simp [intOf]; omega
              · have HG := Lib.hid hage; clear hage
                go_wp2
                go_roundw
                case rel => exact ⟨k + 1, by omega, by go_num, by rw [one_setCell HO2.out, HS.out, HX.out, HG.out]; rfl, by rw [World.cell?_setCell_other _ _ _ _ (by first | omega | (simp; done) | (simp; omega))]; exact hbx2, hbl2.setCell (by first | omega | (simp; done) | (simp; omega)) _⟩
                case measure => simp [intOf]; omega
          · have HP : Hid (partB sz l[k] = false) := by unfold Hid partB; simp [hp2]
            go_wp2
            go_roundw
            case rel => exact ⟨k + 1, by omega, by go_num, by rw [Below.heap_alloc _ _ _ hopl, hop, HS.out, openStep_no HP.out], by rw [World.cell?_alloc_past _ _ _ (by omega)]; exact hbx, hbl.alloc hz _⟩
            case measure => simp [intOf]; omega
        · have HP : Hid (partB sz l[k] = false) := by unfold Hid partB; simp [hp1]
          go_wp2
          go_roundw
          case rel => exact ⟨k + 1, by omega, by go_num, by rw [Below.heap_alloc _ _ _ hopl, hop, HS.out, openStep_no HP.out], by rw [World.cell?_alloc_past _ _ _ (by omega)]; exact hbx, hbl.alloc hz _⟩
          case measure => simp [intOf]; omega
      · have hk' : k = l.length := by omega
        subst hk'
        go_wp2
        go_ret
        exact ⟨rfl, hbl⟩
end Go.Proofs.YtggkengmlkhdiaaGreat.V
namespace Go.Proofs.YtggkengmlkhdiaaGreat.V
set_option linter.unusedVariables false
open Go.RowKit

def bestI (s : Option (Nat × BI)) : Int := match s with | none => -1 | some (j, _) => (j : Int)
/-- The cells of two bands of one list, whatever is made behind. -/
def TwoAt (W : World) (g o k j : Nat) (b c : BI) (n : Nat) : Prop :=
  (W.cell? ⟨n, 0, none⟩ = some (.int .i64 b.used) ∧ W.cell? ⟨n, 1, none⟩ = some (.int .i64 b.live) ∧ W.cell? ⟨n, 2, none⟩ = some (.int .u64 b.age) ∧ W.cell? ⟨n, 3, none⟩ = some (.int .u64 b.wear)) ∧
  W.cell? ⟨g, o + j * 4, none⟩ = some (.int .i64 c.used) ∧ W.cell? ⟨g, o + j * 4 + 1, none⟩ = some (.int .i64 c.live) ∧ W.cell? ⟨g, o + j * 4 + 2, none⟩ = some (.int .u64 c.age) ∧ W.cell? ⟨g, o + j * 4 + 3, none⟩ = some (.int .u64 c.wear)

end Go.Proofs.YtggkengmlkhdiaaGreat.V
namespace Go.Proofs.YtggkengmlkhdiaaGreat
set_option linter.unusedVariables false
open Go.RowKit

set_option maxHeartbeats 2000000 in
theorem least_any (l : List V.BI) (A : Option Addr) (c : Nat) (w : World) (hl : Rd w w.heap.size A (V.flat l)) (hn : l.length ≤ 100000) :
    Calls Tryz.prog 146 #[.slice A l.length c] w fun e w' => e = .returned (.tuple #[.int .i64 (leastN l).1, .int .i64 (leastN l).2]) ∧ Below w.heap.size w w' := by
  have HR : Hid (∀ s, leastFrom none 0 l = s → leastN l = V.chRes s) := by unfold Hid; intro s hs; unfold leastN; rw [hs]
  go_enter Tryz.func146, Tryz.ntmps146
  go_wp2
  go_loopw [4, 9] (fun b i wr => ∃ k : Nat, k ≤ l.length ∧ i = .int .i64 k ∧ b = .int .i64 (V.bestI (leastFrom none 0 (l.take k))) ∧ Below w.heap.size w wr) (fun _ i _ => l.length - (intOf i).toNat)
  case atStart => exact ⟨0, Nat.zero_le _, rfl, rfl, Below.refl _ _⟩
  case round =>
    obtain ⟨k, hk, rfl, rfl, hbl⟩ := hrel
    by_cases hlt : k < l.length
    · have HS := Lib.hid (leastFrom_take l k hlt)
      have HI := Lib.hid (least_inv l k hk)
      have hz := hbl.size
      obtain ⟨g, o, rfl, hg, h0, h1, h2, h3⟩ := hl.band (V.get_some hlt)
      have j0 := (hbl.cell (p := ⟨g, _, none⟩) hg).trans h0
      have j1 := (hbl.cell (p := ⟨g, _, none⟩) hg).trans h1
      have j2 := (hbl.cell (p := ⟨g, _, none⟩) hg).trans h2
      have j3 := (hbl.cell (p := ⟨g, _, none⟩) hg).trans h3
      clear h0 h1 h2 h3
      have hal : Below w.heap.size w (wr.alloc (.cells #[.int .i64 l[k].used, .int .i64 l[k].live, .int .u64 l[k].age, .int .u64 l[k].wear] 76)) := hbl.alloc hz _
      have hk1 : (k : Int) < l.length := by omega
      by_cases hu : l[k].used = 0
      · have d1 : (l[k].used == 0) = true := by simpa using hu
        have HX : Hid (∀ s, leastFrom none 0 (l.take k) = s → leastFrom none 0 (l.take (k + 1)) = (match s with | none => some (k, l[k]) | some (j, c) => if l[k].wear < c.wear then some (k, l[k]) else some (j, c))) := by
          unfold Hid; intro s hs; rw [HS.out, hs]; unfold leastStep; rw [if_pos hu]; cases s <;> rfl
        clear HS hu
        rcases HI.out with ⟨hm, _⟩ | ⟨j, hj, hjk, hm, _⟩
        · have HN := Lib.hid (HX.out none hm)
          rw [hm]
          clear hm HX HI
          simp only [V.bestI] at *
          go_wp2
          clear j0 j1 j2 j3
          go_quiet (fail)
          go_wp2
          go_roundw
          case rel => exact ⟨k + 1, by omega, by go_num, by rw [HN.out], below_drewN' hal _⟩
          case measure => simp [intOf]; omega
        · have HN := Lib.hid (HX.out _ hm)
          rw [hm]
          clear hm HX HI
          obtain ⟨g', o', e, _, i0, i1, i2, i3⟩ := hl.band (V.get_some hj)
          simp only [Option.some.injEq, Addr.mk.injEq, and_true] at e
          obtain ⟨rfl, rfl⟩ := e
          have i3' := (hal.cell (p := ⟨g, _, none⟩) hg).trans i3
          clear i0 i1 i2 i3
          have q1 : (0 : Int) ≤ j := by omega
          have q2 : (j : Int) < l.length := by omega
          have q3 : decide ((j : Int) < 0) = false := decide_eq_false (by omega)
          simp only [V.bestI] at *
          by_cases hwr : l[k].wear < l[j].wear
          · have d2 : decide (l[k].wear < l[j].wear) = true := decide_eq_true hwr
            have HN2 : Hid (leastFrom none 0 (l.take (k + 1)) = some (k, l[k])) := by unfold Hid; rw [HN.out, if_pos hwr]
            clear hwr HN
            generalize l[j] = y at *
            go_wp2
            clear j0 j1 j2 j3
            go_quiet (fail)
            go_wp2
            go_roundw
            case rel => exact ⟨k + 1, by omega, by go_num, by rw [HN2.out], below_drewN' hal _⟩
            case measure => simp [intOf]; omega
          · have d2 : decide (l[k].wear < l[j].wear) = false := decide_eq_false hwr
            have HN2 : Hid (leastFrom none 0 (l.take (k + 1)) = some (j, l[j])) := by unfold Hid; rw [HN.out, if_neg hwr]
            clear hwr HN
            generalize l[j] = y at *
            go_wp2
            clear j0 j1 j2 j3
            go_quiet (fail)
            go_wp2
            go_roundw
            case rel => exact ⟨k + 1, by omega, by go_num, by rw [HN2.out], below_drewN' hal _⟩
            case measure => simp [intOf]; omega
      · have d1 : (l[k].used == 0) = false := by simpa using hu
        have HN : Hid (leastFrom none 0 (l.take (k + 1)) = leastFrom none 0 (l.take k)) := by
          unfold Hid; rw [HS.out]; unfold leastStep; rw [if_neg hu]
        clear HS HI hu
        generalize leastFrom none 0 (l.take k) = s at *
        go_wp2
        clear j0 j1 j2 j3
        go_quiet (fail)
        go_wp2
        go_roundw
        case rel => exact ⟨k + 1, by omega, by go_num, by rw [HN.out], below_drewN' hal _⟩
        case measure => simp [intOf]; omega
    · obtain rfl : k = l.length := by omega
      rw [List.take_of_length_le (Nat.le_refl _)]
      have HN : Hid (leastN l = V.chRes (leastFrom none 0 l)) := HR.out _ rfl
      generalize leastFrom none 0 l = s at *
      cases s with
      | none =>
        simp only [V.bestI] at *
        go_wp2
        go_ret2
        exact ⟨by rw [HN.out]; rfl, hbl⟩
      | some x =>
        obtain ⟨j, y⟩ := x
        have q1 : decide ((j : Int) < 0) = false := decide_eq_false (by omega)
        simp only [V.bestI] at *
        go_wp2
        go_ret2
        exact ⟨by rw [HN.out]; rfl, hbl⟩
theorem flat_used : ∀ (l : List V.BI) (k : Nat) (hk : k < l.length) (u : Int), (V.flat l).set (k * 4) (.int .i64 u) = V.flat (l.set k { l[k] with used := u })
  | b :: l, 0, _, u => by simp [V.flat, V.BI.cells]
  | b :: l, k + 1, hk, u => by
    have ih := flat_used l k (by simpa using hk) u
    unfold V.flat at ih ⊢
    rw [List.flatMap_cons, List.set_cons_succ, List.flatMap_cons, List.getElem_cons_succ, ← ih]
    rw [show (k + 1) * 4 = k * 4 + 1 + 1 + 1 + 1 by omega]
    simp only [V.BI.cells, List.cons_append, List.nil_append, List.set_cons_succ]
section
variable {w w' : World} {B : Bd} {p q pw : Nat} {g : Geo} {F : List Flt} {key : Int} {S : ST} {ea ec : Nat} {BA : Option Addr} {bc : Nat}
set_option maxRecDepth 100000 in
set_option maxHeartbeats 4000000 in
theorem open20_any (except : Int) (hx : except < S.v.bs.length) (hv : VOk g S.v) (h : Drv w B p q pw g F key S ea ec BA bc) : Calls Tryz.prog 109 #[.pointer (some ⟨p, 0, none⟩), .int .i64 except] w fun e w' => e = .returned (.tuple #[.int .i64 (openN g S.v.bs except).1, .int .i64 (openN g S.v.bs except).2]) ∧ Below w.heap.size w w' := by
  have hl := hv.len64
  have c3 := h.cells.2.2.2.1
  have HCL := Lib.hid (V.clone_any S.v.bs BA bc w h.bs.rd (by omega))
  have HSZ := Lib.hid (fun W (hW : Below w.heap.size w W) => size20_any hv.gv (h.below0 hW))
  have HLN : Hid ((fullL g S.v.bs except).length = S.v.bs.length) := fullL_len g S.v.bs except
  -- what stands behind the first step
  have HGO : Hid (∀ z er, openN g S.v.bs except = (z, er) → ∀ o, V.openB (fullL g S.v.bs except) (bz g) = o → ∀ a b, leastN (fullL g S.v.bs except) = (a, b) → (z, er) = (if 0 ≤ o then (o, 0) else if b = 0 then (a, 0) else (0, 11))) := by
    intro z er h1 o h2 a b h3
    rw [← h1]; unfold openN; rw [h2, h3]
  have HOB := Lib.hid (fun W A c (hr : Rd W W.heap.size A (V.flat (fullL g S.v.bs except))) => V.open_any (bz g) (fullL g S.v.bs except) A c W hr (by rw [HLN.out]; omega))
  have HLE := Lib.hid (fun W A c (hr : Rd W W.heap.size A (V.flat (fullL g S.v.bs except))) => least_any (fullL g S.v.bs except) A c W hr (by rw [HLN.out]; omega))
  have HST : Hid (∀ (W : World) (A : Option Addr) (c : Nat), W.ownsRow w.heap.size 76 4 (.slice A S.v.bs.length c) S.v.bs.length (V.flat S.v.bs) → Below w.heap.size w W → ∀ k : Nat, except = k → ∃ gA, A = some ⟨gA, 0, none⟩ ∧ (∃ u, W.cell? ⟨gA, k * 4, none⟩ = some u) ∧ W.frozen? ⟨gA, k * 4, none⟩ = false ∧
      (W.setCell ⟨gA, k * 4, none⟩ (.int .i64 (bz g))).ownsRow w.heap.size 76 4 (.slice A (fullL g S.v.bs except).length c) (fullL g S.v.bs except).length (V.flat (fullL g S.v.bs except)) ∧ Below w.heap.size w (W.setCell ⟨gA, k * 4, none⟩ (.int .i64 (bz g)))) := by
    intro W A c ho hb k hk
    have hk' : k < S.v.bs.length := by omega
    obtain ⟨gA, rfl, hg1, hg2⟩ := own_at ho (by omega)
    have hs := (World.ownsRow.stored ho (k * 4) (.int .i64 (bz g))).1
    rw [flat_used _ _ hk'] at hs
    have e : fullL g S.v.bs except = S.v.bs.set k { S.v.bs[k] with used := bz g } := by
      subst hk
      unfold fullL; rw [if_pos (by omega), V.at_eq hk']; rfl
    have hle : (V.flat S.v.bs)[k * 4]? = some (.int .i64 S.v.bs[k].used) := by
      have := flat_get V.BI.cells 4 V.cells_len S.v.bs k 0 (by omega)
      rw [Nat.add_zero] at this
      unfold V.flat; rw [this, List.getElem?_eq_getElem hk']; rfl
    refine ⟨gA, rfl, ⟨_, (World.ownsRow.cellAt ho (k * 4) (by omega)).trans hle⟩, ho.frozenAt _, ?_, hb.setCell hg1 _⟩
    rw [e]; simpa using hs
  have HNE : Hid (∀ (W : World) (A : Option Addr) (c : Nat), W.ownsRow w.heap.size 76 4 (.slice A S.v.bs.length c) S.v.bs.length (V.flat S.v.bs) → except < 0 → W.ownsRow w.heap.size 76 4 (.slice A (fullL g S.v.bs except).length c) (fullL g S.v.bs except).length (V.flat (fullL g S.v.bs except))) := by
    intro W A c ho hneg
    have e : fullL g S.v.bs except = S.v.bs := by unfold fullL; rw [if_neg (by omega)]
    rw [e]; exact ho
  rcases hopn : openN g S.v.bs except with ⟨z, er⟩
  rcases hlst : leastN (fullL g S.v.bs except) with ⟨la, lb⟩
  have HR := Lib.hid (HGO.out z er hopn _ rfl la lb hlst)
  rw [hlst] at HLE
  clear hopn hlst HGO h hv
  generalize V.openB (fullL g S.v.bs except) (bz g) = o at *
  -- the rest, behind the list
  have HREST : Hid (∀ (W : World) (A : Option Addr) (c : Nat), Below w.heap.size w W → W.ownsRow w.heap.size 76 4 (.slice A S.v.bs.length c) S.v.bs.length (V.flat (fullL g S.v.bs except)) → Rd W W.heap.size A (V.flat (fullL g S.v.bs except))) := fun W A c _ ho => Rd.of_own ho
  rw [HLN.out] at *
  generalize fullL g S.v.bs except = fl at *
  have hz := c3
  by_cases h0 : except < 0
  · have d0 : decide (0 ≤ except) = false := decide_eq_false (by omega)
    go_enter Tryz.func109, Tryz.ntmps109
    go_wp2_with fail
    refine HCL.out.mono ?_
    rintro e w1 ⟨A1, c1, rfl, ho1, hb1⟩
    have ho2 := HNE.out _ _ _ ho1 h0
    have HRD := Lib.hid (HREST.out w1 A1 c1 hb1 ho2)
    have HB1 := Lib.hid hb1
    clear ho1 ho2 hb1 HNE HST
    go_wp2_with fail
    refine (HSZ.out _ HB1.out).mono ?_
    rintro e w5 ⟨rfl, hb5⟩
    have HB5 := Lib.hid (HB1.out.trans (hb5.mono HB1.out.size))
    have HRD5 := Lib.hid ((HRD.out.below hb5 (Nat.le_refl _)).more hb5.size)
    clear hb5
    go_wp2_with fail
    refine (HOB.out w5 A1 c1 HRD5.out).mono ?_
    rintro e w6 ⟨rfl, hb6⟩
    have HB6 := Lib.hid (HB5.out.trans (hb6.mono HB5.out.size))
    have HRD6 := Lib.hid ((HRD5.out.below hb6 (Nat.le_refl _)).more hb6.size)
    clear hb6
    by_cases ho : 0 ≤ o
    · have dO : decide (0 ≤ o) = true := decide_eq_true ho
      have HR2 : Hid ((z, er) = (o, 0)) := by unfold Hid; rw [HR.out, if_pos ho]
      go_wp2
      go_ret2
      exact ⟨by have e := HR2.out; injection e with e1 e2; subst e1; subst e2; rfl, HB6.out⟩
    · have dO : decide (0 ≤ o) = false := decide_eq_false ho
      go_wp2_with fail
      refine (HLE.out w6 A1 c1 HRD6.out).mono ?_
      rintro e w7 ⟨rfl, hb7⟩
      have HB7 := Lib.hid (HB6.out.trans (hb7.mono HB6.out.size))
      clear hb7
      by_cases hlb : lb = 0
      · have HR2 : Hid ((z, er) = (la, 0)) := by unfold Hid; rw [HR.out, if_neg (show ¬ 0 ≤ o by omega), if_pos hlb]
        subst hlb
        go_wp2
        go_ret2
        exact ⟨by have e := HR2.out; injection e with e1 e2; subst e1; subst e2; rfl, HB7.out⟩
      · have HR2 : Hid ((z, er) = (0, 11)) := by unfold Hid; rw [HR.out, if_neg (show ¬ 0 ≤ o by omega), if_neg hlb]
        have dL : (lb != 0) = true := by simpa using hlb
        go_wp2
        go_ret2
        exact ⟨by have e := HR2.out; injection e with e1 e2; subst e1; subst e2; rfl, HB7.out⟩
  · obtain ⟨k, rfl⟩ := Int.eq_ofNat_of_zero_le (show 0 ≤ except by omega)
    have d0 : decide ((0 : Int) ≤ (k : Int)) = true := decide_eq_true (by omega)
    have hk1 : (k : Int) < S.v.bs.length := hx
    go_enter Tryz.func109, Tryz.ntmps109
    go_wp2_with fail
    refine HCL.out.mono ?_
    rintro e w1 ⟨A1, c1, rfl, ho1, hb1⟩
    go_wp2_with fail
    refine (HSZ.out _ hb1).mono ?_
    rintro e w2 ⟨rfl, hb2⟩
    obtain ⟨gA, rfl, ⟨u, hcu⟩, hfz, ho3, hb3⟩ := HST.out w2 A1 c1 (own_kept ho1 (belKept0 (S := fun _ => False) hb2) (fun _ _ h => h)) (hb1.trans (hb2.mono hb1.size)) k rfl
    have HRD := Lib.hid (HREST.out _ _ c1 hb3 ho3)
    have HB1 := Lib.hid hb3
    clear ho1 hb1 hb2 ho3 hb3 HNE HST
    go_upto_region 4 with fail
    generalize w2.setCell ⟨gA, k * 4, none⟩ (.int .i64 (bz g)) = w3 at *
    go_wp2_with fail
    refine (HSZ.out _ HB1.out).mono ?_
    rintro e w5 ⟨rfl, hb5⟩
    have HB5 := Lib.hid (HB1.out.trans (hb5.mono HB1.out.size))
    have HRD5 := Lib.hid ((HRD.out.below hb5 (Nat.le_refl _)).more hb5.size)
    clear hb5
    go_wp2_with fail
    refine (HOB.out w5 (some ⟨gA, 0, none⟩) c1 HRD5.out).mono ?_
    rintro e w6 ⟨rfl, hb6⟩
    have HB6 := Lib.hid (HB5.out.trans (hb6.mono HB5.out.size))
    have HRD6 := Lib.hid ((HRD5.out.below hb6 (Nat.le_refl _)).more hb6.size)
    clear hb6
    by_cases ho : 0 ≤ o
    · have dO : decide (0 ≤ o) = true := decide_eq_true ho
      have HR2 : Hid ((z, er) = (o, 0)) := by unfold Hid; rw [HR.out, if_pos ho]
      go_wp2
      go_ret2
      exact ⟨by have e := HR2.out; injection e with e1 e2; subst e1; subst e2; rfl, HB6.out⟩
    · have dO : decide (0 ≤ o) = false := decide_eq_false ho
      go_wp2_with fail
      refine (HLE.out w6 (some ⟨gA, 0, none⟩) c1 HRD6.out).mono ?_
      rintro e w7 ⟨rfl, hb7⟩
      have HB7 := Lib.hid (HB6.out.trans (hb7.mono HB6.out.size))
      clear hb7
      by_cases hlb : lb = 0
      · have HR2 : Hid ((z, er) = (la, 0)) := by unfold Hid; rw [HR.out, if_neg (show ¬ 0 ≤ o by omega), if_pos hlb]
        subst hlb
        go_wp2
        go_ret2
        exact ⟨by have e := HR2.out; injection e with e1 e2; subst e1; subst e2; rfl, HB7.out⟩
      · have HR2 : Hid ((z, er) = (0, 11)) := by unfold Hid; rw [HR.out, if_neg (show ¬ 0 ≤ o by omega), if_neg hlb]
        have dL : (lb != 0) = true := by simpa using hlb
        go_wp2
        go_ret2
        exact ⟨by have e := HR2.out; injection e with e1 e2; subst e1; subst e2; rfl, HB7.out⟩
end
end Go.Proofs.YtggkengmlkhdiaaGreat
namespace Go.Proofs.YtggkengmlkhdiaaGreat
set_option linter.unusedVariables false
open Go.RowKit

theorem own_low {w : World} {base : Nat} {e : TypeId} {size n k : Nat} {v : Value} {xs : List Value} (h : w.ownsRow base e size v n xs) (hk : v.ownBlock = some k) : base ≤ k := by
  rcases h.2 with ⟨h2, _⟩ | ⟨g, cap, cur, h2, h3, _⟩
  · rw [h2] at hk; cases hk
  · rw [h2] at hk; injection hk with hk; subst hk; exact h3
end Go.Proofs.YtggkengmlkhdiaaGreat
