/-
  WHAT IS SHOWN: what band.Valid, band.Free and band.Open return, and that they change nothing that was there. Conditions: the slice reads as a list of bands.
-/
import Derived.Test.YtbnkpknoknenjaaRows
import Derived.Test.YtbnkpknoknenjaaBandPlain
import Derived.Deep.QuietTactic
import Derived.BigQuiet
import Derived.Handy
namespace Go.Proofs.Ytbnkpknoknenjaa
set_option linter.unusedVariables false
open Go.RowKit

set_option maxHeartbeats 400000 in
theorem bad_any (sz : Int) (u l a wr : Int) (w : World) (b : Nat) (hc : w.cell? ⟨b, 0, none⟩ = some (.int .i64 sz)) :
    Calls Try.prog 38 #[.agg #[.int .i64 u, .int .i64 l, .int .u64 a, .int .u64 wr], .pointer (some ⟨b, 0, none⟩)] w fun e w' => e = .returned (.bool (badB sz u l)) ∧ Below w.heap.size w w' := by
  have hb := block_lt_of_cell hc
  simp only at hb
  unfold badB
  go_enter Try.func38, Try.ntmps38
  go_wp2
  all_goals (go_ret; exact ⟨by simp [*], (Below.refl _ _).alloc (Nat.le_refl _) _⟩)

set_option maxHeartbeats 400000 in
theorem idx_any (sz : Int) (l : List BI) (A : Option Addr) (c : Nat) (w : World) (b : Nat) (hl : Rd w w.heap.size A (flat l)) (hn : l.length ≤ 100000) (hc : w.cell? ⟨b, 0, none⟩ = some (.int .i64 sz)) :
    Calls Try.prog 52 #[.slice A l.length c, .func (.func 38) #[] #[.pointer (some ⟨b, 0, none⟩)]] w fun e w' => e = .returned (.int .i64 (firstBad sz l 0)) ∧ Below w.heap.size w w' := by
  have hb := block_lt_of_cell hc
  simp only at hb
  go_enter Try.func52, Try.ntmps52
  go_wp2
  go_loopw [8] (fun i wr => ∃ k : Nat, k ≤ l.length ∧ i = .int .i64 k ∧ firstBad sz l 0 = firstBad sz (l.drop k) k ∧ Below w.heap.size w wr) (fun i _ => l.length - (intOf i).toNat)
  case atStart => exact ⟨0, Nat.zero_le _, rfl, rfl, Below.refl _ _⟩
  case round =>
    obtain ⟨k, hk, rfl, hfb, hbl⟩ := hrel
    have HF := Lib.hid hfb; clear hfb
    by_cases hlt : k < l.length
    · obtain ⟨g, o, rfl, hg, h0, h1, h2, h3⟩ := hl.band (get_some hlt)
      have j0 := (hbl.cell (p := ⟨g, _, none⟩) hg).trans h0
      have j1 := (hbl.cell (p := ⟨g, _, none⟩) hg).trans h1
      have j2 := (hbl.cell (p := ⟨g, _, none⟩) hg).trans h2
      have j3 := (hbl.cell (p := ⟨g, _, none⟩) hg).trans h3
      have hcr := (hbl.cell (p := ⟨b, 0, none⟩) hb).trans hc
      have hfirst : firstBad sz (l.drop k) k = if badB sz l[k].used l[k].live then (k : Int) else firstBad sz (l.drop (k + 1)) (k + 1) := by
        rw [List.drop_eq_getElem_cons hlt]; rfl
      have HS := Lib.hid hfirst; clear hfirst
      go_wp2_with fail
      refine (bad_any sz _ _ _ _ _ b hcr).mono ?_
      rintro e w1 ⟨rfl, hb1⟩
      have hbl1 := hbl.trans (hb1.mono hbl.size)
      cases hbd : badB sz l[k].used l[k].live
      · go_wp2
        go_roundw
        case rel => exact ⟨k + 1, by omega, by go_num, by rw [HF.out, HS.out, hbd]; rfl, hbl1⟩
        case measure => simp [intOf]; omega
      · go_wp2
        go_ret
        exact ⟨by rw [HF.out, HS.out, hbd]; rfl, hbl1⟩
    · have hk' : k = l.length := by omega
      subst hk'
      go_wp2
      go_ret
      exact ⟨by rw [HF.out, List.drop_of_length_le (Nat.le_refl _)]; rfl, hbl⟩

set_option maxHeartbeats 400000 in
theorem contains_any (sz : Int) (l : List BI) (A : Option Addr) (c : Nat) (w : World) (b : Nat) (hl : Rd w w.heap.size A (flat l)) (hn : l.length ≤ 100000) (hc : w.cell? ⟨b, 0, none⟩ = some (.int .i64 sz)) :
    Calls Try.prog 37 #[.slice A l.length c, .func (.func 38) #[] #[.pointer (some ⟨b, 0, none⟩)]] w fun e w' => e = .returned (.bool (anyBad sz l)) ∧ Below w.heap.size w w' := by
  have hfb := firstBad_ge sz l 0
  have HF := Lib.hid hfb; clear hfb
  go_enter Try.func37, Try.ntmps37
  go_wp2_with (go_at_call 52; refine (idx_any sz l A c _ b hl hn hc).mono ?_; rintro e w1 ⟨rfl, hb1⟩)
  go_ret
  exact ⟨by rw [← HF.out]; rfl, hb1⟩

set_option maxHeartbeats 400000 in
theorem valid_any (sz : Int) (l : List BI) (A : Option Addr) (c : Nat) (w : World) (hl : Rd w w.heap.size A (flat l)) (hn : l.length ≤ 9223372036854775807) :
    Calls Try.prog 16 #[.slice A l.length c, .int .i64 sz] w fun e w' => e = .returned (.bool (validB l sz)) ∧ Below w.heap.size w w' := by
  unfold validB
  go_enter Try.func16, Try.ntmps16
  go_wp2_with fail
  · have hc : (w.alloc (.cells #[.int .i64 sz] 3)).cell? ⟨w.heap.size, 0, none⟩ = some (.int .i64 sz) := by simp
    refine (contains_any sz l A c _ w.heap.size ((hl.alloc (Nat.le_refl _) _).more (by simp)) (by omega) hc).mono ?_
    rintro e w1 ⟨rfl, hb1⟩
    have hbl : Below w.heap.size w w1 := ((Below.refl _ _).alloc (Nat.le_refl _) _).trans (hb1.mono (by simp))
    go_wp2
    go_ret
    refine ⟨?_, hbl⟩
    have e1 : decide (1 ≤ l.length) = true := decide_eq_true (by omega)
    have e2 : decide (l.length ≤ 64) = true := decide_eq_true (by omega)
    have e3 : decide (1 ≤ sz) = true := decide_eq_true (by omega)
    rw [e1, e2, e3]; rfl
  · go_ret
    refine ⟨?_, (Below.refl _ _).alloc (Nat.le_refl _) _⟩
    have e3 : decide (1 ≤ sz) = false := decide_eq_false (by omega)
    rw [e3]; simp
  · go_ret
    refine ⟨?_, (Below.refl _ _).alloc (Nat.le_refl _) _⟩
    have e3 : decide (l.length ≤ 64) = false := decide_eq_false (by omega)
    rw [e3]; simp
  · go_ret
    refine ⟨?_, (Below.refl _ _).alloc (Nat.le_refl _) _⟩
    have e3 : decide (1 ≤ l.length) = false := decide_eq_false (by omega)
    rw [e3]; simp

set_option maxHeartbeats 400000 in
theorem free_any (l : List BI) (A : Option Addr) (c : Nat) (w : World) (hl : Rd w w.heap.size A (flat l)) (hn : l.length ≤ 100000) :
    Calls Try.prog 18 #[.slice A l.length c] w fun e w' => e = .returned (.int .i64 (freeN l)) ∧ Below w.heap.size w w' := by
  go_enter Try.func18, Try.ntmps18
  go_wp2
  go_loopw [3, 8] (fun n i wr => ∃ k : Nat, k ≤ l.length ∧ i = .int .i64 k ∧ n = .int .i64 (freeN (l.take k)) ∧ Below w.heap.size w wr) (fun _ i _ => l.length - (intOf i).toNat)
  case atStart => exact ⟨0, Nat.zero_le _, rfl, rfl, Below.refl _ _⟩
  case round =>
    obtain ⟨k, hk, rfl, rfl, hbl⟩ := hrel
    have hfl := freeN_le (l.take k)
    have hll : (l.take k).length ≤ k := List.length_take_le _ _
    by_cases hlt : k < l.length
    · obtain ⟨g, o, rfl, hg, h0, h1, h2, h3⟩ := hl.band (get_some hlt)
      have j0 := (hbl.cell (p := ⟨g, _, none⟩) hg).trans h0
      have j1 := (hbl.cell (p := ⟨g, _, none⟩) hg).trans h1
      have j2 := (hbl.cell (p := ⟨g, _, none⟩) hg).trans h2
      have j3 := (hbl.cell (p := ⟨g, _, none⟩) hg).trans h3
      have HS := Lib.hid (freeN_take l k hlt)
      have hz := hbl.size
      cases hbd : l[k].used == 0
      all_goals
        go_wp2
        go_roundw
        case rel => exact ⟨k + 1, by omega, by go_num, by rw [HS.out, hbd]; simp, hbl.alloc hz _⟩
        case measure => simp [intOf]; omega
    · have hk' : k = l.length := by omega
      subst hk'
      go_wp2
      go_ret
      exact ⟨by rw [List.take_of_length_le (Nat.le_refl _)]; rfl, hbl⟩

set_option maxHeartbeats 400000 in
theorem newer_first (A : Option Addr) (n c : Nat) (i : Int) (w : World) (b1 b2 : Nat) (h1 : w.cell? ⟨b1, 0, none⟩ = some (.int .i64 (-1))) (h2 : w.cell? ⟨b2, 0, none⟩ = some (.slice A n c)) :
    Calls Try.prog 39 #[.int .i64 i, .pointer (some ⟨b1, 0, none⟩), .pointer (some ⟨b2, 0, none⟩)] w fun e w' => e = .returned (.bool true) ∧ Below w.heap.size w w' := by
  go_enter Try.func39, Try.ntmps39
  go_wp2
  go_quiet (fail)
  go_wp2
  go_ret
  exact ⟨rfl, below_drewN' (Below.refl _ _) _⟩

set_option maxHeartbeats 400000 in
theorem newer_any (l : List BI) (A : Option Addr) (c : Nat) (k j : Nat) (hk : k < l.length) (hj : j < l.length) (w : World) (B b1 b2 : Nat) (hl : Rd w B A (flat l)) (hn : l.length ≤ 100000) (h1 : w.cell? ⟨b1, 0, none⟩ = some (.int .i64 j)) (h2 : w.cell? ⟨b2, 0, none⟩ = some (.slice A l.length c)) :
    Calls Try.prog 39 #[.int .i64 k, .pointer (some ⟨b1, 0, none⟩), .pointer (some ⟨b2, 0, none⟩)] w fun e w' => e = .returned (.bool (decide (l[j].age < l[k].age))) ∧ Below w.heap.size w w' := by
  obtain ⟨g, o, rfl, hg, _, _, a2, _⟩ := hl.band (get_some hk)
  obtain ⟨g', o', e, _, _, _, b2', _⟩ := hl.band (get_some hj)
  simp only [Option.some.injEq, Addr.mk.injEq, and_true] at e
  obtain ⟨rfl, rfl⟩ := e
  have d1 : decide ((j : Int) < 0) = false := by simp
  have d2 : (0 : Int) ≤ k := by omega
  have d3 : (k : Int) < l.length := by omega
  have d4 : (0 : Int) ≤ j := by omega
  have d5 : (j : Int) < l.length := by omega
  go_enter Try.func39, Try.ntmps39
  go_wp2
  go_quiet (fail)
  go_wp2
  go_ret
  exact ⟨by simp, below_drewN' (Below.refl _ _) _⟩
end Go.Proofs.Ytbnkpknoknenjaa
