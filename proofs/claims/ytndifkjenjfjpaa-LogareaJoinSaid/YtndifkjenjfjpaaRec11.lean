/-
  WHAT IS SHOWN: what Valid of record and of tegularef27 return. Conditions: the record can be read.
-/
import Derived.Test.YtndifkjenjfjpaaRecQ
namespace Go.Proofs.Ytndifkjenjfjpaa
set_option linter.unusedVariables false
open Go.RowKit

set_option maxHeartbeats 400000 in
theorem piece_any (g p : Int) (w : World) : Calls Try.prog 54 #[.int .i64 g, .int .i64 p] w fun e w' => e = .returned (.bool (pieceB g p)) ∧ w = w' := by
  cases hb : pieceB g p
  · unfold pieceB at hb
    simp only [Bool.and_eq_false_iff, decide_eq_false_iff_not] at hb
    by_cases h0 : 0 ≤ g
    · by_cases h1 : g < 4096
      · by_cases h2 : 0 ≤ p
        · have h3 : ¬ (p < 16) := by omega
          clear hb
          go_enter Try.func54, Try.ntmps54
          go_wp2
          go_ret
          exact ⟨rfl, rfl⟩
        · clear hb
          go_enter Try.func54, Try.ntmps54
          go_wp2
          go_ret
          exact ⟨rfl, rfl⟩
      · clear hb
        go_enter Try.func54, Try.ntmps54
        go_wp2
        go_ret
        exact ⟨rfl, rfl⟩
    · clear hb
      go_enter Try.func54, Try.ntmps54
      go_wp2
      go_ret
      exact ⟨rfl, rfl⟩
  · unfold pieceB at hb
    simp only [Bool.and_eq_true, decide_eq_true_eq] at hb
    obtain ⟨⟨⟨h0, h1⟩, h2⟩, h3⟩ := hb
    go_enter Try.func54, Try.ntmps54
    go_wp2
    go_ret
    exact ⟨rfl, rfl⟩
set_option maxHeartbeats 400000 in
theorem place_any (k b : Int) (w : World) : Calls Try.prog 55 #[.agg #[.int .i64 k, .int .i64 b]] w fun e w' => e = .returned (.bool (placeB k b)) ∧ Below w.heap.size w w' := by
  have hbl : Below w.heap.size w (w.alloc (.cells #[.int .i64 k, .int .i64 b] 80)) := (Below.refl _ _).alloc (Nat.le_refl _) _
  have HB := Lib.hid hbl
  clear hbl
  by_cases hk : k = -1
  · subst hk
    by_cases h : b = 0
    · subst h
      have HP : Hid (placeB (-1) 0 = true) := by unfold Hid placeB; first | (simp; omega) | (simp [*]; done) | (simp [*]; omega)
      go_enter Try.func55, Try.ntmps55
      go_wp2
      go_ret
      exact ⟨by rw [HP.out]; rfl, HB.out⟩
    · have h' : (b == 0) = false := by simpa using h
      have HP : Hid (placeB (-1) b = false) := by unfold Hid placeB; first | (simp; omega) | (simp [*]; done) | (simp [*]; omega)
      go_enter Try.func55, Try.ntmps55
      go_wp2
      go_ret
      exact ⟨by rw [HP.out]; rfl, HB.out⟩
  · have hk' : (k == -1) = false := by simpa using hk
    by_cases h0 : 0 ≤ k
    · by_cases h1 : k < 60
      · by_cases h2 : 0 ≤ b
        · by_cases h3 : b < 65536
          · have HP : Hid (placeB k b = true) := by unfold Hid placeB; first | (simp; omega) | (simp [*]; done) | (simp [*]; omega)
            go_enter Try.func55, Try.ntmps55
            go_wp2
            go_ret
            exact ⟨by rw [HP.out]; rfl, HB.out⟩
          · have HP : Hid (placeB k b = false) := by unfold Hid placeB; first | (simp; omega) | (simp [*]; done) | (simp [*]; omega)
            go_enter Try.func55, Try.ntmps55
            go_wp2
            go_ret
            exact ⟨by rw [HP.out]; rfl, HB.out⟩
        · have HP : Hid (placeB k b = false) := by unfold Hid placeB; first | (simp; omega) | (simp [*]; done) | (simp [*]; omega)
          go_enter Try.func55, Try.ntmps55
          go_wp2
          go_ret
          exact ⟨by rw [HP.out]; rfl, HB.out⟩
      · have HP : Hid (placeB k b = false) := by unfold Hid placeB; first | (simp; omega) | (simp [*]; done) | (simp [*]; omega)
        go_enter Try.func55, Try.ntmps55
        go_wp2
        go_ret
        exact ⟨by rw [HP.out]; rfl, HB.out⟩
    · have HP : Hid (placeB k b = false) := by unfold Hid placeB; first | (simp; omega) | (simp [*]; done) | (simp [*]; omega)
      go_enter Try.func55, Try.ntmps55
      go_wp2
      go_ret
      exact ⟨by rw [HP.out]; rfl, HB.out⟩
def withinB (n lo hi : Int) : Bool := decide (lo ≤ n) && decide (n ≤ hi)
set_option maxHeartbeats 400000 in
theorem within_any (n lo hi : Int) (w : World) : Calls Try.prog 56 #[.int .i64 n, .int .i64 lo, .int .i64 hi] w fun e w' => e = .returned (.bool (withinB n lo hi)) ∧ w = w' := by
  by_cases h0 : lo ≤ n
  · by_cases h1 : n ≤ hi
    · have HP : Hid (withinB n lo hi = true) := by unfold Hid withinB; first | (simp [*]; done) | (simp; omega)
      go_enter Try.func56, Try.ntmps56
      go_wp2
      go_ret
      exact ⟨by rw [HP.out]; rfl, rfl⟩
    · have HP : Hid (withinB n lo hi = false) := by unfold Hid withinB; first | (simp [*]; done) | (simp; omega)
      go_enter Try.func56, Try.ntmps56
      go_wp2
      go_ret
      exact ⟨by rw [HP.out]; rfl, rfl⟩
  · have HP : Hid (withinB n lo hi = false) := by unfold Hid withinB; first | (simp [*]; done) | (simp; omega)
    go_enter Try.func56, Try.ntmps56
    go_wp2
    go_ret
    exact ⟨by rw [HP.out]; rfl, rfl⟩
end Go.Proofs.Ytndifkjenjfjpaa
