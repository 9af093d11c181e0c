/-
  WHAT IS SHOWN: what victim.Better and tegularef18.Better return, for any bands, size and time: the same; they change nothing that was there. Conditions: the numbers lie in their kinds' ranges.
-/
import Derived.Test.YtbnkpknoknenjaaRows
import Derived.Test.YtbnkpknoknenjaaVictimPlain
import Derived.Deep.QuietTactic
import Derived.BigQuiet
import Derived.Handy
namespace Go.Proofs.Ytbnkpknoknenjaa
set_option linter.unusedVariables false
open Go.RowKit

theorem two_num {a b c d : Int} (h1 : a = c) (h2 : b = d) : Ending.returned (.tuple #[.int .u64 a, .int .u64 b]) = .returned (.tuple #[.int .u64 c, .int .u64 d]) := by rw [h1, h2]

theorem one_num {a c : Int} (h1 : a = c) : Ending.returned (.int .u64 a) = .returned (.int .u64 c) := by rw [h1]

set_option maxHeartbeats 400000 in
theorem mul64_any (x y : Int) (hx : 0 ≤ x) (hx2 : x < 18446744073709551616) (hy : 0 ≤ y) (hy2 : y < 18446744073709551616) (w : World) :
    Calls Try.prog 48 #[.int .u64 x, .int .u64 y] w fun e w' => e = .returned (.tuple #[.int .u64 (x * y / 18446744073709551616), .int .u64 (x * y % 18446744073709551616)]) ∧ Below w.heap.size w w' := by
  go_enter Try.func48, Try.ntmps48
  go_wp2
  go_ret2
  exact ⟨two_num (mul_halves x y hx hx2 hy hy2) (u64_mod _), Below.refl _ _⟩

set_option maxHeartbeats 400000 in
theorem vfits_any (b : BI) (w : World) : Calls Try.prog 45 #[.agg #[.int .i64 b.used, .int .i64 b.live, .int .u64 b.age, .int .u64 b.wear]] w fun e w' => e = .returned (.bool (fitB b)) ∧ Below w.heap.size w w' := by
  unfold fitB
  go_enter Try.func45, Try.ntmps45
  go_wp2
  all_goals (go_ret; exact ⟨by simp [*] <;> (intros; omega), ((Below.refl _ _).alloc (Nat.le_refl _) _)⟩)

set_option maxHeartbeats 400000 in
theorem rfits_any (b : BI) (sz : Int) (w : World) : Calls Try.prog 49 #[.agg #[.int .i64 b.used, .int .i64 b.live, .int .u64 b.age, .int .u64 b.wear], .int .i64 sz] w fun e w' => e = .returned (.bool (szB sz && fitB b)) ∧ Below w.heap.size w w' := by
  unfold fitB szB
  go_enter Try.func49, Try.ntmps49
  go_wp2
  all_goals (go_ret; exact ⟨by simp [*] <;> (intros; omega), ((Below.refl _ _).alloc (Nat.le_refl _) _)⟩)

set_option maxHeartbeats 400000 in
theorem rage_any (b : BI) (hb : U64 b.age) (now : Int) (hn : U64 now) (w : World) : Calls Try.prog 56 #[.agg #[.int .i64 b.used, .int .i64 b.live, .int .u64 b.age, .int .u64 b.wear], .int .u64 now] w fun e w' => e = .returned (.int .u64 (ageN b now)) ∧ Below w.heap.size w w' := by
  obtain ⟨a1, a2⟩ := hb
  obtain ⟨b1, b2⟩ := hn
  by_cases hlt : b.age < now
  · have hn : ¬ now < b.age := by omega
    by_cases hl2 : now - b.age < 1099511627776
    · have HA : Hid (ageN b now = now - b.age) := by unfold Hid ageN; rw [if_pos hlt, if_pos hl2]
      go_enter Try.func56, Try.ntmps56
      go_wp2
      all_goals (go_ret; refine ⟨?_, ((Below.refl _ _).alloc (Nat.le_refl _) _)⟩; rw [HA.out]; exact one_num (by omega))
    · have HA : Hid (ageN b now = 1099511627776) := by unfold Hid ageN; rw [if_pos hlt, if_neg hl2]
      go_enter Try.func56, Try.ntmps56
      go_wp2
      all_goals (go_ret; refine ⟨?_, ((Below.refl _ _).alloc (Nat.le_refl _) _)⟩; rw [HA.out]; exact one_num (by omega))
  · have HA : Hid (ageN b now = 0) := by unfold Hid ageN; rw [if_neg hlt]
    go_enter Try.func56, Try.ntmps56
    go_wp2
    all_goals (go_ret; refine ⟨?_, ((Below.refl _ _).alloc (Nat.le_refl _) _)⟩; rw [HA.out]; exact one_num (by omega))

set_option maxHeartbeats 400000 in
theorem yield_any (b : BI) (hb : U64 b.age) (now sz : Int) (hn : U64 now) (h0 : 0 ≤ b.live) (h1 : b.live ≤ sz) (h2 : 1 ≤ sz) (h3 : sz ≤ 1048576) (w : World) : Calls Try.prog 47 #[.agg #[.int .i64 b.used, .int .i64 b.live, .int .u64 b.age, .int .u64 b.wear], .int .i64 sz, .int .u64 now] w fun e w' => e = .returned (.tuple #[.int .u64 (numN b sz now), .int .u64 (denN b sz)]) ∧ Below w.heap.size w w' := by
  obtain ⟨a1, a2⟩ := hb
  obtain ⟨b1, b2⟩ := hn
  have hag := ageN_bound b now
  have HM := Lib.hid (mul_bound (a := sz - b.live) (b := ageN b now + 1) (A := 1048576) (B := 1099511627777) (by omega) (by omega) (by omega) (by omega))
  clear hag
  have fin : ∀ g : Int, ageN b now = g → Hid (IntKind.u64.wrap ((sz - b.live) * (g + 1)) = numN b sz now) := fun g hg => by
    have h := HM.out
    unfold Hid numN
    rw [hg] at h ⊢
    exact u64_self h.1 (by omega)
  have HF := Lib.hid fin
  clear fin
  by_cases hlt : b.age < now
  · by_cases hl2 : now - b.age < 1099511627776
    · have HN := HF.out (now - b.age) (by unfold ageN; rw [if_pos hlt, if_pos hl2])
      go_enter Try.func47, Try.ntmps47
      go_wp2
      go_quiet (fail)
      go_wp2
      go_ret2
      exact ⟨two_num HN.out rfl, below_drewN' ((Below.refl _ _).alloc (Nat.le_refl _) _) _⟩
    · have HN := HF.out 1099511627776 (by unfold ageN; rw [if_pos hlt, if_neg hl2])
      go_enter Try.func47, Try.ntmps47
      go_wp2
      all_goals
        go_quiet (fail)
        go_wp2
        go_ret2
        exact ⟨two_num (by first | exact HN.out | (have h := HN.out; rw [← h, u64_self (by omega) (by omega)]; omega) | exact (HF.out (now - b.age) (by unfold ageN; rw [if_pos hlt]; split <;> omega)).out) rfl, below_drewN' ((Below.refl _ _).alloc (Nat.le_refl _) _) _⟩
  · have HN := HF.out 0 (by unfold ageN; rw [if_neg hlt])
    go_enter Try.func47, Try.ntmps47
    go_wp2
    go_quiet (fail)
    go_wp2
    go_ret2
    exact ⟨two_num (by first | exact HN.out | (have h := HN.out; rw [← h, u64_self (by omega) (by omega)]; omega)) rfl, below_drewN' ((Below.refl _ _).alloc (Nat.le_refl _) _) _⟩

theorem loss_num {b : BI} {sz now : Int} (h2 : 1 ≤ sz) (h3 : sz ≤ 1048576) (h1 : sz < b.live) (h4 : b.live ≤ 1048576) :
    IntKind.u64.wrap (IntKind.u64.wrap ((sz * (ageN b now + 1)).tdiv sz) * (b.live - sz)) = - numN b sz now := by
  have hag := ageN_bound b now
  rw [Int.tdiv_eq_ediv_of_nonneg (Int.mul_nonneg (by omega) (by omega)), Int.mul_comm sz, Int.mul_ediv_cancel _ (by omega), u64_self (x := ageN b now + 1) (by omega) (by omega)]
  obtain ⟨m1, m2⟩ := mul_bound (a := ageN b now + 1) (b := b.live - sz) (A := 1099511627777) (B := 1048576) (by omega) (by omega) (by omega) (by omega)
  rw [u64_self m1 (by omega)]
  unfold numN
  rw [← Int.neg_mul, Int.mul_comm]
  congr 1; omega
set_option maxHeartbeats 400000 in
theorem loss_any (b : BI) (hb : U64 b.age) (now sz : Int) (hn : U64 now) (h1 : sz < b.live) (h4 : b.live ≤ 1048576) (h2 : 1 ≤ sz) (h3 : sz ≤ 1048576) (w : World) : Calls Try.prog 54 #[.agg #[.int .i64 b.used, .int .i64 b.live, .int .u64 b.age, .int .u64 b.wear], .int .i64 sz, .int .u64 now] w fun e w' => e = .returned (.tuple #[.int .u64 (- numN b sz now), .int .u64 (denN b sz)]) ∧ Below w.heap.size w w' := by
  have HN := Lib.hid (loss_num (now := now) h2 h3 h1 h4)
  have hy := fun W => yield_any ⟨b.used, 0, b.age, b.wear⟩ hb now sz hn (Int.le_refl 0) (by show (0 : Int) ≤ sz; omega) h2 h3 W
  have e1 : numN ⟨b.used, 0, b.age, b.wear⟩ sz now = sz * (ageN b now + 1) := by
    show (sz - 0) * (ageN b now + 1) = _
    rw [Int.sub_zero]
  simp only [e1] at hy
  have hq : 0 ≤ sz * (ageN b now + 1) := Int.mul_nonneg (by omega) (by have := (ageN_bound b now).1; omega)
  have HY := Lib.hid hy
  clear hy e1
  go_enter Try.func54, Try.ntmps54
  go_wp2_with fail
  refine (HY.out _).mono ?_
  rintro e w1 ⟨rfl, hb1⟩
  have hc : w1.cell? ⟨w.heap.size, 1, none⟩ = some (.int .i64 b.live) := (hb1.cell (p := ⟨w.heap.size, 1, none⟩) (by simp; omega)).trans (by rw [World.cell?_alloc_past _ _ _ (by simp)]; simp)
  have hbl : Below w.heap.size w w1 := ((((Below.refl _ _).alloc (Nat.le_refl _) _)).alloc (by simp) _).trans (hb1.mono (by simp; omega))
  generalize sz * (ageN b now + 1) = q at *
  go_wp2
  go_quiet (fail)
  go_wp2
  go_ret2
  exact ⟨two_num HN.out rfl, below_drewN' hbl _⟩
end Go.Proofs.Ytbnkpknoknenjaa
