/-
  WHAT IS SHOWN: what tegularef18.Better returns for any bands, size and time: what victim.Better returns; it changes nothing that was there. Conditions: the numbers lie in their kinds' ranges.
-/
import Derived.Test.YtbnkpknoknenjaaVictim2
import Derived.Deep.RegionHeld3
namespace Go.Proofs.Ytbnkpknoknenjaa
set_option linter.unusedVariables false
open Go.RowKit

/-- The product of three numbers, reckoned by parts of 20 bits. -/
theorem prod_parts (a b c : Int) (ha : 0 ≤ a) (ha1 : a ≤ 1048576) (hb : 0 ≤ b) (hb1 : b ≤ 2097152) (hc : 0 ≤ c) (hc1 : c ≤ 1099511627777) :
    IntKind.u64.wrap (IntKind.u64.wrap (IntKind.u64.wrap (a * b) / 1048576 * c) + IntKind.u64.wrap (bits .and .u64 (IntKind.u64.wrap (a * b)) 1048575 * c) / 1048576) = a * b * c / 1048576 ∧
    bits .and .u64 (IntKind.u64.wrap (bits .and .u64 (IntKind.u64.wrap (a * b)) 1048575 * c)) 1048575 = a * b * c % 1048576 := by
  obtain ⟨h0, h1⟩ := mul_bound ha hb ha1 hb1
  generalize a * b = p at *
  rw [u64_self h0 (by omega), mask20 p h0 (by omega)]
  have e : p * c = p / 1048576 * c * 1048576 + p % 1048576 * c := by
    have : p = p / 1048576 * 1048576 + p % 1048576 := by omega
    conv => lhs; rw [this, Int.add_mul]
    rw [Int.mul_assoc, Int.mul_comm 1048576, ← Int.mul_assoc]
  obtain ⟨q0, q1⟩ := mul_bound (a := p / 1048576) (b := c) (A := 2097152) (B := 1099511627777) (by omega) hc (by omega) hc1
  obtain ⟨r0, r1⟩ := mul_bound (a := p % 1048576) (b := c) (A := 1048576) (B := 1099511627777) (by omega) hc (by omega) hc1
  rw [e]
  generalize p / 1048576 * c = q at *
  generalize p % 1048576 * c = r at *
  rw [u64_self (x := q) q0 (by omega), u64_self (x := r) r0 (by omega), u64_self (by omega) (by omega), mask20 r r0 (by omega)]
  omega

set_option maxHeartbeats 400000 in
theorem product_any (a b c : Int) (ha : 0 ≤ a) (ha1 : a ≤ 1048576) (hb : 0 ≤ b) (hb1 : b ≤ 2097152) (hc : 0 ≤ c) (hc1 : c ≤ 1099511627777) (w : World) :
    Calls Try.prog 55 #[.int .u64 a, .int .u64 b, .int .u64 c] w fun e w' => e = .returned (.tuple #[.int .u64 (a * b * c / 1048576), .int .u64 (a * b * c % 1048576)]) ∧ Below w.heap.size w w' := by
  have HP := Lib.hid (prod_parts a b c ha ha1 hb hb1 hc hc1)
  clear ha1 hb1 hc1
  go_enter Try.func55, Try.ntmps55
  go_wp2
  go_ret2
  exact ⟨two_num HP.out.1 HP.out.2, Below.refl _ _⟩

def signN (n : Int) : Int := if 0 < n then 1 else if n < 0 then -1 else 0
set_option maxHeartbeats 400000 in
theorem sign_any (n : Int) (w : World) : Calls Try.prog 50 #[.int .i64 n] w fun e w' => e = .returned (.int .i64 (signN n)) ∧ Below w.heap.size w w' := by
  by_cases h : 0 < n
  · have HS : Hid (signN n = 1) := by unfold Hid signN; rw [if_pos h]
    go_enter Try.func50, Try.ntmps50
    go_wp2
    go_ret
    exact ⟨by rw [HS.out]; rfl, Below.refl _ _⟩
  · by_cases h2 : n < 0
    · have HS : Hid (signN n = -1) := by unfold Hid signN; rw [if_neg h, if_pos h2]
      go_enter Try.func50, Try.ntmps50
      go_wp2
      go_ret
      exact ⟨by rw [HS.out]; rfl, Below.refl _ _⟩
    · have HS : Hid (signN n = 0) := by unfold Hid signN; rw [if_neg h, if_neg h2]
      go_enter Try.func50, Try.ntmps50
      go_wp2
      go_ret
      exact ⟨by rw [HS.out]; rfl, Below.refl _ _⟩

/-- x (age + 1) / (size + Live) of a is less than that of b with y. -/
def lessN (x : Int) (a : BI) (y : Int) (b : BI) (sz now : Int) : Bool := decide (x * (sz + b.live) * (ageN a now + 1) < y * (sz + a.live) * (ageN b now + 1))
set_option maxHeartbeats 1000000 in
theorem less_any (x y : Int) (a b : BI) (ha : a.Ok) (hb : b.Ok) (sz now : Int) (hn : U64 now) (fa : Fine a sz) (fb : Fine b sz) (x0 : 0 ≤ x) (x1 : x ≤ 1048576) (y0 : 0 ≤ y) (y1 : y ≤ 1048576) (w : World) :
    Calls Try.prog 51 #[.int .i64 x, .agg #[.int .i64 a.used, .int .i64 a.live, .int .u64 a.age, .int .u64 a.wear], .int .i64 y, .agg #[.int .i64 b.used, .int .i64 b.live, .int .u64 b.age, .int .u64 b.wear], .int .i64 sz, .int .u64 now] w fun e w' => e = .returned (.bool (lessN x a y b sz now)) ∧ Below w.heap.size w w' := by
  obtain ⟨da0, da1⟩ := den_range fa
  obtain ⟨db0, db1⟩ := den_range fb
  unfold denN at da0 da1 db0 db1
  obtain ⟨ga0, ga1⟩ := ageN_bound a now
  obtain ⟨gb0, gb1⟩ := ageN_bound b now
  have A0 : Cells4 ((w.alloc (.cells #[.int .i64 a.used, .int .i64 a.live, .int .u64 a.age, .int .u64 a.wear] 35)).alloc (.cells #[.int .i64 b.used, .int .i64 b.live, .int .u64 b.age, .int .u64 b.wear] 35)) w.heap.size (.int .i64 a.used) (.int .i64 a.live) (.int .u64 a.age) (.int .u64 a.wear) := (Cells4.new w 35 _ _ _ _).below ((Below.refl _ _).alloc (Nat.le_refl _) _) (by simp)
  have B0 : Cells4 ((w.alloc (.cells #[.int .i64 a.used, .int .i64 a.live, .int .u64 a.age, .int .u64 a.wear] 35)).alloc (.cells #[.int .i64 b.used, .int .i64 b.live, .int .u64 b.age, .int .u64 b.wear] 35)) (w.heap.size + 1) (.int .i64 b.used) (.int .i64 b.live) (.int .u64 b.age) (.int .u64 b.wear) := Cells4.new_at (w.alloc (.cells #[.int .i64 a.used, .int .i64 a.live, .int .u64 a.age, .int .u64 a.wear] 35)) 35 _ _ _ _ _ (by simp)
  have hbl0 : Below w.heap.size w ((w.alloc (.cells #[.int .i64 a.used, .int .i64 a.live, .int .u64 a.age, .int .u64 a.wear] 35)).alloc (.cells #[.int .i64 b.used, .int .i64 b.live, .int .u64 b.age, .int .u64 b.wear] 35)) := (((Below.refl _ _).alloc (Nat.le_refl _) _)).alloc (by simp) _
  have hz0 : w.heap.size + 2 ≤ ((w.alloc (.cells #[.int .i64 a.used, .int .i64 a.live, .int .u64 a.age, .int .u64 a.wear] 35)).alloc (.cells #[.int .i64 b.used, .int .i64 b.live, .int .u64 b.age, .int .u64 b.wear] 35)).heap.size := by simp
  have c1 := Lib.hid (fun W => rage_any a ha.age now hn W)
  have c2 := Lib.hid (fun W => rage_any b hb.age now hn W)
  have c3 := Lib.hid (fun W => product_any x (sz + b.live) (ageN a now + 1) x0 x1 (by omega) db1 (by omega) (by omega) W)
  have c4 := Lib.hid (fun W => product_any y (sz + a.live) (ageN b now + 1) y0 y1 (by omega) da1 (by omega) (by omega) W)
  have HT : Hid (lessN x a y b sz now = decide (x * (sz + b.live) * (ageN a now + 1) < y * (sz + a.live) * (ageN b now + 1))) := rfl
  generalize x * (sz + b.live) * (ageN a now + 1) = X at *
  generalize y * (sz + a.live) * (ageN b now + 1) = Y at *
  generalize ageN a now = ga at *
  generalize ageN b now = gb at *
  have hw1 : IntKind.u64.wrap (ga + 1) = ga + 1 := u64_self (by omega) (by omega)
  have hw2 : IntKind.u64.wrap (gb + 1) = gb + 1 := u64_self (by omega) (by omega)
  go_enter Try.func51, Try.ntmps51
  go_wp2_with fail
  generalize (w.alloc (.cells #[.int .i64 a.used, .int .i64 a.live, .int .u64 a.age, .int .u64 a.wear] 35)).alloc (.cells #[.int .i64 b.used, .int .i64 b.live, .int .u64 b.age, .int .u64 b.wear] 35) = W0 at *
  have hv1 : IntKind.u64.wrap x = x := u64_self (by omega) (by omega)
  have hv2 : IntKind.u64.wrap y = y := u64_self (by omega) (by omega)
  have hv3 : IntKind.i64.wrap (sz + b.live) = sz + b.live := by rw [IntKind.wrap_i64]; omega
  have hv4 : IntKind.i64.wrap (sz + a.live) = sz + a.live := by rw [IntKind.wrap_i64]; omega
  have hv5 : IntKind.u64.wrap (sz + b.live) = sz + b.live := u64_self (by omega) (by omega)
  have hv6 : IntKind.u64.wrap (sz + a.live) = sz + a.live := u64_self (by omega) (by omega)
  have KK : ∀ W, Below W0.heap.size W0 W → W.cell? ⟨w.heap.size, 0, none⟩ = some (.int .i64 a.used) ∧ W.cell? ⟨w.heap.size, 1, none⟩ = some (.int .i64 a.live) ∧ W.cell? ⟨w.heap.size, 2, none⟩ = some (.int .u64 a.age) ∧ W.cell? ⟨w.heap.size, 3, none⟩ = some (.int .u64 a.wear) ∧
      W.cell? ⟨w.heap.size + 1, 0, none⟩ = some (.int .i64 b.used) ∧ W.cell? ⟨w.heap.size + 1, 1, none⟩ = some (.int .i64 b.live) ∧ W.cell? ⟨w.heap.size + 1, 2, none⟩ = some (.int .u64 b.age) ∧ W.cell? ⟨w.heap.size + 1, 3, none⟩ = some (.int .u64 b.wear) := fun W h => by
    have A1 := A0.below h (by omega)
    have B1 := B0.below h (by omega)
    exact ⟨A1.c0, A1.c1, A1.c2, A1.c3, B1.c0, B1.c1, B1.c2, B1.c3⟩
  have DK := Lib.hid KK
  clear KK A0 B0
  go_region_held3 (fun W => W.cell? ⟨w.heap.size, 0, none⟩ = some (.int .i64 a.used) ∧ W.cell? ⟨w.heap.size, 1, none⟩ = some (.int .i64 a.live) ∧ W.cell? ⟨w.heap.size, 2, none⟩ = some (.int .u64 a.age) ∧ W.cell? ⟨w.heap.size, 3, none⟩ = some (.int .u64 a.wear) ∧
      W.cell? ⟨w.heap.size + 1, 0, none⟩ = some (.int .i64 b.used) ∧ W.cell? ⟨w.heap.size + 1, 1, none⟩ = some (.int .i64 b.live) ∧ W.cell? ⟨w.heap.size + 1, 2, none⟩ = some (.int .u64 b.age) ∧ W.cell? ⟨w.heap.size + 1, 3, none⟩ = some (.int .u64 b.wear))
    (first | exact DK.out _ k2 | exact DK.out _ k1 | exact DK.out _ ((Below.refl _ _).drew))
    (first
      | (go_at_call 56; refine (c1.out _).mono ?_; rintro e w1 ⟨rfl, hb1⟩; have k1 : Below W0.heap.size W0 w1 := ((Below.refl _ _).drew).trans hb1)
      | (go_at_call 55; refine (c3.out _).mono ?_; rintro e w2 ⟨rfl, hb2⟩; have k2 : Below W0.heap.size W0 w2 := k1.trans (hb2.mono k1.size)))
  go_wp2_with fail
  go_region_held3 (fun W => W.cell? ⟨w.heap.size, 0, none⟩ = some (.int .i64 a.used) ∧ W.cell? ⟨w.heap.size, 1, none⟩ = some (.int .i64 a.live) ∧ W.cell? ⟨w.heap.size, 2, none⟩ = some (.int .u64 a.age) ∧ W.cell? ⟨w.heap.size, 3, none⟩ = some (.int .u64 a.wear) ∧
      W.cell? ⟨w.heap.size + 1, 0, none⟩ = some (.int .i64 b.used) ∧ W.cell? ⟨w.heap.size + 1, 1, none⟩ = some (.int .i64 b.live) ∧ W.cell? ⟨w.heap.size + 1, 2, none⟩ = some (.int .u64 b.age) ∧ W.cell? ⟨w.heap.size + 1, 3, none⟩ = some (.int .u64 b.wear))
    (first | exact DK.out _ k4 | exact DK.out _ k3 | exact DK.out _ (k2.drew))
    (first
      | (go_at_call 56; refine (c2.out _).mono ?_; rintro e w3 ⟨rfl, hb3⟩; have k3 : Below W0.heap.size W0 w3 := k2.drew.trans (hb3.mono k2.size))
      | (go_at_call 55; refine (c4.out _).mono ?_; rintro e w4 ⟨rfl, hb4⟩; have k4 : Below W0.heap.size W0 w4 := k3.trans (hb4.mono k3.size)))
  have hfin : Below w.heap.size w w4 := hbl0.trans (k4.mono (by omega))
  clear hv1 hv2 hv3 hv4 hv5 hv6 hw1 hw2
  by_cases hX : X < Y
  · have HU : Hid (lessN x a y b sz now = true) := by unfold Hid; rw [HT.out]; exact decide_eq_true hX
    go_wp2
    all_goals (go_ret; refine ⟨ret_bool (Eq.trans ?_ HU.out.symm), hfin⟩; first | rfl | exact decide_eq_true (by omega) | (exfalso; omega))
  · have HU : Hid (lessN x a y b sz now = false) := by unfold Hid; rw [HT.out]; exact decide_eq_false hX
    go_wp2
    all_goals (go_ret; refine ⟨ret_bool (Eq.trans ?_ HU.out.symm), hfin⟩; first | rfl | exact decide_eq_false (by omega) | (exfalso; omega))
end Go.Proofs.Ytbnkpknoknenjaa
