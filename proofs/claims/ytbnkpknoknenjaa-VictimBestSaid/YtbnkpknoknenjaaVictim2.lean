/-
  WHAT IS SHOWN: what victim.Better returns for any bands, size and time; it changes nothing that was there. Conditions: the numbers lie in their kinds' ranges.
-/
import Derived.Test.YtbnkpknoknenjaaVictim1
namespace Go.Proofs.Ytbnkpknoknenjaa
set_option linter.unusedVariables false
open Go.RowKit

theorem ret_bool {a b : Bool} (h : a = b) : Ending.returned (.bool a) = .returned (.bool b) := by rw [h]
theorem num_range {b : BI} {sz : Int} (now : Int) (h : Fine b sz) (hl : b.live ≤ sz) : 0 ≤ numN b sz now ∧ numN b sz now ≤ 1152921504607895552 := by
  have := ageN_bound b now
  have h1 := h.live0; have h2 := h.sz1
  unfold numN
  have := mul_bound (a := sz - b.live) (b := ageN b now + 1) (A := 1048576) (B := 1099511627777) (by omega) (by omega) (by omega) (by omega)
  omega
theorem num_neg {b : BI} {sz : Int} (now : Int) (h : Fine b sz) (hl : sz < b.live) : 0 < - numN b sz now ∧ - numN b sz now ≤ 1152921504607895552 := by
  have := ageN_bound b now
  have h1 := h.live1; have h2 := h.sz0
  unfold numN
  rw [← Int.neg_mul]
  have := mul_bound (a := -(sz - b.live)) (b := ageN b now + 1) (A := 1048576) (B := 1099511627777) (by omega) (by omega) (by omega) (by omega)
  have hp : 0 < -(sz - b.live) * (ageN b now + 1) := Int.mul_pos (by omega) (by omega)
  omega
theorem den_range {b : BI} {sz : Int} (h : Fine b sz) : 1 ≤ denN b sz ∧ denN b sz ≤ 2097152 := by
  have := h.live0; have := h.live1; have := h.sz0; have := h.sz1; unfold denN; omega

set_option maxHeartbeats 1000000 in
theorem over_any (a b : BI) (ha : a.Ok) (hb : b.Ok) (sz now : Int) (hn : U64 now) (fa : Fine a sz) (fb : Fine b sz) (hor : sz < a.live ∨ sz < b.live) (w : World) :
    Calls Try.prog 46 #[.agg #[.int .i64 a.used, .int .i64 a.live, .int .u64 a.age, .int .u64 a.wear], .agg #[.int .i64 b.used, .int .i64 b.live, .int .u64 b.age, .int .u64 b.wear], .int .i64 sz, .int .u64 now] w fun e w' => e = .returned (.bool (betterB a b sz now)) ∧ Below w.heap.size w w' := by
  have HB := Lib.hid (betterB_fine now fa fb)
  obtain ⟨da0, da1⟩ := den_range fa
  obtain ⟨db0, db1⟩ := den_range fb
  have A0 : Cells4 ((w.alloc (.cells #[.int .i64 a.used, .int .i64 a.live, .int .u64 a.age, .int .u64 a.wear] 35)).alloc (.cells #[.int .i64 b.used, .int .i64 b.live, .int .u64 b.age, .int .u64 b.wear] 35)) w.heap.size (.int .i64 a.used) (.int .i64 a.live) (.int .u64 a.age) (.int .u64 a.wear) := (Cells4.new w 35 _ _ _ _).below ((Below.refl _ _).alloc (Nat.le_refl _) _) (by simp)
  have B0 : Cells4 ((w.alloc (.cells #[.int .i64 a.used, .int .i64 a.live, .int .u64 a.age, .int .u64 a.wear] 35)).alloc (.cells #[.int .i64 b.used, .int .i64 b.live, .int .u64 b.age, .int .u64 b.wear] 35)) (w.heap.size + 1) (.int .i64 b.used) (.int .i64 b.live) (.int .u64 b.age) (.int .u64 b.wear) := Cells4.new_at (w.alloc (.cells #[.int .i64 a.used, .int .i64 a.live, .int .u64 a.age, .int .u64 a.wear] 35)) 35 _ _ _ _ _ (by simp)
  have hbl0 : Below w.heap.size w ((w.alloc (.cells #[.int .i64 a.used, .int .i64 a.live, .int .u64 a.age, .int .u64 a.wear] 35)).alloc (.cells #[.int .i64 b.used, .int .i64 b.live, .int .u64 b.age, .int .u64 b.wear] 35)) := (((Below.refl _ _).alloc (Nat.le_refl _) _)).alloc (by simp) _
  have hz0 : w.heap.size + 2 ≤ ((w.alloc (.cells #[.int .i64 a.used, .int .i64 a.live, .int .u64 a.age, .int .u64 a.wear] 35)).alloc (.cells #[.int .i64 b.used, .int .i64 b.live, .int .u64 b.age, .int .u64 b.wear] 35)).heap.size := by simp
  by_cases h1 : a.live ≤ sz
  · have h2 : sz < b.live := by omega
    obtain ⟨na, _⟩ := num_range now fa h1
    obtain ⟨nb, _⟩ := num_neg now fb h2
    have HT : Hid (betterB a b sz now = true) := by
      unfold Hid; rw [HB.out]; apply decide_eq_true
      have t1 : numN b sz now * denN a sz < 0 := by
        have := Int.mul_pos nb (show 0 < denN a sz by omega)
        rw [Int.neg_mul] at this; omega
      have t2 : 0 ≤ numN a sz now * denN b sz := Int.mul_nonneg na (by omega)
      omega
    clear A0 B0 hbl0 hz0
    go_enter Try.func46, Try.ntmps46
    go_wp2
    go_ret
    exact ⟨ret_bool HT.out.symm, (((Below.refl _ _).alloc (Nat.le_refl _) _)).alloc (by simp) _⟩
  · have h1' : sz < a.live := by omega
    by_cases h2 : b.live ≤ sz
    · obtain ⟨na, _⟩ := num_neg now fa h1'
      obtain ⟨nb, _⟩ := num_range now fb h2
      have HT : Hid (betterB a b sz now = false) := by
        unfold Hid; rw [HB.out]; apply decide_eq_false
        have t1 : 0 ≤ numN b sz now * denN a sz := Int.mul_nonneg nb (by omega)
        have t2 : numN a sz now * denN b sz < 0 := by
          have := Int.mul_pos na (show 0 < denN b sz by omega)
          rw [Int.neg_mul] at this; omega
        omega
      clear A0 B0 hbl0 hz0
      go_enter Try.func46, Try.ntmps46
      go_wp2
      go_ret
      exact ⟨ret_bool HT.out.symm, (((Below.refl _ _).alloc (Nat.le_refl _) _)).alloc (by simp) _⟩
    · have h2' : sz < b.live := by omega
      obtain ⟨na, na1⟩ := num_neg now fa h1'
      obtain ⟨nb, nb1⟩ := num_neg now fb h2'
      obtain ⟨hX0, hX1⟩ := mul_bound (a := - numN a sz now) (b := denN b sz) (A := 1152921504607895552) (B := 2097152) (by omega) (by omega) na1 db1
      obtain ⟨hY0, hY1⟩ := mul_bound (a := - numN b sz now) (b := denN a sz) (A := 1152921504607895552) (B := 2097152) (by omega) (by omega) nb1 da1
      have HT : Hid (betterB a b sz now = decide (- numN a sz now * denN b sz < - numN b sz now * denN a sz)) := by
        unfold Hid; rw [HB.out, Int.neg_mul, Int.neg_mul]
        congr 1
        apply propext
        omega
      have c1 := Lib.hid (fun W => loss_any a ha.age now sz hn h1' fa.live1 fa.sz0 fa.sz1 W)
      have c2 := Lib.hid (fun W => loss_any b hb.age now sz hn h2' fb.live1 fb.sz0 fb.sz1 W)
      have c3 := Lib.hid (fun W => mul64_any (- numN a sz now) (denN b sz) (by omega) (by omega) (by omega) (by omega) W)
      have c4 := Lib.hid (fun W => mul64_any (- numN b sz now) (denN a sz) (by omega) (by omega) (by omega) (by omega) W)
      clear da0 da1 db0 db1 na na1 nb nb1
      generalize - numN a sz now * denN b sz = X at *
      generalize - numN b sz now * denN a sz = Y at *
      go_enter Try.func46, Try.ntmps46
      go_wp2_with fail
      refine (c1.out _).mono ?_
      rintro e w1 ⟨rfl, hb1⟩
      have p0 := A0.c0
      have p1 := A0.c1
      have p2 := A0.c2
      have p3 := A0.c3
      have q0 := B0.c0
      have q1 := B0.c1
      have q2 := B0.c2
      have q3 := B0.c3
      clear p0 p1 p2 p3 q0 q1 q2 q3
      have hz1 := Nat.le_trans hz0 hb1.size
      have A1 := A0.below hb1 (by omega)
      have B1 := B0.below hb1 (by omega)
      have hbl1 := hbl0.trans (hb1.mono (by omega))
      clear hb1 A0 B0
      have p0 := A1.c0
      have p1 := A1.c1
      have p2 := A1.c2
      have p3 := A1.c3
      have q0 := B1.c0
      have q1 := B1.c1
      have q2 := B1.c2
      have q3 := B1.c3
      go_wp2_with fail
      refine (c2.out _).mono ?_
      rintro e w2 ⟨rfl, hb2⟩
      clear p0 p1 p2 p3 q0 q1 q2 q3
      have hz2 := Nat.le_trans hz1 hb2.size
      have A2 := A1.below hb2 (by omega)
      have B2 := B1.below hb2 (by omega)
      have hbl2 := hbl1.trans (hb2.mono (by omega))
      clear hb2 A1 B1
      have p0 := A2.c0
      have p1 := A2.c1
      have p2 := A2.c2
      have p3 := A2.c3
      have q0 := B2.c0
      have q1 := B2.c1
      have q2 := B2.c2
      have q3 := B2.c3
      go_wp2_with fail
      refine (c3.out _).mono ?_
      rintro e w3 ⟨rfl, hb3⟩
      clear p0 p1 p2 p3 q0 q1 q2 q3
      have hz3 := Nat.le_trans hz2 hb3.size
      have A3 := A2.below hb3 (by omega)
      have B3 := B2.below hb3 (by omega)
      have hbl3 := hbl2.trans (hb3.mono (by omega))
      clear hb3 A2 B2
      have p0 := A3.c0
      have p1 := A3.c1
      have p2 := A3.c2
      have p3 := A3.c3
      have q0 := B3.c0
      have q1 := B3.c1
      have q2 := B3.c2
      have q3 := B3.c3
      go_wp2_with fail
      refine (c4.out _).mono ?_
      rintro e w4 ⟨rfl, hb4⟩
      clear p0 p1 p2 p3 q0 q1 q2 q3
      have hz4 := Nat.le_trans hz3 hb4.size
      have A4 := A3.below hb4 (by omega)
      have B4 := B3.below hb4 (by omega)
      have hbl4 := hbl3.trans (hb4.mono (by omega))
      clear hb4 A3 B3
      have p0 := A4.c0
      have p1 := A4.c1
      have p2 := A4.c2
      have p3 := A4.c3
      have q0 := B4.c0
      have q1 := B4.c1
      have q2 := B4.c2
      have q3 := B4.c3
      clear p0 p1 p2 p3 q0 q1 q2 q3
      by_cases hX : X < Y
      · have HU : Hid (betterB a b sz now = true) := by unfold Hid; rw [HT.out]; exact decide_eq_true hX
        go_wp2
        all_goals (go_ret; refine ⟨ret_bool (Eq.trans ?_ HU.out.symm), hbl4⟩; first | rfl | exact decide_eq_true (by omega) | (exfalso; omega))
      · have HU : Hid (betterB a b sz now = false) := by unfold Hid; rw [HT.out]; exact decide_eq_false hX
        go_wp2
        all_goals (go_ret; refine ⟨ret_bool (Eq.trans ?_ HU.out.symm), hbl4⟩; first | rfl | exact decide_eq_false (by omega) | (exfalso; omega))

set_option maxHeartbeats 1000000 in
theorem better_any (a b : BI) (ha : a.Ok) (hb : b.Ok) (sz now : Int) (hn : U64 now) (w : World) :
    Calls Try.prog 32 #[.agg #[.int .i64 a.used, .int .i64 a.live, .int .u64 a.age, .int .u64 a.wear], .agg #[.int .i64 b.used, .int .i64 b.live, .int .u64 b.age, .int .u64 b.wear], .int .i64 sz, .int .u64 now] w fun e w' => e = .returned (.bool (betterB a b sz now)) ∧ Below w.heap.size w w' := by
  have A0 : Cells4 ((w.alloc (.cells #[.int .i64 a.used, .int .i64 a.live, .int .u64 a.age, .int .u64 a.wear] 35)).alloc (.cells #[.int .i64 b.used, .int .i64 b.live, .int .u64 b.age, .int .u64 b.wear] 35)) w.heap.size (.int .i64 a.used) (.int .i64 a.live) (.int .u64 a.age) (.int .u64 a.wear) := (Cells4.new w 35 _ _ _ _).below ((Below.refl _ _).alloc (Nat.le_refl _) _) (by simp)
  have B0 : Cells4 ((w.alloc (.cells #[.int .i64 a.used, .int .i64 a.live, .int .u64 a.age, .int .u64 a.wear] 35)).alloc (.cells #[.int .i64 b.used, .int .i64 b.live, .int .u64 b.age, .int .u64 b.wear] 35)) (w.heap.size + 1) (.int .i64 b.used) (.int .i64 b.live) (.int .u64 b.age) (.int .u64 b.wear) := Cells4.new_at (w.alloc (.cells #[.int .i64 a.used, .int .i64 a.live, .int .u64 a.age, .int .u64 a.wear] 35)) 35 _ _ _ _ _ (by simp)
  have hbl0 : Below w.heap.size w ((w.alloc (.cells #[.int .i64 a.used, .int .i64 a.live, .int .u64 a.age, .int .u64 a.wear] 35)).alloc (.cells #[.int .i64 b.used, .int .i64 b.live, .int .u64 b.age, .int .u64 b.wear] 35)) := (((Below.refl _ _).alloc (Nat.le_refl _) _)).alloc (by simp) _
  have hz0 : w.heap.size + 2 ≤ ((w.alloc (.cells #[.int .i64 a.used, .int .i64 a.live, .int .u64 a.age, .int .u64 a.wear] 35)).alloc (.cells #[.int .i64 b.used, .int .i64 b.live, .int .u64 b.age, .int .u64 b.wear] 35)).heap.size := by simp
  cases g1 : fitB a
  · have HT : Hid (betterB a b sz now = false) := by unfold Hid betterB; rw [g1]; rfl
    go_enter Try.func32, Try.ntmps32
    go_wp2_with (go_at_call 45; refine (vfits_any a _).mono ?_; rintro e w1 ⟨rfl, hb1⟩; rw [g1])
    go_ret
    exact ⟨ret_bool HT.out.symm, hbl0.trans (hb1.mono (by omega))⟩
  · cases g2 : fitB b
    · have HT : Hid (betterB a b sz now = false) := by unfold Hid betterB; rw [g1, g2]; rfl
      go_enter Try.func32, Try.ntmps32
      go_wp2_with fail
      refine (vfits_any a _).mono ?_
      rintro e w1 ⟨rfl, hb1⟩
      have p0 := A0.c0
      have p1 := A0.c1
      have p2 := A0.c2
      have p3 := A0.c3
      have q0 := B0.c0
      have q1 := B0.c1
      have q2 := B0.c2
      have q3 := B0.c3
      clear p0 p1 p2 p3 q0 q1 q2 q3
      have hz1 := Nat.le_trans hz0 hb1.size
      have A1 := A0.below hb1 (by omega)
      have B1 := B0.below hb1 (by omega)
      have hbl1 := hbl0.trans (hb1.mono (by omega))
      clear hb1 A0 B0
      have p0 := A1.c0
      have p1 := A1.c1
      have p2 := A1.c2
      have p3 := A1.c3
      have q0 := B1.c0
      have q1 := B1.c1
      have q2 := B1.c2
      have q3 := B1.c3
      rw [g1]
      go_wp2_with fail
      refine (vfits_any b _).mono ?_
      rintro e w2 ⟨rfl, hb2⟩
      clear p0 p1 p2 p3 q0 q1 q2 q3
      have hz2 := Nat.le_trans hz1 hb2.size
      have A2 := A1.below hb2 (by omega)
      have B2 := B1.below hb2 (by omega)
      have hbl2 := hbl1.trans (hb2.mono (by omega))
      clear hb2 A1 B1
      have p0 := A2.c0
      have p1 := A2.c1
      have p2 := A2.c2
      have p3 := A2.c3
      have q0 := B2.c0
      have q1 := B2.c1
      have q2 := B2.c2
      have q3 := B2.c3
      rw [g2]
      go_wp2
      go_ret
      exact ⟨ret_bool HT.out.symm, hbl2⟩
    · by_cases g3 : sz < 1 ∨ 1048576 < sz
      · have HT : Hid (betterB a b sz now = false) := by
          unfold Hid betterB szB; rw [g1, g2]
          rcases g3 with g | g
          · rw [decide_eq_false (show ¬ 1 ≤ sz by omega)]; simp
          · rw [decide_eq_false (show ¬ sz ≤ 1048576 by omega)]; simp
        go_enter Try.func32, Try.ntmps32
        go_wp2_with fail
        refine (vfits_any a _).mono ?_
        rintro e w1 ⟨rfl, hb1⟩
        have p0 := A0.c0
        have p1 := A0.c1
        have p2 := A0.c2
        have p3 := A0.c3
        have q0 := B0.c0
        have q1 := B0.c1
        have q2 := B0.c2
        have q3 := B0.c3
        clear p0 p1 p2 p3 q0 q1 q2 q3
        have hz1 := Nat.le_trans hz0 hb1.size
        have A1 := A0.below hb1 (by omega)
        have B1 := B0.below hb1 (by omega)
        have hbl1 := hbl0.trans (hb1.mono (by omega))
        clear hb1 A0 B0
        have p0 := A1.c0
        have p1 := A1.c1
        have p2 := A1.c2
        have p3 := A1.c3
        have q0 := B1.c0
        have q1 := B1.c1
        have q2 := B1.c2
        have q3 := B1.c3
        rw [g1]
        go_wp2_with fail
        refine (vfits_any b _).mono ?_
        rintro e w2 ⟨rfl, hb2⟩
        clear p0 p1 p2 p3 q0 q1 q2 q3
        have hz2 := Nat.le_trans hz1 hb2.size
        have A2 := A1.below hb2 (by omega)
        have B2 := B1.below hb2 (by omega)
        have hbl2 := hbl1.trans (hb2.mono (by omega))
        clear hb2 A1 B1
        have p0 := A2.c0
        have p1 := A2.c1
        have p2 := A2.c2
        have p3 := A2.c3
        have q0 := B2.c0
        have q1 := B2.c1
        have q2 := B2.c2
        have q3 := B2.c3
        rw [g2]
        clear g1 g2
        rcases g3 with g | g
        · go_wp2
          go_ret
          exact ⟨ret_bool HT.out.symm, hbl2⟩
        · have g' : ¬ sz < 1 := by omega
          go_wp2
          go_ret
          exact ⟨ret_bool HT.out.symm, hbl2⟩
      · have g4 : 1 ≤ sz := by omega
        have g5 : sz ≤ 1048576 := by omega
        clear g3
        have e1 := g1
        have e2 := g2
        unfold fitB at e1 e2
        simp at e1 e2
        have fa : Fine a sz := ⟨e1.1, e1.2, g4, g5⟩
        have fb : Fine b sz := ⟨e2.1, e2.2, g4, g5⟩
        clear e1 e2
        have HB := Lib.hid (betterB_fine now fa fb)
        by_cases hor : sz < a.live ∨ sz < b.live
        · have c1 := Lib.hid (fun W => over_any a b ha hb sz now hn fa fb hor W)
          go_enter Try.func32, Try.ntmps32
          go_wp2_with fail
          refine (vfits_any a _).mono ?_
          rintro e w1 ⟨rfl, hb1⟩
          have p0 := A0.c0
          have p1 := A0.c1
          have p2 := A0.c2
          have p3 := A0.c3
          have q0 := B0.c0
          have q1 := B0.c1
          have q2 := B0.c2
          have q3 := B0.c3
          clear p0 p1 p2 p3 q0 q1 q2 q3
          have hz1 := Nat.le_trans hz0 hb1.size
          have A1 := A0.below hb1 (by omega)
          have B1 := B0.below hb1 (by omega)
          have hbl1 := hbl0.trans (hb1.mono (by omega))
          clear hb1 A0 B0
          have p0 := A1.c0
          have p1 := A1.c1
          have p2 := A1.c2
          have p3 := A1.c3
          have q0 := B1.c0
          have q1 := B1.c1
          have q2 := B1.c2
          have q3 := B1.c3
          rw [g1]
          go_wp2_with fail
          refine (vfits_any b _).mono ?_
          rintro e w2 ⟨rfl, hb2⟩
          clear p0 p1 p2 p3 q0 q1 q2 q3
          have hz2 := Nat.le_trans hz1 hb2.size
          have A2 := A1.below hb2 (by omega)
          have B2 := B1.below hb2 (by omega)
          have hbl2 := hbl1.trans (hb2.mono (by omega))
          clear hb2 A1 B1
          have p0 := A2.c0
          have p1 := A2.c1
          have p2 := A2.c2
          have p3 := A2.c3
          have q0 := B2.c0
          have q1 := B2.c1
          have q2 := B2.c2
          have q3 := B2.c3
          rw [g2]
          clear g1 g2
          by_cases hl : sz < a.live
          · clear hor
            go_wp2_with fail
            refine (c1.out _).mono ?_
            rintro e w3 ⟨rfl, hb3⟩
            go_wp2
            go_ret
            exact ⟨rfl, hbl2.trans (hb3.mono (by omega))⟩
          · have hl2 : sz < b.live := by omega
            clear hor
            go_wp2_with fail
            refine (c1.out _).mono ?_
            rintro e w3 ⟨rfl, hb3⟩
            go_wp2
            go_ret
            exact ⟨rfl, hbl2.trans (hb3.mono (by omega))⟩
        · have h1 : a.live ≤ sz := by omega
          have h2 : b.live ≤ sz := by omega
          clear hor
          obtain ⟨da0, da1⟩ := den_range fa
          obtain ⟨db0, db1⟩ := den_range fb
          obtain ⟨na, na1⟩ := num_range now fa h1
          obtain ⟨nb, nb1⟩ := num_range now fb h2
          obtain ⟨hX0, hX1⟩ := mul_bound (a := numN a sz now) (b := denN b sz) (A := 1152921504607895552) (B := 2097152) (by omega) (by omega) na1 db1
          obtain ⟨hY0, hY1⟩ := mul_bound (a := numN b sz now) (b := denN a sz) (A := 1152921504607895552) (B := 2097152) (by omega) (by omega) nb1 da1
          have c1 := Lib.hid (fun W => yield_any a ha.age now sz hn fa.live0 h1 fa.sz0 fa.sz1 W)
          have c2 := Lib.hid (fun W => yield_any b hb.age now sz hn fb.live0 h2 fb.sz0 fb.sz1 W)
          have c3 := Lib.hid (fun W => mul64_any (numN a sz now) (denN b sz) (by omega) (by omega) (by omega) (by omega) W)
          have c4 := Lib.hid (fun W => mul64_any (numN b sz now) (denN a sz) (by omega) (by omega) (by omega) (by omega) W)
          clear da0 da1 db0 db1 na na1 nb nb1
          generalize numN a sz now * denN b sz = X at *
          generalize numN b sz now * denN a sz = Y at *
          go_enter Try.func32, Try.ntmps32
          go_wp2_with fail
          refine (vfits_any a _).mono ?_
          rintro e w1 ⟨rfl, hb1⟩
          have p0 := A0.c0
          have p1 := A0.c1
          have p2 := A0.c2
          have p3 := A0.c3
          have q0 := B0.c0
          have q1 := B0.c1
          have q2 := B0.c2
          have q3 := B0.c3
          clear p0 p1 p2 p3 q0 q1 q2 q3
          have hz1 := Nat.le_trans hz0 hb1.size
          have A1 := A0.below hb1 (by omega)
          have B1 := B0.below hb1 (by omega)
          have hbl1 := hbl0.trans (hb1.mono (by omega))
          clear hb1 A0 B0
          have p0 := A1.c0
          have p1 := A1.c1
          have p2 := A1.c2
          have p3 := A1.c3
          have q0 := B1.c0
          have q1 := B1.c1
          have q2 := B1.c2
          have q3 := B1.c3
          rw [g1]
          go_wp2_with fail
          refine (vfits_any b _).mono ?_
          rintro e w2 ⟨rfl, hb2⟩
          clear p0 p1 p2 p3 q0 q1 q2 q3
          have hz2 := Nat.le_trans hz1 hb2.size
          have A2 := A1.below hb2 (by omega)
          have B2 := B1.below hb2 (by omega)
          have hbl2 := hbl1.trans (hb2.mono (by omega))
          clear hb2 A1 B1
          have p0 := A2.c0
          have p1 := A2.c1
          have p2 := A2.c2
          have p3 := A2.c3
          have q0 := B2.c0
          have q1 := B2.c1
          have q2 := B2.c2
          have q3 := B2.c3
          rw [g2]
          clear g1 g2
          go_wp2_with fail
          refine (c1.out _).mono ?_
          rintro e w3 ⟨rfl, hb3⟩
          clear p0 p1 p2 p3 q0 q1 q2 q3
          have hz3 := Nat.le_trans hz2 hb3.size
          have A3 := A2.below hb3 (by omega)
          have B3 := B2.below hb3 (by omega)
          have hbl3 := hbl2.trans (hb3.mono (by omega))
          clear hb3 A2 B2
          have p0 := A3.c0
          have p1 := A3.c1
          have p2 := A3.c2
          have p3 := A3.c3
          have q0 := B3.c0
          have q1 := B3.c1
          have q2 := B3.c2
          have q3 := B3.c3
          go_wp2_with fail
          refine (c2.out _).mono ?_
          rintro e w4 ⟨rfl, hb4⟩
          clear p0 p1 p2 p3 q0 q1 q2 q3
          have hz4 := Nat.le_trans hz3 hb4.size
          have A4 := A3.below hb4 (by omega)
          have B4 := B3.below hb4 (by omega)
          have hbl4 := hbl3.trans (hb4.mono (by omega))
          clear hb4 A3 B3
          have p0 := A4.c0
          have p1 := A4.c1
          have p2 := A4.c2
          have p3 := A4.c3
          have q0 := B4.c0
          have q1 := B4.c1
          have q2 := B4.c2
          have q3 := B4.c3
          go_wp2_with fail
          refine (c3.out _).mono ?_
          rintro e w5 ⟨rfl, hb5⟩
          clear p0 p1 p2 p3 q0 q1 q2 q3
          have hz5 := Nat.le_trans hz4 hb5.size
          have A5 := A4.below hb5 (by omega)
          have B5 := B4.below hb5 (by omega)
          have hbl5 := hbl4.trans (hb5.mono (by omega))
          clear hb5 A4 B4
          have p0 := A5.c0
          have p1 := A5.c1
          have p2 := A5.c2
          have p3 := A5.c3
          have q0 := B5.c0
          have q1 := B5.c1
          have q2 := B5.c2
          have q3 := B5.c3
          go_wp2_with fail
          refine (c4.out _).mono ?_
          rintro e w6 ⟨rfl, hb6⟩
          clear p0 p1 p2 p3 q0 q1 q2 q3
          have hz6 := Nat.le_trans hz5 hb6.size
          have A6 := A5.below hb6 (by omega)
          have B6 := B5.below hb6 (by omega)
          have hbl6 := hbl5.trans (hb6.mono (by omega))
          clear hb6 A5 B5
          have p0 := A6.c0
          have p1 := A6.c1
          have p2 := A6.c2
          have p3 := A6.c3
          have q0 := B6.c0
          have q1 := B6.c1
          have q2 := B6.c2
          have q3 := B6.c3
          clear p0 p1 p2 p3 q0 q1 q2 q3
          by_cases hX : Y < X
          · have HU : Hid (betterB a b sz now = true) := by unfold Hid; rw [HB.out]; exact decide_eq_true hX
            go_wp2
            all_goals (go_ret; refine ⟨ret_bool (Eq.trans ?_ HU.out.symm), hbl6⟩; first | rfl | exact decide_eq_true (by omega) | (exfalso; omega))
          · have HU : Hid (betterB a b sz now = false) := by unfold Hid; rw [HB.out]; exact decide_eq_false hX
            go_wp2
            all_goals (go_ret; refine ⟨ret_bool (Eq.trans ?_ HU.out.symm), hbl6⟩; first | rfl | exact decide_eq_false (by omega) | (exfalso; omega))
end Go.Proofs.Ytbnkpknoknenjaa
