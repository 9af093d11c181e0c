/-
  WHAT IS SHOWN: what tegularef18.Better returns for any bands, size and time: what victim.Better returns; it changes nothing that was there. Conditions: the numbers lie in their kinds' ranges.
-/
import Derived.Test.YtbnkpknoknenjaaVictim3
namespace Go.Proofs.Ytbnkpknoknenjaa
set_option linter.unusedVariables false
open Go.RowKit

theorem num_pos {b : BI} {sz : Int} (now : Int) (h : 0 < sz - b.live) : 0 < numN b sz now := by
  have := (ageN_bound b now).1
  exact Int.mul_pos h (by omega)
theorem num_zero {b : BI} {sz : Int} (now : Int) (h : sz - b.live = 0) : numN b sz now = 0 := by unfold numN; rw [h, Int.zero_mul]
theorem num_less {b : BI} {sz : Int} (now : Int) (h : sz - b.live < 0) : numN b sz now < 0 := by
  have := (ageN_bound b now).1
  have h2 : 0 < -(sz - b.live) * (ageN b now + 1) := Int.mul_pos (by omega) (by omega)
  rw [Int.neg_mul] at h2
  unfold numN; omega
theorem swap3 (x y z : Int) : x * y * z = x * z * y := by rw [Int.mul_assoc, Int.mul_comm y z, ← Int.mul_assoc]
theorem less_pos {a b : BI} {sz now : Int} (fa : Fine a sz) (fb : Fine b sz) : lessN (sz - b.live) b (sz - a.live) a sz now = betterB a b sz now := by
  rw [betterB_fine now fa fb]
  unfold lessN numN denN
  rw [swap3 (sz - b.live), swap3 (sz - a.live)]
theorem less_neg {a b : BI} {sz now : Int} (fa : Fine a sz) (fb : Fine b sz) : lessN (-(sz - a.live)) a (-(sz - b.live)) b sz now = betterB a b sz now := by
  rw [betterB_fine now fa fb]
  unfold lessN numN denN
  rw [swap3 (-(sz - a.live)), swap3 (-(sz - b.live))]
  simp only [Int.neg_mul]
  congr 1
  apply propext
  omega
theorem sign_true {a b : BI} {sz now : Int} (fa : Fine a sz) (fb : Fine b sz) (h : signN (sz - b.live) < signN (sz - a.live)) : betterB a b sz now = true := by
  rw [betterB_fine now fa fb]
  have da := denN_pos fa
  have db := denN_pos fb
  apply decide_eq_true
  unfold signN at h
  by_cases ha : 0 < sz - a.live
  · have h1 := Int.mul_pos (num_pos now ha) db
    have h2 : numN b sz now * denN a sz ≤ 0 := by
      rw [if_pos ha] at h
      by_cases hb : 0 < sz - b.live
      · rw [if_pos hb] at h; omega
      · by_cases hb0 : sz - b.live = 0
        · rw [num_zero now hb0]; simp
        · have := Int.mul_pos (Int.neg_pos_of_neg (num_less now (show sz - b.live < 0 by omega))) da
          rw [Int.neg_mul] at this; omega
    omega
  · rw [if_neg ha] at h
    by_cases ha2 : sz - a.live < 0
    · rw [if_pos ha2] at h
      by_cases hb : 0 < sz - b.live
      · rw [if_pos hb] at h; omega
      · rw [if_neg hb] at h
        split at h <;> omega
    · have ha0 : sz - a.live = 0 := by omega
      rw [if_neg ha2] at h
      have hb : sz - b.live < 0 := by
        by_cases hb : 0 < sz - b.live
        · rw [if_pos hb] at h; omega
        · rw [if_neg hb] at h
          split at h <;> omega
      have := Int.mul_pos (Int.neg_pos_of_neg (num_less now hb)) da
      rw [Int.neg_mul] at this
      rw [num_zero now ha0, Int.zero_mul]; omega
theorem sign_false {a b : BI} {sz now : Int} (fa : Fine a sz) (fb : Fine b sz) (h : ¬ signN (sz - b.live) < signN (sz - a.live)) (h0 : sz - a.live ≤ 0 ∨ sz - b.live ≤ 0) (hn : ¬ (sz - a.live < 0 ∧ sz - b.live < 0)) : betterB a b sz now = false := by
  rw [betterB_fine now fa fb]
  have da := denN_pos fa
  have db := denN_pos fb
  apply decide_eq_false
  unfold signN at h
  by_cases ha : 0 < sz - a.live
  · rw [if_pos ha] at h
    by_cases hb : 0 < sz - b.live
    · omega
    · rw [if_neg hb] at h
      exfalso; apply h; split <;> omega
  · have h1 : numN a sz now * denN b sz ≤ 0 := by
      by_cases ha0 : sz - a.live = 0
      · rw [num_zero now ha0]; simp
      · have := Int.mul_pos (Int.neg_pos_of_neg (num_less now (show sz - a.live < 0 by omega))) db
        rw [Int.neg_mul] at this; omega
    have h2 : 0 ≤ numN b sz now * denN a sz := by
      by_cases hb : 0 < sz - b.live
      · exact Int.le_of_lt (Int.mul_pos (num_pos now hb) da)
      · by_cases hb0 : sz - b.live = 0
        · rw [num_zero now hb0]; simp
        · exfalso
          rw [if_neg ha] at h
          have hb1 : sz - b.live < 0 := by omega
          rw [if_neg hb, if_pos hb1] at h
          have ha0 : ¬ sz - a.live < 0 := fun h' => hn ⟨h', hb1⟩
          rw [if_neg ha0] at h
          omega
    omega

set_option maxHeartbeats 1000000 in
theorem rbetter_any (a b : BI) (ha : a.Ok) (hb : b.Ok) (sz now : Int) (hn : U64 now) (w : World) :
    Calls Try.prog 33 #[.agg #[.int .i64 a.used, .int .i64 a.live, .int .u64 a.age, .int .u64 a.wear], .agg #[.int .i64 b.used, .int .i64 b.live, .int .u64 b.age, .int .u64 b.wear], .int .i64 sz, .int .u64 now] w fun e w' => e = .returned (.bool (betterB a b sz now)) ∧ Below w.heap.size w w' := by
  have A0 : Cells4 ((w.alloc (.cells #[.int .i64 a.used, .int .i64 a.live, .int .u64 a.age, .int .u64 a.wear] 35)).alloc (.cells #[.int .i64 b.used, .int .i64 b.live, .int .u64 b.age, .int .u64 b.wear] 35)) w.heap.size (.int .i64 a.used) (.int .i64 a.live) (.int .u64 a.age) (.int .u64 a.wear) := (Cells4.new w 35 _ _ _ _).below ((Below.refl _ _).alloc (Nat.le_refl _) _) (by simp)
  have B0 : Cells4 ((w.alloc (.cells #[.int .i64 a.used, .int .i64 a.live, .int .u64 a.age, .int .u64 a.wear] 35)).alloc (.cells #[.int .i64 b.used, .int .i64 b.live, .int .u64 b.age, .int .u64 b.wear] 35)) (w.heap.size + 1) (.int .i64 b.used) (.int .i64 b.live) (.int .u64 b.age) (.int .u64 b.wear) := Cells4.new_at (w.alloc (.cells #[.int .i64 a.used, .int .i64 a.live, .int .u64 a.age, .int .u64 a.wear] 35)) 35 _ _ _ _ _ (by simp)
  have hbl0 : Below w.heap.size w ((w.alloc (.cells #[.int .i64 a.used, .int .i64 a.live, .int .u64 a.age, .int .u64 a.wear] 35)).alloc (.cells #[.int .i64 b.used, .int .i64 b.live, .int .u64 b.age, .int .u64 b.wear] 35)) := (((Below.refl _ _).alloc (Nat.le_refl _) _)).alloc (by simp) _
  have hz0 : w.heap.size + 2 ≤ ((w.alloc (.cells #[.int .i64 a.used, .int .i64 a.live, .int .u64 a.age, .int .u64 a.wear] 35)).alloc (.cells #[.int .i64 b.used, .int .i64 b.live, .int .u64 b.age, .int .u64 b.wear] 35)).heap.size := by simp
  cases g1 : szB sz && fitB a
  · have HT : Hid (betterB a b sz now = false) := by
      unfold Hid betterB
      rw [Bool.and_comm] at g1
      cases h1 : fitB a
      · rfl
      · rw [h1] at g1
        simp at g1
        rw [g1]; simp
    go_enter Try.func33, Try.ntmps33
    go_wp2_with (go_at_call 49; refine (rfits_any a sz _).mono ?_; rintro e w1 ⟨rfl, hb1⟩; rw [g1])
    go_ret
    exact ⟨ret_bool HT.out.symm, hbl0.trans (hb1.mono (by omega))⟩
  · cases g2 : szB sz && fitB b
    · have HT : Hid (betterB a b sz now = false) := by
        unfold Hid betterB
        rw [Bool.and_comm] at g2
        cases h1 : fitB b
        · simp
        · rw [h1] at g2
          simp at g2
          rw [g2]; simp
      go_enter Try.func33, Try.ntmps33
      go_wp2_with fail
      refine (rfits_any a sz _).mono ?_
      rintro e w1 ⟨rfl, hb1⟩
      have p0 := A0.c0
      have p1 := A0.c1
      have p2 := A0.c2
      have p3 := A0.c3
      have q0 := B0.c0
      have q1 := B0.c1
      have q2 := B0.c2
      have q3 := B0.c3
      clear p0 p1 p2 p3 q0 q1 q2 q3
      have hz1 := Nat.le_trans hz0 hb1.size
      have A1 := A0.below hb1 (by omega)
      have B1 := B0.below hb1 (by omega)
      have hbl1 := hbl0.trans (hb1.mono (by omega))
      clear hb1 A0 B0
      have p0 := A1.c0
      have p1 := A1.c1
      have p2 := A1.c2
      have p3 := A1.c3
      have q0 := B1.c0
      have q1 := B1.c1
      have q2 := B1.c2
      have q3 := B1.c3
      rw [g1]
      go_wp2_with fail
      refine (rfits_any b sz _).mono ?_
      rintro e w2 ⟨rfl, hb2⟩
      clear p0 p1 p2 p3 q0 q1 q2 q3
      have hz2 := Nat.le_trans hz1 hb2.size
      have A2 := A1.below hb2 (by omega)
      have B2 := B1.below hb2 (by omega)
      have hbl2 := hbl1.trans (hb2.mono (by omega))
      clear hb2 A1 B1
      have p0 := A2.c0
      have p1 := A2.c1
      have p2 := A2.c2
      have p3 := A2.c3
      have q0 := B2.c0
      have q1 := B2.c1
      have q2 := B2.c2
      have q3 := B2.c3
      rw [g2]
      go_wp2
      go_ret
      exact ⟨ret_bool HT.out.symm, hbl2⟩
    · have e1 := g1
      have e2 := g2
      unfold fitB szB at e1 e2
      simp at e1 e2
      have fa : Fine a sz := ⟨e1.2.1, e1.2.2, e1.1.1, e1.1.2⟩
      have fb : Fine b sz := ⟨e2.2.1, e2.2.2, e1.1.1, e1.1.2⟩
      clear e1 e2
      have i1 := fa.live0; have i2 := fa.live1; have i3 := fb.live0; have i4 := fb.live1; have i5 := fa.sz0; have i6 := fa.sz1
      by_cases hpos : 0 < sz - a.live ∧ 0 < sz - b.live
      · have c1 := Lib.hid (fun W => less_any (sz - b.live) (sz - a.live) b a hb ha sz now hn fb fa (by omega) (by omega) (by omega) (by omega) W)
        have HT : Hid (lessN (sz - b.live) b (sz - a.live) a sz now = betterB a b sz now) := less_pos fa fb
        have k1 : ¬ sz - a.live ≤ 0 := by omega
        have k2 : ¬ sz - b.live ≤ 0 := by omega
        clear hpos
        go_enter Try.func33, Try.ntmps33
        go_wp2_with fail
        refine (rfits_any a sz _).mono ?_
        rintro e w1 ⟨rfl, hb1⟩
        have p0 := A0.c0
        have p1 := A0.c1
        have p2 := A0.c2
        have p3 := A0.c3
        have q0 := B0.c0
        have q1 := B0.c1
        have q2 := B0.c2
        have q3 := B0.c3
        clear p0 p1 p2 p3 q0 q1 q2 q3
        have hz1 := Nat.le_trans hz0 hb1.size
        have A1 := A0.below hb1 (by omega)
        have B1 := B0.below hb1 (by omega)
        have hbl1 := hbl0.trans (hb1.mono (by omega))
        clear hb1 A0 B0
        have p0 := A1.c0
        have p1 := A1.c1
        have p2 := A1.c2
        have p3 := A1.c3
        have q0 := B1.c0
        have q1 := B1.c1
        have q2 := B1.c2
        have q3 := B1.c3
        rw [g1]
        go_wp2_with fail
        refine (rfits_any b sz _).mono ?_
        rintro e w2 ⟨rfl, hb2⟩
        clear p0 p1 p2 p3 q0 q1 q2 q3
        have hz2 := Nat.le_trans hz1 hb2.size
        have A2 := A1.below hb2 (by omega)
        have B2 := B1.below hb2 (by omega)
        have hbl2 := hbl1.trans (hb2.mono (by omega))
        clear hb2 A1 B1
        have p0 := A2.c0
        have p1 := A2.c1
        have p2 := A2.c2
        have p3 := A2.c3
        have q0 := B2.c0
        have q1 := B2.c1
        have q2 := B2.c2
        have q3 := B2.c3
        rw [g2]
        clear g1 g2
        go_wp2_with fail
        go_quiet (fail)
        go_wp2_with fail
        refine (c1.out _).mono ?_
        rintro e w3 ⟨rfl, hb3⟩
        go_wp2
        go_ret
        exact ⟨ret_bool HT.out, (below_drewN' hbl2 _).trans (hb3.mono (by show w.heap.size ≤ w2.heap.size; omega))⟩
      · have hnp : sz - a.live ≤ 0 ∨ sz - b.live ≤ 0 := by omega
        have hsg : ∀ W, Calls Try.prog 50 #[.int .i64 (sz - a.live)] W fun e w' => e = .returned (.int .i64 (signN (sz - a.live))) ∧ Below W.heap.size W w' := fun W => sign_any _ W
        have hsh : ∀ W, Calls Try.prog 50 #[.int .i64 (sz - b.live)] W fun e w' => e = .returned (.int .i64 (signN (sz - b.live))) ∧ Below W.heap.size W w' := fun W => sign_any _ W
        have s1 := Lib.hid hsg; have s2 := Lib.hid hsh
        clear hsg hsh
        have HS : Hid (signN (sz - b.live) < signN (sz - a.live) → betterB a b sz now = true) := sign_true fa fb
        have HF : Hid (¬ signN (sz - b.live) < signN (sz - a.live) → ¬ (sz - a.live < 0 ∧ sz - b.live < 0) → betterB a b sz now = false) := fun h h' => sign_false fa fb h hnp h'
        have HL : Hid (lessN (-(sz - a.live)) a (-(sz - b.live)) b sz now = betterB a b sz now) := less_neg fa fb
        have c1 : Hid (sz - a.live < 0 ∧ sz - b.live < 0 → ∀ W, Calls Try.prog 51 #[.int .i64 (-(sz - a.live)), .agg #[.int .i64 a.used, .int .i64 a.live, .int .u64 a.age, .int .u64 a.wear], .int .i64 (-(sz - b.live)), .agg #[.int .i64 b.used, .int .i64 b.live, .int .u64 b.age, .int .u64 b.wear], .int .i64 sz, .int .u64 now] W fun e w' => e = .returned (.bool (lessN (-(sz - a.live)) a (-(sz - b.live)) b sz now)) ∧ Below W.heap.size W w') :=
          fun h W => less_any (-(sz - a.live)) (-(sz - b.live)) a b ha hb sz now hn fa fb (by omega) (by omega) (by omega) (by omega) W
        clear hpos
        go_enter Try.func33, Try.ntmps33
        go_wp2_with fail
        refine (rfits_any a sz _).mono ?_
        rintro e w1 ⟨rfl, hb1⟩
        have p0 := A0.c0
        have p1 := A0.c1
        have p2 := A0.c2
        have p3 := A0.c3
        have q0 := B0.c0
        have q1 := B0.c1
        have q2 := B0.c2
        have q3 := B0.c3
        clear p0 p1 p2 p3 q0 q1 q2 q3
        have hz1 := Nat.le_trans hz0 hb1.size
        have A1 := A0.below hb1 (by omega)
        have B1 := B0.below hb1 (by omega)
        have hbl1 := hbl0.trans (hb1.mono (by omega))
        clear hb1 A0 B0
        have p0 := A1.c0
        have p1 := A1.c1
        have p2 := A1.c2
        have p3 := A1.c3
        have q0 := B1.c0
        have q1 := B1.c1
        have q2 := B1.c2
        have q3 := B1.c3
        rw [g1]
        go_wp2_with fail
        refine (rfits_any b sz _).mono ?_
        rintro e w2 ⟨rfl, hb2⟩
        clear p0 p1 p2 p3 q0 q1 q2 q3
        have hz2 := Nat.le_trans hz1 hb2.size
        have A2 := A1.below hb2 (by omega)
        have B2 := B1.below hb2 (by omega)
        have hbl2 := hbl1.trans (hb2.mono (by omega))
        clear hb2 A1 B1
        have p0 := A2.c0
        have p1 := A2.c1
        have p2 := A2.c2
        have p3 := A2.c3
        have q0 := B2.c0
        have q1 := B2.c1
        have q2 := B2.c2
        have q3 := B2.c3
        rw [g2]
        clear g1 g2
        go_wp2_with fail
        go_quiet (fail)
        have hblq := below_drewN' hbl2 nq
        have Aq : Cells4 (w2.drewN nq) w.heap.size (.int .i64 a.used) (.int .i64 a.live) (.int .u64 a.age) (.int .u64 a.wear) := ⟨A2.c0, A2.c1, A2.c2, A2.c3⟩
        have Bq : Cells4 (w2.drewN nq) (w.heap.size + 1) (.int .i64 b.used) (.int .i64 b.live) (.int .u64 b.age) (.int .u64 b.wear) := ⟨B2.c0, B2.c1, B2.c2, B2.c3⟩
        have hzq : w.heap.size + 2 ≤ (w2.drewN nq).heap.size := hz2
        clear p0 p1 p2 p3 q0 q1 q2 q3
        clear A2 B2 hz2 hbl2
        generalize w2.drewN nq = wq at *
        have main : ∀ (x y : Int), sz - a.live = x → sz - b.live = y → True := fun _ _ _ _ => trivial
        clear main
        by_cases hx : sz - a.live ≤ 0
        · go_wp2_with fail
          refine (s1.out _).mono ?_
          rintro e w3 ⟨rfl, hb3⟩
          go_wp2_with fail
          refine (s2.out _).mono ?_
          rintro e w4 ⟨rfl, hb4⟩
          have hb34 := hb3.trans (hb4.mono hb3.size)
          have A4 := Aq.below hb34 (by omega)
          have B4 := Bq.below hb34 (by omega)
          have hbl4 := hblq.trans (hb34.mono (by omega))
          have hz4 := Nat.le_trans hzq hb34.size
          generalize hsa : signN (sz - a.live) = SA at *
          generalize hsb : signN (sz - b.live) = SB at *
          clear hsa hsb
          by_cases hs : SB < SA
          · have HT := Lib.hid (HS.out hs)
            have hd : decide (SB < SA) = true := decide_eq_true hs
            clear hs
            go_wp2
            go_ret
            exact ⟨ret_bool HT.out.symm, hbl4⟩
          · have hd : decide (SB < SA) = false := decide_eq_false hs
            by_cases hxn : sz - a.live < 0
            · by_cases hyn : sz - b.live < 0
              · have c2 := Lib.hid (c1.out ⟨hxn, hyn⟩)
                clear hs
                have p0 := A4.c0
                have p1 := A4.c1
                have p2 := A4.c2
                have p3 := A4.c3
                have q0 := B4.c0
                have q1 := B4.c1
                have q2 := B4.c2
                have q3 := B4.c3
                go_wp2_with fail
                refine (c2.out _).mono ?_
                rintro e w5 ⟨rfl, hb5⟩
                go_wp2
                go_ret
                exact ⟨ret_bool HL.out, hbl4.trans (hb5.mono (by omega))⟩
              · have HT := Lib.hid (HF.out (by omega) (by intros; omega))
                clear hs
                go_wp2
                go_ret
                exact ⟨ret_bool HT.out.symm, hbl4⟩
            · have HT := Lib.hid (HF.out (by omega) (by intros; omega))
              clear hs
              go_wp2
              go_ret
              exact ⟨ret_bool HT.out.symm, hbl4⟩
        · have hy : sz - b.live ≤ 0 := by omega
          go_wp2_with fail
          refine (s1.out _).mono ?_
          rintro e w3 ⟨rfl, hb3⟩
          go_wp2_with fail
          refine (s2.out _).mono ?_
          rintro e w4 ⟨rfl, hb4⟩
          have hb34 := hb3.trans (hb4.mono hb3.size)
          have A4 := Aq.below hb34 (by omega)
          have B4 := Bq.below hb34 (by omega)
          have hbl4 := hblq.trans (hb34.mono (by omega))
          have hz4 := Nat.le_trans hzq hb34.size
          generalize hsa : signN (sz - a.live) = SA at *
          generalize hsb : signN (sz - b.live) = SB at *
          clear hsa hsb
          by_cases hs : SB < SA
          · have HT := Lib.hid (HS.out hs)
            have hd : decide (SB < SA) = true := decide_eq_true hs
            clear hs
            go_wp2
            go_ret
            exact ⟨ret_bool HT.out.symm, hbl4⟩
          · have hd : decide (SB < SA) = false := decide_eq_false hs
            have hxn : ¬ sz - a.live < 0 := by omega
            have HT := Lib.hid (HF.out (by omega) (by intros; omega))
            clear hs
            go_wp2
            go_ret
            exact ⟨ret_bool HT.out.symm, hbl4⟩
end Go.Proofs.Ytbnkpknoknenjaa
