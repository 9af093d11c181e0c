/-
  WHAT IS SHOWN: tegulalaw18.VictimMonotone returns true for any two bands, any size and time, and changes nothing. No condition.
-/
import Derived.Test.YtbnkpknoknenjaaVictim8
import Derived.Deep.RegionHeld3
import Derived.Deep.DeepCutAuto
namespace Go.Proofs.Ytbnkpknoknenjaa
set_option linter.unusedVariables false
open Go.ChangeShapes Go.WideShapes Go.ChangeAt Go.RowKit

set_option maxRecDepth 100000 in
set_option maxHeartbeats 2000000 in
theorem victimMonotone_walk (a b : BI) (ha : a.Ok) (hb : b.Ok) (x y : Int) (hx : U64 x) (hy : U64 y) (w : World) :
    Calls Try.prog 12 #[.agg #[.int .i64 a.used, .int .i64 a.live, .int .u64 a.age, .int .u64 a.wear], .agg #[.int .i64 b.used, .int .i64 b.live, .int .u64 b.age, .int .u64 b.wear], .agg #[.int .u64 x, .int .u64 y]] w fun e w' => e = .returned (.bool true) ∧ Below w.heap.size w w' := by
  have hx0 := hx.1
  have hx1 := hx.2
  go_enter Try.func12, Try.ntmps12
  go_wp2
  have hA : Cells4 (((w.alloc (.cells #[.int .i64 a.used, .int .i64 a.live, .int .u64 a.age, .int .u64 a.wear] 35)).alloc (.cells #[.int .i64 b.used, .int .i64 b.live, .int .u64 b.age, .int .u64 b.wear] 35)).alloc (.cells #[.int .u64 x, .int .u64 y] 39)) w.heap.size (.int .i64 a.used) (.int .i64 a.live) (.int .u64 a.age) (.int .u64 a.wear) :=
    (Cells4.new w 35 _ _ _ _).below (((Below.refl _ _).alloc (Nat.le_refl _) _).alloc (by simp) _) (by simp)
  have hB : Cells4 (((w.alloc (.cells #[.int .i64 a.used, .int .i64 a.live, .int .u64 a.age, .int .u64 a.wear] 35)).alloc (.cells #[.int .i64 b.used, .int .i64 b.live, .int .u64 b.age, .int .u64 b.wear] 35)).alloc (.cells #[.int .u64 x, .int .u64 y] 39)) (w.heap.size + 1) (.int .i64 b.used) (.int .i64 b.live) (.int .u64 b.age) (.int .u64 b.wear) :=
    (Cells4.new_at (w.alloc (.cells #[.int .i64 a.used, .int .i64 a.live, .int .u64 a.age, .int .u64 a.wear] 35)) 35 _ _ _ _ _ (by simp)).below ((Below.refl _ _).alloc (Nat.le_refl _) _) (by simp)
  have hW : Below w.heap.size w (((w.alloc (.cells #[.int .i64 a.used, .int .i64 a.live, .int .u64 a.age, .int .u64 a.wear] 35)).alloc (.cells #[.int .i64 b.used, .int .i64 b.live, .int .u64 b.age, .int .u64 b.wear] 35)).alloc (.cells #[.int .u64 x, .int .u64 y] 39)) :=
    (((Below.refl _ _).alloc (Nat.le_refl _) _).alloc (by simp) _).alloc (by simp; omega) _
  have hT0 : (((w.alloc (.cells #[.int .i64 a.used, .int .i64 a.live, .int .u64 a.age, .int .u64 a.wear] 35)).alloc (.cells #[.int .i64 b.used, .int .i64 b.live, .int .u64 b.age, .int .u64 b.wear] 35)).alloc (.cells #[.int .u64 x, .int .u64 y] 39)).cell? ⟨w.heap.size + 1 + 1, 0, none⟩ = some (.int .u64 x) := cell_new _ _ _ _ _ _ (by simp) rfl
  have hT1 : (((w.alloc (.cells #[.int .i64 a.used, .int .i64 a.live, .int .u64 a.age, .int .u64 a.wear] 35)).alloc (.cells #[.int .i64 b.used, .int .i64 b.live, .int .u64 b.age, .int .u64 b.wear] 35)).alloc (.cells #[.int .u64 x, .int .u64 y] 39)).cell? ⟨w.heap.size + 1 + 1, 1, none⟩ = some (.int .u64 y) := cell_new _ _ _ _ _ _ (by simp) rfl
  have hsz : w.heap.size + 1 < (((w.alloc (.cells #[.int .i64 a.used, .int .i64 a.live, .int .u64 a.age, .int .u64 a.wear] 35)).alloc (.cells #[.int .i64 b.used, .int .i64 b.live, .int .u64 b.age, .int .u64 b.wear] 35)).alloc (.cells #[.int .u64 x, .int .u64 y] 39)).heap.size := by simp
  generalize ((w.alloc (.cells #[.int .i64 a.used, .int .i64 a.live, .int .u64 a.age, .int .u64 a.wear] 35)).alloc (.cells #[.int .i64 b.used, .int .i64 b.live, .int .u64 b.age, .int .u64 b.wear] 35)).alloc (.cells #[.int .u64 x, .int .u64 y] 39) = W0 at *
  go_quiet (fail)
  have hn1 : 1 ≤ x % 1000 + 1 := by omega
  have hn2 : x % 1000 + 1 ≤ 1000 := by omega
  generalize x % 1000 + 1 = n at *
  clear hx0 hx1
  have hW1 : Below w.heap.size w (W0.drewN nq) := below_drewN' hW _
  go_wp2_with fail
  refine (awake18_any _).mono ?_
  rintro e w1 ⟨rfl, hb1⟩
  have hw1 : Below w.heap.size w w1 := hW1.trans (hb1.mono hW1.size)
  have hA1 := hA.below (B := W0.heap.size) (w' := w1) ((below_drewN' (Below.refl _ _) nq).trans hb1) (by omega)
  have hB1 := hB.below (B := W0.heap.size) (w' := w1) ((below_drewN' (Below.refl _ _) nq).trans hb1) hsz
  have hz1 : w.heap.size + 1 < w1.heap.size := Nat.lt_of_lt_of_le hsz hb1.size
  clear hA hB hb1 hW1 hW hT0 hT1 hsz
  have p0 := hA1.c0; have p1 := hA1.c1; have p2 := hA1.c2; have p3 := hA1.c3
  have q0 := hB1.c0; have q1 := hB1.c1; have q2 := hB1.c2; have q3 := hB1.c3
  have OUT : ∀ c : Bool, c = (decide (a.live < 0) || decide (b.live < 0) || decide (1048576 < a.live) || decide (1048576 < b.live)) → c = true ∨ (0 ≤ a.live ∧ 0 ≤ b.live ∧ a.live ≤ 1048576 ∧ b.live ≤ 1048576) := by
    intro c hc; subst hc
    by_cases f1 : a.live < 0
    · left; simp [f1]
    · by_cases f2 : b.live < 0
      · left; simp [f2]
      · by_cases f3 : 1048576 < a.live
        · left; simp [f3]
        · by_cases f4 : 1048576 < b.live
          · left; simp [f4]
          · right; omega
  clear OUT
  by_cases f1 : a.live < 0
  · go_wp2_with fail
    refine (awake18_any _).mono ?_
    rintro e w2 ⟨rfl, hb2⟩
    go_wp2
    go_ret
    exact ⟨rfl, hw1.trans (hb2.mono hw1.size)⟩
  · by_cases f2 : b.live < 0
    · go_wp2_with fail
      refine (awake18_any _).mono ?_
      rintro e w2 ⟨rfl, hb2⟩
      go_wp2
      go_ret
      exact ⟨rfl, hw1.trans (hb2.mono hw1.size)⟩
    · by_cases f3 : 1048576 < a.live
      · go_wp2_with fail
        refine (awake18_any _).mono ?_
        rintro e w2 ⟨rfl, hb2⟩
        go_wp2
        go_ret
        exact ⟨rfl, hw1.trans (hb2.mono hw1.size)⟩
      · by_cases f4 : 1048576 < b.live
        · go_wp2_with fail
          refine (awake18_any _).mono ?_
          rintro e w2 ⟨rfl, hb2⟩
          go_wp2
          go_ret
          exact ⟨rfl, hw1.trans (hb2.mono hw1.size)⟩
        · have fa : Fine a n := ⟨by omega, by omega, by omega, by omega⟩
          have fb : Fine b n := ⟨by omega, by omega, by omega, by omega⟩
          have hs1 := hw1.size
          go_upto_region 4 with fail
          go_cut [9, 10] (fun s9 s10 wx => ∃ p q : Nat, s9 = .pointer (some ⟨p, 0, none⟩) ∧ s10 = .pointer (some ⟨q, 0, none⟩) ∧ p ≠ q ∧ w1.heap.size ≤ p ∧ w1.heap.size ≤ q ∧ Own4 wx p (.int .i64 a.used) (.int .i64 a.live) (.int .u64 a.age) (.int .u64 a.wear) ∧ Own4 wx q (.int .i64 b.used) (.int .i64 b.live) (.int .u64 b.age) (.int .u64 b.wear) ∧ Below w1.heap.size w1 wx)
          case first =>
            go_region_held3 (fun W => W.cell? ⟨w.heap.size, 0, none⟩ = some (.int .i64 a.used) ∧ W.cell? ⟨w.heap.size, 1, none⟩ = some (.int .i64 a.live) ∧ W.cell? ⟨w.heap.size, 2, none⟩ = some (.int .u64 a.age) ∧ W.cell? ⟨w.heap.size, 3, none⟩ = some (.int .u64 a.wear) ∧ W.cell? ⟨w.heap.size + 1, 0, none⟩ = some (.int .i64 b.used) ∧ W.cell? ⟨w.heap.size + 1, 1, none⟩ = some (.int .i64 b.live) ∧ W.cell? ⟨w.heap.size + 1, 2, none⟩ = some (.int .u64 b.age) ∧ W.cell? ⟨w.heap.size + 1, 3, none⟩ = some (.int .u64 b.wear))
              (simp (maxDischargeDepth := 20) [World.cell?_alloc_some, p0, p1, p2, p3, q0, q1, q2, q3]) (fail)
            all_goals
              clear p0 p1 p2 p3 q0 q1 q2 q3
              go_wp2_with fail
              go_meet
              refine ⟨_, _, rfl, rfl, by omega, by omega, by omega, ?_, ?_, ((((Below.refl _ _).alloc (Nat.le_refl _) _).alloc (by simp) _).drew)⟩
              all_goals first | exact O2a .. | exact O2b ..
          case rest =>
            obtain ⟨p, q, rfl, rfl, hpq, hpw, hqw, OP, OQ, hbc⟩ := hcut
            clear p0 p1 p2 p3 q0 q1 q2 q3
            have hA2 := hA1.below hbc (by omega)
            have hB2 := hB1.below hbc hz1
            have hw2 := hw1.trans (hbc.mono hs1)
            have p2 := OP.cs.c2
            have q2 := OQ.cs.c2
            have qf2 := OQ.f2
            have hl := Lib.hid (better_live (a := a) (b := ⟨b.used, b.live, a.age, b.wear⟩) (sz := n) (now := y) fa ⟨fb.live0, fb.live1, fb.sz0, fb.sz1⟩ rfl)
            have hbo : (⟨b.used, b.live, a.age, b.wear⟩ : BI).Ok := ⟨hb.used, hb.live, ha.age, hb.wear⟩
            go_upto_region 6 with fail
            clear p2 q2 qf2
            have OP1 := OP.other (p := ⟨q, 2, none⟩) (fun e => hpq e.symm) (.int .u64 a.age)
            have OQ1 := OQ.set2 (.int .u64 a.age)
            have hbc1 := hbc.setCell (p := ⟨q, 2, none⟩) hqw (.int .u64 a.age)
            have hw3 := hw2.setCell (p := ⟨q, 2, none⟩) (by show w.heap.size ≤ q; omega) (.int .u64 a.age)
            generalize wc.setCell ⟨q, 2, none⟩ (.int .u64 a.age) = W3 at *
            clear OP OQ hbc hw2 hA2 hB2
            have hA2 := hA1.below hbc1 (by omega)
            have hB2 := hB1.below hbc1 hz1
            have D1 : Hid (∀ W, Calls Try.prog 32 #[.agg #[.int .i64 a.used, .int .i64 a.live, .int .u64 a.age, .int .u64 a.wear], .agg #[.int .i64 b.used, .int .i64 b.live, .int .u64 a.age, .int .u64 b.wear], .int .i64 n, .int .u64 y] W fun e w' => e = .returned (.bool (decide (a.live < b.live))) ∧ Below W.heap.size W w') := by
              unfold Hid; intro W; have := better_any a ⟨b.used, b.live, a.age, b.wear⟩ ha hbo n y hy W; rw [hl.out] at this; exact this
            obtain ⟨s0, s1, s2, s3⟩ := OP1.heldf
            obtain ⟨r0, r1, r2, r3⟩ := OQ1.heldf
            have hne : Nonempty (Held (Below W3.heap.size W3)) := ⟨⟨_, (Held.drew_below (Nat.le_refl _))⟩⟩
            refine wp_region_heldq (S := (Below W3.heap.size W3)) (by kernel_rfl) (by kernel_rfl) (Held.drew_below (Nat.le_refl _)) ?_
            repeat (go_big_quiet_step ((go_at_call 32; exact Calls.held_below (Nat.le_refl _) (D1.out _))))
            refine wpQuiet_nil ?_
            intro _ hw'
            obtain ⟨sq, hw''⟩ := hw'
            subst hw''
            clear hne
            clear D1 s0 s1 s2 s3 r0 r1 r2 r3
            obtain ⟨W4, h4⟩ := sq
            simp only
            have hz3 := hw3.size
            have hz31 := hbc1.size
            have OP2 := OP1.below h4 OP1.lt
            have OQ2 := OQ1.below h4 OQ1.lt
            have hA3 := hA2.below h4 (by omega)
            have hB3 := hB2.below h4 (by omega)
            have hbc2 := hbc1.trans (h4.mono hz31)
            have hw4 := hw3.trans (h4.mono hz3)
            clear OP1 OQ1 hA2 hB2 hbc1 hw3 h4
            go_upto_region 8 with fail
            go_cut [] (fun wx => Own4 wx p (.int .i64 a.used) (.int .i64 a.live) (.int .u64 a.age) (.int .u64 a.wear) ∧ Own4 wx q (.int .i64 b.used) (.int .i64 b.live) (.int .u64 b.age) (.int .u64 b.wear) ∧ Below w.heap.size w wx)
            case first =>
              have p0 := hA3.c0; have p1 := hA3.c1; have p2 := hA3.c2; have p3 := hA3.c3
              have q0 := hB3.c0; have q1 := hB3.c1; have q2 := hB3.c2; have q3 := hB3.c3
              have a0 := OP2.cs.c0; have a1 := OP2.cs.c1; have a2 := OP2.cs.c2; have a3 := OP2.cs.c3
              have b0 := OQ2.cs.c0; have b1 := OQ2.cs.c1; have b2 := OQ2.cs.c2; have b3 := OQ2.cs.c3
              have n1 : ¬ (p = w.heap.size) := by omega
              have n2 : ¬ (p = w.heap.size + 1) := by omega
              have n3 : ¬ (q = w.heap.size) := by omega
              have n4 : ¬ (q = w.heap.size + 1) := by omega
              have n5 : ¬ (q = p) := fun e => hpq e.symm
              have fa0 := OP2.f0; have fa1 := OP2.f1; have fa2 := OP2.f2; have fa3 := OP2.f3
              have fb0 := OQ2.f0; have fb1 := OQ2.f1; have fb2 := OQ2.f2; have fb3 := OQ2.f3
              go_region_held3 (fun W => W.cell? ⟨w.heap.size, 0, none⟩ = some (.int .i64 a.used) ∧ W.cell? ⟨w.heap.size, 1, none⟩ = some (.int .i64 a.live) ∧ W.cell? ⟨w.heap.size, 2, none⟩ = some (.int .u64 a.age) ∧ W.cell? ⟨w.heap.size, 3, none⟩ = some (.int .u64 a.wear) ∧ W.cell? ⟨w.heap.size + 1, 0, none⟩ = some (.int .i64 b.used) ∧ W.cell? ⟨w.heap.size + 1, 1, none⟩ = some (.int .i64 b.live) ∧ W.cell? ⟨w.heap.size + 1, 2, none⟩ = some (.int .u64 b.age) ∧ W.cell? ⟨w.heap.size + 1, 3, none⟩ = some (.int .u64 b.wear))
                (simp (maxDischargeDepth := 20) [World.cell?_setCell_far, p0, p1, p2, p3, q0, q1, q2, q3, n1, n2, n3, n4]) (fail)
              all_goals
                clear p0 p1 p2 p3 q0 q1 q2 q3 a0 a1 a2 a3 b0 b1 b2 b3 fa0 fa1 fa2 fa3 fb0 fb1 fb2 fb3
                go_wp2_with fail
                go_meet
                first
                  | exact ⟨((OP2.set4 _ _ _ _).other4 n5 _ _ _ _).drew, ((OQ2.other4 hpq _ _ _ _).set4 _ _ _ _).drew, (below_set4 (below_set4 hw4 (by omega) _ _ _ _) (by omega) _ _ _ _).drew⟩
                  | exact ⟨((OP2.other4 n5 _ _ _ _).set4 _ _ _ _).drew, ((OQ2.set4 _ _ _ _).other4 hpq _ _ _ _).drew, (below_set4 (below_set4 hw4 (by omega) _ _ _ _) (by omega) _ _ _ _).drew⟩
            case rest =>
              obtain ⟨OP3, OQ3, hw5⟩ := hcut
              clear OP2 OQ2 hA3 hB3 hbc2 hw4 hl hA1 hB1
              have p1 := OP3.cs.c1; have p2 := OP3.cs.c2; have q1 := OQ3.cs.c1; have q2 := OQ3.cs.c2; have qf1 := OQ3.f1
              go_upto_region 10 with fail
              clear p1 p2 q1 q2 qf1
              have OP4 := OP3.other (p := ⟨q, 1, none⟩) (fun e => hpq e.symm) (.int .i64 a.live)
              have OQ4 := OQ3.set1 (.int .i64 a.live)
              have hw6 := hw5.setCell (p := ⟨q, 1, none⟩) (by show w.heap.size ≤ q; omega) (.int .i64 a.live)
              generalize wc.setCell ⟨q, 1, none⟩ (.int .i64 a.live) = W6 at *
              clear OP3 OQ3 hw5
              have hu := hy.2
              have hua := ha.age.1
              have hub := hb.age.1
              have wa : a.age ≤ y → IntKind.u64.wrap (y - a.age) = y - a.age := fun h => u64_self (by omega) (by omega)
              have wb : b.age ≤ y → IntKind.u64.wrap (y - b.age) = y - b.age := fun h => u64_self (by omega) (by omega)
              have HWA := Lib.hid wa; have HWB := Lib.hid wb
              clear wa wb hu
              have hg := Lib.hid (fun h1 h2 h3 h4 h5 => better_age (a := a) (b := ⟨b.used, a.live, b.age, b.wear⟩) (sz := n) (now := y) fa ⟨fa.live0, fa.live1, fa.sz0, fa.sz1⟩ rfl h1 h2 h3 h4 h5)
              have hbo2 : (⟨b.used, a.live, b.age, b.wear⟩ : BI).Ok := ⟨hb.used, ha.live, hb.age, hb.wear⟩
              have p1 := OP4.cs.c1; have p2 := OP4.cs.c2; have q1 := OQ4.cs.c1; have q2 := OQ4.cs.c2
              by_cases g1 : n ≤ a.live
              · go_wp2
                go_ret
                exact ⟨by first | rfl | simp, hw6⟩
              · by_cases g2 : y < a.age
                · go_wp2
                  go_ret
                  exact ⟨by first | rfl | simp, hw6⟩
                · by_cases g3 : y < b.age
                  · go_wp2
                    go_ret
                    exact ⟨by first | rfl | simp, hw6⟩
                  · have wa := HWA.out (by omega)
                    have wb := HWB.out (by omega)
                    by_cases g4 : 1099511627776 < y - a.age
                    · go_wp2
                      go_ret
                      exact ⟨by first | rfl | simp, hw6⟩
                    · by_cases g5 : 1099511627776 < y - b.age
                      · go_wp2
                        go_ret
                        exact ⟨by first | rfl | simp, hw6⟩
                      · have hgg := Lib.hid (hg.out (by omega) (by omega) (show b.age ≤ y by omega) (by omega) (show y - b.age ≤ 1099511627776 by omega))
                        have D2 : Hid (∀ W, Calls Try.prog 32 #[.agg #[.int .i64 a.used, .int .i64 a.live, .int .u64 a.age, .int .u64 a.wear], .agg #[.int .i64 b.used, .int .i64 a.live, .int .u64 b.age, .int .u64 b.wear], .int .i64 n, .int .u64 y] W fun e w' => e = .returned (.bool (decide (a.age < b.age))) ∧ Below W.heap.size W w') := by
                          unfold Hid; intro W; have := better_any a ⟨b.used, a.live, b.age, b.wear⟩ ha hbo2 n y hy W; rw [hgg.out] at this; exact this
                        go_wp2
                        clear p1 p2 q1 q2
                        obtain ⟨s0, s1, s2, s3⟩ := OP4.heldf
                        obtain ⟨r0, r1, r2, r3⟩ := OQ4.heldf
                        have hne : Nonempty (Held (Below W6.heap.size W6)) := ⟨⟨_, (Held.drew_below (Nat.le_refl _))⟩⟩
                        refine wp_region_heldq (S := (Below W6.heap.size W6)) (by kernel_rfl) (by kernel_rfl) (Held.drew_below (Nat.le_refl _)) ?_
                        repeat (go_big_quiet_step ((go_at_call 32; exact Calls.held_below (Nat.le_refl _) (D2.out _))))
                        refine wpQuiet_nil ?_
                        intro _ hw'
                        obtain ⟨sq, hw''⟩ := hw'
                        subst hw''
                        clear hne
                        go_wp2
                        go_ret
                        exact ⟨by simp, hw6.trans (sq.h.mono hw6.size)⟩

set_option maxRecDepth 100000 in
theorem victimMonotone_lifted (os : Os) (started : os.Started) (H : Type) (enc : TypeId × Value → H) :
    ReturnsInHanded {} Try.checked os 12 .any (Rows.victimMonotoneSpec.pre6 enc Try.prog Try.f12 Rows.victimMonotoneRow.domain false) (Rows.victimMonotoneSpec.post enc Try.prog Try.f12 false true false false) := by
  refine returnsInHanded_of_change (C := Try.checked) own started (by kernel_rfl) Try.func12
    (ChangeSpec.witness6 (enc := enc) (C := Try.checked) false ⟨#[], #[.agg #[.int .i64 0, .int .i64 0, .int .u64 0, .int .u64 0], .agg #[.int .i64 0, .int .i64 0, .int .u64 0, .int .u64 0], .agg #[.int .u64 0, .int .u64 0]], []⟩ 8 (by kernel_rfl) (by kernel_rfl) (by kernel_rfl) (by kernel_rfl)) ?_
  intro W base args ds gs before hval0 hW hcnd _
  have hval : ∀ (j : Nat) t v, Try.f12.params[j]? = some t → args[j]? = some v → Value.okWide Try.prog W .any base t v := hval0
  have hW' := hW
  obtain ⟨p, q, hA0, hV, rfl, hfz, hnd⟩ := hW
  have hA : DataW.TrodAll enc Try.prog W 0 (fun _ => true) true Try.f12.params.toList args.toList ds p := hA0
  rw [Try.params12] at hA hval
  obtain ⟨v0, vs0, d0, ds0, p0, q0, hargs, rfl, rfl, h0, r0⟩ := trodAll_cons hA
  obtain ⟨v1, vs1, d1, ds1, p1, q1, rfl, rfl, rfl, h1, r1⟩ := trodAll_cons r0
  obtain ⟨v2, vs2, d2, ds2, p2, q2, rfl, rfl, rfl, h2, r2⟩ := trodAll_cons r1
  obtain ⟨rfl, rfl, rfl⟩ := trodAll_nil r2
  obtain rfl : args = #[v0, v1, v2] := by cases args; simp_all
  obtain ⟨rfl, rfl⟩ := trodVars_none hV
  have k0 := h0
  have lt0 : ∀ x ∈ p0, x.block < W.heap.size := by obtain ⟨m, hm⟩ := k0; exact DataW.trod_lt m _ _ _ hm
  have k1 := h1
  have lt1 : ∀ x ∈ p1, x.block < W.heap.size := by obtain ⟨m, hm⟩ := k1; exact DataW.trod_lt m _ _ _ hm
  have k2 := h2
  have lt2 : ∀ x ∈ p2, x.block < W.heap.size := by obtain ⟨m, hm⟩ := k2; exact DataW.trod_lt m _ _ _ hm
  obtain ⟨a, rfl, ha⟩ := open_band (hval 0 _ _ rfl rfl) h0
  obtain ⟨b, rfl, hb⟩ := open_band (hval 1 _ _ rfl rfl) h1
  obtain ⟨x, y, rfl, hx, hy⟩ := open_pair (hval 2 _ _ rfl rfl) h2
  clear hA0 hval0
  refine (victimMonotone_walk a b ha hb x y hx hy W).mono fun e W' ⟨he, bel⟩ => ?_
  subst he
  exact ⟨_, rfl, _, _, _, [], _, [], hW', trodAll_mk1 (shut_bool Try.underlying4 _), (trodAll_cons_mk (Below.trod laidOut (by kernel_rfl) (of_decide_eq_true (by kernel_rfl)) k0 bel lt0) (trodAll_cons_mk (Below.trod laidOut (by kernel_rfl) (of_decide_eq_true (by kernel_rfl)) k1 bel lt1) (trodAll_cons_mk (Below.trod laidOut (by kernel_rfl) (of_decide_eq_true (by kernel_rfl)) k2 bel lt2) trodAll_mk0))), rfl, bel.frame _, fun h => by cases h⟩

/-- The statement. -/
theorem victimMonotone_holds : Rows.VictimMonotoneSaid :=
  OpenClaim.holds_of_wide 12 Try.f12 rfl rfl rfl rfl rfl rfl rfl ⟨rfl, rfl, rfl, rfl, rfl⟩ rfl rfl rfl rfl rfl (by kernel_rfl) Try.func12 (by kernel_rfl)
    (of_decide_eq_true (by kernel_rfl)) (by unfold Func.isWrapper; first | (rw [if_pos (by decide +kernel)]; kernel_rfl) | (rw [if_neg (by decide +kernel)]; exact ⟨rfl, rfl⟩))
    (fun os started H enc _ => victimMonotone_lifted os started H enc)
#print axioms victimMonotone_holds
end Go.Proofs.Ytbnkpknoknenjaa
