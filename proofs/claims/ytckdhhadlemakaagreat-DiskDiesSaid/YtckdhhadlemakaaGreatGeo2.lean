/-
  WHAT IS SHOWN: what Locate and Address of geometry and of tegularef10 return: the same; they change nothing that was there. Conditions: the numbers lie in their kinds' ranges.
-/
import Derived.Test.YtckdhhadlemakaaGreatGeo1
namespace Go.Proofs.YtckdhhadlemakaaGreat
set_option linter.unusedVariables false
open Go.RowKit

theorem ret_loc {a b c d a' b' c' d' : Int} (h1 : a = a') (h2 : b = b') (h3 : c = c') (h4 : d = d') : Ending.returned (.tuple #[.int .i64 a, .int .i64 b, .int .i64 c, .int .i64 d]) = .returned (.tuple #[.int .i64 a', .int .i64 b', .int .i64 c', .int .i64 d']) := by rw [h1, h2, h3, h4]

set_option maxHeartbeats 1000000 in
theorem gloc_any (g : Geo) (a : Int) (ha : I64 a) (w : World) : Calls Tryz.prog 102 #[.agg #[.int .i64 g.random, .int .i64 g.bands, .int .i64 g.tracks, .int .i64 g.sectors, .int .i64 g.overlap], .int .i64 a] w fun e w' => e = .returned (.tuple #[.int .i64 (locN g a).band, .int .i64 (locN g a).track, .int .i64 (locN g a).pos, .int .i64 (locN g a).e]) ∧ Below w.heap.size w w' := by
  cases hv : validG g
  · have HL := Lib.hid (loc_invalid a hv)
    go_enter Tryz.func102, Tryz.ntmps102
    go_wp2_with fail
    refine (gvalid_any g _).mono ?_
    rintro e w1 ⟨rfl, hb1⟩
    rw [hv]
    clear hv
    go_wp2
    (try simp only [Exit.inBlock, Exit.then])
    refine bodyPost_ret (results_tmp4 rfl _ _ _) rfl ?_
    exact ⟨by rw [HL.out]; rfl, ((Below.refl _ _).alloc (Nat.le_refl _) _).trans (hb1.mono (by simp))⟩
  · have hg := (validG_iff g).1 hv
    have hz := szN_bound g
    have hzv := Lib.hid (szN_valid hg)
    have h0 := hg.r0; have h1 := hg.r1; have h2 := hg.t0; have h3 := hg.s0
    cases hin : inR a g.random (szN g - 1)
    · have HL := Lib.hid (loc_out hv hin)
      have HW : Hid (∀ W, Calls Tryz.prog 96 #[.int .i64 a, .int .i64 g.random, .int .i64 (szN g - 1)] W fun e w' => e = .returned (.bool false) ∧ w' = W) := by
        unfold Hid; intro W; have := within_any a g.random (szN g - 1) W; rw [hin] at this; exact this
      have HS := Lib.hid (fun W => gsz_any g W)
      clear hin
      go_enter Tryz.func102, Tryz.ntmps102
      go_wp2_with fail
      refine (gvalid_any g _).mono ?_
      rintro e w1 ⟨rfl, hb1⟩
      rw [hv]
      clear hv hg
      have PG := (Cells5.new w 23 _ _ _ _ _).below hb1 (by simp)
      have hbl1 : Below w.heap.size w w1 := ((Below.refl _ _).alloc (Nat.le_refl _) _).trans (hb1.mono (by simp))
      have hz1 : w.heap.size < w1.heap.size := by have := hb1.size; simp at this; omega
      clear hb1
      have s0 := Held.cell PG.c0 hz1; have s1 := Held.cell PG.c1 hz1; have s2 := Held.cell PG.c2 hz1; have s3 := Held.cell PG.c3 hz1; have s4 := Held.cell PG.c4 hz1
      go_wp2
      generalize szN g = Z at *
      have hw1 : IntKind.i64.wrap (Z - 1) = Z - 1 := by rw [IntKind.wrap_i64]; omega
      have hne : Nonempty (Held (Below w1.heap.size w1)) := ⟨⟨_, (Held.drew_below (Nat.le_refl _))⟩⟩
      refine wp_region_heldq (S := (Below w1.heap.size w1)) (by kernel_rfl) (by kernel_rfl) (Held.drew_below (Nat.le_refl _)) ?_
      repeat (go_big_quiet_step ((first | (go_at_call 78; exact Calls.held_below (Nat.le_refl _) (HS.out _)) | (go_at_call 96; exact Calls.held_same (HW.out _)))))
      refine wpQuiet_nil ?_
      intro _ hw'
      obtain ⟨sq, hw''⟩ := hw'
      subst hw''
      clear hne
      clear hw1
      go_wp2
      (try simp only [Exit.inBlock, Exit.then])
      refine bodyPost_ret (results_tmp4 rfl _ _ _) rfl ?_
      exact ⟨by rw [HL.out]; rfl, hbl1.trans (sq.h.mono hbl1.size)⟩
    · have HL := Lib.hid (loc_in hv hin)
      have HW : Hid (∀ W, Calls Tryz.prog 96 #[.int .i64 a, .int .i64 g.random, .int .i64 (szN g - 1)] W fun e w' => e = .returned (.bool true) ∧ w' = W) := by
        unfold Hid; intro W; have := within_any a g.random (szN g - 1) W; rw [hin] at this; exact this
      have HS := Lib.hid (fun W => gsz_any g W)
      obtain ⟨a0, a1⟩ := (inR_iff _ _ _).1 hin
      have d0 : 0 ≤ (a - g.random) / g.sectors := Int.ediv_nonneg (by omega) (by omega)
      clear hin
      go_enter Tryz.func102, Tryz.ntmps102
      go_wp2_with fail
      refine (gvalid_any g _).mono ?_
      rintro e w1 ⟨rfl, hb1⟩
      rw [hv]
      clear hv hg
      have PG := (Cells5.new w 23 _ _ _ _ _).below hb1 (by simp)
      have hbl1 : Below w.heap.size w w1 := ((Below.refl _ _).alloc (Nat.le_refl _) _).trans (hb1.mono (by simp))
      have hz1 : w.heap.size < w1.heap.size := by have := hb1.size; simp at this; omega
      clear hb1
      have s0 := Held.cell PG.c0 hz1; have s1 := Held.cell PG.c1 hz1; have s2 := Held.cell PG.c2 hz1; have s3 := Held.cell PG.c3 hz1; have s4 := Held.cell PG.c4 hz1
      go_wp2
      generalize szN g = Z at *
      have hw1 : IntKind.i64.wrap (Z - 1) = Z - 1 := by rw [IntKind.wrap_i64]; omega
      have hne : Nonempty (Held (Below w1.heap.size w1)) := ⟨⟨_, (Held.drew_below (Nat.le_refl _))⟩⟩
      refine wp_region_heldq (S := (Below w1.heap.size w1)) (by kernel_rfl) (by kernel_rfl) (Held.drew_below (Nat.le_refl _)) ?_
      repeat (go_big_quiet_step ((first | (go_at_call 78; exact Calls.held_below (Nat.le_refl _) (HS.out _)) | (go_at_call 96; exact Calls.held_same (HW.out _)))))
      refine wpQuiet_nil ?_
      intro _ hw'
      obtain ⟨sq, hw''⟩ := hw'
      subst hw''
      clear hne
      clear hw1
      have r0 := s0 sq; have r2 := s2 sq; have r3 := s3 sq
      clear s0 s1 s2 s3 s4
      go_wp2
      have n0 : 0 ≤ a - g.random := by omega
      have n1 : a - g.random ≤ 81920 := by omega
      generalize a - g.random = n at *
      go_quiet (fail)
      go_wp2
      go_quiet (fail)
      go_wp2
      (try simp only [Exit.inBlock, Exit.then])
      refine bodyPost_ret (results_tmp4 rfl _ _ _) rfl ?_
      obtain ⟨e1, e2, e3, e4⟩ := quo_pos n0 (by omega) h3
      obtain ⟨f1, _, _, f4⟩ := quo_pos e2 e3 h2
      exact ⟨ret_loc (by rw [HL.out]; first | done | simp only [f1] | simp only [e1, f1]) (by rw [HL.out]; first | done | simp only [f4] | simp only [e1, f4]) (by rw [HL.out]) (by rw [HL.out]), below_drewN' (below_drewN' (hbl1.trans (sq.h.mono hbl1.size)) _) _⟩

set_option maxHeartbeats 1000000 in
theorem rloc_any (g : Geo) (a : Int) (ha : I64 a) (w : World) : Calls Tryz.prog 103 #[.agg #[.int .i64 g.random, .int .i64 g.bands, .int .i64 g.tracks, .int .i64 g.sectors, .int .i64 g.overlap], .int .i64 a] w fun e w' => e = .returned (.tuple #[.int .i64 (locN g a).band, .int .i64 (locN g a).track, .int .i64 (locN g a).pos, .int .i64 (locN g a).e]) ∧ Below w.heap.size w w' := by
  cases hv : validG g
  · have HL := Lib.hid (loc_invalid a hv)
    go_enter Tryz.func103, Tryz.ntmps103
    go_wp2_with fail
    refine (rgvalid_any g _).mono ?_
    rintro e w1 ⟨rfl, hb1⟩
    rw [hv]
    clear hv
    go_wp2
    (try simp only [Exit.inBlock, Exit.then])
    refine bodyPost_ret (results_tmp4 rfl _ _ _) rfl ?_
    exact ⟨by rw [HL.out]; rfl, ((Below.refl _ _).alloc (Nat.le_refl _) _).trans (hb1.mono (by simp))⟩
  · have hg := (validG_iff g).1 hv
    have hz := szN_bound g
    have hzv := Lib.hid (szN_valid hg)
    have h0 := hg.r0; have h1 := hg.r1; have h2 := hg.t0; have h3 := hg.s0; have h4 := hg.bz
    by_cases g1 : a < g.random
    · have HL := Lib.hid (loc_out (a := a) hv (by
        cases hi : inR a g.random (szN g - 1)
        · rfl
        · have := (inR_iff _ _ _).1 hi; omega))
      go_enter Tryz.func103, Tryz.ntmps103
      go_wp2_with fail
      refine (rgvalid_any g _).mono ?_
      rintro e w1 ⟨rfl, hb1⟩
      rw [hv]
      clear hv hg
      have PG := (Cells5.new w 23 _ _ _ _ _).below hb1 (by simp)
      have hbl1 : Below w.heap.size w w1 := ((Below.refl _ _).alloc (Nat.le_refl _) _).trans (hb1.mono (by simp))
      have hz1 : w.heap.size < w1.heap.size := by have := hb1.size; simp at this; omega
      clear hb1
      have p0 := PG.c0; have p1 := PG.c1; have p2 := PG.c2; have p3 := PG.c3; have p4 := PG.c4
      go_wp2
      (try simp only [Exit.inBlock, Exit.then])
      refine bodyPost_ret (results_tmp4 rfl _ _ _) rfl ?_
      exact ⟨by rw [HL.out]; rfl, hbl1⟩
    · by_cases g2 : szN g ≤ a
      · have HL := Lib.hid (loc_out (a := a) hv (by
          cases hi : inR a g.random (szN g - 1)
          · rfl
          · have := (inR_iff _ _ _).1 hi; omega))
        have HS := Lib.hid (fun W => rsz_any g W)
        generalize szN g = Z at *
        go_enter Tryz.func103, Tryz.ntmps103
        go_wp2_with fail
        refine (rgvalid_any g _).mono ?_
        rintro e w1 ⟨rfl, hb1⟩
        rw [hv]
        clear hv hg
        have PG := (Cells5.new w 23 _ _ _ _ _).below hb1 (by simp)
        have hbl1 : Below w.heap.size w w1 := ((Below.refl _ _).alloc (Nat.le_refl _) _).trans (hb1.mono (by simp))
        have hz1 : w.heap.size < w1.heap.size := by have := hb1.size; simp at this; omega
        clear hb1
        have p0 := PG.c0; have p1 := PG.c1; have p2 := PG.c2; have p3 := PG.c3; have p4 := PG.c4
        go_wp2_with fail
        refine (HS.out _).mono ?_
        rintro e w2 ⟨rfl, hb2⟩
        go_wp2
        (try simp only [Exit.inBlock, Exit.then])
        refine bodyPost_ret (results_tmp4 rfl _ _ _) rfl ?_
        exact ⟨by rw [HL.out]; rfl, hbl1.trans (hb2.mono hbl1.size)⟩
      · have HL := Lib.hid (loc_in hv ((inR_iff _ _ _).2 ⟨show g.random ≤ a by omega, show a ≤ szN g - 1 by omega⟩))
        have HS := Lib.hid (fun W => rsz_any g W)
        have HB : Hid (∀ W, Calls Tryz.prog 58 #[.agg #[.int .i64 g.random, .int .i64 g.bands, .int .i64 g.tracks, .int .i64 g.sectors, .int .i64 g.overlap]] W fun e w' => e = .returned (.int .i64 (g.tracks * g.sectors)) ∧ Below W.heap.size W w') := by
          unfold Hid; intro W; have := rbz_any g W; rw [bzN_valid hg] at this; exact this
        have HD := Lib.hid (loc_bands hg (show g.random ≤ a by omega))
        generalize szN g = Z at *
        have g3 : decide (Z ≤ a) = false := decide_eq_false g2
        go_enter Tryz.func103, Tryz.ntmps103
        go_wp2_with fail
        refine (rgvalid_any g _).mono ?_
        rintro e w1 ⟨rfl, hb1⟩
        rw [hv]
        clear hv hg
        have PG := (Cells5.new w 23 _ _ _ _ _).below hb1 (by simp)
        have hbl1 : Below w.heap.size w w1 := ((Below.refl _ _).alloc (Nat.le_refl _) _).trans (hb1.mono (by simp))
        have hz1 : w.heap.size < w1.heap.size := by have := hb1.size; simp at this; omega
        clear hb1
        have p0 := PG.c0; have p1 := PG.c1; have p2 := PG.c2; have p3 := PG.c3; have p4 := PG.c4
        go_wp2_with fail
        refine (HS.out _).mono ?_
        rintro e w2 ⟨rfl, hb2⟩
        have hbl2 := hbl1.trans (hb2.mono hbl1.size)
        have PG2 := PG.below hb2 hz1
        have hz2 : w.heap.size < w2.heap.size := Nat.lt_of_lt_of_le hz1 hb2.size
        clear p0 p1 p2 p3 p4
        have p0 := PG2.c0
        go_wp2
        clear p0
        have s0 := Held.cell PG2.c0 hz2; have s1 := Held.cell PG2.c1 hz2; have s2 := Held.cell PG2.c2 hz2; have s3 := Held.cell PG2.c3 hz2; have s4 := Held.cell PG2.c4 hz2
        have n0 : 0 ≤ a - g.random := by omega
        have n1 : a - g.random ≤ 81920 := by omega
        generalize a - g.random = n at *
        generalize g.tracks * g.sectors = Y at *
        obtain ⟨e1, e2, e3, e4⟩ := quo_pos n0 (by omega) h3
        obtain ⟨f1, _, _, f4⟩ := quo_pos e2 e3 h2
        obtain ⟨k1, _, _, _⟩ := quo_pos n0 (by omega) h4.1
        have E1 := Lib.hid e1; have E4 := Lib.hid e4; have F1 := Lib.hid f1; have F4 := Lib.hid f4; have K1 := Lib.hid k1
        clear e1 e4 f1 f4 k1
        have hne : Nonempty (Held (Below w2.heap.size w2)) := ⟨⟨_, (Held.drew_below (Nat.le_refl _))⟩⟩
        refine wp_region_heldq (S := (Below w2.heap.size w2)) (by kernel_rfl) (by kernel_rfl) (Held.drew_below (Nat.le_refl _)) ?_
        repeat (go_big_quiet_step ((go_at_call 58; exact Calls.held_below (Nat.le_refl _) (HB.out _))))
        refine wpQuiet_nil ?_
        intro _ hw'
        obtain ⟨sq, hw''⟩ := hw'
        subst hw''
        clear hne
        go_wp2
        (try simp only [Exit.inBlock, Exit.then])
        refine bodyPost_ret (results_tmp4 rfl _ _ _) rfl ?_
        exact ⟨ret_loc (by rw [HL.out]; first | exact HD.out | (rw [K1.out]; exact HD.out)) (by rw [HL.out]; first | done | simp only [E1.out, F4.out]) (by rw [HL.out]; first | done | simp only [E4.out]) (by rw [HL.out]), hbl2.trans (sq.h.mono hbl2.size)⟩
end Go.Proofs.YtckdhhadlemakaaGreat
