/-
  WHAT IS SHOWN: what the functions of geometry and of tegularef10 return: the same; they change nothing that was there. Conditions: the numbers lie in their kinds' ranges.
-/
import Derived.Test.YtckdhhadlemakaaGreatRows
import Derived.Test.YtckdhhadlemakaaGreatGeoPlain
import Derived.Handy
namespace Go.Proofs.YtckdhhadlemakaaGreat
set_option linter.unusedVariables false
open Go.RowKit

/-- The numbers of a geometry that was read. -/
structure Geo.Ok (g : Geo) : Prop where
  r : I64 g.random
  b : I64 g.bands
  t : I64 g.tracks
  s : I64 g.sectors
  o : I64 g.overlap

set_option maxHeartbeats 400000 in
theorem within_any (n lo hi : Int) (w : World) : Calls Tryz.prog 96 #[.int .i64 n, .int .i64 lo, .int .i64 hi] w fun e w' => e = .returned (.bool (inR n lo hi)) ∧ w' = w := by
  unfold inR
  go_enter Tryz.func96, Tryz.ntmps96
  go_wp2
  all_goals (go_ret; exact ⟨by first | (simp [*]; done) | (simp [*]; omega), rfl⟩)

set_option maxHeartbeats 400000 in
theorem gvalid_any (g : Geo) (w : World) : Calls Tryz.prog 77 #[.agg #[.int .i64 g.random, .int .i64 g.bands, .int .i64 g.tracks, .int .i64 g.sectors, .int .i64 g.overlap]] w fun e w' => e = .returned (.bool (validG g)) ∧ Below w.heap.size w w' := by
  have W0 := within_any g.random 0 16384
  have W1 := within_any g.bands 1 64
  have W2 := within_any g.tracks 1 16
  have W3 := within_any g.sectors 1 64
  have W4 := within_any g.overlap 0 3
  unfold validG
  generalize inR g.random 0 16384 = b0 at *
  generalize inR g.bands 1 64 = b1 at *
  generalize inR g.tracks 1 16 = b2 at *
  generalize inR g.sectors 1 64 = b3 at *
  generalize inR g.overlap 0 3 = b4 at *
  have H0 := Lib.hid W0; have H1 := Lib.hid W1; have H2 := Lib.hid W2; have H3 := Lib.hid W3; have H4 := Lib.hid W4
  clear W0 W1 W2 W3 W4
  cases b0
  · go_enter Tryz.func77, Tryz.ntmps77
    go_wp2_with fail
    refine (H0.out _).mono ?_
    rintro e w' ⟨rfl, rfl⟩
    go_wp2
    go_ret
    exact ⟨rfl, ((Below.refl _ _).alloc (Nat.le_refl _) _)⟩
  · cases b1
    · go_enter Tryz.func77, Tryz.ntmps77
      go_wp2_with fail
      refine (H0.out _).mono ?_
      rintro e w' ⟨rfl, rfl⟩
      go_wp2_with fail
      refine (H1.out _).mono ?_
      rintro e w' ⟨rfl, rfl⟩
      go_wp2
      go_ret
      exact ⟨rfl, ((Below.refl _ _).alloc (Nat.le_refl _) _)⟩
    · cases b2
      · go_enter Tryz.func77, Tryz.ntmps77
        go_wp2_with fail
        refine (H0.out _).mono ?_
        rintro e w' ⟨rfl, rfl⟩
        go_wp2_with fail
        refine (H1.out _).mono ?_
        rintro e w' ⟨rfl, rfl⟩
        go_wp2_with fail
        refine (H2.out _).mono ?_
        rintro e w' ⟨rfl, rfl⟩
        go_wp2
        go_ret
        exact ⟨rfl, ((Below.refl _ _).alloc (Nat.le_refl _) _)⟩
      · cases b3
        · go_enter Tryz.func77, Tryz.ntmps77
          go_wp2_with fail
          refine (H0.out _).mono ?_
          rintro e w' ⟨rfl, rfl⟩
          go_wp2_with fail
          refine (H1.out _).mono ?_
          rintro e w' ⟨rfl, rfl⟩
          go_wp2_with fail
          refine (H2.out _).mono ?_
          rintro e w' ⟨rfl, rfl⟩
          go_wp2_with fail
          refine (H3.out _).mono ?_
          rintro e w' ⟨rfl, rfl⟩
          go_wp2
          go_ret
          exact ⟨rfl, ((Below.refl _ _).alloc (Nat.le_refl _) _)⟩
        · go_enter Tryz.func77, Tryz.ntmps77
          go_wp2_with fail
          refine (H0.out _).mono ?_
          rintro e w' ⟨rfl, rfl⟩
          go_wp2_with fail
          refine (H1.out _).mono ?_
          rintro e w' ⟨rfl, rfl⟩
          go_wp2_with fail
          refine (H2.out _).mono ?_
          rintro e w' ⟨rfl, rfl⟩
          go_wp2_with fail
          refine (H3.out _).mono ?_
          rintro e w' ⟨rfl, rfl⟩
          go_wp2_with fail
          refine (H4.out _).mono ?_
          rintro e w' ⟨rfl, rfl⟩
          go_wp2
          go_ret
          exact ⟨rfl, ((Below.refl _ _).alloc (Nat.le_refl _) _)⟩

set_option maxHeartbeats 400000 in
theorem rgvalid_any (g : Geo) (w : World) : Calls Tryz.prog 22 #[.agg #[.int .i64 g.random, .int .i64 g.bands, .int .i64 g.tracks, .int .i64 g.sectors, .int .i64 g.overlap]] w fun e w' => e = .returned (.bool (validG g)) ∧ Below w.heap.size w w' := by
  unfold validG inR
  go_enter Tryz.func22, Tryz.ntmps22
  go_wp2
  all_goals (go_ret; exact ⟨by first | (simp [*]; done) | (simp [*]; omega), ((Below.refl _ _).alloc (Nat.le_refl _) _)⟩)

set_option maxHeartbeats 400000 in
theorem gbz_any (g : Geo) (w : World) : Calls Tryz.prog 97 #[.agg #[.int .i64 g.random, .int .i64 g.bands, .int .i64 g.tracks, .int .i64 g.sectors, .int .i64 g.overlap]] w fun e w' => e = .returned (.int .i64 (bzN g)) ∧ Below w.heap.size w w' := by
  cases hv : validG g
  · have HZ : Hid (bzN g = 0) := by unfold Hid bzN; rw [hv]; rfl
    go_enter Tryz.func97, Tryz.ntmps97
    go_wp2_with fail
    refine (gvalid_any g _).mono ?_
    rintro e w1 ⟨rfl, hb1⟩
    rw [hv]
    clear hv
    go_wp2
    go_ret
    exact ⟨by rw [HZ.out]; rfl, ((Below.refl _ _).alloc (Nat.le_refl _) _).trans (hb1.mono (by simp))⟩
  · have hg := (validG_iff g).1 hv
    have h0 := hg.t0; have h1 := hg.t1; have h2 := hg.s0; have h3 := hg.s1
    have h4 := hg.bz
    have HZ := Lib.hid (bzN_valid hg)
    go_enter Tryz.func97, Tryz.ntmps97
    go_wp2_with fail
    refine (gvalid_any g _).mono ?_
    rintro e w1 ⟨rfl, hb1⟩
    rw [hv]
    clear hv hg
    have PG := (Cells5.new w 23 _ _ _ _ _).below hb1 (by simp)
    have p0 := PG.c0; have p1 := PG.c1; have p2 := PG.c2; have p3 := PG.c3; have p4 := PG.c4
    go_wp2
    go_ret
    exact ⟨by rw [HZ.out]; rfl, ((Below.refl _ _).alloc (Nat.le_refl _) _).trans (hb1.mono (by simp))⟩
set_option maxHeartbeats 400000 in
theorem rbz_any (g : Geo) (w : World) : Calls Tryz.prog 58 #[.agg #[.int .i64 g.random, .int .i64 g.bands, .int .i64 g.tracks, .int .i64 g.sectors, .int .i64 g.overlap]] w fun e w' => e = .returned (.int .i64 (bzN g)) ∧ Below w.heap.size w w' := by
  cases hv : validG g
  · have HZ : Hid (bzN g = 0) := by unfold Hid bzN; rw [hv]; rfl
    go_enter Tryz.func58, Tryz.ntmps58
    go_wp2_with fail
    refine (rgvalid_any g _).mono ?_
    rintro e w1 ⟨rfl, hb1⟩
    rw [hv]
    clear hv
    go_wp2
    go_ret
    exact ⟨by rw [HZ.out]; rfl, ((Below.refl _ _).alloc (Nat.le_refl _) _).trans (hb1.mono (by simp))⟩
  · have hg := (validG_iff g).1 hv
    have h0 := hg.t0; have h1 := hg.t1; have h2 := hg.s0; have h3 := hg.s1
    have h4 := hg.bz
    have HZ := Lib.hid (bzN_valid hg)
    go_enter Tryz.func58, Tryz.ntmps58
    go_wp2_with fail
    refine (rgvalid_any g _).mono ?_
    rintro e w1 ⟨rfl, hb1⟩
    rw [hv]
    clear hv hg
    have PG := (Cells5.new w 23 _ _ _ _ _).below hb1 (by simp)
    have p0 := PG.c0; have p1 := PG.c1; have p2 := PG.c2; have p3 := PG.c3; have p4 := PG.c4
    go_wp2
    go_ret
    exact ⟨by rw [HZ.out]; rfl, ((Below.refl _ _).alloc (Nat.le_refl _) _).trans (hb1.mono (by simp))⟩
set_option maxHeartbeats 400000 in
theorem gsz_any (g : Geo) (w : World) : Calls Tryz.prog 78 #[.agg #[.int .i64 g.random, .int .i64 g.bands, .int .i64 g.tracks, .int .i64 g.sectors, .int .i64 g.overlap]] w fun e w' => e = .returned (.int .i64 (szN g)) ∧ Below w.heap.size w w' := by
  cases hv : validG g
  · have HZ : Hid (szN g = 0) := by unfold Hid szN; rw [hv]; rfl
    go_enter Tryz.func78, Tryz.ntmps78
    go_wp2_with fail
    refine (gvalid_any g _).mono ?_
    rintro e w1 ⟨rfl, hb1⟩
    rw [hv]
    clear hv
    go_wp2
    go_ret
    exact ⟨by rw [HZ.out]; rfl, ((Below.refl _ _).alloc (Nat.le_refl _) _).trans (hb1.mono (by simp))⟩
  · have hg := (validG_iff g).1 hv
    have h4 := hg.bz
    have h5 := hg.sz
    have h6 := hg.r0; have h7 := hg.r1
    have HZ := Lib.hid (szN_valid hg)
    have HB : ∀ W, Calls Tryz.prog 97 #[.agg #[.int .i64 g.random, .int .i64 g.bands, .int .i64 g.tracks, .int .i64 g.sectors, .int .i64 g.overlap]] W fun e w' => e = .returned (.int .i64 (g.tracks * g.sectors)) ∧ Below W.heap.size W w' := fun W => by
      have := gbz_any g W; rw [bzN_valid hg] at this; exact this
    have HB' := Lib.hid HB
    clear HB
    go_enter Tryz.func78, Tryz.ntmps78
    go_wp2_with fail
    refine (gvalid_any g _).mono ?_
    rintro e w1 ⟨rfl, hb1⟩
    rw [hv]
    clear hv hg
    have PG := (Cells5.new w 23 _ _ _ _ _).below hb1 (by simp)
    have hbl1 : Below w.heap.size w w1 := ((Below.refl _ _).alloc (Nat.le_refl _) _).trans (hb1.mono (by simp))
    have hz1 : w.heap.size < w1.heap.size := by have := hb1.size; simp at this; omega
    go_wp2_with fail
    have s0 := Held.cell PG.c0 hz1; have s1 := Held.cell PG.c1 hz1; have s2 := Held.cell PG.c2 hz1; have s3 := Held.cell PG.c3 hz1; have s4 := Held.cell PG.c4 hz1
    have p0 := PG.c0; have p1 := PG.c1; have p2 := PG.c2; have p3 := PG.c3; have p4 := PG.c4
    generalize g.tracks * g.sectors = Z at *
    have hw1 : IntKind.i64.wrap (g.bands * Z) = g.bands * Z := by rw [IntKind.wrap_i64]; omega
    have hw2 : IntKind.i64.wrap (g.random + g.bands * Z) = g.random + g.bands * Z := by rw [IntKind.wrap_i64]; omega
    have hne : Nonempty (Held (Below w1.heap.size w1)) := ⟨⟨_, (Held.drew_below (Nat.le_refl _))⟩⟩
    refine wp_region_heldq (S := (Below w1.heap.size w1)) (by kernel_rfl) (by kernel_rfl) (Held.drew_below (Nat.le_refl _)) ?_
    repeat (go_big_quiet_step ((go_at_call 97; exact Calls.held_below (Nat.le_refl _) (HB'.out _))))
    refine wpQuiet_nil ?_
    intro _ hw'
    obtain ⟨sq, hw''⟩ := hw'
    subst hw''
    clear hne
    go_wp2
    go_ret
    exact ⟨by rw [HZ.out]; rfl, hbl1.trans (sq.h.mono hbl1.size)⟩
set_option maxHeartbeats 400000 in
theorem rsz_any (g : Geo) (w : World) : Calls Tryz.prog 23 #[.agg #[.int .i64 g.random, .int .i64 g.bands, .int .i64 g.tracks, .int .i64 g.sectors, .int .i64 g.overlap]] w fun e w' => e = .returned (.int .i64 (szN g)) ∧ Below w.heap.size w w' := by
  cases hv : validG g
  · have HZ : Hid (szN g = 0) := by unfold Hid szN; rw [hv]; rfl
    go_enter Tryz.func23, Tryz.ntmps23
    go_wp2_with fail
    refine (rgvalid_any g _).mono ?_
    rintro e w1 ⟨rfl, hb1⟩
    rw [hv]
    clear hv
    go_wp2
    go_ret
    exact ⟨by rw [HZ.out]; rfl, ((Below.refl _ _).alloc (Nat.le_refl _) _).trans (hb1.mono (by simp))⟩
  · have hg := (validG_iff g).1 hv
    have h4 := hg.bz
    have h5 := hg.sz
    have h6 := hg.r0; have h7 := hg.r1
    have HZ := Lib.hid (szN_valid hg)
    have HB : ∀ W, Calls Tryz.prog 58 #[.agg #[.int .i64 g.random, .int .i64 g.bands, .int .i64 g.tracks, .int .i64 g.sectors, .int .i64 g.overlap]] W fun e w' => e = .returned (.int .i64 (g.tracks * g.sectors)) ∧ Below W.heap.size W w' := fun W => by
      have := rbz_any g W; rw [bzN_valid hg] at this; exact this
    have HB' := Lib.hid HB
    clear HB
    go_enter Tryz.func23, Tryz.ntmps23
    go_wp2_with fail
    refine (rgvalid_any g _).mono ?_
    rintro e w1 ⟨rfl, hb1⟩
    rw [hv]
    clear hv hg
    have PG := (Cells5.new w 23 _ _ _ _ _).below hb1 (by simp)
    have hbl1 : Below w.heap.size w w1 := ((Below.refl _ _).alloc (Nat.le_refl _) _).trans (hb1.mono (by simp))
    have hz1 : w.heap.size < w1.heap.size := by have := hb1.size; simp at this; omega
    go_wp2_with fail
    have s0 := Held.cell PG.c0 hz1; have s1 := Held.cell PG.c1 hz1; have s2 := Held.cell PG.c2 hz1; have s3 := Held.cell PG.c3 hz1; have s4 := Held.cell PG.c4 hz1
    have p0 := PG.c0; have p1 := PG.c1; have p2 := PG.c2; have p3 := PG.c3; have p4 := PG.c4
    generalize g.tracks * g.sectors = Z at *
    have hw1 : IntKind.i64.wrap (g.bands * Z) = g.bands * Z := by rw [IntKind.wrap_i64]; omega
    have hw2 : IntKind.i64.wrap (g.random + g.bands * Z) = g.random + g.bands * Z := by rw [IntKind.wrap_i64]; omega
    have hne : Nonempty (Held (Below w1.heap.size w1)) := ⟨⟨_, (Held.drew_below (Nat.le_refl _))⟩⟩
    refine wp_region_heldq (S := (Below w1.heap.size w1)) (by kernel_rfl) (by kernel_rfl) (Held.drew_below (Nat.le_refl _)) ?_
    repeat (go_big_quiet_step ((go_at_call 58; exact Calls.held_below (Nat.le_refl _) (HB'.out _))))
    refine wpQuiet_nil ?_
    intro _ hw'
    obtain ⟨sq, hw''⟩ := hw'
    subst hw''
    clear hne
    go_wp2
    go_ret
    exact ⟨by rw [HZ.out]; rfl, hbl1.trans (sq.h.mono hbl1.size)⟩
end Go.Proofs.YtckdhhadlemakaaGreat
