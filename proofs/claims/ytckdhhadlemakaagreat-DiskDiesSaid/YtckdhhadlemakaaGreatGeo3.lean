/-
  WHAT IS SHOWN: what Address of geometry and of tegularef10 return: the same; they change nothing that was there. Conditions: the numbers lie in their kinds' ranges.
-/
import Derived.Test.YtckdhhadlemakaaGreatGeo2
namespace Go.Proofs.YtckdhhadlemakaaGreat
set_option linter.unusedVariables false
open Go.RowKit

theorem ret_two {a b a' b' : Int} (h1 : a = a') (h2 : b = b') : Ending.returned (.tuple #[.int .i64 a, .int .i64 b]) = .returned (.tuple #[.int .i64 a', .int .i64 b']) := by rw [h1, h2]
theorem adr_invalid {g : Geo} (b t p : Int) (h : validG g = false) : adrN g b t p = (0, 1) := by unfold adrN; rw [h]; rfl
theorem adr_out {g : Geo} {b t p : Int} (h : validG g = true) (ho : (inR b 0 (g.bands - 1) && (inR t 0 (g.tracks - 1) && inR p 0 (g.sectors - 1))) = false) : adrN g b t p = (0, 2) := by unfold adrN; rw [h, ho]; rfl
theorem adr_in {g : Geo} {b t p : Int} (h : validG g = true) (h1 : inR b 0 (g.bands - 1) = true) (h2 : inR t 0 (g.tracks - 1) = true) (h3 : inR p 0 (g.sectors - 1) = true) : adrN g b t p = (g.random + (b * g.tracks + t) * g.sectors + p, 0) := by unfold adrN; rw [h, h1, h2, h3]; rfl
theorem adr_bound {g : Geo} {b t : Int} (hg : Vg g) (h1 : 0 ≤ b ∧ b ≤ g.bands - 1) (h2 : 0 ≤ t ∧ t ≤ g.tracks - 1) : 0 ≤ b * g.tracks ∧ b * g.tracks ≤ 1024 ∧ 0 ≤ (b * g.tracks + t) * g.sectors ∧ (b * g.tracks + t) * g.sectors ≤ 70000 := by
  have h0 := hg.t0; have h3 := hg.t1; have h4 := hg.b1; have h5 := hg.s0; have h6 := hg.s1
  have m1 := mul_lim (a := b) (b := g.tracks) (A := 64) (B := 16) h1.1 (by omega) (by omega) h3
  have m2 := mul_lim (a := b * g.tracks + t) (b := g.sectors) (A := 1040) (B := 64) (by omega) (by omega) (by omega) h6
  omega
theorem inR_false {n lo hi : Int} (h : n < lo ∨ hi < n) : inR n lo hi = false := by
  cases e : inR n lo hi
  · rfl
  · have := (inR_iff _ _ _).1 e; omega

set_option maxHeartbeats 1000000 in
theorem gadr_any (g : Geo) (b t p : Int) (w : World) : Calls Tryz.prog 100 #[.agg #[.int .i64 g.random, .int .i64 g.bands, .int .i64 g.tracks, .int .i64 g.sectors, .int .i64 g.overlap], .int .i64 b, .int .i64 t, .int .i64 p] w fun e w' => e = .returned (.tuple #[.int .i64 (adrN g b t p).1, .int .i64 (adrN g b t p).2]) ∧ Below w.heap.size w w' := by
  cases hv : validG g
  · have HL := Lib.hid (adr_invalid b t p hv)
    go_enter Tryz.func100, Tryz.ntmps100
    go_wp2_with fail
    refine (gvalid_any g _).mono ?_
    rintro e w1 ⟨rfl, hb1⟩
    rw [hv]
    clear hv
    go_wp2
    go_ret2
    exact ⟨by rw [HL.out]; rfl, ((Below.refl _ _).alloc (Nat.le_refl _) _).trans (hb1.mono (by simp))⟩
  · have hg := (validG_iff g).1 hv
    have h0 := hg.b0; have h1 := hg.t0; have h2 := hg.s0; have h4 := hg.b1; have h5 := hg.t1; have h6 := hg.s1; have h7 := hg.r0; have h8 := hg.r1
    have Wb := Lib.hid (within_any b 0 (g.bands - 1))
    have Wt := Lib.hid (within_any t 0 (g.tracks - 1))
    have Wp := Lib.hid (within_any p 0 (g.sectors - 1))
    cases c1 : inR b 0 (g.bands - 1)
    · have HL := Lib.hid (adr_out (t := t) (p := p) hv (by rw [c1]; rfl))
      rw [c1] at Wb
      clear c1
      go_enter Tryz.func100, Tryz.ntmps100
      go_wp2_with fail
      refine (gvalid_any g _).mono ?_
      rintro e w1 ⟨rfl, hb1⟩
      rw [hv]
      clear hv hg
      have PG := (Cells5.new w 23 _ _ _ _ _).below hb1 (by simp)
      have hbl1 : Below w.heap.size w w1 := ((Below.refl _ _).alloc (Nat.le_refl _) _).trans (hb1.mono (by simp))
      clear hb1
      have p0 := PG.c0; have p1 := PG.c1; have p2 := PG.c2; have p3 := PG.c3; have p4 := PG.c4
      go_wp2_with fail
      refine (Wb.out _).mono ?_
      rintro e w' ⟨rfl, rfl⟩
      go_wp2
      go_ret2
      exact ⟨by rw [HL.out]; rfl, hbl1⟩
    · cases c2 : inR t 0 (g.tracks - 1)
      · have HL := Lib.hid (adr_out (p := p) hv (by rw [c1, c2]; rfl))
        rw [c1] at Wb
        rw [c2] at Wt
        clear c1 c2
        go_enter Tryz.func100, Tryz.ntmps100
        go_wp2_with fail
        refine (gvalid_any g _).mono ?_
        rintro e w1 ⟨rfl, hb1⟩
        rw [hv]
        clear hv hg
        have PG := (Cells5.new w 23 _ _ _ _ _).below hb1 (by simp)
        have hbl1 : Below w.heap.size w w1 := ((Below.refl _ _).alloc (Nat.le_refl _) _).trans (hb1.mono (by simp))
        clear hb1
        have p0 := PG.c0; have p1 := PG.c1; have p2 := PG.c2; have p3 := PG.c3; have p4 := PG.c4
        go_wp2_with fail
        refine (Wb.out _).mono ?_
        rintro e w' ⟨rfl, rfl⟩
        go_wp2_with fail
        refine (Wt.out _).mono ?_
        rintro e w' ⟨rfl, rfl⟩
        go_wp2
        go_ret2
        exact ⟨by rw [HL.out]; rfl, hbl1⟩
      · cases c3 : inR p 0 (g.sectors - 1)
        · have HL := Lib.hid (adr_out hv (by rw [c1, c2, c3]; rfl))
          rw [c1] at Wb
          rw [c2] at Wt
          rw [c3] at Wp
          clear c1 c2 c3
          go_enter Tryz.func100, Tryz.ntmps100
          go_wp2_with fail
          refine (gvalid_any g _).mono ?_
          rintro e w1 ⟨rfl, hb1⟩
          rw [hv]
          clear hv hg
          have PG := (Cells5.new w 23 _ _ _ _ _).below hb1 (by simp)
          have hbl1 : Below w.heap.size w w1 := ((Below.refl _ _).alloc (Nat.le_refl _) _).trans (hb1.mono (by simp))
          clear hb1
          have p0 := PG.c0; have p1 := PG.c1; have p2 := PG.c2; have p3 := PG.c3; have p4 := PG.c4
          go_wp2_with fail
          refine (Wb.out _).mono ?_
          rintro e w' ⟨rfl, rfl⟩
          go_wp2_with fail
          refine (Wt.out _).mono ?_
          rintro e w' ⟨rfl, rfl⟩
          go_wp2_with fail
          refine (Wp.out _).mono ?_
          rintro e w' ⟨rfl, rfl⟩
          go_wp2
          go_ret2
          exact ⟨by rw [HL.out]; rfl, hbl1⟩
        · have HL := Lib.hid (adr_in hv c1 c2 c3)
          have k1 := (inR_iff _ _ _).1 c1
          have k2 := (inR_iff _ _ _).1 c2
          have k3 := (inR_iff _ _ _).1 c3
          obtain ⟨b0, b1, b2, b3⟩ := adr_bound hg k1 k2
          rw [c1] at Wb
          rw [c2] at Wt
          rw [c3] at Wp
          clear c1 c2 c3
          go_enter Tryz.func100, Tryz.ntmps100
          go_wp2_with fail
          refine (gvalid_any g _).mono ?_
          rintro e w1 ⟨rfl, hb1⟩
          rw [hv]
          clear hv hg
          have PG := (Cells5.new w 23 _ _ _ _ _).below hb1 (by simp)
          have hbl1 : Below w.heap.size w w1 := ((Below.refl _ _).alloc (Nat.le_refl _) _).trans (hb1.mono (by simp))
          clear hb1
          have p0 := PG.c0; have p1 := PG.c1; have p2 := PG.c2; have p3 := PG.c3; have p4 := PG.c4
          go_wp2_with fail
          refine (Wb.out _).mono ?_
          rintro e w' ⟨rfl, rfl⟩
          go_wp2_with fail
          refine (Wt.out _).mono ?_
          rintro e w' ⟨rfl, rfl⟩
          go_wp2_with fail
          refine (Wp.out _).mono ?_
          rintro e w' ⟨rfl, rfl⟩
          go_wp2
          go_ret2
          exact ⟨ret_two (by rw [HL.out]) (by rw [HL.out]), hbl1⟩

set_option maxHeartbeats 1000000 in
theorem radr_any (g : Geo) (b t p : Int) (w : World) : Calls Tryz.prog 104 #[.agg #[.int .i64 g.random, .int .i64 g.bands, .int .i64 g.tracks, .int .i64 g.sectors, .int .i64 g.overlap], .int .i64 b, .int .i64 t, .int .i64 p] w fun e w' => e = .returned (.tuple #[.int .i64 (adrN g b t p).1, .int .i64 (adrN g b t p).2]) ∧ Below w.heap.size w w' := by
  cases hv : validG g
  · have HL := Lib.hid (adr_invalid b t p hv)
    go_enter Tryz.func104, Tryz.ntmps104
    go_wp2_with fail
    refine (rgvalid_any g _).mono ?_
    rintro e w1 ⟨rfl, hb1⟩
    rw [hv]
    clear hv
    go_wp2
    go_ret2
    exact ⟨by rw [HL.out]; rfl, ((Below.refl _ _).alloc (Nat.le_refl _) _).trans (hb1.mono (by simp))⟩
  · have hg := (validG_iff g).1 hv
    have h0 := hg.b0; have h1 := hg.t0; have h2 := hg.s0; have h4 := hg.b1; have h5 := hg.t1; have h6 := hg.s1; have h7 := hg.r0; have h8 := hg.r1
    by_cases c1 : b < 0
    · have HL := Lib.hid (adr_out (b := b) (t := t) (p := p) hv (by rw [inR_false (by omega)]; rfl))
      go_enter Tryz.func104, Tryz.ntmps104
      go_wp2_with fail
      refine (rgvalid_any g _).mono ?_
      rintro e w1 ⟨rfl, hb1⟩
      rw [hv]
      clear hv hg
      have PG := (Cells5.new w 23 _ _ _ _ _).below hb1 (by simp)
      have hbl1 : Below w.heap.size w w1 := ((Below.refl _ _).alloc (Nat.le_refl _) _).trans (hb1.mono (by simp))
      have hz1 : w.heap.size < w1.heap.size := by have := hb1.size; simp at this; omega
      clear hb1
      have p0 := PG.c0; have p1 := PG.c1; have p2 := PG.c2; have p3 := PG.c3; have p4 := PG.c4
      go_wp2
      go_ret2
      exact ⟨by rw [HL.out]; rfl, hbl1⟩
    · by_cases c2 : g.bands ≤ b
      · have HL := Lib.hid (adr_out (b := b) (t := t) (p := p) hv (by rw [inR_false (by omega)]; rfl))
        go_enter Tryz.func104, Tryz.ntmps104
        go_wp2_with fail
        refine (rgvalid_any g _).mono ?_
        rintro e w1 ⟨rfl, hb1⟩
        rw [hv]
        clear hv hg
        have PG := (Cells5.new w 23 _ _ _ _ _).below hb1 (by simp)
        have hbl1 : Below w.heap.size w w1 := ((Below.refl _ _).alloc (Nat.le_refl _) _).trans (hb1.mono (by simp))
        have hz1 : w.heap.size < w1.heap.size := by have := hb1.size; simp at this; omega
        clear hb1
        have p0 := PG.c0; have p1 := PG.c1; have p2 := PG.c2; have p3 := PG.c3; have p4 := PG.c4
        go_wp2
        go_ret2
        exact ⟨by rw [HL.out]; rfl, hbl1⟩
      · by_cases c3 : t < 0
        · have HL := Lib.hid (adr_out (b := b) (t := t) (p := p) hv (by rw [inR_false (n := t) (by omega)]; simp))
          go_enter Tryz.func104, Tryz.ntmps104
          go_wp2_with fail
          refine (rgvalid_any g _).mono ?_
          rintro e w1 ⟨rfl, hb1⟩
          rw [hv]
          clear hv hg
          have PG := (Cells5.new w 23 _ _ _ _ _).below hb1 (by simp)
          have hbl1 : Below w.heap.size w w1 := ((Below.refl _ _).alloc (Nat.le_refl _) _).trans (hb1.mono (by simp))
          have hz1 : w.heap.size < w1.heap.size := by have := hb1.size; simp at this; omega
          clear hb1
          have p0 := PG.c0; have p1 := PG.c1; have p2 := PG.c2; have p3 := PG.c3; have p4 := PG.c4
          go_wp2
          go_ret2
          exact ⟨by rw [HL.out]; rfl, hbl1⟩
        · by_cases c4 : g.tracks ≤ t
          · have HL := Lib.hid (adr_out (b := b) (t := t) (p := p) hv (by rw [inR_false (n := t) (by omega)]; simp))
            go_enter Tryz.func104, Tryz.ntmps104
            go_wp2_with fail
            refine (rgvalid_any g _).mono ?_
            rintro e w1 ⟨rfl, hb1⟩
            rw [hv]
            clear hv hg
            have PG := (Cells5.new w 23 _ _ _ _ _).below hb1 (by simp)
            have hbl1 : Below w.heap.size w w1 := ((Below.refl _ _).alloc (Nat.le_refl _) _).trans (hb1.mono (by simp))
            have hz1 : w.heap.size < w1.heap.size := by have := hb1.size; simp at this; omega
            clear hb1
            have p0 := PG.c0; have p1 := PG.c1; have p2 := PG.c2; have p3 := PG.c3; have p4 := PG.c4
            go_wp2
            go_ret2
            exact ⟨by rw [HL.out]; rfl, hbl1⟩
          · by_cases c5 : p < 0
            · have HL := Lib.hid (adr_out (b := b) (t := t) (p := p) hv (by rw [inR_false (n := p) (by omega)]; simp))
              go_enter Tryz.func104, Tryz.ntmps104
              go_wp2_with fail
              refine (rgvalid_any g _).mono ?_
              rintro e w1 ⟨rfl, hb1⟩
              rw [hv]
              clear hv hg
              have PG := (Cells5.new w 23 _ _ _ _ _).below hb1 (by simp)
              have hbl1 : Below w.heap.size w w1 := ((Below.refl _ _).alloc (Nat.le_refl _) _).trans (hb1.mono (by simp))
              have hz1 : w.heap.size < w1.heap.size := by have := hb1.size; simp at this; omega
              clear hb1
              have p0 := PG.c0; have p1 := PG.c1; have p2 := PG.c2; have p3 := PG.c3; have p4 := PG.c4
              go_wp2
              go_ret2
              exact ⟨by rw [HL.out]; rfl, hbl1⟩
            · by_cases c6 : g.sectors ≤ p
              · have HL := Lib.hid (adr_out (b := b) (t := t) (p := p) hv (by rw [inR_false (n := p) (by omega)]; simp))
                go_enter Tryz.func104, Tryz.ntmps104
                go_wp2_with fail
                refine (rgvalid_any g _).mono ?_
                rintro e w1 ⟨rfl, hb1⟩
                rw [hv]
                clear hv hg
                have PG := (Cells5.new w 23 _ _ _ _ _).below hb1 (by simp)
                have hbl1 : Below w.heap.size w w1 := ((Below.refl _ _).alloc (Nat.le_refl _) _).trans (hb1.mono (by simp))
                have hz1 : w.heap.size < w1.heap.size := by have := hb1.size; simp at this; omega
                clear hb1
                have p0 := PG.c0; have p1 := PG.c1; have p2 := PG.c2; have p3 := PG.c3; have p4 := PG.c4
                go_wp2
                go_ret2
                exact ⟨by rw [HL.out]; rfl, hbl1⟩
              · have HL := Lib.hid (adr_in (b := b) (t := t) (p := p) hv ((inR_iff _ _ _).2 (by omega)) ((inR_iff _ _ _).2 (by omega)) ((inR_iff _ _ _).2 (by omega)))
                obtain ⟨b0, b1, b2, b3⟩ := adr_bound (b := b) (t := t) hg (by omega) (by omega)
                go_enter Tryz.func104, Tryz.ntmps104
                go_wp2_with fail
                refine (rgvalid_any g _).mono ?_
                rintro e w1 ⟨rfl, hb1⟩
                rw [hv]
                clear hv hg
                have PG := (Cells5.new w 23 _ _ _ _ _).below hb1 (by simp)
                have hbl1 : Below w.heap.size w w1 := ((Below.refl _ _).alloc (Nat.le_refl _) _).trans (hb1.mono (by simp))
                have hz1 : w.heap.size < w1.heap.size := by have := hb1.size; simp at this; omega
                clear hb1
                have p0 := PG.c0; have p1 := PG.c1; have p2 := PG.c2; have p3 := PG.c3; have p4 := PG.c4
                go_wp2
                go_ret2
                exact ⟨ret_two (by rw [HL.out]) (by rw [HL.out]), hbl1⟩
end Go.Proofs.YtckdhhadlemakaaGreat
