/-
  WHAT IS SHOWN: what Shadow of tegularef10 returns: a new list of the same numbers as that of geometry; it changes nothing that was there. No condition.
-/
import Derived.Test.YtckdhhadlemakaaGreatGeo4
namespace Go.Proofs.YtckdhhadlemakaaGreat
set_option linter.unusedVariables false
open Go.RowKit

theorem sh_adr_in {g : Geo} {a : Int} (hg : Vg g) (h0 : g.random ≤ a) (h1 : a < g.random + g.bands * (g.tracks * g.sectors)) (k : Int) (hk : 0 ≤ k) (hT : (a - g.random) / g.sectors % g.tracks + k < g.tracks) :
    adrN g ((a - g.random) / g.sectors / g.tracks) ((a - g.random) / g.sectors % g.tracks + k) ((a - g.random) % g.sectors) = (a + k * g.sectors, 0) := by
  obtain ⟨s0, s1, s2, s3, s4, s5, s6⟩ := loc_spec hg h0 h1
  rw [adr_in ((validG_iff g).2 hg) ((inR_iff _ _ _).2 ⟨s0, by omega⟩) ((inR_iff _ _ _).2 ⟨by omega, by omega⟩) ((inR_iff _ _ _).2 ⟨s4, by omega⟩)]
  rw [← Int.add_assoc ((a - g.random) / g.sectors / g.tracks * g.tracks), Int.add_mul _ k]
  congr 1
  omega
theorem sh_adr_out {g : Geo} {a : Int} (hg : Vg g) (h0 : g.random ≤ a) (h1 : a < g.random + g.bands * (g.tracks * g.sectors)) (k : Int) (hT : g.tracks ≤ (a - g.random) / g.sectors % g.tracks + k) :
    adrN g ((a - g.random) / g.sectors / g.tracks) ((a - g.random) / g.sectors % g.tracks + k) ((a - g.random) % g.sectors) = (0, 2) := by
  rw [adr_out ((validG_iff g).2 hg)]
  rw [inR_false (n := (a - g.random) / g.sectors % g.tracks + k) (.inr (by omega))]
  simp

set_option maxRecDepth 100000 in
set_option maxHeartbeats 1000000 in
theorem rshadow_any (g : Geo) (a : Int) (ha : I64 a) (w : World) : Calls Tryz.prog 101 #[.agg #[.int .i64 g.random, .int .i64 g.bands, .int .i64 g.tracks, .int .i64 g.sectors, .int .i64 g.overlap], .int .i64 a] w (IntsPost w (shadowL g a)) := by
  have HL := Lib.hid (fun W => rloc_any g a ha W)
  by_cases he : (locN g a).e = 0
  · obtain ⟨hg, a0, a1, hl⟩ := loc_ok he
    obtain ⟨_, _, t0, t1, _, _, _⟩ := loc_spec hg a0 a1
    have HR := Lib.hid (shadow_in he)
    have AI := Lib.hid (fun k h1 h2 => sh_adr_in hg a0 a1 k h1 h2)
    have AO := Lib.hid (fun k h1 => sh_adr_out hg a0 a1 k h1)
    rw [hl] at HL HR
    simp only at HL HR
    have h0 := hg.o0; have h1 := hg.o1; have h2 := hg.t1; have h3 := hg.s0; have h4 := hg.s1; have h5 := hg.r0; have h6 := hg.r1
    have h7 := hg.sz
    have a2 : 0 ≤ a := by omega
    have a3 : a ≤ 100000 := by omega
    generalize (a - g.random) / g.sectors % g.tracks = T at *
    generalize (a - g.random) / g.sectors / g.tracks = T1 at *
    generalize (a - g.random) % g.sectors = T2 at *
    have hc1 : (shCnt g T : Int) = min g.overlap (g.tracks - 1 - T) := by unfold shCnt; omega
    generalize shCnt g T = N at *
    have hc2 : (N : Int) ≤ g.overlap := by omega
    have hc3 : T + N < g.tracks := by omega
    have hc4 : g.overlap ≤ N ∨ g.tracks ≤ T + N + 1 := by omega
    have hc5 : ∃ O : Nat, g.overlap = (O : Int) := ⟨g.overlap.toNat, by omega⟩
    obtain ⟨O, hO⟩ := hc5
    have HO := Lib.hid hO
    have hNO : N ≤ O := by omega
    have hc6 : N < O → g.tracks ≤ T + N + 1 := by omega
    have HC6 := Lib.hid hc6
    clear hc1 hl he a0 a1 h7 hg hc4 hc6 hO
    obtain ⟨i0, hi, hz0, hz1, hz2⟩ := info_parts info_int
    go_enter Tryz.func101, Tryz.ntmps101
    go_wp2_with fail
    refine (HL.out _).mono ?_
    rintro e w1 ⟨rfl, hb1⟩
    have PG := (Cells5.new w 23 _ _ _ _ _).below hb1 (by simp)
    have hbl1 : Below w.heap.size w w1 := ((Below.refl _ _).alloc (Nat.le_refl _) _).trans (hb1.mono (by simp))
    have hzz1 : w.heap.size < w1.heap.size := by have := hb1.size; simp at this; omega
    clear hb1 HL
    go_wp2
    go_loopw [9, 10] (fun v k wr => ∃ j m : Nat, j ≤ O ∧ m ≤ 3 ∧ Hid (m = min j N) ∧ k = .int .i64 ((j : Int) + 1) ∧ wr.ownsRow w1.heap.size 3 1 v m ((shTo g a m).map (Value.int .i64)) ∧ Below w1.heap.size w1 wr) (fun _ k _ => 5 - (intOf k).toNat)
    case atStart => exact ⟨0, 0, Nat.zero_le _, Nat.zero_le _, by unfold Hid; omega, rfl, World.ownsRow_nil _ _ _ _, Below.refl _ _⟩
    case round =>
      obtain ⟨j, m, hj, hm3, HM, rfl, hown, hbr⟩ := hrel
      have PGr := PG.below hbr hzz1
      have p0 := PGr.c0; have p1 := PGr.c1; have p2 := PGr.c2; have p3 := PGr.c3; have p4 := PGr.c4
      have hzr := hbr.size
      have hO2 := HO.out
      by_cases hlt : j < O
      · have hjb : (j : Int) + 1 ≤ 3 := by omega
        have q1 : (j : Int) + 1 ≤ g.overlap := by omega
        clear hO2
        by_cases hN : j < N
        · have hadr := AI.out ((j : Int) + 1) (by omega) (by omega)
          have hcall := Lib.hid (fun W => radr_any g T1 (T + ((j : Int) + 1)) T2 W)
          rw [hadr] at hcall
          simp only at hcall
          have hm := mul_lim (a := (j : Int) + 1) (b := g.sectors) (A := 3) (B := 64) (by omega) (by omega) (by omega) h4
          have hmj : m = j := by have := HM.out; omega
          subst hmj
          have hX : Hid (∀ (v : Value) (W : World) n xs, W.ownsRow w1.heap.size 3 1 v n xs → n = m + 1 → xs = (shTo g a m).map (Value.int .i64) ++ [.int .i64 (a + ((m : Int) + 1) * g.sectors)] → W.ownsRow w1.heap.size 3 1 v (m + 1) ((shTo g a (m + 1)).map (Value.int .i64))) := by
            unfold Hid; intro v W n xs h e1 e2; exact own_snoc h e1 e2
          clear hadr
          go_wp2_with fail
          refine (hcall.out _).mono ?_
          rintro e w2 ⟨rfl, hb2⟩
          have hown2 := own_kept hown (belKept0 (S := fun _ => False) hb2) (fun _ _ h => h.elim)
          have hbr2 := hbr.trans (hb2.mono hzr)
          have hzr2 := hbr2.size
          clear hown
          go_wp2_with (at_builtin; refine wpList_append_own _ rfl _ _ 135 rfl w1.heap.size 3 i0 _ 1 8 Tryz.underlying135 hi hz0 hz1 hz2 rfl (by decide) _ _ _ rfl (hown2.alloc _) ⟨w2.heap.size, 0, none⟩ 1 1 [.int .i64 (a + ((m : Int) + 1) * g.sectors)] rfl rfl ?c1 ?c2 ?c3 ?c4 ?c5 ?_)
          case c1 =>
            intro i u hu
            rw [add_off]
            cases i with
            | zero => simp at hu; subst hu; exact cell_new _ _ _ _ _ _ rfl rfl
            | succ i => simp at hu
          case c2 => intro u hu; simp at hu; subst hu; rfl
          case c3 => unfold maxLen; omega
          case c4 => omega
          case c5 => simp; omega
          intro v' w' hown' hgrow _
          have hn := hX.out _ _ _ _ hown' rfl rfl
          have hb' : Below w1.heap.size w1 w' := (hbr2.alloc hzr2 _).grown hgrow (by simp; omega) (fun k hk => (hown2.lt k hk).1)
          clear hown2 hown' hgrow hX
          go_wp2
          go_roundw
          case rel => exact ⟨m + 1, m + 1, by omega, by omega, by unfold Hid; omega, by go_num, hn, hb'⟩
          case measure => simp [intOf]; omega
        · have hadr := AO.out ((j : Int) + 1) (by have := HC6.out (by omega); omega)
          have hcall := Lib.hid (fun W => radr_any g T1 (T + ((j : Int) + 1)) T2 W)
          rw [hadr] at hcall
          simp only at hcall
          have HM2 : Hid (m = min (j + 1) N) := by unfold Hid; have := HM.out; omega
          clear hadr
          go_wp2_with fail
          refine (hcall.out _).mono ?_
          rintro e w2 ⟨rfl, hb2⟩
          have hown2 := own_kept hown (belKept0 (S := fun _ => False) hb2) (fun _ _ h => h.elim)
          have hbr2 := hbr.trans (hb2.mono hzr)
          clear hown
          go_wp2
          go_roundw
          case rel => exact ⟨j + 1, m, by omega, hm3, HM2, by go_num, hown2, hbr2⟩
          case measure => simp [intOf]; omega
      · have hmN : m = N := by have := HM.out; omega
        subst hmN
        obtain ⟨A, c, rfl⟩ := own_form hown
        have HE : Hid (wr.ownsRow w.heap.size 3 1 (.slice A m c) (shadowL g a).length ((shadowL g a).map (Value.int .i64))) := by
          unfold Hid; rw [HR.out, shTo_len]; exact own_mono hown hbl1.size
        have HN : Hid ((shadowL g a).length = m) := by unfold Hid; rw [HR.out, shTo_len]
        have q1 : g.overlap < (j : Int) + 1 := by omega
        clear hown hO2
        go_wp2
        go_ret
        exact ⟨A, c, by rw [HN.out]; rfl, by have := HE.out; rw [HN.out] at this ⊢; exact this, hbl1.trans (hbr.mono hbl1.size)⟩
  · have HR := Lib.hid (shadow_out he)
    generalize locN g a = L at *
    have he2 : (L.e == 0) = false := by simpa using he
    clear he
    go_enter Tryz.func101, Tryz.ntmps101
    go_wp2_with fail
    refine (HL.out _).mono ?_
    rintro e w1 ⟨rfl, hb1⟩
    have hbl1 : Below w.heap.size w w1 := ((Below.refl _ _).alloc (Nat.le_refl _) _).trans (hb1.mono (by simp))
    go_wp2
    go_loopw [9, 10] (fun v k wr => v = .slice none 0 0 ∧ k = .int .i64 1 ∧ wr = w1) (fun _ _ _ => 0)
    case atStart => exact ⟨rfl, rfl, rfl⟩
    case round =>
      obtain ⟨rfl, rfl, rfl⟩ := hrel
      go_wp2
      go_ret
      exact ⟨none, 0, by rw [HR.out]; rfl, by rw [HR.out]; exact World.ownsRow_nil _ _ _ _, hbl1⟩
end Go.Proofs.YtckdhhadlemakaaGreat
