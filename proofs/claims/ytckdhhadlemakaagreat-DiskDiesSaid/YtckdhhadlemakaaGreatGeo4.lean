/-
  WHAT IS SHOWN: what Shadow of geometry and of tegularef10 return: new lists of the same numbers; they change nothing that was there. Conditions: the geometry is valid, or nothing.
-/
import Derived.Test.YtckdhhadlemakaaGreatGeo3
import Derived.Laws.OwnMore
namespace Go.Proofs.YtckdhhadlemakaaGreat
set_option linter.unusedVariables false
open Go.RowKit

/-- A new list of numbers. -/
def IntsPost (w : World) (L : List Int) (e : Ending) (w' : World) : Prop :=
  ∃ A c, e = .returned (.slice A L.length c) ∧ w'.ownsRow w.heap.size 3 1 (.slice A L.length c) L.length (L.map (Value.int .i64)) ∧ Below w.heap.size w w'
theorem info_int : (Tryz.prog.info? 3).map (fun i => (i.zero, i.size, i.bytes)) = some (some (.int .i64 0), 1, 8) := by kernel_rfl
def shTo (g : Geo) (a : Int) (j : Nat) : List Int := (List.range j).map fun (i : Nat) => a + ((i : Int) + 1) * g.sectors
theorem shTo_succ (g : Geo) (a : Int) (j : Nat) : shTo g a (j + 1) = shTo g a j ++ [a + ((j : Int) + 1) * g.sectors] := by unfold shTo; rw [List.range_succ]; simp
theorem shTo_len (g : Geo) (a : Int) (j : Nat) : (shTo g a j).length = j := by unfold shTo; simp
theorem shadow_in {g : Geo} {a : Int} (h : (locN g a).e = 0) : shadowL g a = shTo g a (shCnt g (locN g a).track) := by unfold shadowL shTo; rw [if_pos h]
theorem shadow_out {g : Geo} {a : Int} (h : (locN g a).e ≠ 0) : shadowL g a = [] := by unfold shadowL; rw [if_neg h]
theorem loc_ok {g : Geo} {a : Int} (h : (locN g a).e = 0) : Vg g ∧ g.random ≤ a ∧ a < g.random + g.bands * (g.tracks * g.sectors) ∧ locN g a = ⟨(a - g.random) / g.sectors / g.tracks, (a - g.random) / g.sectors % g.tracks, (a - g.random) % g.sectors, 0⟩ := by
  cases hv : validG g
  · rw [loc_invalid a hv] at h; simp at h
  · cases hi : inR a g.random (szN g - 1)
    · rw [loc_out hv hi] at h; simp at h
    · have hg := (validG_iff g).1 hv
      have := (inR_iff _ _ _).1 hi
      have hz := szN_valid hg
      exact ⟨hg, this.1, by omega, loc_in hv hi⟩
theorem own_snoc {w : World} {base : Nat} {v : Value} {g : Geo} {a : Int} {j : Nat} {n : Nat} {xs : List Value} (h : w.ownsRow base 3 1 v n xs) (hn : n = j + 1) (hx : xs = (shTo g a j).map (Value.int .i64) ++ [.int .i64 (a + ((j : Int) + 1) * g.sectors)]) :
    w.ownsRow base 3 1 v (j + 1) ((shTo g a (j + 1)).map (Value.int .i64)) := by
  subst hn; subst hx
  rw [shTo_succ, List.map_append]; exact h

set_option maxRecDepth 100000 in
set_option maxHeartbeats 1000000 in
theorem gshadow_any (g : Geo) (a : Int) (ha : I64 a) (w : World) : Calls Tryz.prog 99 #[.agg #[.int .i64 g.random, .int .i64 g.bands, .int .i64 g.tracks, .int .i64 g.sectors, .int .i64 g.overlap], .int .i64 a] w (IntsPost w (shadowL g a)) := by
  have HL := Lib.hid (fun W => gloc_any g a ha W)
  by_cases he : (locN g a).e = 0
  · obtain ⟨hg, a0, a1, hl⟩ := loc_ok he
    obtain ⟨_, _, t0, t1, _, _, _⟩ := loc_spec hg a0 a1
    have HR := Lib.hid (shadow_in he)
    rw [hl] at HL HR
    simp only at HL HR
    have h0 := hg.o0; have h1 := hg.o1; have h2 := hg.t1; have h3 := hg.s0; have h4 := hg.s1; have h5 := hg.r0; have h6 := hg.r1
    have h7 := hg.sz
    have a2 : 0 ≤ a := by omega
    have a3 : a ≤ 100000 := by omega
    generalize (a - g.random) / g.sectors % g.tracks = T at *
    generalize (a - g.random) / g.sectors / g.tracks = T1 at *
    generalize (a - g.random) % g.sectors = T2 at *
    have hc1 : (shCnt g T : Int) = min g.overlap (g.tracks - 1 - T) := by unfold shCnt; omega
    generalize shCnt g T = N at *
    have hc2 : (N : Int) ≤ g.overlap := by omega
    have hc3 : T + N < g.tracks := by omega
    have hc4 : g.overlap ≤ N ∨ g.tracks ≤ T + N + 1 := by omega
    clear hc1 hl he a0 a1 h7 hg
    obtain ⟨i0, hi, hz0, hz1, hz2⟩ := info_parts info_int
    go_enter Tryz.func99, Tryz.ntmps99
    go_wp2_with fail
    refine (HL.out _).mono ?_
    rintro e w1 ⟨rfl, hb1⟩
    have PG := (Cells5.new w 23 _ _ _ _ _).below hb1 (by simp)
    have hbl1 : Below w.heap.size w w1 := ((Below.refl _ _).alloc (Nat.le_refl _) _).trans (hb1.mono (by simp))
    have hzz1 : w.heap.size < w1.heap.size := by have := hb1.size; simp at this; omega
    clear hb1 HL
    go_wp2
    go_loopw [9, 10] (fun v k wr => ∃ j : Nat, j ≤ N ∧ k = .int .i64 ((j : Int) + 1) ∧ wr.ownsRow w1.heap.size 3 1 v j ((shTo g a j).map (Value.int .i64)) ∧ Below w1.heap.size w1 wr) (fun _ k _ => 5 - (intOf k).toNat)
    case atStart => exact ⟨0, Nat.zero_le _, rfl, World.ownsRow_nil _ _ _ _, Below.refl _ _⟩
    case round =>
      obtain ⟨j, hj, rfl, hown, hbr⟩ := hrel
      have PGr := PG.below hbr hzz1
      have p0 := PGr.c0; have p2 := PGr.c2; have p3 := PGr.c3; have p4 := PGr.c4
      have hzr := hbr.size
      by_cases hlt : j < N
      · have hm := mul_lim (a := (j : Int) + 1) (b := g.sectors) (A := 3) (B := 64) (by omega) (by omega) (by omega) h4
        have q1 : (j : Int) + 1 ≤ g.overlap := by omega
        have q2 : T + ((j : Int) + 1) < g.tracks := by omega
        have hX : Hid (∀ (v : Value) (W : World) n xs, W.ownsRow w1.heap.size 3 1 v n xs → n = j + 1 → xs = (shTo g a j).map (Value.int .i64) ++ [.int .i64 (a + ((j : Int) + 1) * g.sectors)] → W.ownsRow w1.heap.size 3 1 v (j + 1) ((shTo g a (j + 1)).map (Value.int .i64))) := by
          unfold Hid; intro v W n xs h e1 e2; exact own_snoc h e1 e2
        have hw1 : wrap64 (((j : Int) + 1) * g.sectors) = ((j : Int) + 1) * g.sectors := w64_id (by omega) (by omega)
        have hw2 : wrap64 (a + ((j : Int) + 1) * g.sectors) = a + ((j : Int) + 1) * g.sectors := w64_id (by omega) (by omega)
        go_wp2_with (at_builtin; refine wpList_append_own _ rfl _ _ 135 rfl w1.heap.size 3 i0 _ 1 8 Tryz.underlying135 hi hz0 hz1 hz2 rfl (by decide) _ _ _ rfl (hown.alloc _) ⟨wr.heap.size, 0, none⟩ 1 1 [.int .i64 (a + ((j : Int) + 1) * g.sectors)] rfl rfl ?c1 ?c2 ?c3 ?c4 ?c5 ?_)
        case c1 =>
          intro i u hu
          rw [add_off]
          cases i with
          | zero => simp at hu; subst hu; exact cell_new _ _ _ _ _ _ rfl rfl
          | succ i => simp at hu
        case c2 => intro u hu; simp at hu; subst hu; rfl
        case c3 => unfold maxLen; omega
        case c4 => omega
        case c5 => simp; omega
        intro v' w' hown' hgrow _
        have hn := hX.out _ _ _ _ hown' rfl rfl
        have hb' : Below w1.heap.size w1 w' := (hbr.alloc hzr _).grown hgrow (by simp; omega) (fun k hk => (hown.lt k hk).1)
        clear hown hown' hgrow hX
        go_wp2
        go_roundw
        case rel => exact ⟨j + 1, by omega, by go_num, hn, hb'⟩
        case measure => simp [intOf]; omega
      · have hjN : j = N := by omega
        subst hjN
        obtain ⟨A, c, rfl⟩ := own_form hown
        have HE : Hid (wr.ownsRow w.heap.size 3 1 (.slice A j c) (shadowL g a).length ((shadowL g a).map (Value.int .i64))) := by
          unfold Hid; rw [HR.out, shTo_len]; exact own_mono hown hbl1.size
        have HN : Hid ((shadowL g a).length = j) := by unfold Hid; rw [HR.out, shTo_len]
        clear hown hj hlt a2 a3 ha
        rcases hc4 with hc4 | hc4
        · have q1 : g.overlap < (j : Int) + 1 := by omega
          go_wp2
          go_ret
          exact ⟨A, c, by rw [HN.out]; rfl, by have := HE.out; rw [HN.out] at this ⊢; exact this, hbl1.trans (hbr.mono hbl1.size)⟩
        · have q2 : g.tracks ≤ T + ((j : Int) + 1) := by omega
          by_cases q3 : g.overlap < (j : Int) + 1
          · go_wp2
            go_ret
            exact ⟨A, c, by rw [HN.out]; rfl, by have := HE.out; rw [HN.out] at this ⊢; exact this, hbl1.trans (hbr.mono hbl1.size)⟩
          · go_wp2
            go_ret
            exact ⟨A, c, by rw [HN.out]; rfl, by have := HE.out; rw [HN.out] at this ⊢; exact this, hbl1.trans (hbr.mono hbl1.size)⟩
  · have HR := Lib.hid (shadow_out he)
    generalize locN g a = L at *
    have he2 : (L.e != 0) = true := by simpa using he
    clear he
    go_enter Tryz.func99, Tryz.ntmps99
    go_wp2_with fail
    refine (HL.out _).mono ?_
    rintro e w1 ⟨rfl, hb1⟩
    go_wp2
    go_ret
    exact ⟨none, 0, by rw [HR.out]; rfl, by rw [HR.out]; exact World.ownsRow_nil _ _ _ _, ((Below.refl _ _).alloc (Nat.le_refl _) _).trans (hb1.mono (by simp))⟩
end Go.Proofs.YtckdhhadlemakaaGreat
