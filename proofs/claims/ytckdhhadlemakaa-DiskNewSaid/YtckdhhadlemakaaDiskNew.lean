/-
  WHAT IS SHOWN: tegulalaw14.DiskNew returns true for any geometry and faults, and changes nothing. No condition.
-/
import Derived.Test.YtckdhhadlemakaaDisk11
import Derived.Test.YtckdhhadlemakaaDisk12
import Derived.Test.YtckdhhadlemakaaMedOpen
import Derived.SizedLaws
namespace Go.Proofs.Ytckdhhadlemakaa
set_option linter.unusedVariables false
open Go.ChangeShapes Go.WideShapes Go.ChangeAt Go.RowKit Go.Deep

set_option maxRecDepth 100000 in
set_option maxHeartbeats 4000000 in
theorem diskNew_walk (g : Geo) (A : Option Addr) (l : List Flt) (c : Nat) (w : World) (hr : Rd w w.heap.size A (flatF l)) (hcap : l.length * 24 ≤ 140737488355328) :
    Calls Try.prog 5 #[.agg #[.int .i64 g.random, .int .i64 g.bands, .int .i64 g.tracks, .int .i64 g.sectors, .int .i64 g.overlap], .slice A l.length c] w fun e w' => e = .returned (.bool true) ∧ Below w.heap.size w w' := by
  have hb0 : Below w.heap.size w (w.alloc (.cells #[.int .i64 g.random, .int .i64 g.bands, .int .i64 g.tracks, .int .i64 g.sectors, .int .i64 g.overlap] 23)) := (Below.refl _ _).alloc (Nat.le_refl _) _
  have HRD := Lib.hid hr
  have HFV : Hid (∀ W, Below w.heap.size w W → Calls Try.prog 28 #[.slice A l.length c] W fun e w' => e = .returned (.bool (validF l)) ∧ Below W.heap.size W w') := by
    unfold Hid; intro W hW; exact rfvalid_any l A c W ((HRD.out.below hW (Nat.le_refl _)).more hW.size) (by omega)
  clear hr
  cases hv : validG g
  · have HV : Hid (∀ W, Calls Try.prog 13 #[.agg #[.int .i64 g.random, .int .i64 g.bands, .int .i64 g.tracks, .int .i64 g.sectors, .int .i64 g.overlap]] W fun e w' => e = .returned (.bool false) ∧ Below W.heap.size W w') := by
      unfold Hid; intro W; have := rgvalid_any g W; rw [hv] at this; exact this
    have HN := Lib.hid (fun W a => dnew_bad1 l A c a hv W)
    clear hv
    go_enter Try.func5, Try.ntmps5
    go_wp2_with fail
    refine (awake14_any _).mono ?_
    rintro e w1 ⟨rfl, hb1⟩
    have hbl1 := hb0.trans (hb1.mono hb0.size)
    have PB1 := Cells5.below (Cells5.new w 23 (.int .i64 g.random) (.int .i64 g.bands) (.int .i64 g.tracks) (.int .i64 g.sectors) (.int .i64 g.overlap)) hb1 (by simp)
    have hz1 : w.heap.size < w1.heap.size := by have := hb1.size; simp at this; omega
    have p0 := PB1.c0; have p1 := PB1.c1; have p2 := PB1.c2; have p3 := PB1.c3; have p4 := PB1.c4
    go_wp2_with fail
    refine (HV.out _).mono ?_
    rintro e w3 ⟨rfl, hb3⟩
    clear p0 p1 p2 p3 p4
    have hbl3 := hbl1.trans (hb3.mono hbl1.size)
    have hz3 := Nat.lt_of_lt_of_le hz1 hb3.size
    have PB3 := PB1.below hb3 hz1
    have p0 := PB3.c0; have p1 := PB3.c1; have p2 := PB3.c2; have p3 := PB3.c3; have p4 := PB3.c4
    clear p0 p1 p2 p3 p4
    go_wp2_with fail
    refine (newpower_any _).mono ?_
    rintro e w4 ⟨pw, rfl, _, hb4⟩
    have hbl4 := hbl3.trans (hb4.mono hbl3.size)
    have hz4 := Nat.lt_of_lt_of_le hz3 hb4.size
    have PB4 := PB3.below hb4 hz3
    have p0 := PB4.c0; have p1 := PB4.c1; have p2 := PB4.c2; have p3 := PB4.c3; have p4 := PB4.c4
    go_wp2_with fail
    refine (HN.out _ _).mono ?_
    rintro e w5 ⟨rfl, hb5⟩
    clear p0 p1 p2 p3 p4
    have hbl5 := hbl4.trans (hb5.mono hbl4.size)
    have hz5 := Nat.lt_of_lt_of_le hz4 hb5.size
    have PB5 := PB4.below hb5 hz4
    have p0 := PB5.c0; have p1 := PB5.c1; have p2 := PB5.c2; have p3 := PB5.c3; have p4 := PB5.c4
    go_wp2_with fail
    refine (HN.out _ _).mono ?_
    rintro e w6 ⟨rfl, hb6⟩
    clear p0 p1 p2 p3 p4
    have hbl6 := hbl5.trans (hb6.mono hbl5.size)
    have hz6 := Nat.lt_of_lt_of_le hz5 hb6.size
    have PB6 := PB5.below hb6 hz5
    have p0 := PB6.c0; have p1 := PB6.c1; have p2 := PB6.c2; have p3 := PB6.c3; have p4 := PB6.c4
    go_wp2_with fail
    refine (HV.out _).mono ?_
    rintro e w7 ⟨rfl, hb7⟩
    clear p0 p1 p2 p3 p4
    have hbl7 := hbl6.trans (hb7.mono hbl6.size)
    have hz7 := Nat.lt_of_lt_of_le hz6 hb7.size
    have PB7 := PB6.below hb7 hz6
    have p0 := PB7.c0; have p1 := PB7.c1; have p2 := PB7.c2; have p3 := PB7.c3; have p4 := PB7.c4
    go_wp2
    go_ret
    exact ⟨by first | rfl | simp, hbl7⟩
  have HV : Hid (∀ W, Calls Try.prog 13 #[.agg #[.int .i64 g.random, .int .i64 g.bands, .int .i64 g.tracks, .int .i64 g.sectors, .int .i64 g.overlap]] W fun e w' => e = .returned (.bool true) ∧ Below W.heap.size W w') := by
    unfold Hid; intro W; have := rgvalid_any g W; rw [hv] at this; exact this
  have HS := Lib.hid (fun W => rsz_any g W)
  by_cases hz : 2000 < szN g
  · generalize szN g = Z at *
    clear hv
    go_enter Try.func5, Try.ntmps5
    go_wp2_with fail
    refine (awake14_any _).mono ?_
    rintro e w1 ⟨rfl, hb1⟩
    have hbl1 := hb0.trans (hb1.mono hb0.size)
    have PB1 := Cells5.below (Cells5.new w 23 (.int .i64 g.random) (.int .i64 g.bands) (.int .i64 g.tracks) (.int .i64 g.sectors) (.int .i64 g.overlap)) hb1 (by simp)
    have hz1 : w.heap.size < w1.heap.size := by have := hb1.size; simp at this; omega
    have p0 := PB1.c0; have p1 := PB1.c1; have p2 := PB1.c2; have p3 := PB1.c3; have p4 := PB1.c4
    go_wp2_with fail
    refine (HV.out _).mono ?_
    rintro e w3 ⟨rfl, hb3⟩
    clear p0 p1 p2 p3 p4
    have hbl3 := hbl1.trans (hb3.mono hbl1.size)
    have hz3 := Nat.lt_of_lt_of_le hz1 hb3.size
    have PB3 := PB1.below hb3 hz1
    have p0 := PB3.c0; have p1 := PB3.c1; have p2 := PB3.c2; have p3 := PB3.c3; have p4 := PB3.c4
    go_wp2_with fail
    refine (HS.out _).mono ?_
    rintro e w4 ⟨rfl, hb4⟩
    clear p0 p1 p2 p3 p4
    have hbl4 := hbl3.trans (hb4.mono hbl3.size)
    have hz4 := Nat.lt_of_lt_of_le hz3 hb4.size
    have PB4 := PB3.below hb4 hz3
    have p0 := PB4.c0; have p1 := PB4.c1; have p2 := PB4.c2; have p3 := PB4.c3; have p4 := PB4.c4
    go_wp2_with fail
    refine (awake14_any _).mono ?_
    rintro e w5 ⟨rfl, hb5⟩
    clear p0 p1 p2 p3 p4
    have hbl5 := hbl4.trans (hb5.mono hbl4.size)
    have hz5 := Nat.lt_of_lt_of_le hz4 hb5.size
    have PB5 := PB4.below hb5 hz4
    have p0 := PB5.c0; have p1 := PB5.c1; have p2 := PB5.c2; have p3 := PB5.c3; have p4 := PB5.c4
    go_wp2
    go_ret
    exact ⟨by first | rfl | simp, hbl5⟩
  cases hvl : validF l
  · rw [hvl] at HFV
    have HN : Hid (∀ W a, Below w.heap.size w W → Calls Try.prog 27 #[.agg #[.int .i64 g.random, .int .i64 g.bands, .int .i64 g.tracks, .int .i64 g.sectors, .int .i64 g.overlap], .slice A l.length c, .pointer a] W fun e w' => e = .returned (.tuple #[.pointer none, .int .i64 1]) ∧ Below W.heap.size W w') := by
      unfold Hid; intro W a hW; exact dnew_bad2 l A c a hv hvl W ((HRD.out.below hW (Nat.le_refl _)).more hW.size) (by omega)
    generalize szN g = Z at *
    clear hv hvl
    go_enter Try.func5, Try.ntmps5
    go_wp2_with fail
    refine (awake14_any _).mono ?_
    rintro e w1 ⟨rfl, hb1⟩
    have hbl1 := hb0.trans (hb1.mono hb0.size)
    have PB1 := Cells5.below (Cells5.new w 23 (.int .i64 g.random) (.int .i64 g.bands) (.int .i64 g.tracks) (.int .i64 g.sectors) (.int .i64 g.overlap)) hb1 (by simp)
    have hz1 : w.heap.size < w1.heap.size := by have := hb1.size; simp at this; omega
    have p0 := PB1.c0; have p1 := PB1.c1; have p2 := PB1.c2; have p3 := PB1.c3; have p4 := PB1.c4
    go_wp2_with fail
    refine (HV.out _).mono ?_
    rintro e w3 ⟨rfl, hb3⟩
    clear p0 p1 p2 p3 p4
    have hbl3 := hbl1.trans (hb3.mono hbl1.size)
    have hz3 := Nat.lt_of_lt_of_le hz1 hb3.size
    have PB3 := PB1.below hb3 hz1
    have p0 := PB3.c0; have p1 := PB3.c1; have p2 := PB3.c2; have p3 := PB3.c3; have p4 := PB3.c4
    go_wp2_with fail
    refine (HS.out _).mono ?_
    rintro e w4 ⟨rfl, hb4⟩
    clear p0 p1 p2 p3 p4
    have hbl4 := hbl3.trans (hb4.mono hbl3.size)
    have hz4 := Nat.lt_of_lt_of_le hz3 hb4.size
    have PB4 := PB3.below hb4 hz3
    have p0 := PB4.c0; have p1 := PB4.c1; have p2 := PB4.c2; have p3 := PB4.c3; have p4 := PB4.c4
    clear p0 p1 p2 p3 p4
    go_wp2_with fail
    refine (newpower_any _).mono ?_
    rintro e w5 ⟨pw, rfl, _, hb5⟩
    have hbl5 := hbl4.trans (hb5.mono hbl4.size)
    have hz5 := Nat.lt_of_lt_of_le hz4 hb5.size
    have PB5 := PB4.below hb5 hz4
    have p0 := PB5.c0; have p1 := PB5.c1; have p2 := PB5.c2; have p3 := PB5.c3; have p4 := PB5.c4
    go_wp2_with fail
    refine (HN.out _ _ hbl5).mono ?_
    rintro e w6 ⟨rfl, hb6⟩
    clear p0 p1 p2 p3 p4
    have hbl6 := hbl5.trans (hb6.mono hbl5.size)
    have hz6 := Nat.lt_of_lt_of_le hz5 hb6.size
    have PB6 := PB5.below hb6 hz5
    have p0 := PB6.c0; have p1 := PB6.c1; have p2 := PB6.c2; have p3 := PB6.c3; have p4 := PB6.c4
    go_wp2_with fail
    refine (HN.out _ _ hbl6).mono ?_
    rintro e w7 ⟨rfl, hb7⟩
    clear p0 p1 p2 p3 p4
    have hbl7 := hbl6.trans (hb7.mono hbl6.size)
    have hz7 := Nat.lt_of_lt_of_le hz6 hb7.size
    have PB7 := PB6.below hb7 hz6
    have p0 := PB7.c0; have p1 := PB7.c1; have p2 := PB7.c2; have p3 := PB7.c3; have p4 := PB7.c4
    go_wp2_with fail
    refine (HV.out _).mono ?_
    rintro e w8 ⟨rfl, hb8⟩
    clear p0 p1 p2 p3 p4
    have hbl8 := hbl7.trans (hb8.mono hbl7.size)
    have hz8 := Nat.lt_of_lt_of_le hz7 hb8.size
    have PB8 := PB7.below hb8 hz7
    have p0 := PB8.c0; have p1 := PB8.c1; have p2 := PB8.c2; have p3 := PB8.c3; have p4 := PB8.c4
    go_wp2_with fail
    refine (HFV.out _ hbl8).mono ?_
    rintro e w9 ⟨rfl, hb9⟩
    clear p0 p1 p2 p3 p4
    have hbl9 := hbl8.trans (hb9.mono hbl8.size)
    have hz9 := Nat.lt_of_lt_of_le hz8 hb9.size
    have PB9 := PB8.below hb9 hz8
    have p0 := PB9.c0; have p1 := PB9.c1; have p2 := PB9.c2; have p3 := PB9.c3; have p4 := PB9.c4
    go_wp2
    go_ret
    exact ⟨by first | rfl | simp, hbl9⟩
  rw [hvl] at HFV
  have HN3 : Hid (∀ W, Below w.heap.size w W → Calls Try.prog 27 #[.agg #[.int .i64 g.random, .int .i64 g.bands, .int .i64 g.tracks, .int .i64 g.sectors, .int .i64 g.overlap], .slice A l.length c, .pointer none] W fun e w' => e = .returned (.tuple #[.pointer none, .int .i64 1]) ∧ Below W.heap.size W w') := by
    unfold Hid; intro W hW; exact dnew_bad3 l A c hv hvl W ((HRD.out.below hW (Nat.le_refl _)).more hW.size) (by omega)
  have HNY : Hid (∀ W pw, Below w.heap.size w W → PowM W w.heap.size pw ⟨false, false, 0, 0⟩ → Calls Try.prog 27 #[.agg #[.int .i64 g.random, .int .i64 g.bands, .int .i64 g.tracks, .int .i64 g.sectors, .int .i64 g.overlap], .slice A l.length c, .pointer (some ⟨pw, 0, none⟩)] W (DNewPost W w.heap.size pw g l ⟨false, false, 0, 0⟩)) := by
    unfold Hid; intro W pw hW hp; exact dnew_yes l A c hv hvl ((HRD.out.below hW (Nat.le_refl _)).more hW.size) hcap hp hW.size
  have HST0 : Hid (stateN (playL g (blankL g) []) 0 = 0) := by
    unfold Hid
    show stateN (blankL g) 0 = 0
    unfold stateN
    split
    · unfold blankL; simp [List.getD, List.getElem?_replicate, blankS]; split <;> rfl
    · rfl
  generalize szN g = Z at *
  clear hv hvl
  go_enter Try.func5, Try.ntmps5
  go_wp2_with fail
  refine (awake14_any _).mono ?_
  rintro e w1 ⟨rfl, hb1⟩
  have hbl1 := hb0.trans (hb1.mono hb0.size)
  have PB1 := Cells5.below (Cells5.new w 23 (.int .i64 g.random) (.int .i64 g.bands) (.int .i64 g.tracks) (.int .i64 g.sectors) (.int .i64 g.overlap)) hb1 (by simp)
  have hz1 : w.heap.size < w1.heap.size := by have := hb1.size; simp at this; omega
  have p0 := PB1.c0; have p1 := PB1.c1; have p2 := PB1.c2; have p3 := PB1.c3; have p4 := PB1.c4
  go_wp2_with fail
  refine (HV.out _).mono ?_
  rintro e w3 ⟨rfl, hb3⟩
  clear p0 p1 p2 p3 p4
  have hbl3 := hbl1.trans (hb3.mono hbl1.size)
  have hz3 := Nat.lt_of_lt_of_le hz1 hb3.size
  have PB3 := PB1.below hb3 hz1
  have p0 := PB3.c0; have p1 := PB3.c1; have p2 := PB3.c2; have p3 := PB3.c3; have p4 := PB3.c4
  go_wp2_with fail
  refine (HS.out _).mono ?_
  rintro e w4 ⟨rfl, hb4⟩
  clear p0 p1 p2 p3 p4
  have hbl4 := hbl3.trans (hb4.mono hbl3.size)
  have hz4 := Nat.lt_of_lt_of_le hz3 hb4.size
  have PB4 := PB3.below hb4 hz3
  have p0 := PB4.c0; have p1 := PB4.c1; have p2 := PB4.c2; have p3 := PB4.c3; have p4 := PB4.c4
  clear p0 p1 p2 p3 p4
  go_wp2_with fail
  refine (newpower_any _).mono ?_
  rintro e w5 ⟨pw, rfl, hp5, hb5⟩
  have hp5' : PowM w5 w.heap.size pw ⟨false, false, 0, 0⟩ := own_mono hp5 hbl4.size
  have hbl5 := hbl4.trans (hb5.mono hbl4.size)
  have hz5 := Nat.lt_of_lt_of_le hz4 hb5.size
  have PB5 := PB4.below hb5 hz4
  have p0 := PB5.c0; have p1 := PB5.c1; have p2 := PB5.c2; have p3 := PB5.c3; have p4 := PB5.c4
  have HC := Lib.hid (HNY.out w5 pw hbl5 hp5')
  clear hp5 hp5'
  go_wp2_with fail
  refine HC.out.mono ?_
  rintro e w6 ⟨q, rfl, hd6, hb6⟩
  have HD6 := Lib.hid hd6
  clear hd6
  clear p0 p1 p2 p3 p4
  have hbl6 := hbl5.trans (hb6.mono hbl5.size)
  have hz6 := Nat.lt_of_lt_of_le hz5 hb6.size
  have PB6 := PB5.below hb6 hz5
  have p0 := PB6.c0; have p1 := PB6.c1; have p2 := PB6.c2; have p3 := PB6.c3; have p4 := PB6.c4
  go_wp2_with fail
  refine (HN3.out _ hbl6).mono ?_
  rintro e w7 ⟨rfl, hb7⟩
  clear p0 p1 p2 p3 p4
  have hbl7 := hbl6.trans (hb7.mono hbl6.size)
  have hz7 := Nat.lt_of_lt_of_le hz6 hb7.size
  have PB7 := PB6.below hb7 hz6
  have p0 := PB7.c0; have p1 := PB7.c1; have p2 := PB7.c2; have p3 := PB7.c3; have p4 := PB7.c4
  have HD7 := Lib.hid (HD6.out.below0 hb7)
  go_wp2_with fail
  refine (HV.out _).mono ?_
  rintro e w8 ⟨rfl, hb8⟩
  clear p0 p1 p2 p3 p4
  have hbl8 := hbl7.trans (hb8.mono hbl7.size)
  have hz8 := Nat.lt_of_lt_of_le hz7 hb8.size
  have PB8 := PB7.below hb8 hz7
  have p0 := PB8.c0; have p1 := PB8.c1; have p2 := PB8.c2; have p3 := PB8.c3; have p4 := PB8.c4
  have HD8 := Lib.hid (HD7.out.below0 hb8)
  go_wp2_with fail
  refine (HFV.out _ hbl8).mono ?_
  rintro e w9 ⟨rfl, hb9⟩
  clear p0 p1 p2 p3 p4
  have hbl9 := hbl8.trans (hb9.mono hbl8.size)
  have hz9 := Nat.lt_of_lt_of_le hz8 hb9.size
  have PB9 := PB8.below hb9 hz8
  have p0 := PB9.c0; have p1 := PB9.c1; have p2 := PB9.c2; have p3 := PB9.c3; have p4 := PB9.c4
  have HD9 := Lib.hid (HD8.out.below0 hb9)
  have HGE : Hid (∀ W, Below w9.heap.size w9 W → Calls Try.prog 29 #[.pointer (some ⟨q, 0, none⟩)] W fun e w' => e = .returned (.agg #[.int .i64 g.random, .int .i64 g.bands, .int .i64 g.tracks, .int .i64 g.sectors, .int .i64 g.overlap]) ∧ Below W.heap.size W w') := by
    unfold Hid; intro W hW; exact dgeo_any (HD9.out.below0 hW)
  have HDE : Hid (∀ W, Below w9.heap.size w9 W → Calls Try.prog 30 #[.pointer (some ⟨q, 0, none⟩)] W fun e w' => e = .returned (.bool false) ∧ Below W.heap.size W w') := by
    unfold Hid; intro W hW; refine (ddead_any (HD9.out.below0 hW)).mono ?_; rintro e w' ⟨rfl, rfl⟩; exact ⟨rfl, Below.refl _ _⟩
  have HOP : Hid (∀ W, Below w9.heap.size w9 W → Calls Try.prog 31 #[.pointer (some ⟨q, 0, none⟩)] W fun e w' => e = .returned (.int .i64 0) ∧ Below W.heap.size W w') := by
    unfold Hid; intro W hW; refine (dops_any (HD9.out.below0 hW)).mono ?_; rintro e w' ⟨rfl, rfl⟩; exact ⟨rfl, Below.refl _ _⟩
  have HPE : Hid (∀ W, Below w9.heap.size w9 W → Calls Try.prog 32 #[.pointer (some ⟨q, 0, none⟩)] W fun e w' => e = .returned (.int .i64 0) ∧ Below W.heap.size W w') := by
    unfold Hid; intro W hW; refine (dpending_any (HD9.out.below0 hW)).mono ?_; rintro e w' ⟨rfl, rfl⟩; exact ⟨rfl, Below.refl _ _⟩
  have HSE : Hid (∀ W, Below w9.heap.size w9 W → Calls Try.prog 33 #[.pointer (some ⟨q, 0, none⟩), .int .i64 0] W fun e w' => e = .returned (.int .i64 0) ∧ Below W.heap.size W w') := by
    unfold Hid; intro W hW; refine (dst_any 0 (HD9.out.below0 hW)).mono ?_; rintro e w' ⟨rfl, rfl⟩; exact ⟨by rw [HST0.out], Below.refl _ _⟩
  have HTE : Hid (∀ W, Below w9.heap.size w9 W → Calls Try.prog 34 #[.pointer (some ⟨q, 0, none⟩)] W fun e w' => e = .returned (.agg #[.int .i64 0, .int .i64 0, .int .i64 0, .int .i64 0]) ∧ Below W.heap.size W w') := by
    unfold Hid; intro W hW; exact dstats_any (HD9.out.below0 hW)
  have t0 := Held.cell p0 hz9; have t1 := Held.cell p1 hz9; have t2 := Held.cell p2 hz9; have t3 := Held.cell p3 hz9; have t4 := Held.cell p4 hz9
  clear HD6 HD7 HD8 HC HD9 p0 p1 p2 p3 p4
  go_wp2
  have hne : Nonempty (Held (Below w9.heap.size w9)) := ⟨⟨_, (Held.drew_below (Nat.le_refl _))⟩⟩
  refine wp_region_heldq (S := (Below w9.heap.size w9)) (by kernel_rfl) (by kernel_rfl) (Held.drew_below (Nat.le_refl _)) ?_
  repeat (go_big_quiet_step ((first
    | (go_at_call 29; exact Calls.held_below (Nat.le_refl _) (HGE.out _ (Held.h _)))
    | (go_at_call 30; exact Calls.held_below (Nat.le_refl _) (HDE.out _ (Held.h _)))
    | (go_at_call 31; exact Calls.held_below (Nat.le_refl _) (HOP.out _ (Held.h _)))
    | (go_at_call 32; exact Calls.held_below (Nat.le_refl _) (HPE.out _ (Held.h _)))
    | (go_at_call 33; exact Calls.held_below (Nat.le_refl _) (HSE.out _ (Held.h _)))
    | (go_at_call 34; exact Calls.held_below (Nat.le_refl _) (HTE.out _ (Held.h _))))))
  refine wpQuiet_nil ?_
  intro _ hw'
  obtain ⟨sq, hw''⟩ := hw'
  subst hw''
  clear hne
  obtain ⟨W0, hW0⟩ := sq
  simp only
  go_wp2
  go_ret
  exact ⟨by first | rfl | simp, hbl9.trans (hW0.mono hbl9.size)⟩
theorem cellsFlt : Try.prog.cellsOf 122 = 3 := by kernel_rfl
theorem bytesFlt : Try.prog.bytesOf 122 = 24 := by kernel_rfl
section
variable {H : Type} {enc : TypeId × Value → H} {w : World} {base : Nat} {spare : Nat → Bool} {held : Bool}
set_option maxRecDepth 100000 in
theorem open_flt {fuel : Nat} {cs : List Value} {y : DataW H × List MemPlace} (hcs : cs.length = 3) (h : DataW.trod enc Try.prog w base spare held fuel 122 cs = some y) : ∃ f : Flt, cs = f.cells := by
  match cs, hcs with
  | [c0, c1, c2], _ =>
    obtain ⟨xs, k, _, _, _, hxl, hf⟩ := DataW.trod_struct Try.underlying122 h
    match xs, hxl with
    | [x0, x1, x2], _ =>
      have f0 : DataW.trod enc Try.prog w base spare held k 3 (([c0, c1, c2].drop 0).take (Try.prog.cellsOf 3)) = some x0 := hf 0 _ rfl
      have f1 : DataW.trod enc Try.prog w base spare held k 3 (([c0, c1, c2].drop 1).take (Try.prog.cellsOf 3)) = some x1 := hf 1 _ rfl
      have f2 : DataW.trod enc Try.prog w base spare held k 3 (([c0, c1, c2].drop 2).take (Try.prog.cellsOf 3)) = some x2 := hf 2 _ rfl
      rw [cellsInt] at f0 f1 f2
      obtain ⟨n0, e0, _, _⟩ := DataW.trod_int Try.underlying3 f0
      obtain ⟨n1, e1, _, _⟩ := DataW.trod_int Try.underlying3 f1
      obtain ⟨n2, e2, _, _⟩ := DataW.trod_int Try.underlying3 f2
      simp at e0 e1 e2
      subst e0; subst e1; subst e2
      exact ⟨⟨n0, n1, n2⟩, rfl⟩
set_option maxRecDepth 100000 in
theorem open_flts {fuel : Nat} {v : Value} {d : DataW H} {pl : List MemPlace} (h : DataW.trod enc Try.prog w base spare held fuel 46 [v] = some (d, pl)) : ∃ A l c, v = .slice A l.length c ∧ Rd w w.heap.size A (flatF l) ∧ (l = [] ∨ ∃ elems rest, d = .slice elems rest ∧ elems.length = l.length) := by
  rcases open_slice Try.underlying46 h with ⟨hcs, _⟩ | ⟨a, len, cap, m, n, D, Pl, hcs, _, hl, hm, hmm, hx, hel⟩
  · simp at hcs
    subst hcs
    exact ⟨none, [], 0, rfl, Rd.nil_ _ _ _, .inl rfl⟩
  · simp at hcs
    subst hcs
    have hlm : len ≤ m := by rw [hmm]; split <;> omega
    obtain ⟨l, hll, hq⟩ := list_of (Q := fun i (o : Flt) => ∀ t u, o.cells[t]? = some u → w.cell? (a.add (i * 3 + t)) = some u) len (fun i hi => by
      obtain ⟨cs', hc, ht⟩ := hel i (by omega)
      rw [cellsFlt] at hc
      obtain ⟨_, hcl, hat⟩ := World.cells?_some hc
      obtain ⟨o, rfl⟩ := open_flt hcl ht
      refine ⟨o, fun t u hu => ?_⟩
      have ht3 : t < 3 := (List.getElem?_eq_some_iff.1 hu).1
      rw [← Go.Deep.add_add, hat t ht3]
      exact hu)
    injection hx with hx1 hx2
    refine ⟨some a, l, cap, by rw [hll], rd_of_add fun j u hu => ?_, .inr ⟨_, _, hx1, by simp [hll]⟩⟩
    have hj : j < l.length * 3 := by rw [← flatF_len]; exact (List.getElem?_eq_some_iff.1 hu).1
    have hj4 : j = j / 3 * 3 + j % 3 := by omega
    rw [hj4] at hu
    unfold flatF at hu
    rw [flat_get _ 3 fltcells_len l _ _ (by omega), List.getElem?_eq_getElem (show j / 3 < l.length by omega)] at hu
    have := (hq (j / 3) _ (List.getElem?_eq_getElem (by omega))) (j % 3) u hu
    rw [hj4]; exact this
end
set_option maxRecDepth 100000 in
theorem diskNew_lifted (os : Os) (started : os.Started) (H : Type) (enc : TypeId × Value → H) :
    ReturnsInHanded {} Try.checked os 5 .any (Rows.diskNewSpec.pre6 enc Try.prog Try.f5 Rows.diskNewRow.domain false) (Rows.diskNewSpec.post enc Try.prog Try.f5 false true false false) := by
  refine returnsInHanded_of_change_sized (C := Try.checked) own started (by kernel_rfl) Try.func5
    (ChangeSpec.witness6 (enc := enc) (C := Try.checked) false ⟨#[], #[.agg #[.int .i64 0, .int .i64 0, .int .i64 0, .int .i64 0, .int .i64 0], .slice none 0 0], []⟩ 8 (by kernel_rfl) (by kernel_rfl) (by kernel_rfl) (by kernel_rfl)) ?_
  intro W base args ds gs before hval0 hW hcnd hsz0 _
  have hval : ∀ (j : Nat) t v, Try.f5.params[j]? = some t → args[j]? = some v → Value.okWide Try.prog W .any base t v := hval0
  have hsz : (DataW.weightsEach Try.prog (Try.f5.params.toList ++ Rows.diskNewSpec.plain.varTypes Try.prog) (ds ++ gs)).all (· ≤ reachBytes) = true := hsz0
  have hW' := hW
  obtain ⟨p, q, hA0, hV, rfl, hfz, hnd⟩ := hW
  have hA : DataW.TrodAll enc Try.prog W 0 (fun _ => true) true Try.f5.params.toList args.toList ds p := hA0
  clear hsz0
  rw [Try.params5] at hA hval hsz
  obtain ⟨v0, vs0, d0, ds0, p0, q0, hargs, rfl, rfl, h0, r0⟩ := trodAll_cons hA
  obtain ⟨v1, vs1, d1, ds1, p1, q1, rfl, rfl, rfl, h1, r1⟩ := trodAll_cons r0
  obtain ⟨rfl, rfl, rfl⟩ := trodAll_nil r1
  obtain rfl : args = #[v0, v1] := by cases args; simp_all
  obtain ⟨rfl, rfl⟩ := trodVars_none hV
  have k0 := h0
  have lt0 : ∀ x ∈ p0, x.block < W.heap.size := by obtain ⟨m, hm⟩ := k0; exact DataW.trod_lt m _ _ _ hm
  have k1 := h1
  have lt1 : ∀ x ∈ p1, x.block < W.heap.size := by obtain ⟨m, hm⟩ := k1; exact DataW.trod_lt m _ _ _ hm
  obtain ⟨g, rfl, hg⟩ := open_geo (hval 0 _ _ rfl rfl) h0
  obtain ⟨a0, n0, c0, rfl⟩ := Go.WideShapes.okWide_slice Try.underlying46 (hval 1 _ _ rfl rfl)
  have hopen : ∃ A l c, (Value.slice a0 n0 c0) = .slice A l.length c ∧ Rd W W.heap.size A (flatF l) ∧ (l = [] ∨ ∃ elems rest, d1 = .slice elems rest ∧ elems.length = l.length) := by
    obtain ⟨fuel, hf⟩ := h1
    exact open_flts hf
  obtain ⟨A, l, c, hval1, hr, hd⟩ := hopen
  have hcap : l.length * 24 ≤ 140737488355328 := by
    rcases hd with rfl | ⟨elems, rest, rfl, hel⟩
    · simp
    · have := sized_slice hsz (j := 1) (t := 46) (e := 122) (elems := elems) (spare := rest) rfl rfl Try.underlying46
      rw [bytesFlt] at this
      have hrb : reachBytes = 140737488351232 := rfl
      rw [hrb] at this
      omega
  injection hval1 with e1 e2 e3
  subst e1
  subst e2
  subst e3
  clear hA0 hval0 hsz
  refine (diskNew_walk g _ l _ W hr hcap).mono fun e W' ⟨he, bel⟩ => ?_
  subst he
  exact ⟨_, rfl, _, _, _, [], _, [], hW', trodAll_mk1 (shut_bool Try.underlying4 _), (trodAll_cons_mk (Below.trod laidOut (by kernel_rfl) (of_decide_eq_true (by kernel_rfl)) k0 bel lt0) (trodAll_cons_mk (Below.trod laidOut (by kernel_rfl) (of_decide_eq_true (by kernel_rfl)) k1 bel lt1) trodAll_mk0)), rfl, bel.frame _, fun h => by cases h⟩

/-- The statement. -/
theorem diskNew_holds : Rows.DiskNewSaid :=
  OpenClaim.holds_of_wide 5 Try.f5 rfl rfl rfl rfl rfl rfl rfl ⟨rfl, rfl, rfl, rfl, rfl⟩ rfl rfl rfl rfl rfl (by kernel_rfl) Try.func5 (by kernel_rfl)
    (of_decide_eq_true (by kernel_rfl)) (by unfold Func.isWrapper; first | (rw [if_pos (by decide +kernel)]; kernel_rfl) | (rw [if_neg (by decide +kernel)]; exact ⟨rfl, rfl⟩))
    (fun os started H enc _ => diskNew_lifted os started H enc)
#print axioms diskNew_holds
end Go.Proofs.Ytckdhhadlemakaa
