/-
  WHAT IS SHOWN: what Sector of tegularef27 returns. Conditions: the chunk can be read.
-/
import Derived.Test.YtndifkjenjfjpaaRec18
namespace Go.Proofs.Ytndifkjenjfjpaa
set_option linter.unusedVariables false
open Go.RowKit

def hdS (gen seq part parts : Nat) : List Int := [82] ++ uintB gen ++ uintB seq ++ uintB part ++ uintB parts
/-- A sector. -/
def secB (gen seq part parts : Nat) (ch : List Int) : List Int := sealB (hdS gen seq part parts ++ uintB ch.length ++ ch)
theorem hdS_len (gen seq part parts : Nat) : (hdS gen seq part parts).length ≤ 41 := by
  unfold hdS
  have := uintB_len gen; have := uintB_len seq; have := uintB_len part; have := uintB_len parts
  simp; omega
theorem wrapN {n : Nat} (h : n < 9223372036854775808) : IntKind.u64.wrap (n : Int) = (n : Int) := by rw [IntKind.wrap_u64]; omega
set_option maxRecDepth 100000 in
set_option maxHeartbeats 2000000 in
theorem sector_any (gen seq part parts : Nat) (hg : gen < 2 ^ 64) (hs : seq < 2 ^ 64) (hp : part < 1000000) (hq : parts < 1000000) (ch : List Int) (A : Option Addr) (c : Nat) (w : World) (h : Rd w w.heap.size A (ch.map (Value.int .u8))) (hl : ch.length ≤ 700000) :
    Calls Try.prog 30 #[.agg #[.int .u64 gen, .int .u64 seq, .int .i64 part, .int .i64 parts], .slice A ch.length c] w (NewO w (secB gen seq part parts ch)) := by
  have HB : Hid (∀ W, Below (w.heap.size + 1) (w.alloc (.cells #[.int .u64 gen, .int .u64 seq, .int .i64 part, .int .i64 parts] 39)) W → Below w.heap.size w W) := fun W hW => ((Below.refl w.heap.size w).alloc (Nat.le_refl _) _).trans (hW.mono (by omega))
  have PB := Cells4.new w 39 (.int .u64 gen) (.int .u64 seq) (.int .i64 part) (.int .i64 parts)
  have HH := Lib.hid h
  obtain ⟨W0, hW0⟩ : ∃ W0, (w.alloc (.cells #[.int .u64 gen, .int .u64 seq, .int .i64 part, .int .i64 parts] 39)) = W0 := ⟨_, rfl⟩
  have hzW0 : w.heap.size < W0.heap.size := by rw [← hW0]; simp
  rw [hW0] at HB PB
  have HW0 := Lib.hid hW0
  have hE : [82] ++ uintB gen ++ uintB seq ++ uintB part ++ uintB parts = hdS gen seq part parts := rfl
  have hl5 := hdS_len gen seq part parts
  have hC1 := rappuint_any gen hg [82] (some ⟨W0.heap.size, 0, none⟩) 1 (W0.alloc (.cells #[.int .u8 82] 5)).drew (rd_drew (rd_new' [.int .u8 82] 5 rfl)) (by simp)
  have hC2 := fun (A2 : Option Addr) (c2 : Nat) (W : World) (hR : Rd W W.heap.size A2 (([82] ++ uintB gen).map (Value.int .u8))) => rappuint_any seq hs ([82] ++ uintB gen) A2 c2 W hR (by have := uintB_len gen; simp; omega)
  have hC3 := fun (A2 : Option Addr) (c2 : Nat) (W : World) (hR : Rd W W.heap.size A2 (([82] ++ uintB gen ++ uintB seq).map (Value.int .u8))) => rappuint_any part (by omega) ([82] ++ uintB gen ++ uintB seq) A2 c2 W hR (by have := uintB_len gen; have := uintB_len seq; simp; omega)
  have hC4 := fun (A2 : Option Addr) (c2 : Nat) (W : World) (hR : Rd W W.heap.size A2 (([82] ++ uintB gen ++ uintB seq ++ uintB part).map (Value.int .u8))) => rappuint_any parts (by omega) ([82] ++ uintB gen ++ uintB seq ++ uintB part) A2 c2 W hR (by have := uintB_len gen; have := uintB_len seq; have := uintB_len part; simp; omega)
  rw [← wrapN (n := part) (by omega)] at hC3
  rw [← wrapN (n := parts) (by omega)] at hC4
  rw [hE] at hC4
  have hS : secB gen seq part parts ch = sealB (hdS gen seq part parts ++ uintB ch.length ++ ch) := rfl
  have hls : (hdS gen seq part parts ++ uintB ch.length ++ ch).length ≤ 700100 := by have := uintB_len ch.length; simp only [List.length_append]; omega
  generalize secB gen seq part parts ch = zz at *
  generalize hdS gen seq part parts = g4 at *
  generalize [82] ++ uintB gen = g1 at *
  generalize g1 ++ uintB seq = g2 at *
  generalize g2 ++ uintB part = g3 at *
  have hn1 : ([82] : List Int).length = 1 := rfl
  rw [hn1] at hC1
  have HC1 := Lib.hid hC1
  have HC2 := Lib.hid hC2
  have HC3 := Lib.hid hC3
  have HC4 := Lib.hid hC4
  have HS := Lib.hid hS
  have z0 := PB.c0
  have z1 := PB.c1
  have z2 := PB.c2
  have z3 := PB.c3
  clear PB hW0 hE hC1 hC2 hC3 hC4 hS hn1 h
  go_enter Try.func30, Try.ntmps30
  go_wp2_with fail
  rw [HW0.out]
  clear HW0
  go_region_held3 (fun W => W.cell? ⟨w.heap.size, 0, none⟩ = some (.int .u64 gen) ∧ W.cell? ⟨w.heap.size, 1, none⟩ = some (.int .u64 seq) ∧ W.cell? ⟨w.heap.size, 2, none⟩ = some (.int .i64 part) ∧ W.cell? ⟨w.heap.size, 3, none⟩ = some (.int .i64 parts))
    (first | (refine ⟨?_, ?_, ?_, ?_⟩ <;> assumption) | (simp (maxDischargeDepth := 20) [World.cell?_alloc_some, *]; done))
    ((first
      | (go_at_call 72
         (with_reducible refine HC1.out.mono ?_)
         clear HC1
         rintro e w1 ⟨Aw1, cw1, rfl, how1, hbw1⟩
         have HRw1 := Lib.hid (Rd.of_own how1)
         have HWw1 : Hid (Below W0.heap.size W0 w1) := (((Below.refl W0.heap.size W0).alloc (Nat.le_refl _) _).drew).trans (hbw1.mono (by simp))
         have y0 := (HWw1.out.cell (p := ⟨w.heap.size, 0, none⟩) hzW0).trans z0
         have y1 := (HWw1.out.cell (p := ⟨w.heap.size, 1, none⟩) hzW0).trans z1
         have y2 := (HWw1.out.cell (p := ⟨w.heap.size, 2, none⟩) hzW0).trans z2
         have y3 := (HWw1.out.cell (p := ⟨w.heap.size, 3, none⟩) hzW0).trans z3
         have hzw1 : w.heap.size < w1.heap.size := Nat.lt_of_lt_of_le hzW0 HWw1.out.size
         clear how1 hbw1)
      | (go_at_call 72
         (with_reducible refine (HC2.out Aw1 cw1 _ HRw1.out).mono ?_)
         rintro e w2 ⟨Aw2, cw2, rfl, how2, hbw2⟩
         have HRw2 := Lib.hid (Rd.of_own how2)
         have HWw2 : Hid (Below W0.heap.size W0 w2) := HWw1.out.trans (hbw2.mono HWw1.out.size)
         have t0 := (hbw2.cell (p := ⟨w.heap.size, 0, none⟩) hzw1).trans y0
         have t1 := (hbw2.cell (p := ⟨w.heap.size, 1, none⟩) hzw1).trans y1
         have t2 := (hbw2.cell (p := ⟨w.heap.size, 2, none⟩) hzw1).trans y2
         have t3 := (hbw2.cell (p := ⟨w.heap.size, 3, none⟩) hzw1).trans y3
         have hzw2 : w.heap.size < w2.heap.size := Nat.lt_of_lt_of_le hzW0 HWw2.out.size
         clear how2 hbw2)))
  clear HWw1 z0 z1 z2 z3 y0 y1 y2 y3
  have HC3' := Lib.hid (HC3.out Aw2 cw2 _ (rd_drew HRw2.out))
  clear HC3
  go_wp2_with fail
  go_region_held3 (fun W => W.cell? ⟨w.heap.size, 0, none⟩ = some (.int .u64 gen) ∧ W.cell? ⟨w.heap.size, 1, none⟩ = some (.int .u64 seq) ∧ W.cell? ⟨w.heap.size, 2, none⟩ = some (.int .i64 part) ∧ W.cell? ⟨w.heap.size, 3, none⟩ = some (.int .i64 parts))
    (first | (refine ⟨?_, ?_, ?_, ?_⟩ <;> assumption) | (simp (maxDischargeDepth := 20) [World.cell?_alloc_some, *]; done))
    ((first
      | (go_at_call 72
         (with_reducible refine HC3'.out.mono ?_)
         clear HC3'
         rintro e w3 ⟨Aw3, cw3, rfl, how3, hbw3⟩
         have HRw3 := Lib.hid (Rd.of_own how3)
         have HWw3 : Hid (Below w2.heap.size w2 w3) := ((Below.refl _ _).drew).trans hbw3
         have y0 := (HWw3.out.cell (p := ⟨w.heap.size, 0, none⟩) hzw2).trans t0
         have y1 := (HWw3.out.cell (p := ⟨w.heap.size, 1, none⟩) hzw2).trans t1
         have y2 := (HWw3.out.cell (p := ⟨w.heap.size, 2, none⟩) hzw2).trans t2
         have y3 := (HWw3.out.cell (p := ⟨w.heap.size, 3, none⟩) hzw2).trans t3
         have hzw3 : w.heap.size < w3.heap.size := Nat.lt_of_lt_of_le hzw2 HWw3.out.size
         clear how3 hbw3)
      | (go_at_call 72
         (with_reducible refine (HC4.out Aw3 cw3 _ HRw3.out).mono ?_)
         rintro e w4 ⟨Aw4, cw4, rfl, how4, hbw4⟩
         have HRw4 := Lib.hid (Rd.of_own how4)
         have HWw4 : Hid (Below w2.heap.size w2 w4) := HWw3.out.trans (hbw4.mono HWw3.out.size)
         have z0 := (hbw4.cell (p := ⟨w.heap.size, 0, none⟩) hzw3).trans y0
         have z1 := (hbw4.cell (p := ⟨w.heap.size, 1, none⟩) hzw3).trans y1
         have z2 := (hbw4.cell (p := ⟨w.heap.size, 2, none⟩) hzw3).trans y2
         have z3 := (hbw4.cell (p := ⟨w.heap.size, 3, none⟩) hzw3).trans y3
         have hzw4 : w.heap.size < w4.heap.size := Nat.lt_of_lt_of_le hzw2 HWw4.out.size
         clear how4 hbw4)))
  clear HWw3 t0 t1 t2 t3 y0 y1 y2 y3
  have HBW : Hid (∀ W, Below w4.heap.size w4 W → Below w.heap.size w W) := fun W hW => HB.out W ((HWw2.out.trans ((HWw4.out.trans (hW.mono HWw4.out.size)).mono HWw2.out.size)).mono hzW0)
  have HC5 := Lib.hid (rappbytes_any g4 ch Aw4 A cw4 c w4 HRw4.out (by omega) ((HH.out.below (HBW.out _ (Below.refl _ _)) (Nat.le_refl _)).more (HBW.out _ (Below.refl _ _)).size) (by omega))
  clear z0 z1 z2 z3
  generalize g4 ++ uintB ch.length ++ ch = ys at *
  go_wp2_with fail
  refine HC5.out.mono ?_
  rintro e w5 ⟨A5, c5, rfl, ho5, hb5⟩
  have HC6 := Lib.hid (rsealed_any ys A5 c5 w5 (Rd.of_own ho5) (by omega))
  have HB5 := Lib.hid (HBW.out _ hb5)
  rw [← HS.out] at HC6
  clear ho5 hb5
  go_wp2_with fail
  refine HC6.out.mono ?_
  rintro e w6 ⟨A6, c6, rfl, ho6, hb6⟩
  go_wp2
  go_ret
  exact ⟨A6, c6, rfl, own_mono ho6 HB5.out.size, HB5.out.trans (hb6.mono HB5.out.size)⟩
end Go.Proofs.Ytndifkjenjfjpaa
