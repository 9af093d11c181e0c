/-
  WHAT IS SHOWN: tegulalaw11.MediaSequential returns true for any geometry, operations and band, and changes nothing. No condition.
-/
import Derived.Test.YtmjkpnplfeafeaaMediaOps
import Derived.Test.YtmjkpnplfeafeaaMedLaws
namespace Go.Proofs.Ytmjkpnplfeafeaa
set_option linter.unusedVariables false
open Go.ChangeShapes Go.WideShapes Go.ChangeAt Go.RowKit

set_option maxRecDepth 100000 in
set_option maxHeartbeats 2000000 in
theorem mediaSequential_walk (g : Geo) (A : Option Addr) (l : List OpV) (c : Nat) (band : Int) (w : World) (hl : OpsIn w (.slice A l.length c) A l c) :
    Calls Try.prog 4 #[.agg #[.int .i64 g.random, .int .i64 g.bands, .int .i64 g.tracks, .int .i64 g.sectors, .int .i64 g.overlap], .slice A l.length c, .int .i64 band] w fun e w' => e = .returned (.bool true) ∧ Below w.heap.size w w' := by
  have hb0 : Below w.heap.size w (w.alloc (.cells #[.int .i64 g.random, .int .i64 g.bands, .int .i64 g.tracks, .int .i64 g.sectors, .int .i64 g.overlap] 23)) := (Below.refl _ _).alloc (Nat.le_refl _) _
  have HRD := Lib.hid hl.rd
  have HOK := Lib.hid hl.ok
  have hbig := hl.big
  have HSH : Hid (∀ W, Below w.heap.size w W → Calls Try.prog 21 #[.slice A l.length c] W fun e w' => e = .returned (.bool (shortOps l)) ∧ W = w') := by
    unfold Hid; intro W hW; exact short_any l A c W ((HRD.out.below hW (Nat.le_refl _)).more hW.size) hbig (fun o ho => (HOK.out o ho).n)
  have HFR := Lib.hid (fun W => fair_any g W)
  clear hl
  cases hs : shortOps l
  · rw [hs] at HSH
    clear hs
    go_enter Try.func4, Try.ntmps4
    go_wp2_with fail
    refine (awake11_any _).mono ?_
    rintro e w1 ⟨rfl, hb1⟩
    have hbl1 := hb0.trans (hb1.mono hb0.size)
    have PB1 := Cells5.below (Cells5.new w 23 _ _ _ _ _) hb1 (by simp)
    have hz1 : w.heap.size < w1.heap.size := by have := hb1.size; simp at this; omega
    have p0 := PB1.c0; have p1 := PB1.c1; have p2 := PB1.c2; have p3 := PB1.c3; have p4 := PB1.c4
    go_wp2_with fail
    refine (HSH.out _ hbl1).mono ?_
    rintro e w2 ⟨rfl, rfl⟩
    go_wp2_with fail
    refine (awake11_any _).mono ?_
    rintro e w3 ⟨rfl, hb3⟩
    clear p0 p1 p2 p3 p4
    have hbl3 := hbl1.trans (hb3.mono hbl1.size)
    have hz3 := Nat.lt_of_lt_of_le hz1 hb3.size
    have PB3 := PB1.below hb3 hz1
    have p0 := PB3.c0; have p1 := PB3.c1; have p2 := PB3.c2; have p3 := PB3.c3; have p4 := PB3.c4
    go_wp2
    go_ret
    exact ⟨rfl, hbl3⟩
  · rw [hs] at HSH
    cases hfr : fairB g
    · rw [hfr] at HFR
      clear hs hfr
      go_enter Try.func4, Try.ntmps4
      go_wp2_with fail
      refine (awake11_any _).mono ?_
      rintro e w1 ⟨rfl, hb1⟩
      have hbl1 := hb0.trans (hb1.mono hb0.size)
      have PB1 := Cells5.below (Cells5.new w 23 _ _ _ _ _) hb1 (by simp)
      have hz1 : w.heap.size < w1.heap.size := by have := hb1.size; simp at this; omega
      have p0 := PB1.c0; have p1 := PB1.c1; have p2 := PB1.c2; have p3 := PB1.c3; have p4 := PB1.c4
      go_wp2_with fail
      refine (HSH.out _ hbl1).mono ?_
      rintro e w2 ⟨rfl, rfl⟩
      go_wp2_with fail
      refine (HFR.out _).mono ?_
      rintro e w3 ⟨rfl, hb3⟩
      clear p0 p1 p2 p3 p4
      have hbl3 := hbl1.trans (hb3.mono hbl1.size)
      have hz3 := Nat.lt_of_lt_of_le hz1 hb3.size
      have PB3 := PB1.below hb3 hz1
      have p0 := PB3.c0; have p1 := PB3.c1; have p2 := PB3.c2; have p3 := PB3.c3; have p4 := PB3.c4
      go_wp2_with fail
      refine (awake11_any _).mono ?_
      rintro e w4 ⟨rfl, hb4⟩
      clear p0 p1 p2 p3 p4
      have hbl4 := hbl3.trans (hb4.mono hbl3.size)
      have hz4 := Nat.lt_of_lt_of_le hz3 hb4.size
      have PB4 := PB3.below hb4 hz3
      have p0 := PB4.c0; have p1 := PB4.c1; have p2 := PB4.c2; have p3 := PB4.c3; have p4 := PB4.c4
      go_wp2
      go_ret
      exact ⟨rfl, hbl4⟩
    · rw [hfr] at HFR
      have hv := fair_valid hfr
      have hg := (validG_iff g).1 hv
      by_cases g1 : band < 0
      · clear hs hfr hv hg
        go_enter Try.func4, Try.ntmps4
        go_wp2_with fail
        refine (awake11_any _).mono ?_
        rintro e w1 ⟨rfl, hb1⟩
        have hbl1 := hb0.trans (hb1.mono hb0.size)
        have PB1 := Cells5.below (Cells5.new w 23 _ _ _ _ _) hb1 (by simp)
        have hz1 : w.heap.size < w1.heap.size := by have := hb1.size; simp at this; omega
        have p0 := PB1.c0; have p1 := PB1.c1; have p2 := PB1.c2; have p3 := PB1.c3; have p4 := PB1.c4
        go_wp2_with fail
        refine (HSH.out _ hbl1).mono ?_
        rintro e w2 ⟨rfl, rfl⟩
        go_wp2_with fail
        refine (HFR.out _).mono ?_
        rintro e w3 ⟨rfl, hb3⟩
        clear p0 p1 p2 p3 p4
        have hbl3 := hbl1.trans (hb3.mono hbl1.size)
        have hz3 := Nat.lt_of_lt_of_le hz1 hb3.size
        have PB3 := PB1.below hb3 hz1
        have p0 := PB3.c0; have p1 := PB3.c1; have p2 := PB3.c2; have p3 := PB3.c3; have p4 := PB3.c4
        go_wp2_with fail
        refine (awake11_any _).mono ?_
        rintro e w4 ⟨rfl, hb4⟩
        clear p0 p1 p2 p3 p4
        have hbl4 := hbl3.trans (hb4.mono hbl3.size)
        have hz4 := Nat.lt_of_lt_of_le hz3 hb4.size
        have PB4 := PB3.below hb4 hz3
        have p0 := PB4.c0; have p1 := PB4.c1; have p2 := PB4.c2; have p3 := PB4.c3; have p4 := PB4.c4
        go_wp2
        go_ret
        exact ⟨rfl, hbl4⟩
      · by_cases g2 : g.bands ≤ band
        · clear hs hfr hv hg
          go_enter Try.func4, Try.ntmps4
          go_wp2_with fail
          refine (awake11_any _).mono ?_
          rintro e w1 ⟨rfl, hb1⟩
          have hbl1 := hb0.trans (hb1.mono hb0.size)
          have PB1 := Cells5.below (Cells5.new w 23 _ _ _ _ _) hb1 (by simp)
          have hz1 : w.heap.size < w1.heap.size := by have := hb1.size; simp at this; omega
          have p0 := PB1.c0; have p1 := PB1.c1; have p2 := PB1.c2; have p3 := PB1.c3; have p4 := PB1.c4
          go_wp2_with fail
          refine (HSH.out _ hbl1).mono ?_
          rintro e w2 ⟨rfl, rfl⟩
          go_wp2_with fail
          refine (HFR.out _).mono ?_
          rintro e w3 ⟨rfl, hb3⟩
          clear p0 p1 p2 p3 p4
          have hbl3 := hbl1.trans (hb3.mono hbl1.size)
          have hz3 := Nat.lt_of_lt_of_le hz1 hb3.size
          have PB3 := PB1.below hb3 hz1
          have p0 := PB3.c0; have p1 := PB3.c1; have p2 := PB3.c2; have p3 := PB3.c3; have p4 := PB3.c4
          go_wp2_with fail
          refine (awake11_any _).mono ?_
          rintro e w4 ⟨rfl, hb4⟩
          clear p0 p1 p2 p3 p4
          have hbl4 := hbl3.trans (hb4.mono hbl3.size)
          have hz4 := Nat.lt_of_lt_of_le hz3 hb4.size
          have PB4 := PB3.below hb4 hz3
          have p0 := PB4.c0; have p1 := PB4.c1; have p2 := PB4.c2; have p3 := PB4.c3; have p4 := PB4.c4
          go_wp2
          go_ret
          exact ⟨rfl, hbl4⟩
        · have HN := Lib.hid (fun W => new_yes g hv W)
          have HF := Lib.hid (blank_fit hg)
          have HS := Lib.hid hs
          have hin : inR band 0 (g.bands - 1) = true := (inR_iff _ _ _).2 ⟨by omega, by omega⟩
          have hz := hg.bz
          have hmn := Int.mul_nonneg (show 0 ≤ band by omega) (show 0 ≤ g.tracks * g.sectors by omega)
          have hR0 := hg.r0; have hR1 := hg.r1
          obtain ⟨r0, r1⟩ := erase_range HF.out hin
          have hle0 := HF.out.le
          have HZ : Hid (∀ W, Calls Try.prog 24 #[.agg #[.int .i64 g.random, .int .i64 g.bands, .int .i64 g.tracks, .int .i64 g.sectors, .int .i64 g.overlap]] W fun e w' => e = .returned (.int .i64 (g.tracks * g.sectors)) ∧ Below W.heap.size W w') := by
            unfold Hid; intro W; have := rbz_any g W; rw [bzN_valid hg] at this; exact this
          have HEL : Hid (∀ L : List Sec, eraseL g L band = eraseTo L (g.random + band * (g.tracks * g.sectors)).toNat (g.tracks * g.sectors).toNat) := by
            unfold Hid; intro L; unfold eraseL; rw [hin]; rfl
          generalize g.tracks * g.sectors = Z at *
          obtain ⟨z, rfl⟩ := Int.eq_ofNat_of_zero_le (show 0 ≤ Z by omega)
          generalize hM : band * (z : Int) = M at *
          have hM1 : M ≤ 81920 := by omega
          obtain ⟨f, hfe⟩ := Int.eq_ofNat_of_zero_le r0
          rw [hfe] at HEL
          have hfz : f + z ≤ (blankL g).length := by omega
          have hw1' : wrap64 (band * (z : Int)) = M := by rw [hM]; exact w64_id (by omega) (by omega)
          have hw2' : wrap64 (g.random + M) = (f : Int) := by rw [hfe]; exact w64_id (by omega) (by omega)
          clear hs hfr hv hg hin r0 r1 hmn hM hfe
          have hn1 : l.length ≤ 100000 := by have := ((shortOps_iff l).1 HS.out).1; omega
          have d1 : decide (band < 0) = false := decide_eq_false g1
          have d2 : decide (g.bands ≤ band) = false := decide_eq_false g2
          clear g1 g2
          go_enter Try.func4, Try.ntmps4
          go_wp2_with fail
          refine (awake11_any _).mono ?_
          rintro e w1 ⟨rfl, hb1⟩
          have hbl1 := hb0.trans (hb1.mono hb0.size)
          have PB1 := Cells5.below (Cells5.new w 23 _ _ _ _ _) hb1 (by simp)
          have hz1 : w.heap.size < w1.heap.size := by have := hb1.size; simp at this; omega
          have p0 := PB1.c0; have p1 := PB1.c1; have p2 := PB1.c2; have p3 := PB1.c3; have p4 := PB1.c4
          go_wp2_with fail
          refine (HSH.out _ hbl1).mono ?_
          rintro e w2 ⟨rfl, rfl⟩
          go_wp2_with fail
          refine (HFR.out _).mono ?_
          rintro e w4 ⟨rfl, hb4⟩
          clear p0 p1 p2 p3 p4
          have hbl4 := hbl1.trans (hb4.mono hbl1.size)
          have hz4 := Nat.lt_of_lt_of_le hz1 hb4.size
          have PB4 := PB1.below hb4 hz1
          have p0 := PB4.c0; have p1 := PB4.c1; have p2 := PB4.c2; have p3 := PB4.c3; have p4 := PB4.c4
          go_wp2_with fail
          refine (HN.out _).mono ?_
          rintro e w5 ⟨m, bs, rfl, hm5, hmb, hbb, hb5⟩
          have HM5 := Lib.hid hm5
          clear hm5
          clear p0 p1 p2 p3 p4
          have hbl5 := hbl4.trans (hb5.mono hbl4.size)
          have hz5 := Nat.lt_of_lt_of_le hz4 hb5.size
          have PB5 := PB4.below hb5 hz4
          have p0 := PB5.c0; have p1 := PB5.c1; have p2 := PB5.c2; have p3 := PB5.c3; have p4 := PB5.c4
          have hbs1 : w.heap.size ≤ bs := Nat.le_trans hbl4.size hbb
          have hbs2 : w.heap.size < bs := Nat.lt_of_lt_of_le hz4 hbb
          have h15 := hbl5.size
          clear p0 p1 p2 p3 p4
          clear PB1 PB4 hbl1 hbl4 hz1 hz4 hmb hbb hb5
          go_wp2
          go_loopw [9] (fun v wr => ∃ k : Nat, k ≤ l.length ∧ v = .int .i64 k ∧ Med wr m bs g (playL g (blankL g) (l.take k)) ∧ Kept (fun k => k = bs) w5 wr) (fun v _ => l.length - (intOf v).toNat)
          case atStart => exact ⟨0, Nat.zero_le _, rfl, HM5.out, Kept.refl _ _⟩
          case round =>
            obtain ⟨k, hk, rfl, hmr, hkr⟩ := hrel
            by_cases hlt : k < l.length
            · have hS : ∀ i, i < w.heap.size → ¬ (i = bs) := fun i hi h => by omega
              have hop := opsok HOK.out HS.out ((belKept hbl5).more (T := fun i => w.heap.size ≤ i) (fun _ _ h => h)) (fun i hi h => by omega)
              have hrd5 := HRD.out.below hbl5 (Nat.le_refl _)
              obtain ⟨go, oo, rfl, hgo, c0, c1, c2⟩ := ops_at (hkr.rd hrd5 hS) hlt
              have hok := (hop _ (List.getElem_mem hlt)).kept hkr hS
              have HT := Lib.hid (playL_take g (blankL g) l k hlt)
              have HF2 : Hid (Fit g (playL g (blankL g) (l.take k))) := Lib.hid (HF.out.len (playL_len _ _ _))
              have hBr : w.heap.size ≤ wr.heap.size := Nat.le_trans h15 hkr.size
              have D1 := Lib.hid (do_any l[k] hmr HF2.out hok hBr)
              generalize playL g (blankL g) (l.take k) = X at *
              generalize l[k] = o at *
              clear hop hrd5 hok hmr
              go_wp2_with fail
              refine D1.out.mono ?_
              rintro e w6 ⟨rfl, hm6, hk6⟩
              have hk56 := hkr.trans hk6 (fun _ _ h => h)
              have HM6 := Lib.hid hm6
              clear hm6 c0 c1 c2
              go_wp2
              go_roundw
              case rel => exact ⟨k + 1, by omega, by go_num, by rw [HT.out]; exact HM6.out, hk56⟩
              case measure => simp [intOf]; omega
            · have hk' : k = l.length := by omega
              subst hk'
              rw [List.take_of_length_le (Nat.le_refl _)] at hmr
              have HFL : Hid (Fit g (playL g (blankL g) l)) := Lib.hid (HF.out.len (playL_len _ _ _))
              have HLL : Hid ((playL g (blankL g) l).length = (blankL g).length) := Lib.hid (playL_len _ _ _)
              have HSL : Hid (ShortB (playL g (blankL g) l)) := Lib.hid (short_play l (short_blankL g))
              generalize playL g (blankL g) l = LP at *
              go_wp2_with fail
              refine (erase_any band hmr HFL.out).mono ?_
              rintro e w6 ⟨rfl, hm6, hk6⟩
              rw [HEL.out] at hm6
              have hk56 : Kept (fun k => k = bs) w5 w6 := hkr.trans hk6 (fun _ _ h => h)
              have HF6 : Hid (Fit g (eraseTo LP f z)) := Lib.hid (HFL.out.len (eraseTo_len _ _ _))
              have hs6 : SeqInv (eraseTo LP f z) f z 0 := seq_start LP f z (by rw [HLL.out]; exact hfz)
              simp only [Int.toNat_natCast] at hm6
              have HM6 := Lib.hid hm6
              have PB6c : Cells5 w6 w.heap.size _ _ _ _ _ := PB5.kept hk56 (fun e => by have e' : w.heap.size = bs := e; omega)
              clear hm6 hk6 hmr hkr
              have p0 := PB6c.c0; have p1 := PB6c.c1; have p2 := PB6c.c2; have p3 := PB6c.c3; have p4 := PB6c.c4
              have hz6 : w.heap.size < w6.heap.size := Nat.lt_of_lt_of_le hz5 hk56.size
              go_wp2_with fail
              refine (HZ.out _).mono ?_
              rintro e w7 ⟨rfl, hb7⟩
              have PB7 := PB6c.below hb7 hz6
              have hk57 := hk56.thenBelow hb7
              have hm7 := HM6.out.below0 hb7
              clear p0 p1 p2 p3 p4
              have p0 := PB7.c0; have p1 := PB7.c1; have p2 := PB7.c2; have p3 := PB7.c3; have p4 := PB7.c4
              clear HM6 hb7 PB6c hk56
              go_wp2
              have hm7' := Lib.hid hm7
              have hbl7 : Below w.heap.size w w7 := hbl5.trans (hk57.below (B := w.heap.size) (fun i hi => by have e' : i = bs := hi; omega) h15)
              have HS6 := Lib.hid hs6
              clear hm7 hs6 hk57 PB7
              clear p0 p1 p2 p3 p4
              simp only [hw2']
              clear hw1' hw2'
              go_loopw [12] (fun v wr => ∃ (k : Nat) (L : List Sec), k ≤ z ∧ v = .int .i64 k ∧ Med wr m bs g L ∧ Hid (SeqInv L f z k) ∧ Hid (Fit g L) ∧ Hid (ShortB L) ∧ Below w.heap.size w wr) (fun v _ => z - (intOf v).toNat)
              case atStart => exact ⟨0, _, Nat.zero_le _, rfl, hm7'.out, HS6, HF6, Lib.hid (short_erase _ _ HSL.out _), hbl7⟩
              case round =>
                obtain ⟨k, L, hk, rfl, hmr, HI, HFr, HSr, hbr⟩ := hrel
                by_cases hlt : k < z
                · obtain ⟨st1, st2, st3⟩ := seq_step (g := g) HI.out hlt
                  have hfl := HI.out.len
                  have hle := HFr.out.le
                  have hlen := (HFr.out.len (writeL_len g L ((f + k : Nat) : Int) [(k : Int) % 256]))
                  have HSW : Hid (ShortB (writeL g L ((f + k : Nat) : Int) [(k : Int) % 256])) := Lib.hid (short_do (g := g) HSr.out ⟨false, ((f + k : Nat) : Int), [(k : Int) % 256], none, 0⟩)
                  have HST := Lib.hid (state_any ((f + k : Nat) : Int) hmr HFr.out)
                  have HWR : Hid (∀ x : Int, Calls Try.prog 19 #[.pointer (some ⟨m, 0, none⟩), .int .i64 ((f + k : Nat) : Int), .slice (some ⟨wr.heap.size, 0, none⟩) [x].length 1] (wr.alloc (.cells #[.int .u8 x] 5)) (WritePost (wr.alloc (.cells #[.int .u8 x] 5)) m bs g (writeE L ((f + k : Nat) : Int) [x]) (writeL g L ((f + k : Nat) : Int) [x]))) := by
                    unfold Hid; intro x
                    exact write_any (L := L) ((f + k : Nat) : Int) ⟨by omega, by omega⟩ (hmr.below0 ((Below.refl _ _).alloc (Nat.le_refl _) _)) HFr.out [x] _ _ ((rd_one wr x 5 _).more (by simp)) (by simp)
                  have HW2 := Lib.hid (HWR.out ((k : Int) % 256))
                  rw [st2] at HW2
                  have ST1 := Lib.hid st1
                  have HFW := Lib.hid hlen
                  have st4 : (stateN L ((f + k : Nat) : Int) == 1) = false := by simpa using st3
                  have hfk : (f : Int) + (k : Int) = ((f + k : Nat) : Int) := by omega
                  generalize writeL g L ((f + k : Nat) : Int) [(k : Int) % 256] = L2 at *
                  rw [← hfk] at HST HW2 st4
                  generalize stateN L ((f : Int) + (k : Int)) = T at *
                  clear st1 st2 st3 hmr HWR hlen hfk
                  go_wp2_with fail
                  refine HST.out.mono ?_
                  rintro e w8 ⟨rfl, rfl⟩
                  go_wp2_with fail
                  refine HW2.out.mono ?_
                  rintro e w9 ⟨rfl, hm9, hk9⟩
                  have hbr2 : Below w.heap.size w w9 := (hbr.alloc hbr.size _).trans (hk9.below (B := w.heap.size) (fun i hi => by have e' : i = bs := hi; omega) (Nat.le_trans hbr.size (by simp)))
                  have HM9 := Lib.hid hm9
                  clear hm9 hk9
                  go_wp2
                  go_roundw
                  case rel => exact ⟨k + 1, L2, by omega, by go_num, HM9.out, ST1, HFW, HSW, hbr2⟩
                  case measure => simp [intOf]; omega
                · obtain rfl : k = z := by omega
                  have hfl := HI.out.len
                  have hle := HFr.out.le
                  have HMR := Lib.hid hmr
                  clear hmr
                  go_wp2
                  go_loopw [13] (fun v wv => ∃ (j : Nat), j ≤ k ∧ v = .int .i64 j ∧ Below wr.heap.size wr wv) (fun v _ => k - (intOf v).toNat)
                  case atStart => exact ⟨0, Nat.zero_le _, rfl, Below.refl _ _⟩
                  case round =>
                    obtain ⟨j, hj, rfl, hbv⟩ := hrel
                    by_cases hjk : j < k
                    · have hrd := read_any ((f + j : Nat) : Int) (HMR.out.below0 hbv) HFr.out HSr.out
                      obtain ⟨e1, e2⟩ := seq_read HI.out hjk
                      rw [e1, e2] at hrd
                      have hfj : (f : Int) + (j : Int) = ((f + j : Nat) : Int) := by omega
                      rw [← hfj] at hrd
                      have HRD2 := Lib.hid hrd
                      clear hrd e1 e2 hfj
                      go_wp2_with fail
                      refine HRD2.out.mono ?_
                      rintro e w10 ⟨v, rfl, hv, hb10⟩
                      obtain ⟨A4, c4, rfl, hr4, _⟩ := hv
                      have hbv2 := hbv.trans (hb10.mono hbv.size)
                      have k1 : (convert 24 9 (.slice A4 1 c4)).run Try.prog w10 = .ok (.string (strOfNums [(j : Int) % 256])) w10 := conv_bytes c4 hr4.rd
                      have k2 : (convert 24 9 (.slice (some ⟨w10.heap.size, 0, none⟩) 1 1)).run Try.prog (w10.alloc (.cells #[.int .u8 ((j : Int) % 256)] 5)) = .ok (.string (strOfNums [(j : Int) % 256])) (w10.alloc (.cells #[.int .u8 ((j : Int) % 256)] 5)) := conv_bytes 1 ((rd_one w10 ((j : Int) % 256) 5 _).more (by simp) : Rd _ (w10.alloc (.cells #[.int .u8 ((j : Int) % 256)] 5)).heap.size _ _)
                      generalize strOfNums [(j : Int) % 256] = SS at *
                      clear hr4
                      go_wp2
                      clear k1 k2
                      go_roundw
                      case rel => exact ⟨j + 1, by omega, by go_num, hbv2.alloc hbv2.size _⟩
                      case measure => simp [intOf]; omega
                    · have q1 : k ≤ j := by omega
                      go_wp2
                      go_ret
                      exact ⟨rfl, hbr.trans (hbv.mono hbr.size)⟩

set_option maxRecDepth 100000 in
theorem mediaSequential_lifted (os : Os) (started : os.Started) (H : Type) (enc : TypeId × Value → H) :
    ReturnsInHanded {} Try.checked os 4 .any (Rows.mediaSequentialSpec.pre6 enc Try.prog Try.f4 Rows.mediaSequentialRow.domain false) (Rows.mediaSequentialSpec.post enc Try.prog Try.f4 false true false false) := by
  refine returnsInHanded_of_change (C := Try.checked) own started (by kernel_rfl) Try.func4
    (ChangeSpec.witness6 (enc := enc) (C := Try.checked) false ⟨#[], #[.agg #[.int .i64 0, .int .i64 0, .int .i64 0, .int .i64 0, .int .i64 0], .slice none 0 0, .int .i64 0], []⟩ 8 (by kernel_rfl) (by kernel_rfl) (by kernel_rfl) (by kernel_rfl)) ?_
  intro W base args ds gs before hval0 hW hcnd _
  have hval : ∀ (j : Nat) t v, Try.f4.params[j]? = some t → args[j]? = some v → Value.okWide Try.prog W .any base t v := hval0
  have hW' := hW
  obtain ⟨p, q, hA0, hV, rfl, hfz, hnd⟩ := hW
  have hA : DataW.TrodAll enc Try.prog W 0 (fun _ => true) true Try.f4.params.toList args.toList ds p := hA0
  rw [Try.params4] at hA hval
  obtain ⟨v0, vs0, d0, ds0, p0, q0, hargs, rfl, rfl, h0, r0⟩ := trodAll_cons hA
  obtain ⟨v1, vs1, d1, ds1, p1, q1, rfl, rfl, rfl, h1, r1⟩ := trodAll_cons r0
  obtain ⟨v2, vs2, d2, ds2, p2, q2, rfl, rfl, rfl, h2, r2⟩ := trodAll_cons r1
  obtain ⟨rfl, rfl, rfl⟩ := trodAll_nil r2
  obtain rfl : args = #[v0, v1, v2] := by cases args; simp_all
  obtain ⟨rfl, rfl⟩ := trodVars_none hV
  have k0 := h0
  have lt0 : ∀ x ∈ p0, x.block < W.heap.size := by obtain ⟨m, hm⟩ := k0; exact DataW.trod_lt m _ _ _ hm
  have k1 := h1
  have lt1 : ∀ x ∈ p1, x.block < W.heap.size := by obtain ⟨m, hm⟩ := k1; exact DataW.trod_lt m _ _ _ hm
  have k2 := h2
  have lt2 : ∀ x ∈ p2, x.block < W.heap.size := by obtain ⟨m, hm⟩ := k2; exact DataW.trod_lt m _ _ _ hm
  obtain ⟨g, rfl, hg⟩ := open_geo (hval 0 _ _ rfl rfl) h0
  obtain ⟨A, l, c, rfl, hl⟩ := open_opsv (hval 1 _ _ rfl rfl) h1
  obtain ⟨band, rfl, _, _, w2⟩ := open_int Try.underlying3 (hval 2 _ _ rfl rfl) h2
  clear hA0 hval0
  refine (mediaSequential_walk g A l c band W hl).mono fun e W' ⟨he, bel⟩ => ?_
  subst he
  exact ⟨_, rfl, _, _, _, [], _, [], hW', trodAll_mk1 (shut_bool Try.underlying4 _), (trodAll_cons_mk (Below.trod laidOut (by kernel_rfl) (of_decide_eq_true (by kernel_rfl)) k0 bel lt0) (trodAll_cons_mk (Below.trod laidOut (by kernel_rfl) (of_decide_eq_true (by kernel_rfl)) k1 bel lt1) (trodAll_cons_mk (Below.trod laidOut (by kernel_rfl) (of_decide_eq_true (by kernel_rfl)) k2 bel lt2) trodAll_mk0))), rfl, bel.frame _, fun h => by cases h⟩

/-- The statement. -/
theorem mediaSequential_holds : Rows.MediaSequentialSaid :=
  OpenClaim.holds_of_wide 4 Try.f4 rfl rfl rfl rfl rfl rfl rfl ⟨rfl, rfl, rfl, rfl, rfl⟩ rfl rfl rfl rfl rfl (by kernel_rfl) Try.func4 (by kernel_rfl)
    (of_decide_eq_true (by kernel_rfl)) (by unfold Func.isWrapper; first | (rw [if_pos (by decide +kernel)]; kernel_rfl) | (rw [if_neg (by decide +kernel)]; exact ⟨rfl, rfl⟩))
    (fun os started H enc _ => mediaSequential_lifted os started H enc)
#print axioms mediaSequential_holds
end Go.Proofs.Ytmjkpnplfeafeaa
