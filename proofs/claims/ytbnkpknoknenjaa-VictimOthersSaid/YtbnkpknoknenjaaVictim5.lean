/-
  WHAT IS SHOWN: what victim.Choose returns; it changes nothing that was there. Conditions: the slice reads as a list of bands.
-/
import Derived.Test.YtbnkpknoknenjaaVictim4
import Derived.Test.YtbnkpknoknenjaaBand6
import Derived.Test.YtbnkpknoknenjaaBandLaws
import Derived.Test.YtbnkpknoknenjaaHeld
namespace Go.Proofs.Ytbnkpknoknenjaa
set_option linter.unusedVariables false
open Go.RowKit

def bestI (s : Option (Nat × BI)) : Int := match s with | none => -1 | some (j, _) => (j : Int)
/-- The cells of two bands of one list, whatever is made behind. -/
def TwoAt (W : World) (g o k j : Nat) (b c : BI) (n : Nat) : Prop :=
  (W.cell? ⟨n, 0, none⟩ = some (.int .i64 b.used) ∧ W.cell? ⟨n, 1, none⟩ = some (.int .i64 b.live) ∧ W.cell? ⟨n, 2, none⟩ = some (.int .u64 b.age) ∧ W.cell? ⟨n, 3, none⟩ = some (.int .u64 b.wear)) ∧
  W.cell? ⟨g, o + j * 4, none⟩ = some (.int .i64 c.used) ∧ W.cell? ⟨g, o + j * 4 + 1, none⟩ = some (.int .i64 c.live) ∧ W.cell? ⟨g, o + j * 4 + 2, none⟩ = some (.int .u64 c.age) ∧ W.cell? ⟨g, o + j * 4 + 3, none⟩ = some (.int .u64 c.wear)

set_option maxHeartbeats 1000000 in
theorem choose_any (l : List BI) (hok : Oks l) (sz now opn : Int) (hn : U64 now) (A : Option Addr) (c : Nat) (w : World) (hl : Rd w w.heap.size A (flat l)) (hbig : l.length ≤ 9223372036854775807) :
    Calls Try.prog 34 #[.slice A l.length c, .int .i64 sz, .int .u64 now, .int .i64 opn] w fun e w' => e = .returned (.tuple #[.int .i64 (chooseN l sz now opn).1, .int .i64 (chooseN l sz now opn).2]) ∧ Below w.heap.size w w' := by
  have HC : Hid (∀ (b : Bool), (validB l sz && decide (sz ≤ 1048576)) = b → chooseN l sz now opn = if b then chRes (chooseFrom sz now opn none 0 l) else (0, 1)) := by
    unfold Hid; intro b hb; unfold chooseN; rw [hb]
  cases hv : validB l sz
  · have HR := Lib.hid (HC.out false (by rw [hv]; rfl))
    go_enter Try.func34, Try.ntmps34
    go_wp2_with (go_at_call 16; refine (valid_any sz l A c _ hl hbig).mono ?_; rintro e w1 ⟨rfl, hb1⟩; rw [hv])
    go_ret2
    exact ⟨by rw [HR.out]; rfl, hb1⟩
  · by_cases hs : sz ≤ 1048576
    · have hvd := (validB_iff l sz).1 hv
      obtain ⟨v1, v2, v3, v4⟩ := hvd
      have HV := Lib.hid v4
      have HR := Lib.hid (HC.out true (by rw [hv, decide_eq_true hs]; rfl))
      clear v4 HC
      go_enter Try.func34, Try.ntmps34
      go_wp2_with fail
      refine (valid_any sz l A c _ hl hbig).mono ?_
      rintro e w1 ⟨rfl, hb1⟩
      rw [hv]
      clear hv
      have hd0 : decide (1048576 < sz) = false := decide_eq_false (by omega)
      go_wp2
      go_loopw [10, 23] (fun b i wr => ∃ k : Nat, k ≤ l.length ∧ i = .int .i64 k ∧ b = .int .i64 (bestI (chooseFrom sz now opn none 0 (l.take k))) ∧ Below w.heap.size w wr) (fun _ i _ => l.length - (intOf i).toNat)
      case atStart => exact ⟨0, Nat.zero_le _, rfl, rfl, hb1⟩
      case round =>
        obtain ⟨k, hk, rfl, rfl, hbl⟩ := hrel
        by_cases hlt : k < l.length
        · have HS := Lib.hid (chooseFrom_take sz now opn l none k hlt)
          have HI := Lib.hid (choose_inv sz now opn l k hk)
          obtain ⟨u1, u2, u3⟩ := HV.out _ (List.getElem_mem hlt)
          have hbo := oks_get hok hlt
          have hz := hbl.size
          obtain ⟨g, o, rfl, hg, h0, h1, h2, h3⟩ := hl.band (get_some hlt)
          have j0 := (hbl.cell (p := ⟨g, _, none⟩) hg).trans h0
          have j1 := (hbl.cell (p := ⟨g, _, none⟩) hg).trans h1
          have j2 := (hbl.cell (p := ⟨g, _, none⟩) hg).trans h2
          have j3 := (hbl.cell (p := ⟨g, _, none⟩) hg).trans h3
          clear h0 h1 h2 h3
          have hal : Below w.heap.size w (wr.alloc (.cells #[.int .i64 l[k].used, .int .i64 l[k].live, .int .u64 l[k].age, .int .u64 l[k].wear] 35)) := hbl.alloc hz _
          cases hcand : candB sz opn k l[k]
          · have HN : Hid (chooseFrom sz now opn none 0 (l.take (k + 1)) = chooseFrom sz now opn none 0 (l.take k)) := by
              unfold Hid; rw [HS.out]; unfold chooseStep; rw [hcand]; rfl
            clear HS HI
            generalize chooseFrom sz now opn none 0 (l.take k) = s at *
            unfold candB at hcand
            by_cases e1 : (k : Int) = opn
            · have d1 : ((k : Int) == opn) = true := by simpa using e1
              clear e1 hcand
              go_wp2
              go_roundw
              case rel => exact ⟨k + 1, by omega, by go_num, by rw [HN.out], hal⟩
              case measure => simp [intOf]; omega
            · have d1 : ((k : Int) == opn) = false := by simpa using e1
              by_cases e2 : l[k].used = 0
              · have d2 : (l[k].used == 0) = true := by simpa using e2
                clear e1 e2 hcand
                go_wp2
                go_roundw
                case rel => exact ⟨k + 1, by omega, by go_num, by rw [HN.out], hal⟩
                case measure => simp [intOf]; omega
              · have d2 : (l[k].used == 0) = false := by simpa using e2
                have d3 : decide (sz ≤ l[k].live) = true := by
                  apply decide_eq_true
                  simp [e1] at hcand
                  exact hcand (by omega)
                clear e1 e2 hcand
                go_wp2
                go_roundw
                case rel => exact ⟨k + 1, by omega, by go_num, by rw [HN.out], hal⟩
                case measure => simp [intOf]; omega
          · have HX : Hid (∀ s, chooseFrom sz now opn none 0 (l.take k) = s → chooseFrom sz now opn none 0 (l.take (k + 1)) = (match s with | none => some (k, l[k]) | some (j, c) => if takeB sz now c l[k] then some (k, l[k]) else some (j, c))) := by
              unfold Hid; intro s hs; rw [HS.out, hs]; unfold chooseStep; rw [hcand]; rfl
            clear HS
            unfold candB at hcand
            simp at hcand
            obtain ⟨e1, e2, e3⟩ := hcand
            have d1 : ((k : Int) == opn) = false := by simpa using e1
            have d2 : (l[k].used == 0) = false := by simp; omega
            have d3 : decide (sz ≤ l[k].live) = false := decide_eq_false (by omega)
            clear e1 e2 e3 u1 u2 u3
            rcases HI.out with hm | ⟨j, hj, hjk, hm, _⟩
            · have HN := Lib.hid (HX.out none hm)
              rw [hm]
              clear hm HX HI
              simp only [bestI] at *
              go_wp2
              clear j0 j1 j2 j3
              go_quiet (fail)
              go_wp2
              go_roundw
              case rel => exact ⟨k + 1, by omega, by go_num, by rw [HN.out], below_drewN' hal _⟩
              case measure => simp [intOf]; omega
            · have HN := Lib.hid (HX.out _ hm)
              rw [hm]
              clear hm HX HI
              have hjo := oks_get hok hj
              obtain ⟨g', o', e, _, i0, i1, i2, i3⟩ := hl.band (get_some hj)
              simp only [Option.some.injEq, Addr.mk.injEq, and_true] at e
              obtain ⟨rfl, rfl⟩ := e
              have KK : ∀ W, Below (wr.alloc (.cells #[.int .i64 l[k].used, .int .i64 l[k].live, .int .u64 l[k].age, .int .u64 l[k].wear] 35)).heap.size (wr.alloc (.cells #[.int .i64 l[k].used, .int .i64 l[k].live, .int .u64 l[k].age, .int .u64 l[k].wear] 35)) W → TwoAt W g o k j l[k] l[j] wr.heap.size := fun W h => by
                have A1 := (Cells4.new wr 35 (.int .i64 l[k].used) (.int .i64 l[k].live) (.int .u64 l[k].age) (.int .u64 l[k].wear)).below h (by simp)
                have hw := hal.trans (h.mono hal.size)
                exact ⟨⟨A1.c0, A1.c1, A1.c2, A1.c3⟩, (hw.cell (p := ⟨g, _, none⟩) hg).trans i0, (hw.cell (p := ⟨g, _, none⟩) hg).trans i1, (hw.cell (p := ⟨g, _, none⟩) hg).trans i2, (hw.cell (p := ⟨g, _, none⟩) hg).trans i3⟩
              have C1 := Lib.hid (fun W => better_any l[k] l[j] hbo hjo sz now hn W)
              have C2 := Lib.hid (fun W => better_any l[j] l[k] hjo hbo sz now hn W)
              have DK := Lib.hid KK
              have hzz := hal.size
              clear KK i0 i1 i2 i3
              have q1 : (0 : Int) ≤ j := by omega
              have q2 : (j : Int) < l.length := by omega
              have q3 : decide ((j : Int) < 0) = false := decide_eq_false (by omega)
              simp only [bestI] at *
              clear hbo hjo
              generalize hX : l[k] = X at *
              generalize hY : l[j] = Y at *
              have HX' := Lib.hid hX
              have HY' := Lib.hid hY
              clear hX hY
              go_wp2
              clear j0 j1 j2 j3 hl
              obtain ⟨⟨z0, z1, z2, z3⟩, y0, y1, y2, y3⟩ := DK.out _ (Below.refl _ _)
              clear DK hzz
              generalize (wr.alloc (.cells #[.int .i64 X.used, .int .i64 X.live, .int .u64 X.age, .int .u64 X.wear] 35)) = W0 at *
              have s0 := Held.cell (B := W0.heap.size) z0 (block_lt_of_cell z0)
              have s1 := Held.cell (B := W0.heap.size) z1 (block_lt_of_cell z1)
              have s2 := Held.cell (B := W0.heap.size) z2 (block_lt_of_cell z2)
              have s3 := Held.cell (B := W0.heap.size) z3 (block_lt_of_cell z3)
              have r0 := Held.cell (B := W0.heap.size) y0 (block_lt_of_cell y0)
              have r1 := Held.cell (B := W0.heap.size) y1 (block_lt_of_cell y1)
              have r2 := Held.cell (B := W0.heap.size) y2 (block_lt_of_cell y2)
              have r3 := Held.cell (B := W0.heap.size) y3 (block_lt_of_cell y3)
              clear z0 z1 z2 z3 y0 y1 y2 y3
              cases t1 : betterB X Y sz now
              · have D1 : Hid (∀ W, Calls Try.prog 32 #[.agg #[.int .i64 X.used, .int .i64 X.live, .int .u64 X.age, .int .u64 X.wear], .agg #[.int .i64 Y.used, .int .i64 Y.live, .int .u64 Y.age, .int .u64 Y.wear], .int .i64 sz, .int .u64 now] W fun e w' => e = .returned (.bool false) ∧ Below W.heap.size W w') := by
                  unfold Hid; intro W; have := C1.out W; rw [t1] at this; exact this
                cases t2 : betterB Y X sz now
                · have HN2 : Hid (chooseFrom sz now opn none 0 (l.take (k + 1)) = if X.wear < Y.wear then some (k, X) else some (j, Y)) := by
                    unfold Hid; rw [HN.out]; simp [takeB, t1, t2]
                  have D2 : Hid (∀ W, Calls Try.prog 32 #[.agg #[.int .i64 Y.used, .int .i64 Y.live, .int .u64 Y.age, .int .u64 Y.wear], .agg #[.int .i64 X.used, .int .i64 X.live, .int .u64 X.age, .int .u64 X.wear], .int .i64 sz, .int .u64 now] W fun e w' => e = .returned (.bool false) ∧ Below W.heap.size W w') := by
                    unfold Hid; intro W; have := C2.out W; rw [t2] at this; exact this
                  clear HN C1 C2 t1 t2
                  by_cases hw : X.wear < Y.wear
                  · have HN3 := Lib.hid HN2.out
                    rw [if_pos hw] at HN3
                    have hne : Nonempty (Held (Below W0.heap.size W0)) := ⟨⟨_, (Held.drew_below (Nat.le_refl _))⟩⟩
                    refine wp_region_heldq (S := (Below W0.heap.size W0)) (by kernel_rfl) (by kernel_rfl) (Held.drew_below (Nat.le_refl _)) ?_
                    repeat (go_big_quiet_step ((first | (go_at_call 32; exact Calls.held_below (Nat.le_refl _) (by with_reducible exact (D1.out _))) | (go_at_call 32; exact Calls.held_below (Nat.le_refl _) (by with_reducible exact (D2.out _))))))
                    refine wpQuiet_nil ?_
                    intro _ hw'
                    obtain ⟨sq, hw''⟩ := hw'
                    subst hw''
                    clear hne
                    go_wp2
                    go_roundw
                    case rel => exact ⟨k + 1, by omega, by go_num, by rw [HN3.out], hal.trans (sq.h.mono hal.size)⟩
                    case measure => simp [intOf]; omega
                  · have HN3 := Lib.hid HN2.out
                    rw [if_neg hw] at HN3
                    have hne : Nonempty (Held (Below W0.heap.size W0)) := ⟨⟨_, (Held.drew_below (Nat.le_refl _))⟩⟩
                    refine wp_region_heldq (S := (Below W0.heap.size W0)) (by kernel_rfl) (by kernel_rfl) (Held.drew_below (Nat.le_refl _)) ?_
                    repeat (go_big_quiet_step ((first | (go_at_call 32; exact Calls.held_below (Nat.le_refl _) (by with_reducible exact (D1.out _))) | (go_at_call 32; exact Calls.held_below (Nat.le_refl _) (by with_reducible exact (D2.out _))))))
                    refine wpQuiet_nil ?_
                    intro _ hw'
                    obtain ⟨sq, hw''⟩ := hw'
                    subst hw''
                    clear hne
                    go_wp2
                    go_roundw
                    case rel => exact ⟨k + 1, by omega, by go_num, by rw [HN3.out], hal.trans (sq.h.mono hal.size)⟩
                    case measure => simp [intOf]; omega
                · have HN2 : Hid (chooseFrom sz now opn none 0 (l.take (k + 1)) = some (j, Y)) := by
                    unfold Hid; rw [HN.out]; simp [takeB, t1, t2]
                  have D2 : Hid (∀ W, Calls Try.prog 32 #[.agg #[.int .i64 Y.used, .int .i64 Y.live, .int .u64 Y.age, .int .u64 Y.wear], .agg #[.int .i64 X.used, .int .i64 X.live, .int .u64 X.age, .int .u64 X.wear], .int .i64 sz, .int .u64 now] W fun e w' => e = .returned (.bool true) ∧ Below W.heap.size W w') := by
                    unfold Hid; intro W; have := C2.out W; rw [t2] at this; exact this
                  clear HN C1 C2 t1 t2
                  have hne : Nonempty (Held (Below W0.heap.size W0)) := ⟨⟨_, (Held.drew_below (Nat.le_refl _))⟩⟩
                  refine wp_region_heldq (S := (Below W0.heap.size W0)) (by kernel_rfl) (by kernel_rfl) (Held.drew_below (Nat.le_refl _)) ?_
                  repeat (go_big_quiet_step ((first | (go_at_call 32; exact Calls.held_below (Nat.le_refl _) (by with_reducible exact (D1.out _))) | (go_at_call 32; exact Calls.held_below (Nat.le_refl _) (by with_reducible exact (D2.out _))))))
                  refine wpQuiet_nil ?_
                  intro _ hw'
                  obtain ⟨sq, hw''⟩ := hw'
                  subst hw''
                  clear hne
                  go_wp2
                  go_roundw
                  case rel => exact ⟨k + 1, by omega, by go_num, by rw [HN2.out], hal.trans (sq.h.mono hal.size)⟩
                  case measure => simp [intOf]; omega
              · have HN2 : Hid (chooseFrom sz now opn none 0 (l.take (k + 1)) = some (k, X)) := by
                  unfold Hid; rw [HN.out]; simp [takeB, t1]
                have D1 : Hid (∀ W, Calls Try.prog 32 #[.agg #[.int .i64 X.used, .int .i64 X.live, .int .u64 X.age, .int .u64 X.wear], .agg #[.int .i64 Y.used, .int .i64 Y.live, .int .u64 Y.age, .int .u64 Y.wear], .int .i64 sz, .int .u64 now] W fun e w' => e = .returned (.bool true) ∧ Below W.heap.size W w') := by
                  unfold Hid; intro W; have := C1.out W; rw [t1] at this; exact this
                clear HN C1 C2 t1
                have hne : Nonempty (Held (Below W0.heap.size W0)) := ⟨⟨_, (Held.drew_below (Nat.le_refl _))⟩⟩
                refine wp_region_heldq (S := (Below W0.heap.size W0)) (by kernel_rfl) (by kernel_rfl) (Held.drew_below (Nat.le_refl _)) ?_
                repeat (go_big_quiet_step ((go_at_call 32; exact Calls.held_below (Nat.le_refl _) (D1.out _))))
                refine wpQuiet_nil ?_
                intro _ hw'
                obtain ⟨sq, hw''⟩ := hw'
                subst hw''
                clear hne
                go_wp2
                go_roundw
                case rel => exact ⟨k + 1, by omega, by go_num, by rw [HN2.out], hal.trans (sq.h.mono hal.size)⟩
                case measure => simp [intOf]; omega
        · have hk' : k = l.length := by omega
          subst hk'
          rw [List.take_of_length_le (Nat.le_refl _)] at *
          have HI := Lib.hid (choose_inv sz now opn l l.length (Nat.le_refl _))
          rw [List.take_of_length_le (Nat.le_refl _)] at HI
          rcases HI.out with hm | ⟨j, hj, hjk, hm, _⟩
          · have HR2 := Lib.hid HR.out
            rw [hm] at HR2
            rw [hm]
            clear hm HI
            simp only [bestI]
            go_wp2
            go_ret2
            exact ⟨by rw [HR2.out]; rfl, hbl⟩
          · have HR2 := Lib.hid HR.out
            rw [hm] at HR2
            rw [hm]
            clear hm HI
            simp only [bestI]
            go_wp2
            go_ret2
            exact ⟨by rw [HR2.out]; rfl, hbl⟩
    · have HR := Lib.hid (HC.out false (by rw [hv, decide_eq_false hs]; rfl))
      have hs' : 1048576 < sz := by omega
      go_enter Try.func34, Try.ntmps34
      go_wp2_with (go_at_call 16; refine (valid_any sz l A c _ hl hbig).mono ?_; rintro e w1 ⟨rfl, hb1⟩; rw [hv])
      go_ret2
      exact ⟨by rw [HR.out]; rfl, hb1⟩
end Go.Proofs.Ytbnkpknoknenjaa
