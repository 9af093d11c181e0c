/-
  WHAT IS SHOWN: what tegularef18.Candidate and tegularef18.Choose return: Choose the same as victim.Choose; they change nothing that was there. Conditions: the slice reads as a list of bands.
-/
import Derived.Test.YtbnkpknoknenjaaVictim5
namespace Go.Proofs.Ytbnkpknoknenjaa
set_option linter.unusedVariables false
open Go.RowKit

set_option maxHeartbeats 400000 in
theorem cand_any (l : List BI) (sz opn : Int) (k : Nat) (hk : k < l.length) (A : Option Addr) (c : Nat) (w : World) (hl : Rd w w.heap.size A (flat l)) (hbig : l.length ≤ 9223372036854775807) :
    Calls Try.prog 36 #[.slice A l.length c, .int .i64 sz, .int .i64 opn, .int .i64 k] w fun e w' => e = .returned (.bool (candB sz opn k l[k])) ∧ Below w.heap.size w w' := by
  obtain ⟨g, o, rfl, hg, j0, j1, _, _⟩ := hl.band (get_some hk)
  have q1 : (0 : Int) ≤ k := by omega
  have q2 : (k : Int) < l.length := by omega
  by_cases e1 : (k : Int) = opn
  · have HC : Hid (candB sz opn k l[k] = false) := by unfold Hid candB; simp [e1]
    have d1 : ((k : Int) != opn) = false := by simpa using e1
    clear e1
    go_enter Try.func36, Try.ntmps36
    go_wp2
    go_ret
    exact ⟨by rw [HC.out]; rfl, Below.refl _ _⟩
  · have d1 : ((k : Int) != opn) = true := by simpa using e1
    by_cases e2 : 0 < l[k].used
    · have d2 : decide (0 < l[k].used) = true := decide_eq_true e2
      have HC : Hid (candB sz opn k l[k] = decide (l[k].live < sz)) := by unfold Hid candB; simp [e1, e2]
      clear e1 e2
      go_enter Try.func36, Try.ntmps36
      go_wp2
      go_ret
      exact ⟨by rw [HC.out]; rfl, Below.refl _ _⟩
    · have d2 : decide (0 < l[k].used) = false := decide_eq_false e2
      have HC : Hid (candB sz opn k l[k] = false) := by unfold Hid candB; simp [e1, e2]
      clear e1 e2
      go_enter Try.func36, Try.ntmps36
      go_wp2
      go_ret
      exact ⟨by rw [HC.out]; rfl, Below.refl _ _⟩

set_option maxHeartbeats 1000000 in
theorem rchoose_any (l : List BI) (hok : Oks l) (sz now opn : Int) (hn : U64 now) (A : Option Addr) (c : Nat) (w : World) (hl : Rd w w.heap.size A (flat l)) (hbig : l.length ≤ 9223372036854775807) :
    Calls Try.prog 35 #[.slice A l.length c, .int .i64 sz, .int .u64 now, .int .i64 opn] w fun e w' => e = .returned (.tuple #[.int .i64 (chooseN l sz now opn).1, .int .i64 (chooseN l sz now opn).2]) ∧ Below w.heap.size w w' := by
  have HC : Hid (∀ (b : Bool), (validB l sz && decide (sz ≤ 1048576)) = b → chooseN l sz now opn = if b then chRes (chooseFrom sz now opn none 0 l) else (0, 1)) := by
    unfold Hid; intro b hb; unfold chooseN; rw [hb]
  cases hv : validB l sz
  · have HR := Lib.hid (HC.out false (by rw [hv]; rfl))
    go_enter Try.func35, Try.ntmps35
    go_wp2_with (go_at_call 17; refine (rvalid_any sz l A c _ hl hbig).mono ?_; rintro e w1 ⟨rfl, hb1⟩; rw [hv])
    go_ret2
    exact ⟨by rw [HR.out]; rfl, hb1⟩
  · by_cases hs : sz ≤ 1048576
    · have hvd := (validB_iff l sz).1 hv
      obtain ⟨v1, v2, v3, v4⟩ := hvd
      have HR := Lib.hid (HC.out true (by rw [hv, decide_eq_true hs]; rfl))
      clear v4 HC
      go_enter Try.func35, Try.ntmps35
      go_wp2_with fail
      refine (rvalid_any sz l A c _ hl hbig).mono ?_
      rintro e w1 ⟨rfl, hb1⟩
      rw [hv]
      clear hv
      have hd0 : decide (1048576 < sz) = false := decide_eq_false (by omega)
      go_wp2
      go_loopw [10, 11] (fun b i wr => ∃ k : Nat, k ≤ l.length ∧ i = .int .i64 k ∧ b = .int .i64 (bestI (chooseFrom sz now opn none 0 (l.take k))) ∧ Below w.heap.size w wr) (fun _ i _ => l.length - (intOf i).toNat)
      case atStart => exact ⟨0, Nat.zero_le _, rfl, rfl, hb1⟩
      case round =>
        obtain ⟨k, hk, rfl, rfl, hbl⟩ := hrel
        by_cases hlt : k < l.length
        · have HS := Lib.hid (chooseFrom_take sz now opn l none k hlt)
          have HI := Lib.hid (choose_inv sz now opn l k hk)
          have hbo := oks_get hok hlt
          have hz := hbl.size
          have hlr : Rd wr wr.heap.size A (flat l) := (hl.below hbl (Nat.le_refl _)).more hz
          cases hcand : candB sz opn k l[k]
          · have HN : Hid (chooseFrom sz now opn none 0 (l.take (k + 1)) = chooseFrom sz now opn none 0 (l.take k)) := by
              unfold Hid; rw [HS.out]; unfold chooseStep; rw [hcand]; rfl
            clear HS HI
            generalize chooseFrom sz now opn none 0 (l.take k) = s at *
            go_wp2_with fail
            refine (cand_any l sz opn k hlt A c _ hlr hbig).mono ?_
            rintro e w2 ⟨rfl, hb2⟩
            have hbl2 := hbl.trans (hb2.mono hz)
            rw [hcand]
            clear hcand
            go_wp2
            go_roundw
            case rel => exact ⟨k + 1, by omega, by go_num, by rw [HN.out], hbl2⟩
            case measure => simp [intOf]; omega
          · have HX : Hid (∀ s, chooseFrom sz now opn none 0 (l.take k) = s → chooseFrom sz now opn none 0 (l.take (k + 1)) = (match s with | none => some (k, l[k]) | some (j, c) => if takeB sz now c l[k] then some (k, l[k]) else some (j, c))) := by
              unfold Hid; intro s hs; rw [HS.out, hs]; unfold chooseStep; rw [hcand]; rfl
            clear HS
            rcases HI.out with hm | ⟨j, hj, hjk, hm, _⟩
            · have HN := Lib.hid (HX.out none hm)
              rw [hm]
              clear hm HX HI
              simp only [bestI] at *
              go_wp2_with fail
              refine (cand_any l sz opn k hlt A c _ hlr hbig).mono ?_
              rintro e w2 ⟨rfl, hb2⟩
              have hbl2 := hbl.trans (hb2.mono hz)
              rw [hcand]
              clear hcand
              go_wp2
              go_quiet (fail)
              go_wp2
              go_roundw
              case rel => exact ⟨k + 1, by omega, by go_num, by rw [HN.out], below_drewN' hbl2 _⟩
              case measure => simp [intOf]; omega
            · have HN := Lib.hid (HX.out _ hm)
              rw [hm]
              clear hm HX HI
              have hjo := oks_get hok hj
              have C1 := Lib.hid (fun W => rbetter_any l[k] l[j] hbo hjo sz now hn W)
              have C2 := Lib.hid (fun W => rbetter_any l[j] l[k] hjo hbo sz now hn W)
              have q1 : (0 : Int) ≤ j := by omega
              have q2 : (j : Int) < l.length := by omega
              have q3 : decide ((j : Int) < 0) = false := decide_eq_false (by omega)
              have q4 : (0 : Int) ≤ k := by omega
              have q5 : (k : Int) < l.length := by omega
              simp only [bestI] at *
              clear hbo hjo
              go_wp2_with fail
              refine (cand_any l sz opn k hlt A c _ hlr hbig).mono ?_
              rintro e w2 ⟨rfl, hb2⟩
              have hbl2 := hbl.trans (hb2.mono hz)
              rw [hcand]
              clear hcand
              have hlw : Rd w2 w2.heap.size A (flat l) := (hl.below hbl2 (Nat.le_refl _)).more hbl2.size
              clear hlr hl hb2 hbl
              obtain ⟨g, o, rfl, hg, h0, h1, h2, h3⟩ := hlw.band (get_some hlt)
              obtain ⟨g', o', e, _, i0, i1, i2, i3⟩ := hlw.band (get_some hj)
              simp only [Option.some.injEq, Addr.mk.injEq, and_true] at e
              obtain ⟨rfl, rfl⟩ := e
              generalize hX : l[k] = X at *
              generalize hY : l[j] = Y at *
              have HX' := Lib.hid hX
              have HY' := Lib.hid hY
              clear hX hY
              have s0 := Held.cell h0 hg
              have s1 := Held.cell h1 hg
              have s2 := Held.cell h2 hg
              have s3 := Held.cell h3 hg
              have r0 := Held.cell i0 hg
              have r1 := Held.cell i1 hg
              have r2 := Held.cell i2 hg
              have r3 := Held.cell i3 hg
              clear h0 h1 h2 h3 i0 i1 i2 i3 hlw
              cases t1 : betterB X Y sz now
              · have D1 : Hid (∀ W, Calls Try.prog 33 #[.agg #[.int .i64 X.used, .int .i64 X.live, .int .u64 X.age, .int .u64 X.wear], .agg #[.int .i64 Y.used, .int .i64 Y.live, .int .u64 Y.age, .int .u64 Y.wear], .int .i64 sz, .int .u64 now] W fun e w' => e = .returned (.bool false) ∧ Below W.heap.size W w') := by
                  unfold Hid; intro W; have := C1.out W; rw [t1] at this; exact this
                cases t2 : betterB Y X sz now
                · have HN2 : Hid (chooseFrom sz now opn none 0 (l.take (k + 1)) = if X.wear < Y.wear then some (k, X) else some (j, Y)) := by
                    unfold Hid; rw [HN.out]; simp [takeB, t1, t2]
                  have D2 : Hid (∀ W, Calls Try.prog 33 #[.agg #[.int .i64 Y.used, .int .i64 Y.live, .int .u64 Y.age, .int .u64 Y.wear], .agg #[.int .i64 X.used, .int .i64 X.live, .int .u64 X.age, .int .u64 X.wear], .int .i64 sz, .int .u64 now] W fun e w' => e = .returned (.bool false) ∧ Below W.heap.size W w') := by
                    unfold Hid; intro W; have := C2.out W; rw [t2] at this; exact this
                  clear HN C1 C2 t1 t2
                  by_cases hw : X.wear < Y.wear
                  · have HN3 := Lib.hid HN2.out
                    rw [if_pos hw] at HN3
                    go_wp2
                    have hne : Nonempty (Held (Below w2.heap.size w2)) := ⟨⟨_, (Held.drew_below (Nat.le_refl _))⟩⟩
                    refine wp_region_heldq (S := (Below w2.heap.size w2)) (by kernel_rfl) (by kernel_rfl) (Held.drew_below (Nat.le_refl _)) ?_
                    repeat (go_big_quiet_step ((first | (go_at_call 33; exact Calls.held_below (Nat.le_refl _) (by with_reducible exact (D1.out _))) | (go_at_call 33; exact Calls.held_below (Nat.le_refl _) (by with_reducible exact (D2.out _))))))
                    refine wpQuiet_nil ?_
                    intro _ hw'
                    obtain ⟨sq, hw''⟩ := hw'
                    subst hw''
                    clear hne
                    go_wp2
                    go_roundw
                    case rel => exact ⟨k + 1, by omega, by go_num, by rw [HN3.out], hbl2.trans (sq.h.mono hbl2.size)⟩
                    case measure => simp [intOf]; omega
                  · have HN3 := Lib.hid HN2.out
                    rw [if_neg hw] at HN3
                    go_wp2
                    have hne : Nonempty (Held (Below w2.heap.size w2)) := ⟨⟨_, (Held.drew_below (Nat.le_refl _))⟩⟩
                    refine wp_region_heldq (S := (Below w2.heap.size w2)) (by kernel_rfl) (by kernel_rfl) (Held.drew_below (Nat.le_refl _)) ?_
                    repeat (go_big_quiet_step ((first | (go_at_call 33; exact Calls.held_below (Nat.le_refl _) (by with_reducible exact (D1.out _))) | (go_at_call 33; exact Calls.held_below (Nat.le_refl _) (by with_reducible exact (D2.out _))))))
                    refine wpQuiet_nil ?_
                    intro _ hw'
                    obtain ⟨sq, hw''⟩ := hw'
                    subst hw''
                    clear hne
                    go_wp2
                    go_roundw
                    case rel => exact ⟨k + 1, by omega, by go_num, by rw [HN3.out], hbl2.trans (sq.h.mono hbl2.size)⟩
                    case measure => simp [intOf]; omega
                · have HN2 : Hid (chooseFrom sz now opn none 0 (l.take (k + 1)) = some (j, Y)) := by
                    unfold Hid; rw [HN.out]; simp [takeB, t1, t2]
                  have D2 : Hid (∀ W, Calls Try.prog 33 #[.agg #[.int .i64 Y.used, .int .i64 Y.live, .int .u64 Y.age, .int .u64 Y.wear], .agg #[.int .i64 X.used, .int .i64 X.live, .int .u64 X.age, .int .u64 X.wear], .int .i64 sz, .int .u64 now] W fun e w' => e = .returned (.bool true) ∧ Below W.heap.size W w') := by
                    unfold Hid; intro W; have := C2.out W; rw [t2] at this; exact this
                  clear HN C1 C2 t1 t2
                  go_wp2
                  have hne : Nonempty (Held (Below w2.heap.size w2)) := ⟨⟨_, (Held.drew_below (Nat.le_refl _))⟩⟩
                  refine wp_region_heldq (S := (Below w2.heap.size w2)) (by kernel_rfl) (by kernel_rfl) (Held.drew_below (Nat.le_refl _)) ?_
                  repeat (go_big_quiet_step ((first | (go_at_call 33; exact Calls.held_below (Nat.le_refl _) (by with_reducible exact (D1.out _))) | (go_at_call 33; exact Calls.held_below (Nat.le_refl _) (by with_reducible exact (D2.out _))))))
                  refine wpQuiet_nil ?_
                  intro _ hw'
                  obtain ⟨sq, hw''⟩ := hw'
                  subst hw''
                  clear hne
                  go_wp2
                  go_roundw
                  case rel => exact ⟨k + 1, by omega, by go_num, by rw [HN2.out], hbl2.trans (sq.h.mono hbl2.size)⟩
                  case measure => simp [intOf]; omega
              · have HN2 : Hid (chooseFrom sz now opn none 0 (l.take (k + 1)) = some (k, X)) := by
                  unfold Hid; rw [HN.out]; simp [takeB, t1]
                have D1 : Hid (∀ W, Calls Try.prog 33 #[.agg #[.int .i64 X.used, .int .i64 X.live, .int .u64 X.age, .int .u64 X.wear], .agg #[.int .i64 Y.used, .int .i64 Y.live, .int .u64 Y.age, .int .u64 Y.wear], .int .i64 sz, .int .u64 now] W fun e w' => e = .returned (.bool true) ∧ Below W.heap.size W w') := by
                  unfold Hid; intro W; have := C1.out W; rw [t1] at this; exact this
                clear HN C1 C2 t1
                go_wp2
                have hne : Nonempty (Held (Below w2.heap.size w2)) := ⟨⟨_, (Held.drew_below (Nat.le_refl _))⟩⟩
                refine wp_region_heldq (S := (Below w2.heap.size w2)) (by kernel_rfl) (by kernel_rfl) (Held.drew_below (Nat.le_refl _)) ?_
                repeat (go_big_quiet_step ((go_at_call 33; exact Calls.held_below (Nat.le_refl _) (D1.out _))))
                refine wpQuiet_nil ?_
                intro _ hw'
                obtain ⟨sq, hw''⟩ := hw'
                subst hw''
                clear hne
                go_wp2
                go_roundw
                case rel => exact ⟨k + 1, by omega, by go_num, by rw [HN2.out], hbl2.trans (sq.h.mono hbl2.size)⟩
                case measure => simp [intOf]; omega
        · have hk' : k = l.length := by omega
          subst hk'
          rw [List.take_of_length_le (Nat.le_refl _)] at *
          have HI := Lib.hid (choose_inv sz now opn l l.length (Nat.le_refl _))
          rw [List.take_of_length_le (Nat.le_refl _)] at HI
          rcases HI.out with hm | ⟨j, hj, hjk, hm, _⟩
          · have HR2 := Lib.hid HR.out
            rw [hm] at HR2
            rw [hm]
            clear hm HI
            simp only [bestI]
            go_wp2
            go_ret2
            exact ⟨by rw [HR2.out]; rfl, hbl⟩
          · have HR2 := Lib.hid HR.out
            rw [hm] at HR2
            rw [hm]
            clear hm HI
            simp only [bestI]
            go_wp2
            go_ret2
            exact ⟨by rw [HR2.out]; rfl, hbl⟩
    · have HR := Lib.hid (HC.out false (by rw [hv, decide_eq_false hs]; rfl))
      have hs' : 1048576 < sz := by omega
      go_enter Try.func35, Try.ntmps35
      go_wp2_with (go_at_call 17; refine (rvalid_any sz l A c _ hl hbig).mono ?_; rintro e w1 ⟨rfl, hb1⟩; rw [hv])
      go_ret2
      exact ⟨by rw [HR.out]; rfl, hb1⟩
end Go.Proofs.Ytbnkpknoknenjaa
