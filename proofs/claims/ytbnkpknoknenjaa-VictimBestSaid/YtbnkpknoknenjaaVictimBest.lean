/-
  WHAT IS SHOWN: tegulalaw18.VictimBest returns true for any list of bands, any size, time and band, and changes nothing. No condition.
-/
import Derived.Test.YtbnkpknoknenjaaVictim8
import Derived.Test.YtbnkpknoknenjaaVictimLaws
namespace Go.Proofs.Ytbnkpknoknenjaa
set_option linter.unusedVariables false
open Go.ChangeShapes Go.WideShapes Go.ChangeAt Go.RowKit

set_option maxRecDepth 100000 in
set_option maxHeartbeats 2000000 in
theorem victimBest_walk (A : Option Addr) (n c : Nat) (l : List BI) (x y z : Int) (w : World) (hb : Bands w A n c l) (hu : U64 z) :
    Calls Try.prog 13 #[.agg #[.slice A n c, .int .i64 x, .int .i64 y, .int .u64 z]] w fun e w' => e = .returned (.bool true) ∧ Below w.heap.size w w' := by
  obtain ⟨rfl, hl, hok, _, hbig⟩ := hb
  have hbl0 : Below w.heap.size w (w.alloc (.cells #[.slice A l.length c, .int .i64 x, .int .i64 y, .int .u64 z] 43)) := (Below.refl _ _).alloc (Nat.le_refl _) _
  by_cases hn : l.length ≤ 100
  · cases hv : validB l x
    · go_enter Try.func13, Try.ntmps13
      go_wp2_with fail
      refine (awake18_any _).mono ?_
      rintro e w1 ⟨rfl, hb1⟩
      have hbl1 := hbl0.trans (hb1.mono hbl0.size)
      have PB1 := Cells4.below (Cells4.new w 43 _ _ _ _) hb1 (by simp)
      have hz1 : w.heap.size < w1.heap.size := by have := hb1.size; simp at this; omega
      clear hb1 hbl0
      have p0 := PB1.c0
      have p1 := PB1.c1
      have p2 := PB1.c2
      have p3 := PB1.c3
      go_wp2_with fail
      refine (rvalid_any x l A c _ ((hl.below hbl1 (Nat.le_refl _)).more hbl1.size) hbig).mono ?_
      rintro e w2 ⟨rfl, hb2⟩
      have hbl2 := hbl1.trans (hb2.mono hbl1.size)
      rw [hv]
      clear hv
      clear p0 p1 p2 p3
      have hz2 := Nat.lt_of_lt_of_le hz1 hb2.size
      have PB2 := PB1.below hb2 hz1
      have p0 := PB2.c0
      have p1 := PB2.c1
      have p2 := PB2.c2
      have p3 := PB2.c3
      go_wp2_with fail
      refine (awake18_any _).mono ?_
      rintro e w3 ⟨rfl, hb3⟩
      go_wp2
      go_ret
      exact ⟨rfl, hbl2.trans (hb3.mono hbl2.size)⟩
    · by_cases hs : x ≤ 1048576
      · have HT := Lib.hid (choose_told (now := z) (opn := y) hv hs)
        have hd0 : decide (1048576 < x) = false := decide_eq_false (by omega)
        go_enter Try.func13, Try.ntmps13
        go_wp2_with fail
        refine (awake18_any _).mono ?_
        rintro e w1 ⟨rfl, hb1⟩
        have hbl1 := hbl0.trans (hb1.mono hbl0.size)
        have PB1 := Cells4.below (Cells4.new w 43 _ _ _ _) hb1 (by simp)
        have hz1 : w.heap.size < w1.heap.size := by have := hb1.size; simp at this; omega
        clear hb1 hbl0
        have p0 := PB1.c0
        have p1 := PB1.c1
        have p2 := PB1.c2
        have p3 := PB1.c3
        go_wp2_with fail
        refine (rvalid_any x l A c _ ((hl.below hbl1 (Nat.le_refl _)).more hbl1.size) hbig).mono ?_
        rintro e w2 ⟨rfl, hb2⟩
        have hbl2 := hbl1.trans (hb2.mono hbl1.size)
        rw [hv]
        clear hv
        clear p0 p1 p2 p3
        have hz2 := Nat.lt_of_lt_of_le hz1 hb2.size
        have PB2 := PB1.below hb2 hz1
        have p0 := PB2.c0
        have p1 := PB2.c1
        have p2 := PB2.c2
        have p3 := PB2.c3
        go_wp2_with fail
        refine (choose_any l hok x z y hu A c _ ((hl.below hbl2 (Nat.le_refl _)).more hbl2.size) hbig).mono ?_
        rintro e w3 ⟨rfl, hb3⟩
        have hbl3 := hbl2.trans (hb3.mono hbl2.size)
        clear p0 p1 p2 p3
        have hz3 := Nat.lt_of_lt_of_le hz2 hb3.size
        have PB3 := PB2.below hb3 hz2
        have p0 := PB3.c0
        have p1 := PB3.c1
        have p2 := PB3.c2
        have p3 := PB3.c3
        have hl3 := ((hl.below hbl3 (Nat.le_refl _)).more hbl3.size)
        clear hbl2 hbl1 hb3 hb2 PB1 PB2 hz1 hz2
        rcases HT.out with ⟨hch, hno⟩ | ⟨m, hm, hch, hcm, hall⟩
        · rw [hch]
          simp only
          have HNO := Lib.hid hno
          clear hch hno HT
          go_wp2
          go_loopw [5, 6] (fun s i wr => ∃ k : Nat, k ≤ l.length ∧ i = .int .i64 k ∧ s = .bool false ∧ Below w3.heap.size w3 wr) (fun _ i _ => l.length - (intOf i).toNat)
          case atStart => exact ⟨0, Nat.zero_le _, rfl, rfl, Below.refl _ _⟩
          case round =>
            obtain ⟨k, hk, rfl, rfl, hbr⟩ := hrel
            have PBr := PB3.below hbr hz3
            clear p0 p1 p2 p3
            have p0 := PBr.c0
            have p1 := PBr.c1
            have p2 := PBr.c2
            have p3 := PBr.c3
            have hlr : Rd wr wr.heap.size A (flat l) := (hl3.below hbr (Nat.le_refl _)).more hbr.size
            by_cases hlt : k < l.length
            · have C1 := Lib.hid (fun W h => cand_any l x y k hlt A c W h hbig)
              rw [HNO.out k hlt] at C1
              go_wp2_with fail
              refine (C1.out _ hlr).mono ?_
              rintro e w4 ⟨rfl, hb4⟩
              go_wp2
              go_roundw
              case rel => exact ⟨k + 1, by omega, by go_num, rfl, hbr.trans (hb4.mono hbr.size)⟩
              case measure => simp [intOf]; omega
            · go_wp2
              go_ret
              exact ⟨by first | rfl | simp, hbl3.trans (hbr.mono hbl3.size)⟩
        · rw [hch]
          simp only
          have HALL := Lib.hid hall
          have hmo := oks_get hok hm
          have m1 : (0 : Int) ≤ m := by omega
          have m2 : (m : Int) < l.length := by omega
          have m3 : decide ((m : Int) < 0) = false := decide_eq_false (by omega)
          have m4 : decide (l.length ≤ m) = false := decide_eq_false (by omega)
          clear hch hall HT
          go_wp2
          go_loopw [5, 6] (fun s i wr => ∃ (k : Nat) (sb : Bool), k ≤ l.length ∧ i = .int .i64 k ∧ s = .bool sb ∧ Hid (m < k → sb = true) ∧ Below w3.heap.size w3 wr) (fun _ i _ => l.length - (intOf i).toNat)
          case atStart => exact ⟨0, false, Nat.zero_le _, rfl, rfl, by unfold Hid; omega, Below.refl _ _⟩
          case round =>
            obtain ⟨k, sb, hk, rfl, rfl, HS, hbr⟩ := hrel
            have PBr := PB3.below hbr hz3
            clear p0 p1 p2 p3
            have p0 := PBr.c0
            have p1 := PBr.c1
            have p2 := PBr.c2
            have p3 := PBr.c3
            have hlr : Rd wr wr.heap.size A (flat l) := (hl3.below hbr (Nat.le_refl _)).more hbr.size
            by_cases hlt : k < l.length
            · have C1 := Lib.hid (fun W h => cand_any l x y k hlt A c W h hbig)
              cases hck : candB x y k l[k]
              · rw [hck] at C1
                go_wp2_with fail
                refine (C1.out _ hlr).mono ?_
                rintro e w4 ⟨rfl, hb4⟩
                go_wp2
                go_roundw
                case rel =>
                  refine ⟨k + 1, sb, by omega, by go_num, rfl, ?_, hbr.trans (hb4.mono hbr.size)⟩
                  unfold Hid; intro hmk
                  by_cases hmk2 : m < k
                  · exact HS.out hmk2
                  · obtain rfl : m = k := by omega
                    rw [hcm] at hck; cases hck
                case measure => simp [intOf]; omega
              · rw [hck] at C1
                obtain ⟨b1, b2⟩ := HALL.out k hlt hck
                have hko := oks_get hok hlt
                have q4 : (0 : Int) ≤ k := by omega
                have q5 : (k : Int) < l.length := by omega
                have D1 : Hid (∀ W, Calls Try.prog 32 #[.agg #[.int .i64 l[k].used, .int .i64 l[k].live, .int .u64 l[k].age, .int .u64 l[k].wear], .agg #[.int .i64 l[m].used, .int .i64 l[m].live, .int .u64 l[m].age, .int .u64 l[m].wear], .int .i64 x, .int .u64 z] W fun e w' => e = .returned (.bool false) ∧ Below W.heap.size W w') := by
                  unfold Hid; intro W; have := better_any l[k] l[m] hko hmo x z hu W; rw [b1] at this; exact this
                have D2 := Lib.hid (fun W => better_any l[m] l[k] hmo hko x z hu W)
                have B2 := Lib.hid b2
                clear hck b1 b2
                go_wp2_with fail
                refine (C1.out _ hlr).mono ?_
                rintro e w4 ⟨rfl, hb4⟩
                have hb34 := hbr.trans (hb4.mono hbr.size)
                have hl4 : Rd w4 w4.heap.size A (flat l) := (hl3.below hb34 (Nat.le_refl _)).more hb34.size
                have PB4 := PB3.below hb34 hz3
                have hz4 : w.heap.size < w4.heap.size := Nat.lt_of_lt_of_le hz3 hb34.size
                clear p0 p1 p2 p3
                clear C1 hlr PBr hbr hb4
                obtain ⟨g, o, rfl, hg, h0, h1, h2, h3⟩ := hl4.band (get_some hlt)
                obtain ⟨g', o', e, _, i0, i1, i2, i3⟩ := hl4.band (get_some hm)
                simp only [Option.some.injEq, Addr.mk.injEq, and_true] at e
                obtain ⟨rfl, rfl⟩ := e
                generalize hX : l[k] = X at *
                generalize hY : l[m] = Y at *
                have HX' := Lib.hid hX
                have HY' := Lib.hid hY
                clear hX hY
                have s0 := Held.cell h0 hg
                have s1 := Held.cell h1 hg
                have s2 := Held.cell h2 hg
                have s3 := Held.cell h3 hg
                have r0 := Held.cell i0 hg
                have r1 := Held.cell i1 hg
                have r2 := Held.cell i2 hg
                have r3 := Held.cell i3 hg
                have t0 := Held.cell PB4.c0 hz4
                have t1 := Held.cell PB4.c1 hz4
                have t2 := Held.cell PB4.c2 hz4
                have t3 := Held.cell PB4.c3 hz4
                clear h0 h1 h2 h3 i0 i1 i2 i3 hl4
                cases hbt : betterB Y X x z
                · rw [hbt] at D2
                  have hww : ¬ (X.wear < Y.wear) := by
                    rcases B2.out with h | h
                    · rw [hbt] at h; cases h
                    · omega
                  clear hbt B2
                  have hw' : decide (X.wear < Y.wear) = false := decide_eq_false hww
                  go_wp2
                  have hne : Nonempty (Held (Below w4.heap.size w4)) := ⟨⟨_, (Held.drew_below (Nat.le_refl _))⟩⟩
                  refine wp_region_heldq (S := (Below w4.heap.size w4)) (by kernel_rfl) (by kernel_rfl) (Held.drew_below (Nat.le_refl _)) ?_
                  repeat (go_big_quiet_step ((first | (go_at_call 32; exact Calls.held_below (Nat.le_refl _) (by with_reducible exact (D1.out _))) | (go_at_call 32; exact Calls.held_below (Nat.le_refl _) (by with_reducible exact (D2.out _))))))
                  refine wpQuiet_nil ?_
                  intro _ hw'
                  obtain ⟨sq, hw''⟩ := hw'
                  subst hw''
                  clear hne
                  go_wp2
                  go_roundw
                  case rel => exact ⟨k + 1, true, by omega, by go_num, rfl, by unfold Hid; intro _; rfl, hb34.trans (sq.h.mono hb34.size)⟩
                  case measure => simp [intOf]; omega
                · rw [hbt] at D2
                  clear hbt B2
                  go_wp2
                  have hne : Nonempty (Held (Below w4.heap.size w4)) := ⟨⟨_, (Held.drew_below (Nat.le_refl _))⟩⟩
                  refine wp_region_heldq (S := (Below w4.heap.size w4)) (by kernel_rfl) (by kernel_rfl) (Held.drew_below (Nat.le_refl _)) ?_
                  repeat (go_big_quiet_step ((first | (go_at_call 32; exact Calls.held_below (Nat.le_refl _) (by with_reducible exact (D1.out _))) | (go_at_call 32; exact Calls.held_below (Nat.le_refl _) (by with_reducible exact (D2.out _))))))
                  refine wpQuiet_nil ?_
                  intro _ hw'
                  obtain ⟨sq, hw''⟩ := hw'
                  subst hw''
                  clear hne
                  go_wp2
                  go_roundw
                  case rel => exact ⟨k + 1, true, by omega, by go_num, rfl, by unfold Hid; intro _; rfl, hb34.trans (sq.h.mono hb34.size)⟩
                  case measure => simp [intOf]; omega
            · have hsb : sb = true := HS.out (by omega)
              subst hsb
              have C1 := Lib.hid (fun W h => cand_any l x y m hm A c W h hbig)
              rw [hcm] at C1
              go_wp2_with fail
              refine (C1.out _ hlr).mono ?_
              rintro e w4 ⟨rfl, hb4⟩
              go_wp2
              go_ret
              exact ⟨by first | rfl | simp, hbl3.trans ((hbr.trans (hb4.mono hbr.size)).mono hbl3.size)⟩
      · have hd0 : decide (1048576 < x) = true := decide_eq_true (by omega)
        go_enter Try.func13, Try.ntmps13
        go_wp2_with fail
        refine (awake18_any _).mono ?_
        rintro e w1 ⟨rfl, hb1⟩
        have hbl1 := hbl0.trans (hb1.mono hbl0.size)
        have PB1 := Cells4.below (Cells4.new w 43 _ _ _ _) hb1 (by simp)
        have hz1 : w.heap.size < w1.heap.size := by have := hb1.size; simp at this; omega
        clear hb1 hbl0
        have p0 := PB1.c0
        have p1 := PB1.c1
        have p2 := PB1.c2
        have p3 := PB1.c3
        go_wp2_with fail
        refine (rvalid_any x l A c _ ((hl.below hbl1 (Nat.le_refl _)).more hbl1.size) hbig).mono ?_
        rintro e w2 ⟨rfl, hb2⟩
        have hbl2 := hbl1.trans (hb2.mono hbl1.size)
        rw [hv]
        clear hv
        clear p0 p1 p2 p3
        have hz2 := Nat.lt_of_lt_of_le hz1 hb2.size
        have PB2 := PB1.below hb2 hz1
        have p0 := PB2.c0
        have p1 := PB2.c1
        have p2 := PB2.c2
        have p3 := PB2.c3
        go_wp2_with fail
        refine (awake18_any _).mono ?_
        rintro e w3 ⟨rfl, hb3⟩
        go_wp2
        go_ret
        exact ⟨rfl, hbl2.trans (hb3.mono hbl2.size)⟩
  · go_enter Try.func13, Try.ntmps13
    go_wp2_with fail
    refine (awake18_any _).mono ?_
    rintro e w1 ⟨rfl, hb1⟩
    have hbl1 := hbl0.trans (hb1.mono hbl0.size)
    have PB1 := Cells4.below (Cells4.new w 43 _ _ _ _) hb1 (by simp)
    have hz1 : w.heap.size < w1.heap.size := by have := hb1.size; simp at this; omega
    clear hb1 hbl0
    have p0 := PB1.c0
    have p1 := PB1.c1
    have p2 := PB1.c2
    have p3 := PB1.c3
    go_wp2_with fail
    refine (awake18_any _).mono ?_
    rintro e w2 ⟨rfl, hb2⟩
    go_wp2
    go_ret
    exact ⟨rfl, hbl1.trans (hb2.mono hbl1.size)⟩

set_option maxRecDepth 100000 in
theorem victimBest_lifted (os : Os) (started : os.Started) (H : Type) (enc : TypeId × Value → H) :
    ReturnsInHanded {} Try.checked os 13 .any (Rows.victimBestSpec.pre6 enc Try.prog Try.f13 Rows.victimBestRow.domain false) (Rows.victimBestSpec.post enc Try.prog Try.f13 false true false false) := by
  refine returnsInHanded_of_change (C := Try.checked) own started (by kernel_rfl) Try.func13
    (ChangeSpec.witness6 (enc := enc) (C := Try.checked) false ⟨#[], #[.agg #[.slice none 0 0, .int .i64 0, .int .i64 0, .int .u64 0]], []⟩ 8 (by kernel_rfl) (by kernel_rfl) (by kernel_rfl) (by kernel_rfl)) ?_
  intro W base args ds gs before hval0 hW hcnd _
  have hval : ∀ (j : Nat) t v, Try.f13.params[j]? = some t → args[j]? = some v → Value.okWide Try.prog W .any base t v := hval0
  have hW' := hW
  obtain ⟨p, q, hA0, hV, rfl, hfz, hnd⟩ := hW
  have hA : DataW.TrodAll enc Try.prog W 0 (fun _ => true) true Try.f13.params.toList args.toList ds p := hA0
  rw [Try.params13] at hA hval
  obtain ⟨v0, vs0, d0, ds0, p0, q0, hargs, rfl, rfl, h0, r0⟩ := trodAll_cons hA
  obtain ⟨rfl, rfl, rfl⟩ := trodAll_nil r0
  obtain rfl : args = #[v0] := by cases args; simp_all
  obtain ⟨rfl, rfl⟩ := trodVars_none hV
  have k0 := h0
  have lt0 : ∀ x ∈ p0, x.block < W.heap.size := by obtain ⟨m, hm⟩ := k0; exact DataW.trod_lt m _ _ _ hm
  obtain ⟨A, n, c, l, x, y, z, rfl, hb, hx, hy, hz⟩ := open_list (hval 0 _ _ rfl rfl) h0
  clear hA0 hval0
  refine (victimBest_walk A n c l x y z W hb hz).mono fun e W' ⟨he, bel⟩ => ?_
  subst he
  exact ⟨_, rfl, _, _, _, [], _, [], hW', trodAll_mk1 (shut_bool Try.underlying4 _), (trodAll_cons_mk (Below.trod laidOut (by kernel_rfl) (of_decide_eq_true (by kernel_rfl)) k0 bel lt0) trodAll_mk0), rfl, bel.frame _, fun h => by cases h⟩

/-- The statement. -/
theorem victimBest_holds : Rows.VictimBestSaid :=
  OpenClaim.holds_of_wide 13 Try.f13 rfl rfl rfl rfl rfl rfl rfl ⟨rfl, rfl, rfl, rfl, rfl⟩ rfl rfl rfl rfl rfl (by kernel_rfl) Try.func13 (by kernel_rfl)
    (of_decide_eq_true (by kernel_rfl)) (by unfold Func.isWrapper; first | (rw [if_pos (by decide +kernel)]; kernel_rfl) | (rw [if_neg (by decide +kernel)]; exact ⟨rfl, rfl⟩))
    (fun os started H enc _ => victimBest_lifted os started H enc)
#print axioms victimBest_holds
end Go.Proofs.Ytbnkpknoknenjaa
