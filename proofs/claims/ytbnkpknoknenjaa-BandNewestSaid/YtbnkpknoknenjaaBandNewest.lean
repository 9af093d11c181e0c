/-
  WHAT IS SHOWN: tegulalaw16.BandNewest returns true for any list of bands, any size, band and time, and changes nothing. No condition.
-/
import Derived.Test.YtbnkpknoknenjaaBand6
import Derived.Test.YtbnkpknoknenjaaOpen
import Derived.Test.YtbnkpknoknenjaaBandLaws
import Derived.Deep.RegionHeld3
namespace Go.Proofs.Ytbnkpknoknenjaa
set_option linter.unusedVariables false
open Go.ChangeShapes Go.WideShapes Go.ChangeAt Go.RowKit

set_option maxHeartbeats 4000000 in
theorem bandNewest_walk (A : Option Addr) (n c : Nat) (l : List BI) (x y z : Int) (w : World) (hb : Bands w A n c l) (hx : I64 x) (hu : U64 z) :
    Calls Try.prog 5 #[.agg #[.slice A n c, .int .i64 x, .int .i64 y, .int .u64 z]] w fun e w' => e = .returned (.bool true) ∧ Below w.heap.size w w' := by
  obtain ⟨rfl, hl, hok, _, hbig⟩ := hb
  have hbl0 : Below w.heap.size w (w.alloc (.cells #[.slice A l.length c, .int .i64 x, .int .i64 y, .int .u64 z] 29)) := (Below.refl _ _).alloc (Nat.le_refl _) _
  cases hv : validB l x
  · go_enter Try.func5, Try.ntmps5
    go_wp2_with fail
    refine (awake_any _).mono ?_
    rintro e w1 ⟨rfl, hb1⟩
    have hbl1 := hbl0.trans (hb1.mono hbl0.size)
    have PB1 := Cells4.below (Cells4.new w 29 _ _ _ _) hb1 (by simp)
    have hz1 : w.heap.size < w1.heap.size := by have := hb1.size; simp at this; omega
    clear hb1 hbl0
    have p0 := PB1.c0
    have p1 := PB1.c1
    have p2 := PB1.c2
    have p3 := PB1.c3
    go_wp2_with fail
    refine (rvalid_any x l _ c _ ((hl.below hbl1 (Nat.le_refl _)).more hbl1.size) hbig).mono ?_
    rintro e w2 ⟨rfl, hb2⟩
    have hbl2 := hbl1.trans (hb2.mono hbl1.size)
    rw [hv]
    have HV := Lib.hid hv
    clear hv
    clear p0 p1 p2 p3
    have hz2 := Nat.lt_of_lt_of_le hz1 hb2.size
    have PB2 := PB1.below hb2 hz1
    have p0 := PB2.c0
    have p1 := PB2.c1
    have p2 := PB2.c2
    have p3 := PB2.c3
    go_wp2_with fail
    refine (awake_any _).mono ?_
    rintro e w3 ⟨rfl, hb3⟩
    go_wp2
    go_ret
    exact ⟨rfl, hbl2.trans (hb3.mono hbl2.size)⟩
  · by_cases g1 : 2 ≤ x
    · by_cases g2 : 0 ≤ y
      · obtain ⟨k, rfl⟩ := Int.eq_ofNat_of_zero_le g2
        by_cases g3 : k < l.length
        · have hbl := Below.refl w.heap.size w
          by_cases g4 : l[k].used = 0
          · have g4' := Lib.hid g4
            have hn := ((validB_iff l x).1 hv).2.1
            have HN := Lib.hid (fun h => newest (now := z) g3 hx hv g1 g4 h)
            clear g4
            have d1 : decide (x < 2) = false := decide_eq_false (by omega)
            have d2 : decide ((k : Int) < 0) = false := decide_eq_false (by omega)
            have d3 : decide (l.length ≤ k) = false := decide_eq_false (by omega)
            go_enter Try.func5, Try.ntmps5
            go_wp2_with fail
            refine (awake_any _).mono ?_
            rintro e w1 ⟨rfl, hb1⟩
            have hbl1 := hbl0.trans (hb1.mono hbl0.size)
            have PB1 := Cells4.below (Cells4.new w 29 _ _ _ _) hb1 (by simp)
            have hz1 : w.heap.size < w1.heap.size := by have := hb1.size; simp at this; omega
            clear hb1 hbl0
            have p0 := PB1.c0
            have p1 := PB1.c1
            have p2 := PB1.c2
            have p3 := PB1.c3
            go_wp2_with fail
            refine (rvalid_any x l _ c _ ((hl.below hbl1 (Nat.le_refl _)).more hbl1.size) hbig).mono ?_
            rintro e w2 ⟨rfl, hb2⟩
            have hbl2 := hbl1.trans (hb2.mono hbl1.size)
            rw [hv]
            have HV := Lib.hid hv
            clear hv
            clear p0 p1 p2 p3
            have hz2 := Nat.lt_of_lt_of_le hz1 hb2.size
            have PB2 := PB1.below hb2 hz1
            have p0 := PB2.c0
            have p1 := PB2.c1
            have p2 := PB2.c2
            have p3 := PB2.c3
            have R0 := ((hl.below hbl2 (Nat.le_refl _)).more hbl2.size)
            obtain ⟨g, o, rfl, hg, h0, _, _, _⟩ := R0.band (get_some g3)
            rw [g4'.out] at h0
            go_wp2
            clear h0
            go_loopw [3] (fun i wr => ∃ m : Nat, m ≤ l.length ∧ i = .int .i64 m ∧ Hid (∀ b ∈ l.take m, b.age < z) ∧ Below w2.heap.size w2 wr) (fun i _ => l.length - (intOf i).toNat)
            case atStart => exact ⟨0, Nat.zero_le _, rfl, by unfold Hid; simp, Below.refl _ _⟩
            case round =>
              obtain ⟨m, hm, rfl, HA, hbr⟩ := hrel
              have hbl3 := hbl2.trans (hbr.mono hbl2.size)
              have PB3 := PB2.below hbr hz2
              clear p0 p1 p2 p3
              have p0 := PB3.c0
              have p1 := PB3.c1
              have p2 := PB3.c2
              have p3 := PB3.c3
              by_cases hlt : m < l.length
              · obtain ⟨g', o', e, hg', h0, h1, h2, h3⟩ := R0.band (get_some hlt)
                simp only [Option.some.injEq, Addr.mk.injEq, and_true] at e
                obtain ⟨rfl, rfl⟩ := e
                have j2 := (hbr.cell (p := ⟨g, _, none⟩) hg).trans h2
                clear h0 h1 h2 h3
                by_cases ha : z ≤ l[m].age
                · go_wp2
                  go_quiet (fail)
                  go_wp2
                  go_ret
                  exact ⟨rfl, below_drewN' hbl3 _⟩
                · go_wp2
                  go_quiet (fail)
                  go_wp2
                  go_roundw
                  case rel =>
                    refine ⟨m + 1, by omega, by go_num, ?_, below_drewN' hbr _⟩
                    unfold Hid
                    intro b hb
                    rw [List.take_succ_eq_append_getElem hlt, List.mem_append] at hb
                    rcases hb with hb | hb
                    · exact HA.out b hb
                    · simp at hb; subst hb; omega
                  case measure => simp [intOf]; omega
              · have hall : ∀ b ∈ l, b.age < z := by
                  have := HA.out
                  rw [List.take_of_length_le (by omega)] at this
                  exact this
                obtain ⟨n1, n2, n3⟩ := HN.out hall
                have N1 := Lib.hid n1; have N2 := Lib.hid n2; have N3 := Lib.hid n3
                clear n1 n2 n3 hall
                have hwr := hbl3.size
                have hzr : w.heap.size < wr.heap.size := by have := hbr.size; omega
                go_wp2_with fail
                refine (append_any l x k z hok (some ⟨g, o, none⟩) c wr ((hl.below hbl3 (Nat.le_refl _)).more hwr) (by omega)).mono ?_
                rintro e w4 ⟨A4, c4, rfl, hown4, hb4⟩
                have hbl4 := hbl3.trans (hb4.mono hwr)
                have PB4 := PB3.below hb4 hzr
                have R4 := Rd.of_own hown4
                have R4l := ((hl.below hbl4 (Nat.le_refl _)).more hbl4.size)
                have HL1 : (appL l x k z).length ≤ 100 := by unfold appL; split <;> simp <;> omega
                rw [N1.out]
                clear hown4
                clear p0 p1 p2 p3
                have p0 := PB4.c0
                have p1 := PB4.c1
                have p2 := PB4.c2
                have p3 := PB4.c3
                have hz4 : w.heap.size < w4.heap.size := Nat.lt_of_lt_of_le hzr hb4.size
                have C1 : ∀ W, Below w4.heap.size w4 W → Calls Try.prog 20 #[.slice A4 (appL l x k z).length c4, .int .i64 x] W fun e w' => e = .returned (.int .i64 k) ∧ Below W.heap.size W w' := fun W h => by
                  have := open_any x (appL l x k z) A4 c4 W ((R4.below h (Nat.le_refl _)).more h.size) (by omega); rw [N2.out] at this; exact this
                have C2 : ∀ W, Below w4.heap.size w4 W → Calls Try.prog 18 #[.slice A4 (appL l x k z).length c4] W fun e w' => e = .returned (.int .i64 (freeN l - 1)) ∧ Below W.heap.size W w' := fun W h => by
                  have := free_any (appL l x k z) A4 c4 W ((R4.below h (Nat.le_refl _)).more h.size) (by omega); rw [N3.out] at this; exact this
                have C3 : ∀ W, Below w4.heap.size w4 W → Calls Try.prog 18 #[.slice (some ⟨g, o, none⟩) l.length c] W fun e w' => e = .returned (.int .i64 (freeN l)) ∧ Below W.heap.size W w' := fun W h =>
                  free_any l (some ⟨g, o, none⟩) c W ((R4l.below h (Nat.le_refl _)).more h.size) (by omega)
                obtain ⟨hf1, hf2⟩ := freeN_le l
                have KK : ∀ W, Below w4.heap.size w4 W → W.cell? ⟨w.heap.size, 0, none⟩ = some (.slice (some ⟨g, o, none⟩) l.length c) ∧ W.cell? ⟨w.heap.size, 1, none⟩ = some (.int .i64 x) ∧ W.cell? ⟨w.heap.size, 2, none⟩ = some (.int .i64 k) := fun W h => by
                  have := PB4.below h hz4; exact ⟨this.c0, this.c1, this.c2⟩
                have D1 := Lib.hid C1; have D2 := Lib.hid C2; have D3 := Lib.hid C3; have DK := Lib.hid KK
                clear C1 C2 C3 KK HA HN N1 N2 N3
                generalize freeN l = F at *
                generalize appL l x k z = L at *
                go_wp2_with fail
                have hfw : IntKind.i64.wrap (F - 1) = F - 1 := by rw [IntKind.wrap_i64]; omega
                go_region_held3 (fun w' => w'.cell? ⟨w.heap.size, 0, none⟩ = some (.slice (some ⟨g, o, none⟩) l.length c) ∧ w'.cell? ⟨w.heap.size, 1, none⟩ = some (.int .i64 x) ∧ w'.cell? ⟨w.heap.size, 2, none⟩ = some (.int .i64 k))
                  (first | exact DK.out _ hq7 | exact DK.out _ hq6 | exact DK.out _ hq5 | exact DK.out _ ((Below.refl _ _).drew))
                  (first
                    | (go_at_call 20; refine (D1.out _ ((Below.refl _ _).drew)).mono ?_; rintro e w5 ⟨rfl, hb5⟩; have hq5 : Below w4.heap.size w4 w5 := ((Below.refl _ _).drew).trans hb5)
                    | (go_at_call 18; refine (D3.out _ hq6).mono ?_; rintro e w7 ⟨rfl, hb7⟩; have hq7 : Below w4.heap.size w4 w7 := hq6.trans (hb7.mono hq6.size))
                    | (go_at_call 18; refine (D2.out _ hq5).mono ?_; rintro e w6 ⟨rfl, hb6⟩; have hq6 : Below w4.heap.size w4 w6 := hq5.trans (hb6.mono hq5.size)))
                go_wp2
                go_ret
                exact ⟨by simp, hbl4.trans (hq7.mono hbl4.size)⟩
          · obtain ⟨g, o, rfl, hg, h0, h1, h2, h3⟩ := (hl).band (get_some g3)
            have j0 := (hbl.cell (p := ⟨g, _, none⟩) hg).trans h0
            have j1 := (hbl.cell (p := ⟨g, _, none⟩) hg).trans h1
            have j2 := (hbl.cell (p := ⟨g, _, none⟩) hg).trans h2
            have j3 := (hbl.cell (p := ⟨g, _, none⟩) hg).trans h3
            clear h0 h1 h2 h3
            clear j1 j2 j3
            go_enter Try.func5, Try.ntmps5
            go_wp2_with fail
            refine (awake_any _).mono ?_
            rintro e w1 ⟨rfl, hb1⟩
            have hbl1 := hbl0.trans (hb1.mono hbl0.size)
            have PB1 := Cells4.below (Cells4.new w 29 _ _ _ _) hb1 (by simp)
            have hz1 : w.heap.size < w1.heap.size := by have := hb1.size; simp at this; omega
            clear hb1 hbl0
            have p0 := PB1.c0
            have p1 := PB1.c1
            have p2 := PB1.c2
            have p3 := PB1.c3
            go_wp2_with fail
            refine (rvalid_any x l _ c _ ((hl.below hbl1 (Nat.le_refl _)).more hbl1.size) hbig).mono ?_
            rintro e w2 ⟨rfl, hb2⟩
            have hbl2 := hbl1.trans (hb2.mono hbl1.size)
            rw [hv]
            have HV := Lib.hid hv
            clear hv
            clear p0 p1 p2 p3
            have hz2 := Nat.lt_of_lt_of_le hz1 hb2.size
            have PB2 := PB1.below hb2 hz1
            have p0 := PB2.c0
            have p1 := PB2.c1
            have p2 := PB2.c2
            have p3 := PB2.c3
            have j0' := (hbl2.cell (p := ⟨g, _, none⟩) hg).trans j0
            have dn : (l[k].used != 0) = true := by simpa using g4
            clear g4
            go_wp2_with fail
            refine (awake_any _).mono ?_
            rintro e w3 ⟨rfl, hb3⟩
            go_wp2
            go_ret
            exact ⟨rfl, hbl2.trans (hb3.mono hbl2.size)⟩
        · go_enter Try.func5, Try.ntmps5
          go_wp2_with fail
          refine (awake_any _).mono ?_
          rintro e w1 ⟨rfl, hb1⟩
          have hbl1 := hbl0.trans (hb1.mono hbl0.size)
          have PB1 := Cells4.below (Cells4.new w 29 _ _ _ _) hb1 (by simp)
          have hz1 : w.heap.size < w1.heap.size := by have := hb1.size; simp at this; omega
          clear hb1 hbl0
          have p0 := PB1.c0
          have p1 := PB1.c1
          have p2 := PB1.c2
          have p3 := PB1.c3
          go_wp2_with fail
          refine (rvalid_any x l _ c _ ((hl.below hbl1 (Nat.le_refl _)).more hbl1.size) hbig).mono ?_
          rintro e w2 ⟨rfl, hb2⟩
          have hbl2 := hbl1.trans (hb2.mono hbl1.size)
          rw [hv]
          have HV := Lib.hid hv
          clear hv
          clear p0 p1 p2 p3
          have hz2 := Nat.lt_of_lt_of_le hz1 hb2.size
          have PB2 := PB1.below hb2 hz1
          have p0 := PB2.c0
          have p1 := PB2.c1
          have p2 := PB2.c2
          have p3 := PB2.c3
          go_wp2_with fail
          refine (awake_any _).mono ?_
          rintro e w3 ⟨rfl, hb3⟩
          go_wp2
          go_ret
          exact ⟨rfl, hbl2.trans (hb3.mono hbl2.size)⟩
      · go_enter Try.func5, Try.ntmps5
        go_wp2_with fail
        refine (awake_any _).mono ?_
        rintro e w1 ⟨rfl, hb1⟩
        have hbl1 := hbl0.trans (hb1.mono hbl0.size)
        have PB1 := Cells4.below (Cells4.new w 29 _ _ _ _) hb1 (by simp)
        have hz1 : w.heap.size < w1.heap.size := by have := hb1.size; simp at this; omega
        clear hb1 hbl0
        have p0 := PB1.c0
        have p1 := PB1.c1
        have p2 := PB1.c2
        have p3 := PB1.c3
        go_wp2_with fail
        refine (rvalid_any x l _ c _ ((hl.below hbl1 (Nat.le_refl _)).more hbl1.size) hbig).mono ?_
        rintro e w2 ⟨rfl, hb2⟩
        have hbl2 := hbl1.trans (hb2.mono hbl1.size)
        rw [hv]
        have HV := Lib.hid hv
        clear hv
        clear p0 p1 p2 p3
        have hz2 := Nat.lt_of_lt_of_le hz1 hb2.size
        have PB2 := PB1.below hb2 hz1
        have p0 := PB2.c0
        have p1 := PB2.c1
        have p2 := PB2.c2
        have p3 := PB2.c3
        go_wp2_with fail
        refine (awake_any _).mono ?_
        rintro e w3 ⟨rfl, hb3⟩
        go_wp2
        go_ret
        exact ⟨rfl, hbl2.trans (hb3.mono hbl2.size)⟩
    · go_enter Try.func5, Try.ntmps5
      go_wp2_with fail
      refine (awake_any _).mono ?_
      rintro e w1 ⟨rfl, hb1⟩
      have hbl1 := hbl0.trans (hb1.mono hbl0.size)
      have PB1 := Cells4.below (Cells4.new w 29 _ _ _ _) hb1 (by simp)
      have hz1 : w.heap.size < w1.heap.size := by have := hb1.size; simp at this; omega
      clear hb1 hbl0
      have p0 := PB1.c0
      have p1 := PB1.c1
      have p2 := PB1.c2
      have p3 := PB1.c3
      go_wp2_with fail
      refine (rvalid_any x l _ c _ ((hl.below hbl1 (Nat.le_refl _)).more hbl1.size) hbig).mono ?_
      rintro e w2 ⟨rfl, hb2⟩
      have hbl2 := hbl1.trans (hb2.mono hbl1.size)
      rw [hv]
      have HV := Lib.hid hv
      clear hv
      clear p0 p1 p2 p3
      have hz2 := Nat.lt_of_lt_of_le hz1 hb2.size
      have PB2 := PB1.below hb2 hz1
      have p0 := PB2.c0
      have p1 := PB2.c1
      have p2 := PB2.c2
      have p3 := PB2.c3
      go_wp2_with fail
      refine (awake_any _).mono ?_
      rintro e w3 ⟨rfl, hb3⟩
      go_wp2
      go_ret
      exact ⟨rfl, hbl2.trans (hb3.mono hbl2.size)⟩

set_option maxRecDepth 100000 in
theorem bandNewest_lifted (os : Os) (started : os.Started) (H : Type) (enc : TypeId × Value → H) :
    ReturnsInHanded {} Try.checked os 5 .any (Rows.bandNewestSpec.pre6 enc Try.prog Try.f5 Rows.bandNewestRow.domain false) (Rows.bandNewestSpec.post enc Try.prog Try.f5 false true false false) := by
  refine returnsInHanded_of_change (C := Try.checked) own started (by kernel_rfl) Try.func5
    (ChangeSpec.witness6 (enc := enc) (C := Try.checked) false ⟨#[], #[.agg #[.slice none 0 0, .int .i64 0, .int .i64 0, .int .u64 0]], []⟩ 8 (by kernel_rfl) (by kernel_rfl) (by kernel_rfl) (by kernel_rfl)) ?_
  intro W base args ds gs before hval0 hW hcnd _
  have hval : ∀ (j : Nat) t v, Try.f5.params[j]? = some t → args[j]? = some v → Value.okWide Try.prog W .any base t v := hval0
  have hW' := hW
  obtain ⟨p, q, hA0, hV, rfl, hfz, hnd⟩ := hW
  have hA : DataW.TrodAll enc Try.prog W 0 (fun _ => true) true Try.f5.params.toList args.toList ds p := hA0
  rw [Try.params5] at hA hval
  obtain ⟨v0, vs0, d0, ds0, p0, q0, hargs, rfl, rfl, h0, r0⟩ := trodAll_cons hA
  obtain ⟨rfl, rfl, rfl⟩ := trodAll_nil r0
  obtain rfl : args = #[v0] := by cases args; simp_all
  obtain ⟨rfl, rfl⟩ := trodVars_none hV
  have k0 := h0
  have lt0 : ∀ x ∈ p0, x.block < W.heap.size := by obtain ⟨m, hm⟩ := k0; exact DataW.trod_lt m _ _ _ hm
  obtain ⟨A, n, c, l, x, y, z, rfl, hb, hx, hy, hz⟩ := open_count (hval 0 _ _ rfl rfl) h0
  clear hA0 hval0
  refine (bandNewest_walk A n c l x y z W hb hx hz).mono fun e W' ⟨he, bel⟩ => ?_
  subst he
  exact ⟨_, rfl, _, _, _, [], _, [], hW', trodAll_mk1 (shut_bool Try.underlying4 _), (trodAll_cons_mk (Below.trod laidOut (by kernel_rfl) (of_decide_eq_true (by kernel_rfl)) k0 bel lt0) trodAll_mk0), rfl, bel.frame _, fun h => by cases h⟩

/-- The statement. -/
theorem bandNewest_holds : Rows.BandNewestSaid :=
  OpenClaim.holds_of_wide 5 Try.f5 rfl rfl rfl rfl rfl rfl rfl ⟨rfl, rfl, rfl, rfl, rfl⟩ rfl rfl rfl rfl rfl (by kernel_rfl) Try.func5 (by kernel_rfl)
    (of_decide_eq_true (by kernel_rfl)) (by unfold Func.isWrapper; first | (rw [if_pos (by decide +kernel)]; kernel_rfl) | (rw [if_neg (by decide +kernel)]; exact ⟨rfl, rfl⟩))
    (fun os started H enc _ => bandNewest_lifted os started H enc)
#print axioms bandNewest_holds
end Go.Proofs.Ytbnkpknoknenjaa
