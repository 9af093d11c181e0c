/-
  WHAT IS SHOWN: tegulalaw18.VictimOthers returns true for any list of bands, any size, time, bands and wear, and changes nothing. No condition.
-/
import Derived.Test.YtbnkpknoknenjaaVictim8
import Derived.Test.YtbnkpknoknenjaaVictimLaws
import Derived.Deep.DeepCutAuto
namespace Go.Proofs.Ytbnkpknoknenjaa
set_option linter.unusedVariables false
open Go.ChangeShapes Go.WideShapes Go.ChangeAt Go.RowKit

set_option maxRecDepth 100000 in
set_option maxHeartbeats 2000000 in
theorem victimOthers_walk (A : Option Addr) (n c : Nat) (l : List BI) (x y z : Int) (at_ wear : Int) (w : World) (hb : Bands w A n c l) (hu : U64 z) (hwe : U64 wear) :
    Calls Try.prog 14 #[.agg #[.slice A n c, .int .i64 x, .int .i64 y, .int .u64 z], .int .i64 at_, .int .u64 wear] w fun e w' => e = .returned (.bool true) ∧ Below w.heap.size w w' := by
  obtain ⟨rfl, hl, hok, _, hbig⟩ := hb
  obtain ⟨i0, hi, hz0, hz1, hz2⟩ := info_parts info_band
  have hbl0 : Below w.heap.size w (w.alloc (.cells #[.slice A l.length c, .int .i64 x, .int .i64 y, .int .u64 z] 43)) := (Below.refl _ _).alloc (Nat.le_refl _) _
  by_cases hn : l.length ≤ 100
  · cases hv : validB l x
    · go_enter Try.func14, Try.ntmps14
      go_wp2_with fail
      refine (awake18_any _).mono ?_
      rintro e w1 ⟨rfl, hb1⟩
      have hbl1 := hbl0.trans (hb1.mono hbl0.size)
      have PB1 := Cells4.below (Cells4.new w 43 _ _ _ _) hb1 (by simp)
      have hz1 : w.heap.size < w1.heap.size := by have := hb1.size; simp at this; omega
      clear hb1 hbl0
      have p0 := PB1.c0
      have p1 := PB1.c1
      have p2 := PB1.c2
      have p3 := PB1.c3
      go_wp2_with fail
      refine (rvalid_any x l A c _ ((hl.below hbl1 (Nat.le_refl _)).more hbl1.size) hbig).mono ?_
      rintro e w2 ⟨rfl, hb2⟩
      have hbl2 := hbl1.trans (hb2.mono hbl1.size)
      rw [hv]
      clear hv
      clear p0 p1 p2 p3
      have hz2 := Nat.lt_of_lt_of_le hz1 hb2.size
      have PB2 := PB1.below hb2 hz1
      have p0 := PB2.c0
      have p1 := PB2.c1
      have p2 := PB2.c2
      have p3 := PB2.c3
      go_wp2_with fail
      refine (awake18_any _).mono ?_
      rintro e w3 ⟨rfl, hb3⟩
      go_wp2
      go_ret
      exact ⟨rfl, hbl2.trans (hb3.mono hbl2.size)⟩
    · by_cases hs : x ≤ 1048576
      · have hd0 : decide (1048576 < x) = false := decide_eq_false (by omega)
        have HV := Lib.hid hv
        have hlen := ((validB_iff l x).1 hv).1
        by_cases g0 : at_ < 0
        · go_enter Try.func14, Try.ntmps14
          go_wp2_with fail
          refine (awake18_any _).mono ?_
          rintro e w1 ⟨rfl, hb1⟩
          have hbl1 := hbl0.trans (hb1.mono hbl0.size)
          have PB1 := Cells4.below (Cells4.new w 43 _ _ _ _) hb1 (by simp)
          have hz1 : w.heap.size < w1.heap.size := by have := hb1.size; simp at this; omega
          clear hb1 hbl0
          have p0 := PB1.c0
          have p1 := PB1.c1
          have p2 := PB1.c2
          have p3 := PB1.c3
          go_wp2_with fail
          refine (rvalid_any x l A c _ ((hl.below hbl1 (Nat.le_refl _)).more hbl1.size) hbig).mono ?_
          rintro e w2 ⟨rfl, hb2⟩
          have hbl2 := hbl1.trans (hb2.mono hbl1.size)
          rw [hv]
          clear hv
          clear p0 p1 p2 p3
          have hz2 := Nat.lt_of_lt_of_le hz1 hb2.size
          have PB2 := PB1.below hb2 hz1
          have p0 := PB2.c0
          have p1 := PB2.c1
          have p2 := PB2.c2
          have p3 := PB2.c3
          go_wp2_with fail
          refine (awake18_any _).mono ?_
          rintro e w3 ⟨rfl, hb3⟩
          go_wp2
          go_ret
          exact ⟨rfl, hbl2.trans (hb3.mono hbl2.size)⟩
        · obtain ⟨k, rfl⟩ := Int.eq_ofNat_of_zero_le (show 0 ≤ at_ by omega)
          by_cases g1 : k < l.length
          · have g2 : decide ((k : Int) < 0) = false := decide_eq_false (by omega)
            have g3 : decide (l.length ≤ k) = false := decide_eq_false (by omega)
            have C1 := Lib.hid (fun W h => cand_any l x y k g1 A c W h hbig)
            cases hc : candB x y k l[k]
            · rw [hc] at C1
              have HO := Lib.hid (choose_others (now := z) hv k g1 hc wear)
              go_enter Try.func14, Try.ntmps14
              go_wp2_with fail
              refine (awake18_any _).mono ?_
              rintro e w1 ⟨rfl, hb1⟩
              have hbl1 := hbl0.trans (hb1.mono hbl0.size)
              have PB1 := Cells4.below (Cells4.new w 43 _ _ _ _) hb1 (by simp)
              have hz1 : w.heap.size < w1.heap.size := by have := hb1.size; simp at this; omega
              clear hb1 hbl0
              have p0 := PB1.c0
              have p1 := PB1.c1
              have p2 := PB1.c2
              have p3 := PB1.c3
              go_wp2_with fail
              refine (rvalid_any x l A c _ ((hl.below hbl1 (Nat.le_refl _)).more hbl1.size) hbig).mono ?_
              rintro e w2 ⟨rfl, hb2⟩
              have hbl2 := hbl1.trans (hb2.mono hbl1.size)
              rw [hv]
              clear hv hc
              clear p0 p1 p2 p3
              have hz2 := Nat.lt_of_lt_of_le hz1 hb2.size
              have PB2 := PB1.below hb2 hz1
              have p0 := PB2.c0
              have p1 := PB2.c1
              have p2 := PB2.c2
              have p3 := PB2.c3
              go_wp2_with fail
              refine (C1.out _ ((hl.below hbl2 (Nat.le_refl _)).more hbl2.size)).mono ?_
              rintro e w3 ⟨rfl, hb3⟩
              have hbl3 := hbl2.trans (hb3.mono hbl2.size)
              clear p0 p1 p2 p3
              have hz3 := Nat.lt_of_lt_of_le hz2 hb3.size
              have PB3 := PB2.below hb3 hz2
              have p0 := PB3.c0
              have p1 := PB3.c1
              have p2 := PB3.c2
              have p3 := PB3.c3
              go_wp2_with fail
              refine (choose_any l hok x z y hu A c _ ((hl.below hbl3 (Nat.le_refl _)).more hbl3.size) hbig).mono ?_
              rintro e w4 ⟨rfl, hb4⟩
              have hbl4 := hbl3.trans (hb4.mono hbl3.size)
              clear p0 p1 p2 p3
              have hz4 := Nat.lt_of_lt_of_le hz3 hb4.size
              have PB4 := PB3.below hb4 hz3
              have p0 := PB4.c0
              have p1 := PB4.c1
              have p2 := PB4.c2
              have p3 := PB4.c3
              have hl4 := ((hl.below hbl4 (Nat.le_refl _)).more hbl4.size)
              clear C1 hb2 hb3 hb4 PB1 PB2 PB3 hbl1 hbl2 hbl3 hz1 hz2 hz3
              obtain ⟨g, o, rfl, hg, _, _, _, _⟩ := hl.band (get_some g1)
              have hro := World.ownsRow_lit (base := w4.heap.size) (e := 35) (size := 4) w4 #[] 0 (Nat.le_refl _) (by decide) rfl
              have hla := hl4.alloc (Nat.le_refl _) (.cells #[] 35)
              have pb0 := (PB4.below ((Below.refl w4.heap.size w4).alloc (Nat.le_refl _) (.cells #[] 35)) hz4).c0
              go_wp2_with (at_builtin; refine wpList_append_own _ rfl _ _ 22 rfl w4.heap.size 35 i0 _ 4 32 Try.underlying22 hi hz0 hz1 hz2 rfl (by decide) _ 0 [] rfl hro ⟨g, o, none⟩ l.length c (flat l) rfl (flat_len4 l) hla.at_add (flat_one l) ?c1 ?c2 ?c3 ?_)
              case c1 => unfold maxLen; omega
              case c2 => omega
              case c3 => simp
              intro v' w5 hown hgrow _
              try simp only [Nat.zero_add, List.nil_append] at hown
              obtain ⟨A', c', hv⟩ := own_form hown
              subst hv
              have hb5 : Below w4.heap.size w4 w5 := ((Below.refl _ _).alloc (Nat.le_refl _) _).grown hgrow (by simp) (fun k hk => by simp [Value.ownBlock] at hk; omega)
              clear pb0 hla hro hgrow
              have PB5 := PB4.below hb5 hz4
              have hz5 : w.heap.size < w5.heap.size := Nat.lt_of_lt_of_le hz4 hb5.size
              have hbl5 := hbl4.trans (hb5.mono hbl4.size)
              clear p0 p1 p2 p3
              have p0 := PB5.c0
              have p1 := PB5.c1
              have p2 := PB5.c2
              have p3 := PB5.c3
              obtain ⟨g5, e5, hg5, hs5⟩ := own_at hown (by omega)
              subst e5
              obtain ⟨g', o', e, _, a0, a1, a2, a3⟩ := (Rd.of_own hown).band (get_some g1)
              simp only [Option.some.injEq, Addr.mk.injEq, and_true] at e
              obtain ⟨rfl, rfl⟩ := e
              simp only [Nat.zero_add] at a0 a1 a2 a3
              have f5 := fun j => hown.frozenAt j
              have HX : Hid (∀ u0 u1 u2 u3, World.ownsRow ((((w5.setCell ⟨g5, k * 4, none⟩ (.int .i64 u0)).setCell ⟨g5, k * 4 + 1, none⟩ (.int .i64 u1)).setCell ⟨g5, k * 4 + 2, none⟩ (.int .u64 u2)).setCell ⟨g5, k * 4 + 3, none⟩ (.int .u64 u3)) w4.heap.size 35 4 (.slice (some ⟨g5, 0, none⟩) l.length c') l.length (flat (l.set k ⟨u0, u1, u2, u3⟩))) := by
                unfold Hid; intro u0 u1 u2 u3
                rw [flat_all l k l[k] ⟨u0, u1, u2, u3⟩ (get_some g1)]
                have s1 := (World.ownsRow.stored hown (k * 4) (.int .i64 u0)).1
                have s2 := (World.ownsRow.stored s1 (k * 4 + 1) (.int .i64 u1)).1
                have s3 := (World.ownsRow.stored s2 (k * 4 + 2) (.int .u64 u2)).1
                exact (World.ownsRow.stored s3 (k * 4 + 3) (.int .u64 u3)).1
              have HB6 : Hid (∀ u0 u1 u2 u3, Below w.heap.size w ((((w5.setCell ⟨g5, k * 4, none⟩ u0).setCell ⟨g5, k * 4 + 1, none⟩ u1).setCell ⟨g5, k * 4 + 2, none⟩ u2).setCell ⟨g5, k * 4 + 3, none⟩ u3)) := by
                unfold Hid; intro u0 u1 u2 u3
                have hgx : w.heap.size ≤ g5 := by omega
                exact (((hbl5.setCell (p := ⟨g5, k * 4, none⟩) hgx u0).setCell (p := ⟨g5, k * 4 + 1, none⟩) hgx u1).setCell (p := ⟨g5, k * 4 + 2, none⟩) hgx u2).setCell (p := ⟨g5, k * 4 + 3, none⟩) hgx u3
              have HP6 : Hid (∀ u0 u1 u2 u3, Cells4 ((((w5.setCell ⟨g5, k * 4, none⟩ u0).setCell ⟨g5, k * 4 + 1, none⟩ u1).setCell ⟨g5, k * 4 + 2, none⟩ u2).setCell ⟨g5, k * 4 + 3, none⟩ u3) w.heap.size (.slice (some ⟨g, o, none⟩) l.length c) (.int .i64 x) (.int .i64 y) (.int .u64 z)) := by
                unfold Hid; intro u0 u1 u2 u3
                exact PB5.below (B := w4.heap.size) ((((((Below.refl _ _).setCell (p := ⟨g5, k * 4, none⟩) hg5 u0).setCell (p := ⟨g5, k * 4 + 1, none⟩) hg5 u1).setCell (p := ⟨g5, k * 4 + 2, none⟩) hg5 u2).setCell (p := ⟨g5, k * 4 + 3, none⟩) hg5 u3)) hz4
              clear hown PB5 hb5
              go_upto_region 6 with fail
              have hX := HX.out 0 0 0 wear
              have hB6 := HB6.out (.int .i64 0) (.int .i64 0) (.int .u64 0) (.int .u64 wear)
              have PB6 := HP6.out (.int .i64 0) (.int .i64 0) (.int .u64 0) (.int .u64 wear)
              clear HX HB6 HP6 a0 a1 a2 a3 f5
              clear p0 p1 p2 p3
              generalize ((((w5.setCell ⟨g5, k * 4, none⟩ (.int .i64 0)).setCell ⟨g5, k * 4 + 1, none⟩ (.int .i64 0)).setCell ⟨g5, k * 4 + 2, none⟩ (.int .u64 0)).setCell ⟨g5, k * 4 + 3, none⟩ (.int .u64 wear)) = w6 at *
              have p0 := PB6.c0; have p1 := PB6.c1; have p2 := PB6.c2; have p3 := PB6.c3
              have hok2 : Oks (l.set k ⟨0, 0, 0, wear⟩) := by
                intro b hb
                rcases List.mem_or_eq_of_mem_set hb with h | h
                · exact hok b h
                · subst h; exact ⟨⟨by simp, by simp⟩, ⟨by simp, by simp⟩, ⟨by simp, by simp⟩, hwe⟩
              have hlen2 : (l.set k ⟨0, 0, 0, wear⟩).length = l.length := List.length_set
              have HL := Lib.hid hlen2
              clear hlen2
              go_wp2_with fail
              have hcall := choose_any (l.set k ⟨0, 0, 0, wear⟩) hok2 x z y hu (some ⟨g5, 0, none⟩) c' w6 (Rd.of_own hX) (by rw [HL.out]; exact hbig)
              rw [HL.out, HO.out] at hcall
              refine hcall.mono ?_
              rintro e w7 ⟨rfl, hb7⟩
              clear hcall
              generalize (chooseN l x z y).1 = R at *
              generalize (chooseN l x z y).2 = E at *
              go_wp2
              go_ret
              exact ⟨by first | rfl | simp, hB6.trans (hb7.mono hB6.size)⟩
            · rw [hc] at C1
              go_enter Try.func14, Try.ntmps14
              go_wp2_with fail
              refine (awake18_any _).mono ?_
              rintro e w1 ⟨rfl, hb1⟩
              have hbl1 := hbl0.trans (hb1.mono hbl0.size)
              have PB1 := Cells4.below (Cells4.new w 43 _ _ _ _) hb1 (by simp)
              have hz1 : w.heap.size < w1.heap.size := by have := hb1.size; simp at this; omega
              clear hb1 hbl0
              have p0 := PB1.c0
              have p1 := PB1.c1
              have p2 := PB1.c2
              have p3 := PB1.c3
              go_wp2_with fail
              refine (rvalid_any x l A c _ ((hl.below hbl1 (Nat.le_refl _)).more hbl1.size) hbig).mono ?_
              rintro e w2 ⟨rfl, hb2⟩
              have hbl2 := hbl1.trans (hb2.mono hbl1.size)
              rw [hv]
              clear hv hc
              clear p0 p1 p2 p3
              have hz2 := Nat.lt_of_lt_of_le hz1 hb2.size
              have PB2 := PB1.below hb2 hz1
              have p0 := PB2.c0
              have p1 := PB2.c1
              have p2 := PB2.c2
              have p3 := PB2.c3
              go_wp2_with fail
              refine (C1.out _ ((hl.below hbl2 (Nat.le_refl _)).more hbl2.size)).mono ?_
              rintro e w3 ⟨rfl, hb3⟩
              have hbl3 := hbl2.trans (hb3.mono hbl2.size)
              clear p0 p1 p2 p3
              have hz3 := Nat.lt_of_lt_of_le hz2 hb3.size
              have PB3 := PB2.below hb3 hz2
              have p0 := PB3.c0
              have p1 := PB3.c1
              have p2 := PB3.c2
              have p3 := PB3.c3
              go_wp2_with fail
              refine (awake18_any _).mono ?_
              rintro e w4 ⟨rfl, hb4⟩
              go_wp2
              go_ret
              exact ⟨rfl, hbl3.trans (hb4.mono hbl3.size)⟩
          · have g2 : decide ((k : Int) < 0) = false := decide_eq_false (by omega)
            have g3 : decide (l.length ≤ k) = true := decide_eq_true (by omega)
            go_enter Try.func14, Try.ntmps14
            go_wp2_with fail
            refine (awake18_any _).mono ?_
            rintro e w1 ⟨rfl, hb1⟩
            have hbl1 := hbl0.trans (hb1.mono hbl0.size)
            have PB1 := Cells4.below (Cells4.new w 43 _ _ _ _) hb1 (by simp)
            have hz1 : w.heap.size < w1.heap.size := by have := hb1.size; simp at this; omega
            clear hb1 hbl0
            have p0 := PB1.c0
            have p1 := PB1.c1
            have p2 := PB1.c2
            have p3 := PB1.c3
            go_wp2_with fail
            refine (rvalid_any x l A c _ ((hl.below hbl1 (Nat.le_refl _)).more hbl1.size) hbig).mono ?_
            rintro e w2 ⟨rfl, hb2⟩
            have hbl2 := hbl1.trans (hb2.mono hbl1.size)
            rw [hv]
            clear hv
            clear p0 p1 p2 p3
            have hz2 := Nat.lt_of_lt_of_le hz1 hb2.size
            have PB2 := PB1.below hb2 hz1
            have p0 := PB2.c0
            have p1 := PB2.c1
            have p2 := PB2.c2
            have p3 := PB2.c3
            go_wp2_with fail
            refine (awake18_any _).mono ?_
            rintro e w3 ⟨rfl, hb3⟩
            go_wp2
            go_ret
            exact ⟨rfl, hbl2.trans (hb3.mono hbl2.size)⟩
      · have hd0 : decide (1048576 < x) = true := decide_eq_true (by omega)
        go_enter Try.func14, Try.ntmps14
        go_wp2_with fail
        refine (awake18_any _).mono ?_
        rintro e w1 ⟨rfl, hb1⟩
        have hbl1 := hbl0.trans (hb1.mono hbl0.size)
        have PB1 := Cells4.below (Cells4.new w 43 _ _ _ _) hb1 (by simp)
        have hz1 : w.heap.size < w1.heap.size := by have := hb1.size; simp at this; omega
        clear hb1 hbl0
        have p0 := PB1.c0
        have p1 := PB1.c1
        have p2 := PB1.c2
        have p3 := PB1.c3
        go_wp2_with fail
        refine (rvalid_any x l A c _ ((hl.below hbl1 (Nat.le_refl _)).more hbl1.size) hbig).mono ?_
        rintro e w2 ⟨rfl, hb2⟩
        have hbl2 := hbl1.trans (hb2.mono hbl1.size)
        rw [hv]
        clear hv
        clear p0 p1 p2 p3
        have hz2 := Nat.lt_of_lt_of_le hz1 hb2.size
        have PB2 := PB1.below hb2 hz1
        have p0 := PB2.c0
        have p1 := PB2.c1
        have p2 := PB2.c2
        have p3 := PB2.c3
        go_wp2_with fail
        refine (awake18_any _).mono ?_
        rintro e w3 ⟨rfl, hb3⟩
        go_wp2
        go_ret
        exact ⟨rfl, hbl2.trans (hb3.mono hbl2.size)⟩
  · go_enter Try.func14, Try.ntmps14
    go_wp2_with fail
    refine (awake18_any _).mono ?_
    rintro e w1 ⟨rfl, hb1⟩
    have hbl1 := hbl0.trans (hb1.mono hbl0.size)
    have PB1 := Cells4.below (Cells4.new w 43 _ _ _ _) hb1 (by simp)
    have hz1 : w.heap.size < w1.heap.size := by have := hb1.size; simp at this; omega
    clear hb1 hbl0
    have p0 := PB1.c0
    have p1 := PB1.c1
    have p2 := PB1.c2
    have p3 := PB1.c3
    go_wp2_with fail
    refine (awake18_any _).mono ?_
    rintro e w2 ⟨rfl, hb2⟩
    go_wp2
    go_ret
    exact ⟨rfl, hbl1.trans (hb2.mono hbl1.size)⟩

set_option maxRecDepth 100000 in
theorem victimOthers_lifted (os : Os) (started : os.Started) (H : Type) (enc : TypeId × Value → H) :
    ReturnsInHanded {} Try.checked os 14 .any (Rows.victimOthersSpec.pre6 enc Try.prog Try.f14 Rows.victimOthersRow.domain false) (Rows.victimOthersSpec.post enc Try.prog Try.f14 false true false false) := by
  refine returnsInHanded_of_change (C := Try.checked) own started (by kernel_rfl) Try.func14
    (ChangeSpec.witness6 (enc := enc) (C := Try.checked) false ⟨#[], #[.agg #[.slice none 0 0, .int .i64 0, .int .i64 0, .int .u64 0], .int .i64 0, .int .u64 0], []⟩ 8 (by kernel_rfl) (by kernel_rfl) (by kernel_rfl) (by kernel_rfl)) ?_
  intro W base args ds gs before hval0 hW hcnd _
  have hval : ∀ (j : Nat) t v, Try.f14.params[j]? = some t → args[j]? = some v → Value.okWide Try.prog W .any base t v := hval0
  have hW' := hW
  obtain ⟨p, q, hA0, hV, rfl, hfz, hnd⟩ := hW
  have hA : DataW.TrodAll enc Try.prog W 0 (fun _ => true) true Try.f14.params.toList args.toList ds p := hA0
  rw [Try.params14] at hA hval
  obtain ⟨v0, vs0, d0, ds0, p0, q0, hargs, rfl, rfl, h0, r0⟩ := trodAll_cons hA
  obtain ⟨v1, vs1, d1, ds1, p1, q1, rfl, rfl, rfl, h1, r1⟩ := trodAll_cons r0
  obtain ⟨v2, vs2, d2, ds2, p2, q2, rfl, rfl, rfl, h2, r2⟩ := trodAll_cons r1
  obtain ⟨rfl, rfl, rfl⟩ := trodAll_nil r2
  obtain rfl : args = #[v0, v1, v2] := by cases args; simp_all
  obtain ⟨rfl, rfl⟩ := trodVars_none hV
  have k0 := h0
  have lt0 : ∀ x ∈ p0, x.block < W.heap.size := by obtain ⟨m, hm⟩ := k0; exact DataW.trod_lt m _ _ _ hm
  have k1 := h1
  have lt1 : ∀ x ∈ p1, x.block < W.heap.size := by obtain ⟨m, hm⟩ := k1; exact DataW.trod_lt m _ _ _ hm
  have k2 := h2
  have lt2 : ∀ x ∈ p2, x.block < W.heap.size := by obtain ⟨m, hm⟩ := k2; exact DataW.trod_lt m _ _ _ hm
  obtain ⟨A, n, c, l, x, y, z, rfl, hb, hx, hy, hz⟩ := open_list (hval 0 _ _ rfl rfl) h0
  obtain ⟨at_, rfl, _, _, w1⟩ := open_int Try.underlying3 (hval 1 _ _ rfl rfl) h1
  obtain ⟨wear, rfl, _, _, w2⟩ := open_int Try.underlying27 (hval 2 _ _ rfl rfl) h2
  clear hA0 hval0
  refine (victimOthers_walk A n c l x y z at_ wear W hb hz (u64_of w2)).mono fun e W' ⟨he, bel⟩ => ?_
  subst he
  exact ⟨_, rfl, _, _, _, [], _, [], hW', trodAll_mk1 (shut_bool Try.underlying4 _), (trodAll_cons_mk (Below.trod laidOut (by kernel_rfl) (of_decide_eq_true (by kernel_rfl)) k0 bel lt0) (trodAll_cons_mk (Below.trod laidOut (by kernel_rfl) (of_decide_eq_true (by kernel_rfl)) k1 bel lt1) (trodAll_cons_mk (Below.trod laidOut (by kernel_rfl) (of_decide_eq_true (by kernel_rfl)) k2 bel lt2) trodAll_mk0))), rfl, bel.frame _, fun h => by cases h⟩

/-- The statement. -/
theorem victimOthers_holds : Rows.VictimOthersSaid :=
  OpenClaim.holds_of_wide 14 Try.f14 rfl rfl rfl rfl rfl rfl rfl ⟨rfl, rfl, rfl, rfl, rfl⟩ rfl rfl rfl rfl rfl (by kernel_rfl) Try.func14 (by kernel_rfl)
    (of_decide_eq_true (by kernel_rfl)) (by unfold Func.isWrapper; first | (rw [if_pos (by decide +kernel)]; kernel_rfl) | (rw [if_neg (by decide +kernel)]; exact ⟨rfl, rfl⟩))
    (fun os started H enc _ => victimOthers_lifted os started H enc)
#print axioms victimOthers_holds
end Go.Proofs.Ytbnkpknoknenjaa
