/-
  WHAT IS SHOWN: what Sealed and Sector of tegularef27 return. Conditions: the bytes can be read.
-/
import Derived.Test.YtndifkjenjfjpaaRec17
namespace Go.Proofs.Ytndifkjenjfjpaa
set_option linter.unusedVariables false
open Go.RowKit

set_option maxRecDepth 100000 in
set_option maxHeartbeats 1000000 in
/-- The loop behind the copy. -/
theorem rsealed_any (xs : List Int) (A : Option Addr) (c : Nat) (w : World) (hr : Rd w w.heap.size A (xs.map (Value.int .u8))) (hx : xs.length ≤ 800000) :
    Calls Try.prog 25 #[.slice A xs.length c] w (NewO w (sealB xs)) := by
  obtain ⟨i0, hi, hz0, hz1, hz2⟩ := info_parts info_u8
  have HC := Lib.hid (rsum_any xs A c w hr (by omega))
  have HE0 : Hid (sealB xs = xs ++ be8 (sumC xs)) := rfl
  cases A with
  | none =>
    have hx0 := hr.at_none
    obtain rfl : xs = [] := by cases xs; rfl; simp at hx0
    clear hr hx0
    go_enter Try.func25, Try.ntmps25
    go_wp2_with fail
    refine HC.out.mono ?_
    rintro e w1 ⟨rfl, hb1⟩
    have hro := World.ownsRow_lit (base := w.heap.size) (e := 5) (size := 1) w1 #[] 0 hb1.size (by decide) rfl
    have HO1 := Lib.hid hro
    have HB1 := Lib.hid (hb1.alloc hb1.size (.cells #[] 5))
    clear hro hb1
    generalize sumC [] = s at *
    go_wp2
    go_loopw [4, 5] (fun b v wr => ∃ (k : Nat) (ys : List Int) (DA : Option Addr) (dc : Nat), k ≤ 8 ∧ v = .int .i64 (7 - (k : Int)) ∧ b = .slice DA ys.length dc ∧ Hid (ys = ([] : List Int) ++ (be8 s).take k) ∧ Hid (wr.ownsRow w.heap.size 5 1 (.slice DA ys.length dc) ys.length (ys.map (Value.int .u8))) ∧ Below w.heap.size w wr) (fun _ v _ => (intOf v + 1).toNat)
    case atStart => exact ⟨0, ([] : List Int), (some ⟨w1.heap.size, 0, none⟩), 0, by omega, rfl, rfl, by unfold Hid; simp, HO1, HB1.out⟩
    case round =>
      obtain ⟨k, ys, DA, dc, hk, rfl, rfl, HY, HO2, hbr⟩ := hrel
      have hyl : ys.length ≤ 800008 := by
        have h8 : (be8 s).length = 8 := rfl
        rw [HY.out, List.length_append, List.length_take]; omega
      have hbs : w.heap.size ≤ wr.heap.size := hbr.size
      by_cases h8 : k = 8
      · subst h8
        have HE : Hid (ys = sealB ([] : List Int)) := by unfold Hid; rw [HE0.out, HY.out]; rfl
        go_wp2
        go_ret
        exact ⟨DA, dc, by rw [← HE.out]; rfl, by rw [← HE.out]; exact HO2.out, hbr⟩
      · rcases (by omega : k = 0 ∨ k = 1 ∨ k = 2 ∨ k = 3 ∨ k = 4 ∨ k = 5 ∨ k = 6 ∨ k = 7) with rfl | rfl | rfl | rfl | rfl | rfl | rfl | rfl
        · have HE2 : Hid (ys ++ [IntKind.u8.wrap (s / 72057594037927936)] = ([] : List Int) ++ (be8 s).take (0 + 1)) := by unfold Hid; rw [HY.out]; simp [be8]
          go_wp2_with (at_builtin; refine wpList_append_own _ rfl _ _ 25 rfl w.heap.size 5 i0 _ 1 1 Try.underlying25 hi hz0 hz1 hz2 rfl (by decide) _ ys.length (ys.map (Value.int .u8)) rfl (HO2.out.alloc _) ⟨wr.heap.size, 0, none⟩ 1 1 [.int .u8 ((IntKind.u8.wrap (s / 72057594037927936)))] rfl rfl (World.news_of_block (heap_alloc_new _ _)) (by intro u hu; simp at hu; subst hu; rfl) ?c1 ?c2 ?c3 ?_)
          case c1 => unfold maxLen; omega
          case c2 => omega
          case c3 => first | omega | (simp; omega)
          intro v' w' hown hgrow hiff
          obtain ⟨DA', dc', hv⟩ := own_form hown
          subst hv
          have hbl : Below w.heap.size w w' := (hbr.alloc hbs _).grown hgrow (by simp; omega) (fun k hk => own_low HO2.out hk)
          have HOW : Hid (w'.ownsRow w.heap.size 5 1 (.slice DA' (ys ++ [IntKind.u8.wrap (s / 72057594037927936)]).length dc') (ys ++ [IntKind.u8.wrap (s / 72057594037927936)]).length ((ys ++ [IntKind.u8.wrap (s / 72057594037927936)]).map (Value.int .u8))) := by
            unfold Hid; rw [List.length_append, List.map_append]; exact hown
          have HLN : Hid (ys.length + 1 = (ys ++ [IntKind.u8.wrap (s / 72057594037927936)]).length) := by unfold Hid; simp
          clear hown hgrow hiff
          go_wp2
          go_roundw
          case rel => exact ⟨0 + 1, ys ++ [IntKind.u8.wrap (s / 72057594037927936)], DA', dc', by omega, by simp, by rw [← HLN.out], HE2, HOW, hbl⟩
          case measure => simp [intOf]
        · have HE2 : Hid (ys ++ [IntKind.u8.wrap (s / 281474976710656)] = ([] : List Int) ++ (be8 s).take (1 + 1)) := by unfold Hid; rw [HY.out]; simp [be8]
          go_wp2_with (at_builtin; refine wpList_append_own _ rfl _ _ 25 rfl w.heap.size 5 i0 _ 1 1 Try.underlying25 hi hz0 hz1 hz2 rfl (by decide) _ ys.length (ys.map (Value.int .u8)) rfl (HO2.out.alloc _) ⟨wr.heap.size, 0, none⟩ 1 1 [.int .u8 ((IntKind.u8.wrap (s / 281474976710656)))] rfl rfl (World.news_of_block (heap_alloc_new _ _)) (by intro u hu; simp at hu; subst hu; rfl) ?c1 ?c2 ?c3 ?_)
          case c1 => unfold maxLen; omega
          case c2 => omega
          case c3 => first | omega | (simp; omega)
          intro v' w' hown hgrow hiff
          obtain ⟨DA', dc', hv⟩ := own_form hown
          subst hv
          have hbl : Below w.heap.size w w' := (hbr.alloc hbs _).grown hgrow (by simp; omega) (fun k hk => own_low HO2.out hk)
          have HOW : Hid (w'.ownsRow w.heap.size 5 1 (.slice DA' (ys ++ [IntKind.u8.wrap (s / 281474976710656)]).length dc') (ys ++ [IntKind.u8.wrap (s / 281474976710656)]).length ((ys ++ [IntKind.u8.wrap (s / 281474976710656)]).map (Value.int .u8))) := by
            unfold Hid; rw [List.length_append, List.map_append]; exact hown
          have HLN : Hid (ys.length + 1 = (ys ++ [IntKind.u8.wrap (s / 281474976710656)]).length) := by unfold Hid; simp
          clear hown hgrow hiff
          go_wp2
          go_roundw
          case rel => exact ⟨1 + 1, ys ++ [IntKind.u8.wrap (s / 281474976710656)], DA', dc', by omega, by simp, by rw [← HLN.out], HE2, HOW, hbl⟩
          case measure => simp [intOf]
        · have HE2 : Hid (ys ++ [IntKind.u8.wrap (s / 1099511627776)] = ([] : List Int) ++ (be8 s).take (2 + 1)) := by unfold Hid; rw [HY.out]; simp [be8]
          go_wp2_with (at_builtin; refine wpList_append_own _ rfl _ _ 25 rfl w.heap.size 5 i0 _ 1 1 Try.underlying25 hi hz0 hz1 hz2 rfl (by decide) _ ys.length (ys.map (Value.int .u8)) rfl (HO2.out.alloc _) ⟨wr.heap.size, 0, none⟩ 1 1 [.int .u8 ((IntKind.u8.wrap (s / 1099511627776)))] rfl rfl (World.news_of_block (heap_alloc_new _ _)) (by intro u hu; simp at hu; subst hu; rfl) ?c1 ?c2 ?c3 ?_)
          case c1 => unfold maxLen; omega
          case c2 => omega
          case c3 => first | omega | (simp; omega)
          intro v' w' hown hgrow hiff
          obtain ⟨DA', dc', hv⟩ := own_form hown
          subst hv
          have hbl : Below w.heap.size w w' := (hbr.alloc hbs _).grown hgrow (by simp; omega) (fun k hk => own_low HO2.out hk)
          have HOW : Hid (w'.ownsRow w.heap.size 5 1 (.slice DA' (ys ++ [IntKind.u8.wrap (s / 1099511627776)]).length dc') (ys ++ [IntKind.u8.wrap (s / 1099511627776)]).length ((ys ++ [IntKind.u8.wrap (s / 1099511627776)]).map (Value.int .u8))) := by
            unfold Hid; rw [List.length_append, List.map_append]; exact hown
          have HLN : Hid (ys.length + 1 = (ys ++ [IntKind.u8.wrap (s / 1099511627776)]).length) := by unfold Hid; simp
          clear hown hgrow hiff
          go_wp2
          go_roundw
          case rel => exact ⟨2 + 1, ys ++ [IntKind.u8.wrap (s / 1099511627776)], DA', dc', by omega, by simp, by rw [← HLN.out], HE2, HOW, hbl⟩
          case measure => simp [intOf]
        · have HE2 : Hid (ys ++ [IntKind.u8.wrap (s / 4294967296)] = ([] : List Int) ++ (be8 s).take (3 + 1)) := by unfold Hid; rw [HY.out]; simp [be8]
          go_wp2_with (at_builtin; refine wpList_append_own _ rfl _ _ 25 rfl w.heap.size 5 i0 _ 1 1 Try.underlying25 hi hz0 hz1 hz2 rfl (by decide) _ ys.length (ys.map (Value.int .u8)) rfl (HO2.out.alloc _) ⟨wr.heap.size, 0, none⟩ 1 1 [.int .u8 ((IntKind.u8.wrap (s / 4294967296)))] rfl rfl (World.news_of_block (heap_alloc_new _ _)) (by intro u hu; simp at hu; subst hu; rfl) ?c1 ?c2 ?c3 ?_)
          case c1 => unfold maxLen; omega
          case c2 => omega
          case c3 => first | omega | (simp; omega)
          intro v' w' hown hgrow hiff
          obtain ⟨DA', dc', hv⟩ := own_form hown
          subst hv
          have hbl : Below w.heap.size w w' := (hbr.alloc hbs _).grown hgrow (by simp; omega) (fun k hk => own_low HO2.out hk)
          have HOW : Hid (w'.ownsRow w.heap.size 5 1 (.slice DA' (ys ++ [IntKind.u8.wrap (s / 4294967296)]).length dc') (ys ++ [IntKind.u8.wrap (s / 4294967296)]).length ((ys ++ [IntKind.u8.wrap (s / 4294967296)]).map (Value.int .u8))) := by
            unfold Hid; rw [List.length_append, List.map_append]; exact hown
          have HLN : Hid (ys.length + 1 = (ys ++ [IntKind.u8.wrap (s / 4294967296)]).length) := by unfold Hid; simp
          clear hown hgrow hiff
          go_wp2
          go_roundw
          case rel => exact ⟨3 + 1, ys ++ [IntKind.u8.wrap (s / 4294967296)], DA', dc', by omega, by simp, by rw [← HLN.out], HE2, HOW, hbl⟩
          case measure => simp [intOf]
        · have HE2 : Hid (ys ++ [IntKind.u8.wrap (s / 16777216)] = ([] : List Int) ++ (be8 s).take (4 + 1)) := by unfold Hid; rw [HY.out]; simp [be8]
          go_wp2_with (at_builtin; refine wpList_append_own _ rfl _ _ 25 rfl w.heap.size 5 i0 _ 1 1 Try.underlying25 hi hz0 hz1 hz2 rfl (by decide) _ ys.length (ys.map (Value.int .u8)) rfl (HO2.out.alloc _) ⟨wr.heap.size, 0, none⟩ 1 1 [.int .u8 ((IntKind.u8.wrap (s / 16777216)))] rfl rfl (World.news_of_block (heap_alloc_new _ _)) (by intro u hu; simp at hu; subst hu; rfl) ?c1 ?c2 ?c3 ?_)
          case c1 => unfold maxLen; omega
          case c2 => omega
          case c3 => first | omega | (simp; omega)
          intro v' w' hown hgrow hiff
          obtain ⟨DA', dc', hv⟩ := own_form hown
          subst hv
          have hbl : Below w.heap.size w w' := (hbr.alloc hbs _).grown hgrow (by simp; omega) (fun k hk => own_low HO2.out hk)
          have HOW : Hid (w'.ownsRow w.heap.size 5 1 (.slice DA' (ys ++ [IntKind.u8.wrap (s / 16777216)]).length dc') (ys ++ [IntKind.u8.wrap (s / 16777216)]).length ((ys ++ [IntKind.u8.wrap (s / 16777216)]).map (Value.int .u8))) := by
            unfold Hid; rw [List.length_append, List.map_append]; exact hown
          have HLN : Hid (ys.length + 1 = (ys ++ [IntKind.u8.wrap (s / 16777216)]).length) := by unfold Hid; simp
          clear hown hgrow hiff
          go_wp2
          go_roundw
          case rel => exact ⟨4 + 1, ys ++ [IntKind.u8.wrap (s / 16777216)], DA', dc', by omega, by simp, by rw [← HLN.out], HE2, HOW, hbl⟩
          case measure => simp [intOf]
        · have HE2 : Hid (ys ++ [IntKind.u8.wrap (s / 65536)] = ([] : List Int) ++ (be8 s).take (5 + 1)) := by unfold Hid; rw [HY.out]; simp [be8]
          go_wp2_with (at_builtin; refine wpList_append_own _ rfl _ _ 25 rfl w.heap.size 5 i0 _ 1 1 Try.underlying25 hi hz0 hz1 hz2 rfl (by decide) _ ys.length (ys.map (Value.int .u8)) rfl (HO2.out.alloc _) ⟨wr.heap.size, 0, none⟩ 1 1 [.int .u8 ((IntKind.u8.wrap (s / 65536)))] rfl rfl (World.news_of_block (heap_alloc_new _ _)) (by intro u hu; simp at hu; subst hu; rfl) ?c1 ?c2 ?c3 ?_)
          case c1 => unfold maxLen; omega
          case c2 => omega
          case c3 => first | omega | (simp; omega)
          intro v' w' hown hgrow hiff
          obtain ⟨DA', dc', hv⟩ := own_form hown
          subst hv
          have hbl : Below w.heap.size w w' := (hbr.alloc hbs _).grown hgrow (by simp; omega) (fun k hk => own_low HO2.out hk)
          have HOW : Hid (w'.ownsRow w.heap.size 5 1 (.slice DA' (ys ++ [IntKind.u8.wrap (s / 65536)]).length dc') (ys ++ [IntKind.u8.wrap (s / 65536)]).length ((ys ++ [IntKind.u8.wrap (s / 65536)]).map (Value.int .u8))) := by
            unfold Hid; rw [List.length_append, List.map_append]; exact hown
          have HLN : Hid (ys.length + 1 = (ys ++ [IntKind.u8.wrap (s / 65536)]).length) := by unfold Hid; simp
          clear hown hgrow hiff
          go_wp2
          go_roundw
          case rel => exact ⟨5 + 1, ys ++ [IntKind.u8.wrap (s / 65536)], DA', dc', by omega, by simp, by rw [← HLN.out], HE2, HOW, hbl⟩
          case measure => simp [intOf]
        · have HE2 : Hid (ys ++ [IntKind.u8.wrap (s / 256)] = ([] : List Int) ++ (be8 s).take (6 + 1)) := by unfold Hid; rw [HY.out]; simp [be8]
          go_wp2_with (at_builtin; refine wpList_append_own _ rfl _ _ 25 rfl w.heap.size 5 i0 _ 1 1 Try.underlying25 hi hz0 hz1 hz2 rfl (by decide) _ ys.length (ys.map (Value.int .u8)) rfl (HO2.out.alloc _) ⟨wr.heap.size, 0, none⟩ 1 1 [.int .u8 ((IntKind.u8.wrap (s / 256)))] rfl rfl (World.news_of_block (heap_alloc_new _ _)) (by intro u hu; simp at hu; subst hu; rfl) ?c1 ?c2 ?c3 ?_)
          case c1 => unfold maxLen; omega
          case c2 => omega
          case c3 => first | omega | (simp; omega)
          intro v' w' hown hgrow hiff
          obtain ⟨DA', dc', hv⟩ := own_form hown
          subst hv
          have hbl : Below w.heap.size w w' := (hbr.alloc hbs _).grown hgrow (by simp; omega) (fun k hk => own_low HO2.out hk)
          have HOW : Hid (w'.ownsRow w.heap.size 5 1 (.slice DA' (ys ++ [IntKind.u8.wrap (s / 256)]).length dc') (ys ++ [IntKind.u8.wrap (s / 256)]).length ((ys ++ [IntKind.u8.wrap (s / 256)]).map (Value.int .u8))) := by
            unfold Hid; rw [List.length_append, List.map_append]; exact hown
          have HLN : Hid (ys.length + 1 = (ys ++ [IntKind.u8.wrap (s / 256)]).length) := by unfold Hid; simp
          clear hown hgrow hiff
          go_wp2
          go_roundw
          case rel => exact ⟨6 + 1, ys ++ [IntKind.u8.wrap (s / 256)], DA', dc', by omega, by simp, by rw [← HLN.out], HE2, HOW, hbl⟩
          case measure => simp [intOf]
        · have HE2 : Hid (ys ++ [IntKind.u8.wrap (s)] = ([] : List Int) ++ (be8 s).take (7 + 1)) := by unfold Hid; rw [HY.out]; simp [be8]
          go_wp2_with (at_builtin; refine wpList_append_own _ rfl _ _ 25 rfl w.heap.size 5 i0 _ 1 1 Try.underlying25 hi hz0 hz1 hz2 rfl (by decide) _ ys.length (ys.map (Value.int .u8)) rfl (HO2.out.alloc _) ⟨wr.heap.size, 0, none⟩ 1 1 [.int .u8 ((IntKind.u8.wrap (s)))] rfl rfl (World.news_of_block (heap_alloc_new _ _)) (by intro u hu; simp at hu; subst hu; rfl) ?c1 ?c2 ?c3 ?_)
          case c1 => unfold maxLen; omega
          case c2 => omega
          case c3 => first | omega | (simp; omega)
          intro v' w' hown hgrow hiff
          obtain ⟨DA', dc', hv⟩ := own_form hown
          subst hv
          have hbl : Below w.heap.size w w' := (hbr.alloc hbs _).grown hgrow (by simp; omega) (fun k hk => own_low HO2.out hk)
          have HOW : Hid (w'.ownsRow w.heap.size 5 1 (.slice DA' (ys ++ [IntKind.u8.wrap (s)]).length dc') (ys ++ [IntKind.u8.wrap (s)]).length ((ys ++ [IntKind.u8.wrap (s)]).map (Value.int .u8))) := by
            unfold Hid; rw [List.length_append, List.map_append]; exact hown
          have HLN : Hid (ys.length + 1 = (ys ++ [IntKind.u8.wrap (s)]).length) := by unfold Hid; simp
          clear hown hgrow hiff
          go_wp2
          go_roundw
          case rel => exact ⟨7 + 1, ys ++ [IntKind.u8.wrap (s)], DA', dc', by omega, by simp, by rw [← HLN.out], HE2, HOW, hbl⟩
          case measure => simp [intOf]
  | some a =>
    have HR := Lib.hid hr
    clear hr
    go_enter Try.func25, Try.ntmps25
    go_wp2_with fail
    refine HC.out.mono ?_
    rintro e w1 ⟨rfl, hb1⟩
    have hro := World.ownsRow_lit (base := w.heap.size) (e := 5) (size := 1) w1 #[] 0 hb1.size (by decide) rfl
    have hla := ((HR.out.below hb1 (Nat.le_refl _)).more hb1.size).alloc (Nat.le_refl _) (.cells #[] 5)
    have hsz := hb1.size
    generalize sumC xs = s at *
    go_wp2_with (at_builtin; refine wpList_append_own _ rfl _ _ 25 rfl w.heap.size 5 i0 _ 1 1 Try.underlying25 hi hz0 hz1 hz2 rfl (by decide) _ 0 [] rfl hro a xs.length c (xs.map (Value.int .u8)) rfl (by simp) hla.at_add (bytes_one xs) ?c1 ?c2 ?c3 ?_)
    case c1 => unfold maxLen; omega
    case c2 => omega
    case c3 => simp; omega
    intro v' w2 hown hgrow hiff
    try simp only [Nat.zero_add, List.nil_append] at hown
    obtain ⟨A1, c1, hv⟩ := own_form hown
    subst hv
    have hbl : Below w.heap.size w w2 := (hb1.alloc hb1.size _).grown hgrow (by simp; omega) (fun k hk => by simp [Value.ownBlock] at hk; omega)
    have HO1 := Lib.hid hown
    have HB1 := Lib.hid hbl
    clear hro hla hown hgrow hiff hbl hb1
    go_wp2
    go_loopw [4, 5] (fun b v wr => ∃ (k : Nat) (ys : List Int) (DA : Option Addr) (dc : Nat), k ≤ 8 ∧ v = .int .i64 (7 - (k : Int)) ∧ b = .slice DA ys.length dc ∧ Hid (ys = xs ++ (be8 s).take k) ∧ Hid (wr.ownsRow w.heap.size 5 1 (.slice DA ys.length dc) ys.length (ys.map (Value.int .u8))) ∧ Below w.heap.size w wr) (fun _ v _ => (intOf v + 1).toNat)
    case atStart => exact ⟨0, xs, A1, c1, by omega, rfl, rfl, by unfold Hid; simp, HO1, HB1.out⟩
    case round =>
      obtain ⟨k, ys, DA, dc, hk, rfl, rfl, HY, HO2, hbr⟩ := hrel
      have hyl : ys.length ≤ 800008 := by
        have h8 : (be8 s).length = 8 := rfl
        rw [HY.out, List.length_append, List.length_take]; omega
      have hbs : w.heap.size ≤ wr.heap.size := hbr.size
      by_cases h8 : k = 8
      · subst h8
        have HE : Hid (ys = sealB xs) := by unfold Hid; rw [HE0.out, HY.out]; rfl
        go_wp2
        go_ret
        exact ⟨DA, dc, by rw [← HE.out]; rfl, by rw [← HE.out]; exact HO2.out, hbr⟩
      · rcases (by omega : k = 0 ∨ k = 1 ∨ k = 2 ∨ k = 3 ∨ k = 4 ∨ k = 5 ∨ k = 6 ∨ k = 7) with rfl | rfl | rfl | rfl | rfl | rfl | rfl | rfl
        · have HE2 : Hid (ys ++ [IntKind.u8.wrap (s / 72057594037927936)] = xs ++ (be8 s).take (0 + 1)) := by unfold Hid; rw [HY.out]; simp [be8]
          go_wp2_with (at_builtin; refine wpList_append_own _ rfl _ _ 25 rfl w.heap.size 5 i0 _ 1 1 Try.underlying25 hi hz0 hz1 hz2 rfl (by decide) _ ys.length (ys.map (Value.int .u8)) rfl (HO2.out.alloc _) ⟨wr.heap.size, 0, none⟩ 1 1 [.int .u8 ((IntKind.u8.wrap (s / 72057594037927936)))] rfl rfl (World.news_of_block (heap_alloc_new _ _)) (by intro u hu; simp at hu; subst hu; rfl) ?c1 ?c2 ?c3 ?_)
          case c1 => unfold maxLen; omega
          case c2 => omega
          case c3 => first | omega | (simp; omega)
          intro v' w' hown hgrow hiff
          obtain ⟨DA', dc', hv⟩ := own_form hown
          subst hv
          have hbl : Below w.heap.size w w' := (hbr.alloc hbs _).grown hgrow (by simp; omega) (fun k hk => own_low HO2.out hk)
          have HOW : Hid (w'.ownsRow w.heap.size 5 1 (.slice DA' (ys ++ [IntKind.u8.wrap (s / 72057594037927936)]).length dc') (ys ++ [IntKind.u8.wrap (s / 72057594037927936)]).length ((ys ++ [IntKind.u8.wrap (s / 72057594037927936)]).map (Value.int .u8))) := by
            unfold Hid; rw [List.length_append, List.map_append]; exact hown
          have HLN : Hid (ys.length + 1 = (ys ++ [IntKind.u8.wrap (s / 72057594037927936)]).length) := by unfold Hid; simp
          clear hown hgrow hiff
          go_wp2
          go_roundw
          case rel => exact ⟨0 + 1, ys ++ [IntKind.u8.wrap (s / 72057594037927936)], DA', dc', by omega, by simp, by rw [← HLN.out], HE2, HOW, hbl⟩
          case measure => simp [intOf]
        · have HE2 : Hid (ys ++ [IntKind.u8.wrap (s / 281474976710656)] = xs ++ (be8 s).take (1 + 1)) := by unfold Hid; rw [HY.out]; simp [be8]
          go_wp2_with (at_builtin; refine wpList_append_own _ rfl _ _ 25 rfl w.heap.size 5 i0 _ 1 1 Try.underlying25 hi hz0 hz1 hz2 rfl (by decide) _ ys.length (ys.map (Value.int .u8)) rfl (HO2.out.alloc _) ⟨wr.heap.size, 0, none⟩ 1 1 [.int .u8 ((IntKind.u8.wrap (s / 281474976710656)))] rfl rfl (World.news_of_block (heap_alloc_new _ _)) (by intro u hu; simp at hu; subst hu; rfl) ?c1 ?c2 ?c3 ?_)
          case c1 => unfold maxLen; omega
          case c2 => omega
          case c3 => first | omega | (simp; omega)
          intro v' w' hown hgrow hiff
          obtain ⟨DA', dc', hv⟩ := own_form hown
          subst hv
          have hbl : Below w.heap.size w w' := (hbr.alloc hbs _).grown hgrow (by simp; omega) (fun k hk => own_low HO2.out hk)
          have HOW : Hid (w'.ownsRow w.heap.size 5 1 (.slice DA' (ys ++ [IntKind.u8.wrap (s / 281474976710656)]).length dc') (ys ++ [IntKind.u8.wrap (s / 281474976710656)]).length ((ys ++ [IntKind.u8.wrap (s / 281474976710656)]).map (Value.int .u8))) := by
            unfold Hid; rw [List.length_append, List.map_append]; exact hown
          have HLN : Hid (ys.length + 1 = (ys ++ [IntKind.u8.wrap (s / 281474976710656)]).length) := by unfold Hid; simp
          clear hown hgrow hiff
          go_wp2
          go_roundw
          case rel => exact ⟨1 + 1, ys ++ [IntKind.u8.wrap (s / 281474976710656)], DA', dc', by omega, by simp, by rw [← HLN.out], HE2, HOW, hbl⟩
          case measure => simp [intOf]
        · have HE2 : Hid (ys ++ [IntKind.u8.wrap (s / 1099511627776)] = xs ++ (be8 s).take (2 + 1)) := by unfold Hid; rw [HY.out]; simp [be8]
          go_wp2_with (at_builtin; refine wpList_append_own _ rfl _ _ 25 rfl w.heap.size 5 i0 _ 1 1 Try.underlying25 hi hz0 hz1 hz2 rfl (by decide) _ ys.length (ys.map (Value.int .u8)) rfl (HO2.out.alloc _) ⟨wr.heap.size, 0, none⟩ 1 1 [.int .u8 ((IntKind.u8.wrap (s / 1099511627776)))] rfl rfl (World.news_of_block (heap_alloc_new _ _)) (by intro u hu; simp at hu; subst hu; rfl) ?c1 ?c2 ?c3 ?_)
          case c1 => unfold maxLen; omega
          case c2 => omega
          case c3 => first | omega | (simp; omega)
          intro v' w' hown hgrow hiff
          obtain ⟨DA', dc', hv⟩ := own_form hown
          subst hv
          have hbl : Below w.heap.size w w' := (hbr.alloc hbs _).grown hgrow (by simp; omega) (fun k hk => own_low HO2.out hk)
          have HOW : Hid (w'.ownsRow w.heap.size 5 1 (.slice DA' (ys ++ [IntKind.u8.wrap (s / 1099511627776)]).length dc') (ys ++ [IntKind.u8.wrap (s / 1099511627776)]).length ((ys ++ [IntKind.u8.wrap (s / 1099511627776)]).map (Value.int .u8))) := by
            unfold Hid; rw [List.length_append, List.map_append]; exact hown
          have HLN : Hid (ys.length + 1 = (ys ++ [IntKind.u8.wrap (s / 1099511627776)]).length) := by unfold Hid; simp
          clear hown hgrow hiff
          go_wp2
          go_roundw
          case rel => exact ⟨2 + 1, ys ++ [IntKind.u8.wrap (s / 1099511627776)], DA', dc', by omega, by simp, by rw [← HLN.out], HE2, HOW, hbl⟩
          case measure => simp [intOf]
        · have HE2 : Hid (ys ++ [IntKind.u8.wrap (s / 4294967296)] = xs ++ (be8 s).take (3 + 1)) := by unfold Hid; rw [HY.out]; simp [be8]
          go_wp2_with (at_builtin; refine wpList_append_own _ rfl _ _ 25 rfl w.heap.size 5 i0 _ 1 1 Try.underlying25 hi hz0 hz1 hz2 rfl (by decide) _ ys.length (ys.map (Value.int .u8)) rfl (HO2.out.alloc _) ⟨wr.heap.size, 0, none⟩ 1 1 [.int .u8 ((IntKind.u8.wrap (s / 4294967296)))] rfl rfl (World.news_of_block (heap_alloc_new _ _)) (by intro u hu; simp at hu; subst hu; rfl) ?c1 ?c2 ?c3 ?_)
          case c1 => unfold maxLen; omega
          case c2 => omega
          case c3 => first | omega | (simp; omega)
          intro v' w' hown hgrow hiff
          obtain ⟨DA', dc', hv⟩ := own_form hown
          subst hv
          have hbl : Below w.heap.size w w' := (hbr.alloc hbs _).grown hgrow (by simp; omega) (fun k hk => own_low HO2.out hk)
          have HOW : Hid (w'.ownsRow w.heap.size 5 1 (.slice DA' (ys ++ [IntKind.u8.wrap (s / 4294967296)]).length dc') (ys ++ [IntKind.u8.wrap (s / 4294967296)]).length ((ys ++ [IntKind.u8.wrap (s / 4294967296)]).map (Value.int .u8))) := by
            unfold Hid; rw [List.length_append, List.map_append]; exact hown
          have HLN : Hid (ys.length + 1 = (ys ++ [IntKind.u8.wrap (s / 4294967296)]).length) := by unfold Hid; simp
          clear hown hgrow hiff
          go_wp2
          go_roundw
          case rel => exact ⟨3 + 1, ys ++ [IntKind.u8.wrap (s / 4294967296)], DA', dc', by omega, by simp, by rw [← HLN.out], HE2, HOW, hbl⟩
          case measure => simp [intOf]
        · have HE2 : Hid (ys ++ [IntKind.u8.wrap (s / 16777216)] = xs ++ (be8 s).take (4 + 1)) := by unfold Hid; rw [HY.out]; simp [be8]
          go_wp2_with (at_builtin; refine wpList_append_own _ rfl _ _ 25 rfl w.heap.size 5 i0 _ 1 1 Try.underlying25 hi hz0 hz1 hz2 rfl (by decide) _ ys.length (ys.map (Value.int .u8)) rfl (HO2.out.alloc _) ⟨wr.heap.size, 0, none⟩ 1 1 [.int .u8 ((IntKind.u8.wrap (s / 16777216)))] rfl rfl (World.news_of_block (heap_alloc_new _ _)) (by intro u hu; simp at hu; subst hu; rfl) ?c1 ?c2 ?c3 ?_)
          case c1 => unfold maxLen; omega
          case c2 => omega
          case c3 => first | omega | (simp; omega)
          intro v' w' hown hgrow hiff
          obtain ⟨DA', dc', hv⟩ := own_form hown
          subst hv
          have hbl : Below w.heap.size w w' := (hbr.alloc hbs _).grown hgrow (by simp; omega) (fun k hk => own_low HO2.out hk)
          have HOW : Hid (w'.ownsRow w.heap.size 5 1 (.slice DA' (ys ++ [IntKind.u8.wrap (s / 16777216)]).length dc') (ys ++ [IntKind.u8.wrap (s / 16777216)]).length ((ys ++ [IntKind.u8.wrap (s / 16777216)]).map (Value.int .u8))) := by
            unfold Hid; rw [List.length_append, List.map_append]; exact hown
          have HLN : Hid (ys.length + 1 = (ys ++ [IntKind.u8.wrap (s / 16777216)]).length) := by unfold Hid; simp
          clear hown hgrow hiff
          go_wp2
          go_roundw
          case rel => exact ⟨4 + 1, ys ++ [IntKind.u8.wrap (s / 16777216)], DA', dc', by omega, by simp, by rw [← HLN.out], HE2, HOW, hbl⟩
          case measure => simp [intOf]
        · have HE2 : Hid (ys ++ [IntKind.u8.wrap (s / 65536)] = xs ++ (be8 s).take (5 + 1)) := by unfold Hid; rw [HY.out]; simp [be8]
          go_wp2_with (at_builtin; refine wpList_append_own _ rfl _ _ 25 rfl w.heap.size 5 i0 _ 1 1 Try.underlying25 hi hz0 hz1 hz2 rfl (by decide) _ ys.length (ys.map (Value.int .u8)) rfl (HO2.out.alloc _) ⟨wr.heap.size, 0, none⟩ 1 1 [.int .u8 ((IntKind.u8.wrap (s / 65536)))] rfl rfl (World.news_of_block (heap_alloc_new _ _)) (by intro u hu; simp at hu; subst hu; rfl) ?c1 ?c2 ?c3 ?_)
          case c1 => unfold maxLen; omega
          case c2 => omega
          case c3 => first | omega | (simp; omega)
          intro v' w' hown hgrow hiff
          obtain ⟨DA', dc', hv⟩ := own_form hown
          subst hv
          have hbl : Below w.heap.size w w' := (hbr.alloc hbs _).grown hgrow (by simp; omega) (fun k hk => own_low HO2.out hk)
          have HOW : Hid (w'.ownsRow w.heap.size 5 1 (.slice DA' (ys ++ [IntKind.u8.wrap (s / 65536)]).length dc') (ys ++ [IntKind.u8.wrap (s / 65536)]).length ((ys ++ [IntKind.u8.wrap (s / 65536)]).map (Value.int .u8))) := by
            unfold Hid; rw [List.length_append, List.map_append]; exact hown
          have HLN : Hid (ys.length + 1 = (ys ++ [IntKind.u8.wrap (s / 65536)]).length) := by unfold Hid; simp
          clear hown hgrow hiff
          go_wp2
          go_roundw
          case rel => exact ⟨5 + 1, ys ++ [IntKind.u8.wrap (s / 65536)], DA', dc', by omega, by simp, by rw [← HLN.out], HE2, HOW, hbl⟩
          case measure => simp [intOf]
        · have HE2 : Hid (ys ++ [IntKind.u8.wrap (s / 256)] = xs ++ (be8 s).take (6 + 1)) := by unfold Hid; rw [HY.out]; simp [be8]
          go_wp2_with (at_builtin; refine wpList_append_own _ rfl _ _ 25 rfl w.heap.size 5 i0 _ 1 1 Try.underlying25 hi hz0 hz1 hz2 rfl (by decide) _ ys.length (ys.map (Value.int .u8)) rfl (HO2.out.alloc _) ⟨wr.heap.size, 0, none⟩ 1 1 [.int .u8 ((IntKind.u8.wrap (s / 256)))] rfl rfl (World.news_of_block (heap_alloc_new _ _)) (by intro u hu; simp at hu; subst hu; rfl) ?c1 ?c2 ?c3 ?_)
          case c1 => unfold maxLen; omega
          case c2 => omega
          case c3 => first | omega | (simp; omega)
          intro v' w' hown hgrow hiff
          obtain ⟨DA', dc', hv⟩ := own_form hown
          subst hv
          have hbl : Below w.heap.size w w' := (hbr.alloc hbs _).grown hgrow (by simp; omega) (fun k hk => own_low HO2.out hk)
          have HOW : Hid (w'.ownsRow w.heap.size 5 1 (.slice DA' (ys ++ [IntKind.u8.wrap (s / 256)]).length dc') (ys ++ [IntKind.u8.wrap (s / 256)]).length ((ys ++ [IntKind.u8.wrap (s / 256)]).map (Value.int .u8))) := by
            unfold Hid; rw [List.length_append, List.map_append]; exact hown
          have HLN : Hid (ys.length + 1 = (ys ++ [IntKind.u8.wrap (s / 256)]).length) := by unfold Hid; simp
          clear hown hgrow hiff
          go_wp2
          go_roundw
          case rel => exact ⟨6 + 1, ys ++ [IntKind.u8.wrap (s / 256)], DA', dc', by omega, by simp, by rw [← HLN.out], HE2, HOW, hbl⟩
          case measure => simp [intOf]
        · have HE2 : Hid (ys ++ [IntKind.u8.wrap (s)] = xs ++ (be8 s).take (7 + 1)) := by unfold Hid; rw [HY.out]; simp [be8]
          go_wp2_with (at_builtin; refine wpList_append_own _ rfl _ _ 25 rfl w.heap.size 5 i0 _ 1 1 Try.underlying25 hi hz0 hz1 hz2 rfl (by decide) _ ys.length (ys.map (Value.int .u8)) rfl (HO2.out.alloc _) ⟨wr.heap.size, 0, none⟩ 1 1 [.int .u8 ((IntKind.u8.wrap (s)))] rfl rfl (World.news_of_block (heap_alloc_new _ _)) (by intro u hu; simp at hu; subst hu; rfl) ?c1 ?c2 ?c3 ?_)
          case c1 => unfold maxLen; omega
          case c2 => omega
          case c3 => first | omega | (simp; omega)
          intro v' w' hown hgrow hiff
          obtain ⟨DA', dc', hv⟩ := own_form hown
          subst hv
          have hbl : Below w.heap.size w w' := (hbr.alloc hbs _).grown hgrow (by simp; omega) (fun k hk => own_low HO2.out hk)
          have HOW : Hid (w'.ownsRow w.heap.size 5 1 (.slice DA' (ys ++ [IntKind.u8.wrap (s)]).length dc') (ys ++ [IntKind.u8.wrap (s)]).length ((ys ++ [IntKind.u8.wrap (s)]).map (Value.int .u8))) := by
            unfold Hid; rw [List.length_append, List.map_append]; exact hown
          have HLN : Hid (ys.length + 1 = (ys ++ [IntKind.u8.wrap (s)]).length) := by unfold Hid; simp
          clear hown hgrow hiff
          go_wp2
          go_roundw
          case rel => exact ⟨7 + 1, ys ++ [IntKind.u8.wrap (s)], DA', dc', by omega, by simp, by rw [← HLN.out], HE2, HOW, hbl⟩
          case measure => simp [intOf]
end Go.Proofs.Ytndifkjenjfjpaa
