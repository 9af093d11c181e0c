/-
  WHAT IS SHOWN: tegulalaw16.BandUnlink returns true for any list of bands and any band, and changes nothing. No condition.
-/
import Derived.Test.YtbnkpknoknenjaaBand6
import Derived.Test.YtbnkpknoknenjaaOpen
import Derived.Test.YtbnkpknoknenjaaBandLaws
namespace Go.Proofs.Ytbnkpknoknenjaa
set_option linter.unusedVariables false
open Go.ChangeShapes Go.WideShapes Go.ChangeAt Go.RowKit

set_option maxHeartbeats 1000000 in
theorem bandUnlink_walk (A : Option Addr) (n c : Nat) (l : List BI) (x y z : Int) (w : World) (hb : Bands w A n c l) (hx : I64 x) (hu : U64 z) :
    Calls Try.prog 6 #[.agg #[.slice A n c, .int .i64 x, .int .i64 y, .int .u64 z]] w fun e w' => e = .returned (.bool true) ∧ Below w.heap.size w w' := by
  obtain ⟨rfl, hl, hok, _, hbig⟩ := hb
  have hbl0 : Below w.heap.size w (w.alloc (.cells #[.slice A l.length c, .int .i64 x, .int .i64 y, .int .u64 z] 29)) := (Below.refl _ _).alloc (Nat.le_refl _) _
  by_cases hn : l.length ≤ 100
  · go_enter Try.func6, Try.ntmps6
    go_wp2_with fail
    refine (awake_any _).mono ?_
    rintro e w1 ⟨rfl, hb1⟩
    have hbl1 := hbl0.trans (hb1.mono hbl0.size)
    have PB1 := (Cells4.new w 29 (.slice A l.length c) (.int .i64 x) (.int .i64 y) (.int .u64 z)).below hb1 (by simp)
    have hz1 : w.heap.size < w1.heap.size := by have := hb1.size; simp at this; omega
    clear hb1 hbl0
    have p0 := PB1.c0
    have p1 := PB1.c1
    have p2 := PB1.c2
    have p3 := PB1.c3
    go_wp2_with fail
    refine (copied_any l A c _ ((hl.below hbl1 (Nat.le_refl _)).more hbl1.size) (by omega)).mono ?_
    rintro e w2 ⟨A2, c2, rfl, hown2, hb2⟩
    have hbl2 := hbl1.trans (hb2.mono hbl1.size)
    have HO2 := (Rd.of_own hown2)
    clear hown2
    clear p0 p1 p2 p3
    have hz2 := Nat.lt_of_lt_of_le hz1 hb2.size
    have PB2 := PB1.below hb2 hz1
    have p0 := PB2.c0
    have p1 := PB2.c1
    have p2 := PB2.c2
    have p3 := PB2.c3
    go_wp2_with fail
    refine (unlink_any l y hok A2 c2 _ HO2 (by omega)).mono ?_
    rintro e w3 ⟨A3, c3, rfl, hown3, hb3⟩
    have hbl3 := hbl2.trans (hb3.mono hbl2.size)
    clear p0 p1 p2 p3
    have hz3 := Nat.lt_of_lt_of_le hz2 hb3.size
    have PB3 := PB2.below hb3 hz2
    have p0 := PB3.c0
    have p1 := PB3.c1
    have p2 := PB3.c2
    have p3 := PB3.c3
    go_wp2_with fail
    refine (runlink_any l y hok A c _ ((hl.below hbl3 (Nat.le_refl _)).more hbl3.size) (by omega)).mono ?_
    rintro e w4 ⟨A4, c4, rfl, hown4, hb4⟩
    have hbl4 := hbl3.trans (hb4.mono hbl3.size)
    have HO4 := (HO2.below (hb3.trans (hb4.mono hb3.size)) (Nat.le_refl _)).more (Nat.le_trans hb3.size hb4.size)
    have R3 := ((Rd.of_own hown3).below hb4 (Nat.le_refl _)).more hb4.size
    have R4 := Rd.of_own hown4
    clear hown3 hown4
    have HL1 : (unlL l y).length ≤ 100 := by unfold unlL; split <;> simp <;> omega
    generalize unlL l y = L at *
    generalize unlE l y = E at *
    clear p0 p1 p2 p3
    have hz4 := Nat.lt_of_lt_of_le hz3 hb4.size
    have PB4 := PB3.below hb4 hz3
    have p0 := PB4.c0
    have p1 := PB4.c1
    have p2 := PB4.c2
    have p3 := PB4.c3
    go_wp2_with fail
    refine (reset_any l y hok A2 c2 _ HO4 (by omega)).mono ?_
    rintro e w5 ⟨A5, c5, rfl, hown5, hb5⟩
    have hbl5 := hbl4.trans (hb5.mono hbl4.size)
    clear p0 p1 p2 p3
    have hz5 := Nat.lt_of_lt_of_le hz4 hb5.size
    have PB5 := PB4.below hb5 hz4
    have p0 := PB5.c0
    have p1 := PB5.c1
    have p2 := PB5.c2
    have p3 := PB5.c3
    go_wp2_with fail
    refine (rreset_any l y hok A c _ ((hl.below hbl5 (Nat.le_refl _)).more hbl5.size) (by omega)).mono ?_
    rintro e w6 ⟨A6, c6, rfl, hown6, hb6⟩
    have hbl6 := hbl5.trans (hb6.mono hbl5.size)
    have hb46 := hb5.trans (hb6.mono hb5.size)
    have HO6 := (HO4.below hb46 (Nat.le_refl _)).more hb46.size
    have R36 := (R3.below hb46 (Nat.le_refl _)).more hb46.size
    have R46 := (R4.below hb46 (Nat.le_refl _)).more hb46.size
    have R5 := ((Rd.of_own hown5).below hb6 (Nat.le_refl _)).more hb6.size
    have R6 := Rd.of_own hown6
    clear hown5 hown6
    have HM1 : (resL l y).length ≤ 100 := by unfold resL; split <;> simp <;> omega
    generalize resL l y = M at *
    generalize resE l y = F at *
    clear p0 p1 p2 p3
    have hz6 := Nat.lt_of_lt_of_le hz5 hb6.size
    have PB6 := PB5.below hb6 hz5
    have p0 := PB6.c0
    have p1 := PB6.c1
    have p2 := PB6.c2
    have p3 := PB6.c3
    go_wp2_with fail
    refine (same_true L A3 A4 c3 c4 w6 R36 R46 (by omega)).mono ?_
    rintro e w7 ⟨rfl, hb7⟩
    have hbl7 := hbl6.trans (hb7.mono hbl6.size)
    clear p0 p1 p2 p3
    have hz7 := Nat.lt_of_lt_of_le hz6 hb7.size
    have PB7 := PB6.below hb7 hz6
    have p0 := PB7.c0
    have p1 := PB7.c1
    have p2 := PB7.c2
    have p3 := PB7.c3
    have R57 := (R5.below hb7 (Nat.le_refl _)).more hb7.size
    have R67 := (R6.below hb7 (Nat.le_refl _)).more hb7.size
    have HO7 := (HO6.below hb7 (Nat.le_refl _)).more hb7.size
    go_wp2_with fail
    refine (same_true M A5 A6 c5 c6 w7 R57 R67 (by omega)).mono ?_
    rintro e w8 ⟨rfl, hb8⟩
    have hbl8 := hbl7.trans (hb8.mono hbl7.size)
    clear p0 p1 p2 p3
    have hz8 := Nat.lt_of_lt_of_le hz7 hb8.size
    have PB8 := PB7.below hb8 hz7
    have p0 := PB8.c0
    have p1 := PB8.c1
    have p2 := PB8.c2
    have p3 := PB8.c3
    go_wp2_with fail
    refine (same_true l A2 A c2 c w8 ((HO7.below hb8 (Nat.le_refl _)).more hb8.size) ((hl.below hbl8 (Nat.le_refl _)).more hbl8.size) (by omega)).mono ?_
    rintro e w9 ⟨rfl, hb9⟩
    have hbl9 := hbl8.trans (hb9.mono hbl8.size)
    go_wp2
    go_ret
    exact ⟨by simp, hbl9⟩
  · go_enter Try.func6, Try.ntmps6
    go_wp2_with fail
    refine (awake_any _).mono ?_
    rintro e w1 ⟨rfl, hb1⟩
    have hbl1 := hbl0.trans (hb1.mono hbl0.size)
    have PB1 := (Cells4.new w 29 (.slice A l.length c) (.int .i64 x) (.int .i64 y) (.int .u64 z)).below hb1 (by simp)
    have hz1 : w.heap.size < w1.heap.size := by have := hb1.size; simp at this; omega
    clear hb1 hbl0
    have p0 := PB1.c0
    have p1 := PB1.c1
    have p2 := PB1.c2
    have p3 := PB1.c3
    go_wp2_with fail
    refine (awake_any _).mono ?_
    rintro e w2 ⟨rfl, hb2⟩
    go_wp2
    go_ret
    exact ⟨rfl, hbl1.trans (hb2.mono hbl1.size)⟩

set_option maxRecDepth 100000 in
theorem bandUnlink_lifted (os : Os) (started : os.Started) (H : Type) (enc : TypeId × Value → H) :
    ReturnsInHanded {} Try.checked os 6 .any (Rows.bandUnlinkSpec.pre6 enc Try.prog Try.f6 Rows.bandUnlinkRow.domain false) (Rows.bandUnlinkSpec.post enc Try.prog Try.f6 false true false false) := by
  refine returnsInHanded_of_change (C := Try.checked) own started (by kernel_rfl) Try.func6
    (ChangeSpec.witness6 (enc := enc) (C := Try.checked) false ⟨#[], #[.agg #[.slice none 0 0, .int .i64 0, .int .i64 0, .int .u64 0]], []⟩ 8 (by kernel_rfl) (by kernel_rfl) (by kernel_rfl) (by kernel_rfl)) ?_
  intro W base args ds gs before hval0 hW hcnd _
  have hval : ∀ (j : Nat) t v, Try.f6.params[j]? = some t → args[j]? = some v → Value.okWide Try.prog W .any base t v := hval0
  have hW' := hW
  obtain ⟨p, q, hA0, hV, rfl, hfz, hnd⟩ := hW
  have hA : DataW.TrodAll enc Try.prog W 0 (fun _ => true) true Try.f6.params.toList args.toList ds p := hA0
  rw [Try.params6] at hA hval
  obtain ⟨v0, vs0, d0, ds0, p0, q0, hargs, rfl, rfl, h0, r0⟩ := trodAll_cons hA
  obtain ⟨rfl, rfl, rfl⟩ := trodAll_nil r0
  obtain rfl : args = #[v0] := by cases args; simp_all
  obtain ⟨rfl, rfl⟩ := trodVars_none hV
  have k0 := h0
  have lt0 : ∀ x ∈ p0, x.block < W.heap.size := by obtain ⟨m, hm⟩ := k0; exact DataW.trod_lt m _ _ _ hm
  obtain ⟨A, n, c, l, x, y, z, rfl, hb, hx, hy, hz⟩ := open_count (hval 0 _ _ rfl rfl) h0
  clear hA0 hval0
  refine (bandUnlink_walk A n c l x y z W hb hx hz).mono fun e W' ⟨he, bel⟩ => ?_
  subst he
  exact ⟨_, rfl, _, _, _, [], _, [], hW', trodAll_mk1 (shut_bool Try.underlying4 _), (trodAll_cons_mk (Below.trod laidOut (by kernel_rfl) (of_decide_eq_true (by kernel_rfl)) k0 bel lt0) trodAll_mk0), rfl, bel.frame _, fun h => by cases h⟩

/-- The statement. -/
theorem bandUnlink_holds : Rows.BandUnlinkSaid :=
  OpenClaim.holds_of_wide 6 Try.f6 rfl rfl rfl rfl rfl rfl rfl ⟨rfl, rfl, rfl, rfl, rfl⟩ rfl rfl rfl rfl rfl (by kernel_rfl) Try.func6 (by kernel_rfl)
    (of_decide_eq_true (by kernel_rfl)) (by unfold Func.isWrapper; first | (rw [if_pos (by decide +kernel)]; kernel_rfl) | (rw [if_neg (by decide +kernel)]; exact ⟨rfl, rfl⟩))
    (fun os started H enc _ => bandUnlink_lifted os started H enc)
#print axioms bandUnlink_holds
end Go.Proofs.Ytbnkpknoknenjaa
