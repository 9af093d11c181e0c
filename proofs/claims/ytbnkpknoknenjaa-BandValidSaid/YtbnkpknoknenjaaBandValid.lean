/-
  WHAT IS SHOWN: tegulalaw16.BandValid returns true for any list of bands and any size, and changes nothing. No condition.
-/
import Derived.Test.YtbnkpknoknenjaaBand6
import Derived.Test.YtbnkpknoknenjaaOpen
namespace Go.Proofs.Ytbnkpknoknenjaa
set_option linter.unusedVariables false
open Go.ChangeShapes Go.WideShapes Go.ChangeAt Go.RowKit

set_option maxHeartbeats 400000 in
theorem bandValid_walk (A : Option Addr) (n c : Nat) (l : List BI) (x : Int) (w : World) (hb : Bands w A n c l) :
    Calls Try.prog 3 #[.slice A n c, .int .i64 x] w fun e w' => e = .returned (.bool true) ∧ Below w.heap.size w w' := by
  obtain ⟨rfl, hl, hok, _, hbig⟩ := hb
  by_cases hn : l.length ≤ 100
  · go_enter Try.func3, Try.ntmps3
    go_wp2_with fail
    refine (awake_any w).mono ?_
    rintro e w1 ⟨rfl, hb1⟩
    have hr1 := (hl.below hb1 (Nat.le_refl _)).more hb1.size
    go_wp2_with fail
    refine (valid_any x l A c w1 hr1 (by omega)).mono ?_
    rintro e w2 ⟨rfl, hb2⟩
    have hr2 := (hr1.below hb2 (Nat.le_refl _)).more hb2.size
    have hbl2 := hb1.trans (hb2.mono hb1.size)
    go_wp2_with fail
    refine (rvalid_any x l A c w2 hr2 (by omega)).mono ?_
    rintro e w3 ⟨rfl, hb3⟩
    have hr3 := (hr2.below hb3 (Nat.le_refl _)).more hb3.size
    have hbl3 := hbl2.trans (hb3.mono hbl2.size)
    go_wp2_with fail
    refine (free_any l A c w3 hr3 (by omega)).mono ?_
    rintro e w4 ⟨rfl, hb4⟩
    have hr4 := (hr3.below hb4 (Nat.le_refl _)).more hb4.size
    have hbl4 := hbl3.trans (hb4.mono hbl3.size)
    go_wp2_with fail
    refine (rfree_any l A c w4 hr4 (by omega)).mono ?_
    rintro e w5 ⟨rfl, hb5⟩
    have hr5 := (hr4.below hb5 (Nat.le_refl _)).more hb5.size
    have hbl5 := hbl4.trans (hb5.mono hbl4.size)
    go_wp2_with fail
    refine (open_any x l A c w5 hr5 (by omega)).mono ?_
    rintro e w6 ⟨rfl, hb6⟩
    have hr6 := (hr5.below hb6 (Nat.le_refl _)).more hb6.size
    have hbl6 := hbl5.trans (hb6.mono hbl5.size)
    go_wp2_with fail
    refine (ropen_any x l A c w6 hr6 (by omega)).mono ?_
    rintro e w7 ⟨rfl, hb7⟩
    have hbl7 := hbl6.trans (hb7.mono hbl6.size)
    go_wp2
    go_ret
    exact ⟨by simp, hbl7⟩
  · go_enter Try.func3, Try.ntmps3
    go_wp2_with fail
    refine (awake_any w).mono ?_
    rintro e w1 ⟨rfl, hb1⟩
    go_wp2_with fail
    refine (awake_any w1).mono ?_
    rintro e w2 ⟨rfl, hb2⟩
    go_wp2
    go_ret
    exact ⟨rfl, hb1.trans (hb2.mono hb1.size)⟩

set_option maxRecDepth 100000 in
theorem bandValid_lifted (os : Os) (started : os.Started) (H : Type) (enc : TypeId × Value → H) :
    ReturnsInHanded {} Try.checked os 3 .any (Rows.bandValidSpec.pre6 enc Try.prog Try.f3 Rows.bandValidRow.domain false) (Rows.bandValidSpec.post enc Try.prog Try.f3 false true false false) := by
  refine returnsInHanded_of_change (C := Try.checked) own started (by kernel_rfl) Try.func3
    (ChangeSpec.witness6 (enc := enc) (C := Try.checked) false ⟨#[], #[.slice none 0 0, .int .i64 0], []⟩ 8 (by kernel_rfl) (by kernel_rfl) (by kernel_rfl) (by kernel_rfl)) ?_
  intro W base args ds gs before hval0 hW hcnd _
  have hval : ∀ (j : Nat) t v, Try.f3.params[j]? = some t → args[j]? = some v → Value.okWide Try.prog W .any base t v := hval0
  have hW' := hW
  obtain ⟨p, q, hA0, hV, rfl, hfz, hnd⟩ := hW
  have hA : DataW.TrodAll enc Try.prog W 0 (fun _ => true) true Try.f3.params.toList args.toList ds p := hA0
  rw [Try.params3] at hA hval
  obtain ⟨v0, vs0, d0, ds0, p0, q0, hargs, rfl, rfl, h0, r0⟩ := trodAll_cons hA
  obtain ⟨v1, vs1, d1, ds1, p1, q1, rfl, rfl, rfl, h1, r1⟩ := trodAll_cons r0
  obtain ⟨rfl, rfl, rfl⟩ := trodAll_nil r1
  obtain rfl : args = #[v0, v1] := by cases args; simp_all
  obtain ⟨rfl, rfl⟩ := trodVars_none hV
  have k0 := h0
  have lt0 : ∀ x ∈ p0, x.block < W.heap.size := by obtain ⟨m, hm⟩ := k0; exact DataW.trod_lt m _ _ _ hm
  have k1 := h1
  have lt1 : ∀ x ∈ p1, x.block < W.heap.size := by obtain ⟨m, hm⟩ := k1; exact DataW.trod_lt m _ _ _ hm
  obtain ⟨A, n, c, l, rfl, hb⟩ := (show ∃ A n c l, v0 = .slice A n c ∧ Bands W A n c l from by obtain ⟨a0, n0, c0, rfl⟩ := okWide_slice Try.underlying22 (hval 0 _ _ rfl rfl); obtain ⟨fuel, hf⟩ := h0; exact open_bands hf)
  obtain ⟨x, rfl, rfl, rfl, wx⟩ := open_int Try.underlying3 (hval 1 _ _ rfl rfl) h1
  clear hA0 hval0
  refine (bandValid_walk A n c l x W hb).mono fun e W' ⟨he, bel⟩ => ?_
  subst he
  exact ⟨_, rfl, _, _, _, [], _, [], hW', trodAll_mk1 (shut_bool Try.underlying4 _), (trodAll_cons_mk (Below.trod laidOut (by kernel_rfl) (of_decide_eq_true (by kernel_rfl)) k0 bel lt0) (trodAll_cons_mk (Below.trod laidOut (by kernel_rfl) (of_decide_eq_true (by kernel_rfl)) k1 bel lt1) trodAll_mk0)), rfl, bel.frame _, fun h => by cases h⟩

/-- The statement. -/
theorem bandValid_holds : Rows.BandValidSaid :=
  OpenClaim.holds_of_wide 3 Try.f3 rfl rfl rfl rfl rfl rfl rfl ⟨rfl, rfl, rfl, rfl, rfl⟩ rfl rfl rfl rfl rfl (by kernel_rfl) Try.func3 (by kernel_rfl)
    (of_decide_eq_true (by kernel_rfl)) (by unfold Func.isWrapper; first | (rw [if_pos (by decide +kernel)]; kernel_rfl) | (rw [if_neg (by decide +kernel)]; exact ⟨rfl, rfl⟩))
    (fun os started H enc _ => bandValid_lifted os started H enc)
#print axioms bandValid_holds
end Go.Proofs.Ytbnkpknoknenjaa
