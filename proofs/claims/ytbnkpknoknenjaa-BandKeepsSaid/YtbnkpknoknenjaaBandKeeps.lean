/-
  WHAT IS SHOWN: tegulalaw16.BandKeeps returns true for any list of bands, any size, band and time, and changes nothing. No condition.
-/
import Derived.Test.YtbnkpknoknenjaaBand6
import Derived.Test.YtbnkpknoknenjaaOpen
import Derived.Test.YtbnkpknoknenjaaBandLaws
namespace Go.Proofs.Ytbnkpknoknenjaa
set_option linter.unusedVariables false
open Go.ChangeShapes Go.WideShapes Go.ChangeAt Go.RowKit

set_option maxHeartbeats 1000000 in
theorem bandKeeps_walk (A : Option Addr) (n c : Nat) (l : List BI) (x y z : Int) (w : World) (hb : Bands w A n c l) (hx : I64 x) (hu : U64 z) :
    Calls Try.prog 7 #[.agg #[.slice A n c, .int .i64 x, .int .i64 y, .int .u64 z]] w fun e w' => e = .returned (.bool true) ∧ Below w.heap.size w w' := by
  obtain ⟨rfl, hl, hok, _, hbig⟩ := hb
  have hbl0 : Below w.heap.size w (w.alloc (.cells #[.slice A l.length c, .int .i64 x, .int .i64 y, .int .u64 z] 29)) := (Below.refl _ _).alloc (Nat.le_refl _) _
  cases hv : validB l x
  · go_enter Try.func7, Try.ntmps7
    go_wp2_with fail
    refine (awake_any _).mono ?_
    rintro e w1 ⟨rfl, hb1⟩
    have hbl1 := hbl0.trans (hb1.mono hbl0.size)
    have PB1 := (Cells4.new w 29 (.slice A l.length c) (.int .i64 x) (.int .i64 y) (.int .u64 z)).below hb1 (by simp)
    have hz1 : w.heap.size < w1.heap.size := by have := hb1.size; simp at this; omega
    clear hb1 hbl0
    have p0 := PB1.c0
    have p1 := PB1.c1
    have p2 := PB1.c2
    have p3 := PB1.c3
    go_wp2_with fail
    refine (rvalid_any x l A c _ ((hl.below hbl1 (Nat.le_refl _)).more hbl1.size) hbig).mono ?_
    rintro e w2 ⟨rfl, hb2⟩
    have hbl2 := hbl1.trans (hb2.mono hbl1.size)
    rw [hv]
    go_wp2_with fail
    refine (awake_any _).mono ?_
    rintro e w3 ⟨rfl, hb3⟩
    go_wp2
    go_ret
    exact ⟨rfl, hbl2.trans (hb3.mono hbl2.size)⟩
  · have hn := ((validB_iff l x).1 hv).2.1
    have HA := Lib.hid (fun h => app_valid (now := z) (band := y) hx hv h)
    have HU := Lib.hid (fun h => unl_valid (band := y) hv h)
    have HR := Lib.hid (fun h => res_valid (band := y) hv h)
    go_enter Try.func7, Try.ntmps7
    go_wp2_with fail
    refine (awake_any _).mono ?_
    rintro e w1 ⟨rfl, hb1⟩
    have hbl1 := hbl0.trans (hb1.mono hbl0.size)
    have PB1 := (Cells4.new w 29 (.slice A l.length c) (.int .i64 x) (.int .i64 y) (.int .u64 z)).below hb1 (by simp)
    have hz1 : w.heap.size < w1.heap.size := by have := hb1.size; simp at this; omega
    clear hb1 hbl0
    have p0 := PB1.c0
    have p1 := PB1.c1
    have p2 := PB1.c2
    have p3 := PB1.c3
    go_wp2_with fail
    refine (rvalid_any x l A c _ ((hl.below hbl1 (Nat.le_refl _)).more hbl1.size) hbig).mono ?_
    rintro e w2 ⟨rfl, hb2⟩
    have hbl2 := hbl1.trans (hb2.mono hbl1.size)
    rw [hv]
    have HV := Lib.hid hv
    clear hv
    clear p0 p1 p2 p3
    have hz2 := Nat.lt_of_lt_of_le hz1 hb2.size
    have PB2 := PB1.below hb2 hz1
    have p0 := PB2.c0
    have p1 := PB2.c1
    have p2 := PB2.c2
    have p3 := PB2.c3
    go_wp2_with fail
    refine (append_any l x y z hok A c _ ((hl.below hbl2 (Nat.le_refl _)).more hbl2.size) (by omega)).mono ?_
    rintro e w3 ⟨A3, c3, rfl, hown3, hb3⟩
    have hbl3 := hbl2.trans (hb3.mono hbl2.size)
    have R3 := Rd.of_own hown3
    clear hown3
    clear p0 p1 p2 p3
    have hz3 := Nat.lt_of_lt_of_le hz2 hb3.size
    have PB3 := PB2.below hb3 hz2
    have p0 := PB3.c0
    have p1 := PB3.c1
    have p2 := PB3.c2
    have p3 := PB3.c3
    go_wp2_with fail
    refine (unlink_any l y hok A c _ ((hl.below hbl3 (Nat.le_refl _)).more hbl3.size) (by omega)).mono ?_
    rintro e w4 ⟨A4, c4, rfl, hown4, hb4⟩
    have hbl4 := hbl3.trans (hb4.mono hbl3.size)
    have R34 := (R3.below hb4 (Nat.le_refl _)).more hb4.size
    have R4 := Rd.of_own hown4
    clear hown4
    clear p0 p1 p2 p3
    have hz4 := Nat.lt_of_lt_of_le hz3 hb4.size
    have PB4 := PB3.below hb4 hz3
    have p0 := PB4.c0
    have p1 := PB4.c1
    have p2 := PB4.c2
    have p3 := PB4.c3
    go_wp2_with fail
    refine (reset_any l y hok A c _ ((hl.below hbl4 (Nat.le_refl _)).more hbl4.size) (by omega)).mono ?_
    rintro e w5 ⟨A5, c5, rfl, hown5, hb5⟩
    have hbl5 := hbl4.trans (hb5.mono hbl4.size)
    have R35 := (R34.below hb5 (Nat.le_refl _)).more hb5.size
    have R45 := (R4.below hb5 (Nat.le_refl _)).more hb5.size
    have R5 := Rd.of_own hown5
    clear hown5 R3 R4 R34
    clear p0 p1 p2 p3
    have hz5 := Nat.lt_of_lt_of_le hz4 hb5.size
    have PB5 := PB4.below hb5 hz4
    have p0 := PB5.c0
    have p1 := PB5.c1
    have p2 := PB5.c2
    have p3 := PB5.c3
    have HL1 : (appL l x y z).length ≤ 100 := by unfold appL; split <;> simp <;> omega
    have HL2 : (unlL l y).length ≤ 100 := by unfold unlL; split <;> simp <;> omega
    have HL3 : (resL l y).length ≤ 100 := by unfold resL; split <;> simp <;> omega
    generalize appL l x y z = L at *
    generalize unlL l y = M at *
    generalize resL l y = N at *
    generalize appE l x y = E at *
    generalize unlE l y = F at *
    generalize resE l y = G at *
    have hgo : ∀ W : World, Rd W W.heap.size A3 (flat L) → Rd W W.heap.size A4 (flat M) → Rd W W.heap.size A5 (flat N) → True := fun _ _ _ _ => trivial
    clear hgo
    have C1 : ∀ W, Rd W W.heap.size A3 (flat L) → E = 0 → Calls Try.prog 16 #[.slice A3 L.length c3, .int .i64 x] W fun e w' => e = .returned (.bool true) ∧ Below W.heap.size W w' := fun W h he => by
      have := valid_any x L A3 c3 W h (by omega); rw [HA.out he] at this; exact this
    have C2 : ∀ W, Rd W W.heap.size A4 (flat M) → F = 0 → Calls Try.prog 16 #[.slice A4 M.length c4, .int .i64 x] W fun e w' => e = .returned (.bool true) ∧ Below W.heap.size W w' := fun W h he => by
      have := valid_any x M A4 c4 W h (by omega); rw [HU.out he] at this; exact this
    have C3 : ∀ W, Rd W W.heap.size A5 (flat N) → G = 0 → Calls Try.prog 16 #[.slice A5 N.length c5, .int .i64 x] W fun e w' => e = .returned (.bool true) ∧ Below W.heap.size W w' := fun W h he => by
      have := valid_any x N A5 c5 W h (by omega); rw [HR.out he] at this; exact this
    have D1 := Lib.hid C1; have D2 := Lib.hid C2; have D3 := Lib.hid C3
    clear C1 C2 C3 HA HU HR
    have fin : ∀ (p q r : Bool) (W : World), Below w.heap.size w W → True := fun _ _ _ _ _ => trivial
    clear fin
    by_cases hE : E = 0
    · have T0 := Lib.hid (fun W h => D1.out W h hE)
      clear D1
      subst hE
      go_wp2_with fail
      refine (T0.out w5 R35).mono ?_
      rintro e w6 ⟨rfl, hb6⟩
      have hbl6 := hbl5.trans (hb6.mono hbl5.size)
      clear T0
      clear p0 p1 p2 p3
      have hz6 := Nat.lt_of_lt_of_le hz5 hb6.size
      have PB6 := PB5.below hb6 hz5
      have p0 := PB6.c0
      have p1 := PB6.c1
      have p2 := PB6.c2
      have p3 := PB6.c3
      have Q16 := (R45.below hb6 (Nat.le_refl _)).more hb6.size
      have Q26 := (R5.below hb6 (Nat.le_refl _)).more hb6.size
      by_cases hF : F = 0
      · have T1 := Lib.hid (fun W h => D2.out W h hF)
        clear D2
        subst hF
        go_wp2_with fail
        refine (T1.out w6 Q16).mono ?_
        rintro e w7 ⟨rfl, hb7⟩
        have hbl7 := hbl6.trans (hb7.mono hbl6.size)
        clear T1
        clear p0 p1 p2 p3
        have hz7 := Nat.lt_of_lt_of_le hz6 hb7.size
        have PB7 := PB6.below hb7 hz6
        have p0 := PB7.c0
        have p1 := PB7.c1
        have p2 := PB7.c2
        have p3 := PB7.c3
        have Q27 := (Q26.below hb7 (Nat.le_refl _)).more hb7.size
        by_cases hG : G = 0
        · have T2 := Lib.hid (fun W h => D3.out W h hG)
          clear D3
          subst hG
          go_wp2_with fail
          refine (T2.out w7 Q27).mono ?_
          rintro e w8 ⟨rfl, hb8⟩
          have hbl8 := hbl7.trans (hb8.mono hbl7.size)
          clear T2
          clear p0 p1 p2 p3
          have hz8 := Nat.lt_of_lt_of_le hz7 hb8.size
          have PB8 := PB7.below hb8 hz7
          have p0 := PB8.c0
          have p1 := PB8.c1
          have p2 := PB8.c2
          have p3 := PB8.c3
          go_wp2
          go_ret
          exact ⟨rfl, hbl8⟩
        · have bG : (G != 0) = true := by simpa using hG
          clear hG D3
          go_wp2
          go_ret
          exact ⟨rfl, hbl7⟩
      · have bF : (F != 0) = true := by simpa using hF
        clear hF D2
        by_cases hG : G = 0
        · have T2 := Lib.hid (fun W h => D3.out W h hG)
          clear D3
          subst hG
          go_wp2_with fail
          refine (T2.out w6 Q26).mono ?_
          rintro e w7 ⟨rfl, hb7⟩
          have hbl7 := hbl6.trans (hb7.mono hbl6.size)
          clear T2
          clear p0 p1 p2 p3
          have hz7 := Nat.lt_of_lt_of_le hz6 hb7.size
          have PB7 := PB6.below hb7 hz6
          have p0 := PB7.c0
          have p1 := PB7.c1
          have p2 := PB7.c2
          have p3 := PB7.c3
          go_wp2
          go_ret
          exact ⟨rfl, hbl7⟩
        · have bG : (G != 0) = true := by simpa using hG
          clear hG D3
          go_wp2
          go_ret
          exact ⟨rfl, hbl6⟩
    · have bE : (E != 0) = true := by simpa using hE
      clear hE D1
      by_cases hF : F = 0
      · have T1 := Lib.hid (fun W h => D2.out W h hF)
        clear D2
        subst hF
        go_wp2_with fail
        refine (T1.out w5 R45).mono ?_
        rintro e w6 ⟨rfl, hb6⟩
        have hbl6 := hbl5.trans (hb6.mono hbl5.size)
        clear T1
        clear p0 p1 p2 p3
        have hz6 := Nat.lt_of_lt_of_le hz5 hb6.size
        have PB6 := PB5.below hb6 hz5
        have p0 := PB6.c0
        have p1 := PB6.c1
        have p2 := PB6.c2
        have p3 := PB6.c3
        have Q26 := (R5.below hb6 (Nat.le_refl _)).more hb6.size
        by_cases hG : G = 0
        · have T2 := Lib.hid (fun W h => D3.out W h hG)
          clear D3
          subst hG
          go_wp2_with fail
          refine (T2.out w6 Q26).mono ?_
          rintro e w7 ⟨rfl, hb7⟩
          have hbl7 := hbl6.trans (hb7.mono hbl6.size)
          clear T2
          clear p0 p1 p2 p3
          have hz7 := Nat.lt_of_lt_of_le hz6 hb7.size
          have PB7 := PB6.below hb7 hz6
          have p0 := PB7.c0
          have p1 := PB7.c1
          have p2 := PB7.c2
          have p3 := PB7.c3
          go_wp2
          go_ret
          exact ⟨rfl, hbl7⟩
        · have bG : (G != 0) = true := by simpa using hG
          clear hG D3
          go_wp2
          go_ret
          exact ⟨rfl, hbl6⟩
      · have bF : (F != 0) = true := by simpa using hF
        clear hF D2
        by_cases hG : G = 0
        · have T2 := Lib.hid (fun W h => D3.out W h hG)
          clear D3
          subst hG
          go_wp2_with fail
          refine (T2.out w5 R5).mono ?_
          rintro e w6 ⟨rfl, hb6⟩
          have hbl6 := hbl5.trans (hb6.mono hbl5.size)
          clear T2
          clear p0 p1 p2 p3
          have hz6 := Nat.lt_of_lt_of_le hz5 hb6.size
          have PB6 := PB5.below hb6 hz5
          have p0 := PB6.c0
          have p1 := PB6.c1
          have p2 := PB6.c2
          have p3 := PB6.c3
          go_wp2
          go_ret
          exact ⟨rfl, hbl6⟩
        · have bG : (G != 0) = true := by simpa using hG
          clear hG D3
          go_wp2
          go_ret
          exact ⟨rfl, hbl5⟩

set_option maxRecDepth 100000 in
theorem bandKeeps_lifted (os : Os) (started : os.Started) (H : Type) (enc : TypeId × Value → H) :
    ReturnsInHanded {} Try.checked os 7 .any (Rows.bandKeepsSpec.pre6 enc Try.prog Try.f7 Rows.bandKeepsRow.domain false) (Rows.bandKeepsSpec.post enc Try.prog Try.f7 false true false false) := by
  refine returnsInHanded_of_change (C := Try.checked) own started (by kernel_rfl) Try.func7
    (ChangeSpec.witness6 (enc := enc) (C := Try.checked) false ⟨#[], #[.agg #[.slice none 0 0, .int .i64 0, .int .i64 0, .int .u64 0]], []⟩ 8 (by kernel_rfl) (by kernel_rfl) (by kernel_rfl) (by kernel_rfl)) ?_
  intro W base args ds gs before hval0 hW hcnd _
  have hval : ∀ (j : Nat) t v, Try.f7.params[j]? = some t → args[j]? = some v → Value.okWide Try.prog W .any base t v := hval0
  have hW' := hW
  obtain ⟨p, q, hA0, hV, rfl, hfz, hnd⟩ := hW
  have hA : DataW.TrodAll enc Try.prog W 0 (fun _ => true) true Try.f7.params.toList args.toList ds p := hA0
  rw [Try.params7] at hA hval
  obtain ⟨v0, vs0, d0, ds0, p0, q0, hargs, rfl, rfl, h0, r0⟩ := trodAll_cons hA
  obtain ⟨rfl, rfl, rfl⟩ := trodAll_nil r0
  obtain rfl : args = #[v0] := by cases args; simp_all
  obtain ⟨rfl, rfl⟩ := trodVars_none hV
  have k0 := h0
  have lt0 : ∀ x ∈ p0, x.block < W.heap.size := by obtain ⟨m, hm⟩ := k0; exact DataW.trod_lt m _ _ _ hm
  obtain ⟨A, n, c, l, x, y, z, rfl, hb, hx, hy, hz⟩ := open_count (hval 0 _ _ rfl rfl) h0
  clear hA0 hval0
  refine (bandKeeps_walk A n c l x y z W hb hx hz).mono fun e W' ⟨he, bel⟩ => ?_
  subst he
  exact ⟨_, rfl, _, _, _, [], _, [], hW', trodAll_mk1 (shut_bool Try.underlying4 _), (trodAll_cons_mk (Below.trod laidOut (by kernel_rfl) (of_decide_eq_true (by kernel_rfl)) k0 bel lt0) trodAll_mk0), rfl, bel.frame _, fun h => by cases h⟩

/-- The statement. -/
theorem bandKeeps_holds : Rows.BandKeepsSaid :=
  OpenClaim.holds_of_wide 7 Try.f7 rfl rfl rfl rfl rfl rfl rfl ⟨rfl, rfl, rfl, rfl, rfl⟩ rfl rfl rfl rfl rfl (by kernel_rfl) Try.func7 (by kernel_rfl)
    (of_decide_eq_true (by kernel_rfl)) (by unfold Func.isWrapper; first | (rw [if_pos (by decide +kernel)]; kernel_rfl) | (rw [if_neg (by decide +kernel)]; exact ⟨rfl, rfl⟩))
    (fun os started H enc _ => bandKeeps_lifted os started H enc)
#print axioms bandKeeps_holds
end Go.Proofs.Ytbnkpknoknenjaa
