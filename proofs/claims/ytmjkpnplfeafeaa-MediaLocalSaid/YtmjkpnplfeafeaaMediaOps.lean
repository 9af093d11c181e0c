/-
  WHAT IS SHOWN: tegulalaw11.MediaOps returns true for any geometry and operations, and changes nothing. No condition.
-/
import Derived.Test.YtmjkpnplfeafeaaMed10
namespace Go.Proofs.Ytmjkpnplfeafeaa
set_option linter.unusedVariables false
open Go.ChangeShapes Go.WideShapes Go.ChangeAt Go.RowKit

theorem opsok {w w' : World} {l : List OpV} (h : ∀ o ∈ l, OpIn w o) (hs : shortOps l = true) {S : Nat → Prop} (hk : Kept S w w') (hS : ∀ i, i < w.heap.size → ¬ S i) : ∀ o ∈ l, OpOk w' w.heap.size o := fun o ho =>
  ⟨(h o ho).at_, hk.rd (h o ho).rd hS, by have := ((shortOps_iff l).1 hs).2 o ho; omega⟩
theorem short_blankL (g : Geo) : ShortB (blankL g) := short_blank _
theorem fair_valid {g : Geo} (h : fairB g = true) : validG g = true := by unfold fairB at h; simp at h; exact h.1

set_option maxRecDepth 100000 in
set_option maxHeartbeats 1000000 in
theorem mediaOps_walk (g : Geo) (A : Option Addr) (l : List OpV) (c : Nat) (w : World) (hl : OpsIn w (.slice A l.length c) A l c) :
    Calls Try.prog 5 #[.agg #[.int .i64 g.random, .int .i64 g.bands, .int .i64 g.tracks, .int .i64 g.sectors, .int .i64 g.overlap], .slice A l.length c] w fun e w' => e = .returned (.bool true) ∧ Below w.heap.size w w' := by
  have hb0 : Below w.heap.size w (w.alloc (.cells #[.int .i64 g.random, .int .i64 g.bands, .int .i64 g.tracks, .int .i64 g.sectors, .int .i64 g.overlap] 23)) := (Below.refl _ _).alloc (Nat.le_refl _) _
  have HRD := Lib.hid hl.rd
  have HOK := Lib.hid hl.ok
  have hbig := hl.big
  have HSH : Hid (∀ W, Below w.heap.size w W → Calls Try.prog 21 #[.slice A l.length c] W fun e w' => e = .returned (.bool (shortOps l)) ∧ W = w') := by
    unfold Hid; intro W hW; exact short_any l A c W ((HRD.out.below hW (Nat.le_refl _)).more hW.size) hbig (fun o ho => (HOK.out o ho).n)
  clear hl
  cases hs : shortOps l
  · rw [hs] at HSH
    clear hs
    go_enter Try.func5, Try.ntmps5
    go_wp2_with fail
    refine (awake11_any _).mono ?_
    rintro e w1 ⟨rfl, hb1⟩
    have hbl1 := hb0.trans (hb1.mono hb0.size)
    have PB1 := Cells5.below (Cells5.new w 23 _ _ _ _ _) hb1 (by simp)
    have hz1 : w.heap.size < w1.heap.size := by have := hb1.size; simp at this; omega
    have p0 := PB1.c0; have p1 := PB1.c1; have p2 := PB1.c2; have p3 := PB1.c3; have p4 := PB1.c4
    go_wp2_with fail
    refine (HSH.out _ hbl1).mono ?_
    rintro e w2 ⟨rfl, rfl⟩
    go_wp2_with fail
    refine (awake11_any _).mono ?_
    rintro e w3 ⟨rfl, hb3⟩
    clear p0 p1 p2 p3 p4
    have hbl3 := hbl1.trans (hb3.mono hbl1.size)
    have hz3 := Nat.lt_of_lt_of_le hz1 hb3.size
    have PB3 := PB1.below hb3 hz1
    have p0 := PB3.c0; have p1 := PB3.c1; have p2 := PB3.c2; have p3 := PB3.c3; have p4 := PB3.c4
    go_wp2
    go_ret
    exact ⟨rfl, hbl3⟩
  · rw [hs] at HSH
    cases hv : validG g
    · have HV : Hid (∀ W, Calls Try.prog 26 #[.agg #[.int .i64 g.random, .int .i64 g.bands, .int .i64 g.tracks, .int .i64 g.sectors, .int .i64 g.overlap]] W fun e w' => e = .returned (.bool false) ∧ Below W.heap.size W w') := by
        unfold Hid; intro W; have := rgvalid_any g W; rw [hv] at this; exact this
      have HN := Lib.hid (fun W => new_no g hv W)
      have HRN := Lib.hid (fun W => rnew_no g hv W)
      clear hs hv
      go_enter Try.func5, Try.ntmps5
      go_wp2_with fail
      refine (awake11_any _).mono ?_
      rintro e w1 ⟨rfl, hb1⟩
      have hbl1 := hb0.trans (hb1.mono hb0.size)
      have PB1 := Cells5.below (Cells5.new w 23 _ _ _ _ _) hb1 (by simp)
      have hz1 : w.heap.size < w1.heap.size := by have := hb1.size; simp at this; omega
      have p0 := PB1.c0; have p1 := PB1.c1; have p2 := PB1.c2; have p3 := PB1.c3; have p4 := PB1.c4
      go_wp2_with fail
      refine (HSH.out _ hbl1).mono ?_
      rintro e w2 ⟨rfl, rfl⟩
      go_wp2_with fail
      refine (HV.out _).mono ?_
      rintro e w3 ⟨rfl, hb3⟩
      clear p0 p1 p2 p3 p4
      have hbl3 := hbl1.trans (hb3.mono hbl1.size)
      have hz3 := Nat.lt_of_lt_of_le hz1 hb3.size
      have PB3 := PB1.below hb3 hz1
      have p0 := PB3.c0; have p1 := PB3.c1; have p2 := PB3.c2; have p3 := PB3.c3; have p4 := PB3.c4
      go_wp2_with fail
      refine (HN.out _).mono ?_
      rintro e w4 ⟨rfl, hb4⟩
      clear p0 p1 p2 p3 p4
      have hbl4 := hbl3.trans (hb4.mono hbl3.size)
      have hz4 := Nat.lt_of_lt_of_le hz3 hb4.size
      have PB4 := PB3.below hb4 hz3
      have p0 := PB4.c0; have p1 := PB4.c1; have p2 := PB4.c2; have p3 := PB4.c3; have p4 := PB4.c4
      go_wp2_with fail
      refine (HRN.out _).mono ?_
      rintro e w5 ⟨rfl, hb5⟩
      clear p0 p1 p2 p3 p4
      have hbl5 := hbl4.trans (hb5.mono hbl4.size)
      have hz5 := Nat.lt_of_lt_of_le hz4 hb5.size
      have PB5 := PB4.below hb5 hz4
      have p0 := PB5.c0; have p1 := PB5.c1; have p2 := PB5.c2; have p3 := PB5.c3; have p4 := PB5.c4
      go_wp2
      go_ret
      exact ⟨rfl, hbl5⟩
    · cases hfr : fairB g
      · have HV : Hid (∀ W, Calls Try.prog 26 #[.agg #[.int .i64 g.random, .int .i64 g.bands, .int .i64 g.tracks, .int .i64 g.sectors, .int .i64 g.overlap]] W fun e w' => e = .returned (.bool true) ∧ Below W.heap.size W w') := by
          unfold Hid; intro W; have := rgvalid_any g W; rw [hv] at this; exact this
        have HFR : Hid (∀ W, Calls Try.prog 16 #[.agg #[.int .i64 g.random, .int .i64 g.bands, .int .i64 g.tracks, .int .i64 g.sectors, .int .i64 g.overlap]] W fun e w' => e = .returned (.bool false) ∧ Below W.heap.size W w') := by
          unfold Hid; intro W; have := fair_any g W; rw [hfr] at this; exact this
        clear hs hv hfr
        go_enter Try.func5, Try.ntmps5
        go_wp2_with fail
        refine (awake11_any _).mono ?_
        rintro e w1 ⟨rfl, hb1⟩
        have hbl1 := hb0.trans (hb1.mono hb0.size)
        have PB1 := Cells5.below (Cells5.new w 23 _ _ _ _ _) hb1 (by simp)
        have hz1 : w.heap.size < w1.heap.size := by have := hb1.size; simp at this; omega
        have p0 := PB1.c0; have p1 := PB1.c1; have p2 := PB1.c2; have p3 := PB1.c3; have p4 := PB1.c4
        go_wp2_with fail
        refine (HSH.out _ hbl1).mono ?_
        rintro e w2 ⟨rfl, rfl⟩
        go_wp2_with fail
        refine (HV.out _).mono ?_
        rintro e w3 ⟨rfl, hb3⟩
        clear p0 p1 p2 p3 p4
        have hbl3 := hbl1.trans (hb3.mono hbl1.size)
        have hz3 := Nat.lt_of_lt_of_le hz1 hb3.size
        have PB3 := PB1.below hb3 hz1
        have p0 := PB3.c0; have p1 := PB3.c1; have p2 := PB3.c2; have p3 := PB3.c3; have p4 := PB3.c4
        go_wp2_with fail
        refine (HFR.out _).mono ?_
        rintro e w4 ⟨rfl, hb4⟩
        clear p0 p1 p2 p3 p4
        have hbl4 := hbl3.trans (hb4.mono hbl3.size)
        have hz4 := Nat.lt_of_lt_of_le hz3 hb4.size
        have PB4 := PB3.below hb4 hz3
        have p0 := PB4.c0; have p1 := PB4.c1; have p2 := PB4.c2; have p3 := PB4.c3; have p4 := PB4.c4
        go_wp2_with fail
        refine (awake11_any _).mono ?_
        rintro e w5 ⟨rfl, hb5⟩
        clear p0 p1 p2 p3 p4
        have hbl5 := hbl4.trans (hb5.mono hbl4.size)
        have hz5 := Nat.lt_of_lt_of_le hz4 hb5.size
        have PB5 := PB4.below hb5 hz4
        have p0 := PB5.c0; have p1 := PB5.c1; have p2 := PB5.c2; have p3 := PB5.c3; have p4 := PB5.c4
        go_wp2
        go_ret
        exact ⟨rfl, hbl5⟩
      · have HV : Hid (∀ W, Calls Try.prog 26 #[.agg #[.int .i64 g.random, .int .i64 g.bands, .int .i64 g.tracks, .int .i64 g.sectors, .int .i64 g.overlap]] W fun e w' => e = .returned (.bool true) ∧ Below W.heap.size W w') := by
          unfold Hid; intro W; have := rgvalid_any g W; rw [hv] at this; exact this
        have HFR : Hid (∀ W, Calls Try.prog 16 #[.agg #[.int .i64 g.random, .int .i64 g.bands, .int .i64 g.tracks, .int .i64 g.sectors, .int .i64 g.overlap]] W fun e w' => e = .returned (.bool true) ∧ Below W.heap.size W w') := by
          unfold Hid; intro W; have := fair_any g W; rw [hfr] at this; exact this
        have HN := Lib.hid (fun W => new_yes g hv W)
        have HRN := Lib.hid (fun W => rnew_yes g hv W)
        have HF := Lib.hid (blank_fit ((validG_iff g).1 hv))
        have HS := Lib.hid hs
        clear hs hv hfr
        go_enter Try.func5, Try.ntmps5
        go_wp2_with fail
        refine (awake11_any _).mono ?_
        rintro e w1 ⟨rfl, hb1⟩
        have hbl1 := hb0.trans (hb1.mono hb0.size)
        have PB1 := Cells5.below (Cells5.new w 23 _ _ _ _ _) hb1 (by simp)
        have hz1 : w.heap.size < w1.heap.size := by have := hb1.size; simp at this; omega
        have p0 := PB1.c0; have p1 := PB1.c1; have p2 := PB1.c2; have p3 := PB1.c3; have p4 := PB1.c4
        go_wp2_with fail
        refine (HSH.out _ hbl1).mono ?_
        rintro e w2 ⟨rfl, rfl⟩
        go_wp2_with fail
        refine (HV.out _).mono ?_
        rintro e w3 ⟨rfl, hb3⟩
        clear p0 p1 p2 p3 p4
        have hbl3 := hbl1.trans (hb3.mono hbl1.size)
        have hz3 := Nat.lt_of_lt_of_le hz1 hb3.size
        have PB3 := PB1.below hb3 hz1
        have p0 := PB3.c0; have p1 := PB3.c1; have p2 := PB3.c2; have p3 := PB3.c3; have p4 := PB3.c4
        go_wp2_with fail
        refine (HFR.out _).mono ?_
        rintro e w4 ⟨rfl, hb4⟩
        clear p0 p1 p2 p3 p4
        have hbl4 := hbl3.trans (hb4.mono hbl3.size)
        have hz4 := Nat.lt_of_lt_of_le hz3 hb4.size
        have PB4 := PB3.below hb4 hz3
        have p0 := PB4.c0; have p1 := PB4.c1; have p2 := PB4.c2; have p3 := PB4.c3; have p4 := PB4.c4
        go_wp2_with fail
        refine (HN.out _).mono ?_
        rintro e w5 ⟨m, bs, rfl, hm5, hmb, hbb, hb5⟩
        have HM5 := Lib.hid hm5
        clear hm5
        clear p0 p1 p2 p3 p4
        have hbl5 := hbl4.trans (hb5.mono hbl4.size)
        have hz5 := Nat.lt_of_lt_of_le hz4 hb5.size
        have PB5 := PB4.below hb5 hz4
        have p0 := PB5.c0; have p1 := PB5.c1; have p2 := PB5.c2; have p3 := PB5.c3; have p4 := PB5.c4
        go_wp2_with fail
        refine (HRN.out _).mono ?_
        rintro e w6 ⟨n, rs, rfl, hr6, hnb, hrb, hb6⟩
        have HM6 := Lib.hid (HM5.out.below0 hb6)
        have HR6 := Lib.hid hr6
        clear hr6
        clear p0 p1 p2 p3 p4
        have hbl6 := hbl5.trans (hb6.mono hbl5.size)
        have hz6 := Nat.lt_of_lt_of_le hz5 hb6.size
        have PB6 := PB5.below hb6 hz5
        have p0 := PB6.c0; have p1 := PB6.c1; have p2 := PB6.c2; have p3 := PB6.c3; have p4 := PB6.c4
        have h16 := hbl6.size
        have hbs1 : w.heap.size ≤ bs := Nat.le_trans hbl4.size hbb
        have hrs1 : w.heap.size ≤ rs := Nat.le_trans hbl5.size hrb
        have HP := Lib.hid (play_any l A c HM6.out HR6.out HF.out (HRD.out.below hbl6 (Nat.le_refl _)) (opsok HOK.out HS.out (belKept hbl6) (fun i hi h => by omega)) h16 hbs1 hrs1 (by have := ((shortOps_iff l).1 HS.out).1; omega))
        go_wp2_with fail
        refine HP.out.mono ?_
        rintro e w7 ⟨rfl, hm7, hr7, hk7⟩
        have hbl7 : Below w.heap.size w w7 := hbl6.trans (hk7.below (B := w.heap.size) (fun i hi => by omega) h16)
        have HSM := Lib.hid (same_any hm7 hr7 (HF.out.len (playL_len _ _ _)) (short_play l (short_blankL g)))
        clear hm7 hr7 PB6 PB5 PB4 PB3 PB1
        clear p0 p1 p2 p3 p4
        go_wp2_with fail
        refine HSM.out.mono ?_
        rintro e w8 ⟨rfl, hb8⟩
        go_wp2
        go_ret
        exact ⟨rfl, hbl7.trans (hb8.mono hbl7.size)⟩

set_option maxRecDepth 100000 in
theorem mediaOps_lifted (os : Os) (started : os.Started) (H : Type) (enc : TypeId × Value → H) :
    ReturnsInHanded {} Try.checked os 5 .any (Rows.mediaOpsSpec.pre6 enc Try.prog Try.f5 Rows.mediaOpsRow.domain false) (Rows.mediaOpsSpec.post enc Try.prog Try.f5 false true false false) := by
  refine returnsInHanded_of_change (C := Try.checked) own started (by kernel_rfl) Try.func5
    (ChangeSpec.witness6 (enc := enc) (C := Try.checked) false ⟨#[], #[.agg #[.int .i64 0, .int .i64 0, .int .i64 0, .int .i64 0, .int .i64 0], .slice none 0 0], []⟩ 8 (by kernel_rfl) (by kernel_rfl) (by kernel_rfl) (by kernel_rfl)) ?_
  intro W base args ds gs before hval0 hW hcnd _
  have hval : ∀ (j : Nat) t v, Try.f5.params[j]? = some t → args[j]? = some v → Value.okWide Try.prog W .any base t v := hval0
  have hW' := hW
  obtain ⟨p, q, hA0, hV, rfl, hfz, hnd⟩ := hW
  have hA : DataW.TrodAll enc Try.prog W 0 (fun _ => true) true Try.f5.params.toList args.toList ds p := hA0
  rw [Try.params5] at hA hval
  obtain ⟨v0, vs0, d0, ds0, p0, q0, hargs, rfl, rfl, h0, r0⟩ := trodAll_cons hA
  obtain ⟨v1, vs1, d1, ds1, p1, q1, rfl, rfl, rfl, h1, r1⟩ := trodAll_cons r0
  obtain ⟨rfl, rfl, rfl⟩ := trodAll_nil r1
  obtain rfl : args = #[v0, v1] := by cases args; simp_all
  obtain ⟨rfl, rfl⟩ := trodVars_none hV
  have k0 := h0
  have lt0 : ∀ x ∈ p0, x.block < W.heap.size := by obtain ⟨m, hm⟩ := k0; exact DataW.trod_lt m _ _ _ hm
  have k1 := h1
  have lt1 : ∀ x ∈ p1, x.block < W.heap.size := by obtain ⟨m, hm⟩ := k1; exact DataW.trod_lt m _ _ _ hm
  obtain ⟨g, rfl, hg⟩ := open_geo (hval 0 _ _ rfl rfl) h0
  obtain ⟨A, l, c, rfl, hl⟩ := open_opsv (hval 1 _ _ rfl rfl) h1
  clear hA0 hval0
  refine (mediaOps_walk g A l c W hl).mono fun e W' ⟨he, bel⟩ => ?_
  subst he
  exact ⟨_, rfl, _, _, _, [], _, [], hW', trodAll_mk1 (shut_bool Try.underlying4 _), (trodAll_cons_mk (Below.trod laidOut (by kernel_rfl) (of_decide_eq_true (by kernel_rfl)) k0 bel lt0) (trodAll_cons_mk (Below.trod laidOut (by kernel_rfl) (of_decide_eq_true (by kernel_rfl)) k1 bel lt1) trodAll_mk0)), rfl, bel.frame _, fun h => by cases h⟩

/-- The statement. -/
theorem mediaOps_holds : Rows.MediaOpsSaid :=
  OpenClaim.holds_of_wide 5 Try.f5 rfl rfl rfl rfl rfl rfl rfl ⟨rfl, rfl, rfl, rfl, rfl⟩ rfl rfl rfl rfl rfl (by kernel_rfl) Try.func5 (by kernel_rfl)
    (of_decide_eq_true (by kernel_rfl)) (by unfold Func.isWrapper; first | (rw [if_pos (by decide +kernel)]; kernel_rfl) | (rw [if_neg (by decide +kernel)]; exact ⟨rfl, rfl⟩))
    (fun os started H enc _ => mediaOps_lifted os started H enc)
#print axioms mediaOps_holds
end Go.Proofs.Ytmjkpnplfeafeaa
