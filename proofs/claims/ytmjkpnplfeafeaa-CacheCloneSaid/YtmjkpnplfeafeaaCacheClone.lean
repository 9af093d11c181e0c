/-
  WHAT IS SHOWN: tegulalaw12.CacheClone returns true for any geometry and steps, and changes nothing. No condition.
-/
import Derived.Test.YtmjkpnplfeafeaaCac10
namespace Go.Proofs.Ytmjkpnplfeafeaa
set_option linter.unusedVariables false
open Go.ChangeShapes Go.WideShapes Go.ChangeAt Go.RowKit

theorem rd_two (w : World) (x y : Int) (t : TypeId) (fr : Nat × Nat) : Rd (w.alloc (.cells #[.int .u8 x, .int .u8 y] t fr)) (w.heap.size + 1) (some ⟨w.heap.size, 0, none⟩) ([x, y].map (Value.int .u8)) := by
  intro j u hu
  match j with
  | 0 =>
    simp at hu
    subst hu
    refine ⟨w.heap.size, 0, rfl, by omega, ?_⟩
    rw [cell_of_row _ _ _ _ _ _ (heap_alloc_new w _)]
    rfl
  | 1 =>
    simp at hu
    subst hu
    refine ⟨w.heap.size, 0, rfl, by omega, ?_⟩
    rw [cell_of_row _ _ _ _ _ _ (heap_alloc_new w _)]
    rfl
  | j + 2 => simp at hu
set_option maxRecDepth 100000 in
set_option maxHeartbeats 4000000 in
theorem cacheClone_walk (g : Geo) (A : Option Addr) (l : List StepV) (c : Nat) (A' : Option Addr) (l' : List StepV) (c' : Nat) (w : World) (hl : StepsIn w (.slice A l.length c) A l c) (hl' : StepsIn w (.slice A' l'.length c') A' l' c') :
    Calls Try.prog 13 #[.agg #[.int .i64 g.random, .int .i64 g.bands, .int .i64 g.tracks, .int .i64 g.sectors, .int .i64 g.overlap], .slice A l.length c, .slice A' l'.length c'] w fun e w' => e = .returned (.bool true) ∧ Below w.heap.size w w' := by
  have hb0 : Below w.heap.size w (w.alloc (.cells #[.int .i64 g.random, .int .i64 g.bands, .int .i64 g.tracks, .int .i64 g.sectors, .int .i64 g.overlap] 23)) := (Below.refl _ _).alloc (Nat.le_refl _) _
  have HRD := Lib.hid hl.rd
  have HOK := Lib.hid hl.ok
  have hbig := hl.big
  have HRD' := Lib.hid hl'.rd
  have HOK' := Lib.hid hl'.ok
  have hbig' := hl'.big
  have HFR : Hid (∀ W, Below w.heap.size w W → Calls Try.prog 36 #[.agg #[.int .i64 g.random, .int .i64 g.bands, .int .i64 g.tracks, .int .i64 g.sectors, .int .i64 g.overlap], .slice A l.length c] W fun e w' => e = .returned (.bool (fair12B g l)) ∧ Below W.heap.size W w') := by
    unfold Hid; intro W hW; exact fair12_any g l A c W ((HRD.out.below hW (Nat.le_refl _)).more hW.size) hbig (fun o ho => (HOK.out o ho).n)
  have HFR' : Hid (∀ W, Below w.heap.size w W → Calls Try.prog 36 #[.agg #[.int .i64 g.random, .int .i64 g.bands, .int .i64 g.tracks, .int .i64 g.sectors, .int .i64 g.overlap], .slice A' l'.length c'] W fun e w' => e = .returned (.bool (fair12B g l')) ∧ Below W.heap.size W w') := by
    unfold Hid; intro W hW; exact fair12_any g l' A' c' W ((HRD'.out.below hW (Nat.le_refl _)).more hW.size) hbig' (fun o ho => (HOK'.out o ho).n)
  clear hl hl'
  by_cases hs0 : fair12B g l = false
  · rw [hs0] at HFR
    clear hs0
    go_enter Try.func13, Try.ntmps13
    go_wp2_with fail
    refine (awake12_any _).mono ?_
    rintro e w1 ⟨rfl, hb1⟩
    have hbl1 := hb0.trans (hb1.mono hb0.size)
    have PB1 := Cells5.below (Cells5.new w 23 (.int .i64 g.random) (.int .i64 g.bands) (.int .i64 g.tracks) (.int .i64 g.sectors) (.int .i64 g.overlap)) hb1 (by simp)
    have hz1 : w.heap.size < w1.heap.size := by have := hb1.size; simp at this; omega
    have p0 := PB1.c0; have p1 := PB1.c1; have p2 := PB1.c2; have p3 := PB1.c3; have p4 := PB1.c4
    go_wp2_with fail
    refine (HFR.out _ hbl1).mono ?_
    rintro e w3 ⟨rfl, hb3⟩
    clear p0 p1 p2 p3 p4
    have hbl3 := hbl1.trans (hb3.mono hbl1.size)
    have hz3 := Nat.lt_of_lt_of_le hz1 hb3.size
    have PB3 := PB1.below hb3 hz1
    have p0 := PB3.c0; have p1 := PB3.c1; have p2 := PB3.c2; have p3 := PB3.c3; have p4 := PB3.c4
    go_wp2_with fail
    refine (awake12_any _).mono ?_
    rintro e w4 ⟨rfl, hb4⟩
    clear p0 p1 p2 p3 p4
    have hbl4 := hbl3.trans (hb4.mono hbl3.size)
    have hz4 := Nat.lt_of_lt_of_le hz3 hb4.size
    have PB4 := PB3.below hb4 hz3
    have p0 := PB4.c0; have p1 := PB4.c1; have p2 := PB4.c2; have p3 := PB4.c3; have p4 := PB4.c4
    go_wp2
    go_ret
    exact ⟨rfl, hbl4⟩
  have hs : fair12B g l = true := by simpa using hs0
  clear hs0
  rw [hs] at HFR
  by_cases hs0 : fair12B g l' = false
  · rw [hs0] at HFR'
    clear hs0 hs
    go_enter Try.func13, Try.ntmps13
    go_wp2_with fail
    refine (awake12_any _).mono ?_
    rintro e w1 ⟨rfl, hb1⟩
    have hbl1 := hb0.trans (hb1.mono hb0.size)
    have PB1 := Cells5.below (Cells5.new w 23 (.int .i64 g.random) (.int .i64 g.bands) (.int .i64 g.tracks) (.int .i64 g.sectors) (.int .i64 g.overlap)) hb1 (by simp)
    have hz1 : w.heap.size < w1.heap.size := by have := hb1.size; simp at this; omega
    have p0 := PB1.c0; have p1 := PB1.c1; have p2 := PB1.c2; have p3 := PB1.c3; have p4 := PB1.c4
    go_wp2_with fail
    refine (HFR.out _ hbl1).mono ?_
    rintro e w3 ⟨rfl, hb3⟩
    clear p0 p1 p2 p3 p4
    have hbl3 := hbl1.trans (hb3.mono hbl1.size)
    have hz3 := Nat.lt_of_lt_of_le hz1 hb3.size
    have PB3 := PB1.below hb3 hz1
    have p0 := PB3.c0; have p1 := PB3.c1; have p2 := PB3.c2; have p3 := PB3.c3; have p4 := PB3.c4
    go_wp2_with fail
    refine (HFR'.out _ hbl3).mono ?_
    rintro e w4 ⟨rfl, hb4⟩
    clear p0 p1 p2 p3 p4
    have hbl4 := hbl3.trans (hb4.mono hbl3.size)
    have hz4 := Nat.lt_of_lt_of_le hz3 hb4.size
    have PB4 := PB3.below hb4 hz3
    have p0 := PB4.c0; have p1 := PB4.c1; have p2 := PB4.c2; have p3 := PB4.c3; have p4 := PB4.c4
    go_wp2_with fail
    refine (awake12_any _).mono ?_
    rintro e w5 ⟨rfl, hb5⟩
    clear p0 p1 p2 p3 p4
    have hbl5 := hbl4.trans (hb5.mono hbl4.size)
    have hz5 := Nat.lt_of_lt_of_le hz4 hb5.size
    have PB5 := PB4.below hb5 hz4
    have p0 := PB5.c0; have p1 := PB5.c1; have p2 := PB5.c2; have p3 := PB5.c3; have p4 := PB5.c4
    go_wp2
    go_ret
    exact ⟨rfl, hbl5⟩
  have hs' : fair12B g l' = true := by simpa using hs0
  clear hs0
  rw [hs'] at HFR'
  obtain ⟨hv, hn40, hsh⟩ := fair12_parts hs
  obtain ⟨_, hn40', hsh'⟩ := fair12_parts hs'
  have HF := Lib.hid (blank_fit ((validG_iff g).1 hv))
  have HST := Lib.hid (fun W => start_any g hv W)
  have HOKS := Lib.hid (stepsok HOK.out hsh)
  have HOKS' := Lib.hid (stepsok HOK'.out hsh')
  clear hs hs' hv hsh hsh'
  go_enter Try.func13, Try.ntmps13
  go_wp2_with fail
  refine (awake12_any _).mono ?_
  rintro e w1 ⟨rfl, hb1⟩
  have hbl1 := hb0.trans (hb1.mono hb0.size)
  have PB1 := Cells5.below (Cells5.new w 23 (.int .i64 g.random) (.int .i64 g.bands) (.int .i64 g.tracks) (.int .i64 g.sectors) (.int .i64 g.overlap)) hb1 (by simp)
  have hz1 : w.heap.size < w1.heap.size := by have := hb1.size; simp at this; omega
  have p0 := PB1.c0; have p1 := PB1.c1; have p2 := PB1.c2; have p3 := PB1.c3; have p4 := PB1.c4
  go_wp2_with fail
  refine (HFR.out _ hbl1).mono ?_
  rintro e w3 ⟨rfl, hb3⟩
  clear p0 p1 p2 p3 p4
  have hbl3 := hbl1.trans (hb3.mono hbl1.size)
  have hz3 := Nat.lt_of_lt_of_le hz1 hb3.size
  have PB3 := PB1.below hb3 hz1
  have p0 := PB3.c0; have p1 := PB3.c1; have p2 := PB3.c2; have p3 := PB3.c3; have p4 := PB3.c4
  go_wp2_with fail
  refine (HFR'.out _ hbl3).mono ?_
  rintro e w4 ⟨rfl, hb4⟩
  clear p0 p1 p2 p3 p4
  have hbl4 := hbl3.trans (hb4.mono hbl3.size)
  have hz4 := Nat.lt_of_lt_of_le hz3 hb4.size
  have PB4 := PB3.below hb4 hz3
  have p0 := PB4.c0; have p1 := PB4.c1; have p2 := PB4.c2; have p3 := PB4.c3; have p4 := PB4.c4
  go_wp2_with fail
  refine (HST.out _).mono ?_
  rintro e wS ⟨pS, dS, rfl, hpS, hdS, hbS⟩
  have hblS := hbl4.trans (hbS.mono hbl4.size)
  have HT : Hid (Two wS w.heap.size pS dS g (blankL g) []) := ⟨hpS.mono hbl4.size, hdS.mono hbl4.size, HF.out, short_blank _, hblS.size⟩
  clear hpS hdS PB4
  clear p0 p1 p2 p3 p4
  go_wp2_with fail
  refine (play12_any l A c HT.out (HRD.out.below hblS (Nat.le_refl _)) (HOKS.out wS hblS) (Nat.le_refl _) (by omega) (by simp)).mono ?_
  rintro e wP ⟨pP, LP, OPS, rfl, htP, hlenP, hkP⟩
  have hblP := hblS.trans (hkP.below hblS.size)
  have HTP := Lib.hid htP
  clear htP
  have hol : OPS.length ≤ 40 := by simp at hlenP; omega
  have kc := fun (w : World) (C : Array Value) (n c : Nat) => Lib.run_convert_bytes_const (P := Try.prog) w 24 5 C n c Try.underlying24 Try.underlying5
  go_wp2_with fail
  refine (cclone_any HTP.out.c HTP.out.f (by omega)).mono ?_
  rintro e wE ⟨pe, rfl, hpe, hbE⟩
  have HPE := Lib.hid hpe
  have HTE := Lib.hid (HTP.out.below0 hbE)
  clear hpe
  go_wp2_with fail
  refine (rcclone_any HTE.out.r HTE.out.f).mono ?_
  rintro e wG ⟨df, rfl, hdf, hbG⟩
  have hbPG := hbE.trans (hbG.mono hbE.size)
  have HEF : Hid (Two wG wP.heap.size pe df g LP OPS) := ⟨HPE.out.below0 hbG, hdf.mono hbE.size, HTP.out.f, HTP.out.s, hbPG.size⟩
  have HTG := Lib.hid (HTE.out.below0 hbG)
  clear hdf HPE HTE
  go_wp2_with fail
  refine (cdurable_any HTG.out.c HTG.out.f).mono ?_
  rintro e wM ⟨m, bs, rfl, hm, hmm, hbb, hbM⟩
  have HM := Lib.hid hm
  clear hm HTG
  go_wp2_with fail
  refine (write_any (L := LP) 0 ⟨by omega, by omega⟩ (HM.out.below0 ((Below.refl _ _).alloc (Nat.le_refl _) _)) HTP.out.f [122, 122] _ _ ((rd_two wM 122 122 5 _).more (by simp)) (by simp)).mono ?_
  rintro e wW ⟨rfl, _, hkW⟩
  have hbGW : Below wG.heap.size wG wW := (hbM.alloc hbM.size _).trans (hkW.below (B := wG.heap.size) (fun i hi => by have e : i = bs := hi; omega) (Nat.le_trans hbM.size (by simp)))
  have HEW := Lib.hid (HEF.out.below0 hbGW)
  have hbPW := hbPG.trans (hbGW.mono hbPG.size)
  have hwW := hblP.trans (hbPW.mono hblP.size)
  clear HEF HM hkW kc
  go_wp2_with fail
  refine (play12_any l' A' c' HEW.out (HRD'.out.below hwW (Nat.le_refl _)) (HOKS'.out wW hwW) hblP.size (by omega) (by omega)).mono ?_
  rintro e wX ⟨pX, LX, OPX, rfl, htX, hlenX, hkX⟩
  have HTX := Lib.hid htX
  have hbPX := hbPW.trans (hkX.below hbPW.size)
  have hwX := hblP.trans (hbPX.mono hblP.size)
  clear htX HEW
  have HSX := Lib.hid (csame_any HTX.out.c HTX.out.r HTX.out.f HTX.out.s (by omega))
  go_wp2_with fail
  refine HSX.out.mono ?_
  rintro e wY ⟨rfl, hbY⟩
  have hbPY := hbPX.trans (hbY.mono hbPX.size)
  have HTY := Lib.hid (HTP.out.below0 hbPY)
  have HSY := Lib.hid (csame_any HTY.out.c HTY.out.r HTY.out.f HTY.out.s (by omega))
  clear HTX HTP
  go_wp2_with fail
  refine HSY.out.mono ?_
  rintro e wZ ⟨rfl, hbZ⟩
  have hbPZ := hbPY.trans (hbZ.mono hbPY.size)
  go_wp2
  go_ret
  exact ⟨rfl, hblP.trans (hbPZ.mono hblP.size)⟩

set_option maxRecDepth 100000 in
theorem cacheClone_lifted (os : Os) (started : os.Started) (H : Type) (enc : TypeId × Value → H) :
    ReturnsInHanded {} Try.checked os 13 .any (Rows.cacheCloneSpec.pre6 enc Try.prog Try.f13 Rows.cacheCloneRow.domain false) (Rows.cacheCloneSpec.post enc Try.prog Try.f13 false true false false) := by
  refine returnsInHanded_of_change (C := Try.checked) own started (by kernel_rfl) Try.func13
    (ChangeSpec.witness6 (enc := enc) (C := Try.checked) false ⟨#[], #[.agg #[.int .i64 0, .int .i64 0, .int .i64 0, .int .i64 0, .int .i64 0], .slice none 0 0, .slice none 0 0], []⟩ 8 (by kernel_rfl) (by kernel_rfl) (by kernel_rfl) (by kernel_rfl)) ?_
  intro W base args ds gs before hval0 hW hcnd _
  have hval : ∀ (j : Nat) t v, Try.f13.params[j]? = some t → args[j]? = some v → Value.okWide Try.prog W .any base t v := hval0
  have hW' := hW
  obtain ⟨p, q, hA0, hV, rfl, hfz, hnd⟩ := hW
  have hA : DataW.TrodAll enc Try.prog W 0 (fun _ => true) true Try.f13.params.toList args.toList ds p := hA0
  rw [Try.params13] at hA hval
  obtain ⟨v0, vs0, d0, ds0, p0, q0, hargs, rfl, rfl, h0, r0⟩ := trodAll_cons hA
  obtain ⟨v1, vs1, d1, ds1, p1, q1, rfl, rfl, rfl, h1, r1⟩ := trodAll_cons r0
  obtain ⟨v2, vs2, d2, ds2, p2, q2, rfl, rfl, rfl, h2, r2⟩ := trodAll_cons r1
  obtain ⟨rfl, rfl, rfl⟩ := trodAll_nil r2
  obtain rfl : args = #[v0, v1, v2] := by cases args; simp_all
  obtain ⟨rfl, rfl⟩ := trodVars_none hV
  have k0 := h0
  have lt0 : ∀ x ∈ p0, x.block < W.heap.size := by obtain ⟨m, hm⟩ := k0; exact DataW.trod_lt m _ _ _ hm
  have k1 := h1
  have lt1 : ∀ x ∈ p1, x.block < W.heap.size := by obtain ⟨m, hm⟩ := k1; exact DataW.trod_lt m _ _ _ hm
  have k2 := h2
  have lt2 : ∀ x ∈ p2, x.block < W.heap.size := by obtain ⟨m, hm⟩ := k2; exact DataW.trod_lt m _ _ _ hm
  obtain ⟨g, rfl, hg⟩ := open_geo (hval 0 _ _ rfl rfl) h0
  obtain ⟨A, l, c, rfl, hl⟩ := open_stepsv (hval 1 _ _ rfl rfl) h1
  obtain ⟨A', l', c', rfl, hl'⟩ := open_stepsv (hval 2 _ _ rfl rfl) h2
  clear hA0 hval0
  refine (cacheClone_walk g A l c A' l' c' W hl hl').mono fun e W' ⟨he, bel⟩ => ?_
  subst he
  exact ⟨_, rfl, _, _, _, [], _, [], hW', trodAll_mk1 (shut_bool Try.underlying4 _), (trodAll_cons_mk (Below.trod laidOut (by kernel_rfl) (of_decide_eq_true (by kernel_rfl)) k0 bel lt0) (trodAll_cons_mk (Below.trod laidOut (by kernel_rfl) (of_decide_eq_true (by kernel_rfl)) k1 bel lt1) (trodAll_cons_mk (Below.trod laidOut (by kernel_rfl) (of_decide_eq_true (by kernel_rfl)) k2 bel lt2) trodAll_mk0))), rfl, bel.frame _, fun h => by cases h⟩

/-- The statement. -/
theorem cacheClone_holds : Rows.CacheCloneSaid :=
  OpenClaim.holds_of_wide 13 Try.f13 rfl rfl rfl rfl rfl rfl rfl ⟨rfl, rfl, rfl, rfl, rfl⟩ rfl rfl rfl rfl rfl (by kernel_rfl) Try.func13 (by kernel_rfl)
    (of_decide_eq_true (by kernel_rfl)) (by unfold Func.isWrapper; first | (rw [if_pos (by decide +kernel)]; kernel_rfl) | (rw [if_neg (by decide +kernel)]; exact ⟨rfl, rfl⟩))
    (fun os started H enc _ => cacheClone_lifted os started H enc)
#print axioms cacheClone_holds
end Go.Proofs.Ytmjkpnplfeafeaa
