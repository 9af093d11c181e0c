/-
  WHAT IS SHOWN: tegulalaw12.CacheFlush returns true for any geometry, steps and number, and changes nothing. No condition.
-/
import Derived.Test.YtmjkpnplfeafeaaCac10
namespace Go.Proofs.Ytmjkpnplfeafeaa
set_option linter.unusedVariables false
open Go.ChangeShapes Go.WideShapes Go.ChangeAt Go.RowKit

set_option maxRecDepth 100000 in
set_option maxHeartbeats 2000000 in
theorem cacheFlush_walk (g : Geo) (A : Option Addr) (l : List StepV) (c : Nat) (keep : Int) (w : World) (hl : StepsIn w (.slice A l.length c) A l c) :
    Calls Try.prog 12 #[.agg #[.int .i64 g.random, .int .i64 g.bands, .int .i64 g.tracks, .int .i64 g.sectors, .int .i64 g.overlap], .slice A l.length c, .int .i64 keep] w fun e w' => e = .returned (.bool true) ∧ Below w.heap.size w w' := by
  have hb0 : Below w.heap.size w (w.alloc (.cells #[.int .i64 g.random, .int .i64 g.bands, .int .i64 g.tracks, .int .i64 g.sectors, .int .i64 g.overlap] 23)) := (Below.refl _ _).alloc (Nat.le_refl _) _
  have HRD := Lib.hid hl.rd
  have HOK := Lib.hid hl.ok
  have hbig := hl.big
  have HFR : Hid (∀ W, Below w.heap.size w W → Calls Try.prog 36 #[.agg #[.int .i64 g.random, .int .i64 g.bands, .int .i64 g.tracks, .int .i64 g.sectors, .int .i64 g.overlap], .slice A l.length c] W fun e w' => e = .returned (.bool (fair12B g l)) ∧ Below W.heap.size W w') := by
    unfold Hid; intro W hW; exact fair12_any g l A c W ((HRD.out.below hW (Nat.le_refl _)).more hW.size) hbig (fun o ho => (HOK.out o ho).n)
  clear hl
  cases hs : fair12B g l
  · rw [hs] at HFR
    clear hs
    go_enter Try.func12, Try.ntmps12
    go_wp2_with fail
    refine (awake12_any _).mono ?_
    rintro e w1 ⟨rfl, hb1⟩
    have hbl1 := hb0.trans (hb1.mono hb0.size)
    have PB1 := Cells5.below (Cells5.new w 23 (.int .i64 g.random) (.int .i64 g.bands) (.int .i64 g.tracks) (.int .i64 g.sectors) (.int .i64 g.overlap)) hb1 (by simp)
    have hz1 : w.heap.size < w1.heap.size := by have := hb1.size; simp at this; omega
    have p0 := PB1.c0; have p1 := PB1.c1; have p2 := PB1.c2; have p3 := PB1.c3; have p4 := PB1.c4
    go_wp2_with fail
    refine (HFR.out _ hbl1).mono ?_
    rintro e w3 ⟨rfl, hb3⟩
    clear p0 p1 p2 p3 p4
    have hbl3 := hbl1.trans (hb3.mono hbl1.size)
    have hz3 := Nat.lt_of_lt_of_le hz1 hb3.size
    have PB3 := PB1.below hb3 hz1
    have p0 := PB3.c0; have p1 := PB3.c1; have p2 := PB3.c2; have p3 := PB3.c3; have p4 := PB3.c4
    go_wp2_with fail
    refine (awake12_any _).mono ?_
    rintro e w4 ⟨rfl, hb4⟩
    clear p0 p1 p2 p3 p4
    have hbl4 := hbl3.trans (hb4.mono hbl3.size)
    have hz4 := Nat.lt_of_lt_of_le hz3 hb4.size
    have PB4 := PB3.below hb4 hz3
    have p0 := PB4.c0; have p1 := PB4.c1; have p2 := PB4.c2; have p3 := PB4.c3; have p4 := PB4.c4
    go_wp2
    go_ret
    exact ⟨rfl, hbl4⟩
  · rw [hs] at HFR
    obtain ⟨hv, hn40, hsh⟩ := fair12_parts hs
    have HF := Lib.hid (blank_fit ((validG_iff g).1 hv))
    have HST := Lib.hid (fun W => start_any g hv W)
    have HOKS := Lib.hid (stepsok HOK.out hsh)
    clear hs hv hsh
    go_enter Try.func12, Try.ntmps12
    go_wp2_with fail
    refine (awake12_any _).mono ?_
    rintro e w1 ⟨rfl, hb1⟩
    have hbl1 := hb0.trans (hb1.mono hb0.size)
    have PB1 := Cells5.below (Cells5.new w 23 (.int .i64 g.random) (.int .i64 g.bands) (.int .i64 g.tracks) (.int .i64 g.sectors) (.int .i64 g.overlap)) hb1 (by simp)
    have hz1 : w.heap.size < w1.heap.size := by have := hb1.size; simp at this; omega
    have p0 := PB1.c0; have p1 := PB1.c1; have p2 := PB1.c2; have p3 := PB1.c3; have p4 := PB1.c4
    go_wp2_with fail
    refine (HFR.out _ hbl1).mono ?_
    rintro e w3 ⟨rfl, hb3⟩
    clear p0 p1 p2 p3 p4
    have hbl3 := hbl1.trans (hb3.mono hbl1.size)
    have hz3 := Nat.lt_of_lt_of_le hz1 hb3.size
    have PB3 := PB1.below hb3 hz1
    have p0 := PB3.c0; have p1 := PB3.c1; have p2 := PB3.c2; have p3 := PB3.c3; have p4 := PB3.c4
    go_wp2_with fail
    refine (HST.out _).mono ?_
    rintro e wS ⟨pS, dS, rfl, hpS, hdS, hbS⟩
    have hblS := hbl3.trans (hbS.mono hbl3.size)
    have HT : Hid (Two wS w.heap.size pS dS g (blankL g) []) := ⟨hpS.mono hbl3.size, hdS.mono hbl3.size, HF.out, short_blank _, hblS.size⟩
    clear hpS hdS PB3
    clear p0 p1 p2 p3 p4
    go_wp2_with fail
    refine (play12_any l A c HT.out (HRD.out.below hblS (Nat.le_refl _)) (HOKS.out wS hblS) (Nat.le_refl _) (by omega) (by simp)).mono ?_
    rintro e wP ⟨pP, LP, OPS, rfl, htP, hlenP, hkP⟩
    have hblP := hblS.trans (hkP.below hblS.size)
    have HTP := Lib.hid htP
    clear htP
    have hol : OPS.length ≤ 1000 := by simp at hlenP; omega
    -- the contents ahead
    go_wp2_with fail
    refine (rcontents_any HTP.out.r HTP.out.f (by omega)).mono ?_
    rintro e wN ⟨n, rs, rfl, hn, hnb, hrb, hbN⟩
    have hblN := hblP.trans (hbN.mono hblP.size)
    have HN := Lib.hid hn
    have HTN := Lib.hid (HTP.out.below0 hbN)
    clear hn
    go_wp2_with fail
    refine (cflush_any HTN.out.c HTN.out.f HTN.out.B (by omega)).mono ?_
    rintro e wF ⟨rfl, hcF, hkF⟩
    have hblF := hblN.trans (hkF.below HTN.out.B)
    have HCF := Lib.hid hcF
    have HNF : Hid (RMed wF n rs g (playL g LP OPS)) := Lib.hid (HN.out.keptT hkF (by unfold CT; decide) (by unfold CT; decide))
    have hf2 : Hid (Fit g (playL g LP (OPS.take OPS.length))) := Lib.hid (HTP.out.f.len (playL_len _ _ _))
    clear hcF
    go_wp2_with fail
    refine (ccut_any keep HCF.out hf2.out hblF.size (by simp)).mono ?_
    rintro e wC ⟨rfl, hcC, hkC⟩
    have hblC := hblF.trans (hkC.below hblF.size)
    have e1 : playL g (playL g LP (OPS.take OPS.length)) (([] : List OpV).take (cutN keep ([] : List OpV).length)) = playL g LP OPS := by
      rw [List.take_of_length_le (Nat.le_refl _), List.take_nil]; rfl
    rw [e1] at hcC
    have HCC := Lib.hid hcC
    have HNC := Lib.hid (HNF.out.keptT hkC (by unfold CT; decide) (by unfold CT; decide))
    have HFX : Hid (Fit g (playL g LP OPS)) := Lib.hid (HTP.out.f.len (playL_len _ _ _))
    have HSX : Hid (ShortB (playL g LP OPS)) := Lib.hid (short_play _ HTP.out.s)
    have HPN := Lib.hid (cpending_any HCC.out)
    clear hcC e1 HTP HTN HCF hf2
    generalize playL g LP OPS = X at *
    go_wp2_with fail
    refine HPN.out.mono ?_
    rintro e wD ⟨rfl, rfl⟩
    go_wp2_with fail
    refine (cdurable_any HCC.out HFX.out).mono ?_
    rintro e wD ⟨m, b, rfl, hmD, hmm, hbb, hbD⟩
    have hblD := hblC.trans (hbD.mono hblC.size)
    have HND := Lib.hid (HNC.out.below0 hbD)
    have HCD := Lib.hid (HCC.out.below0 hbD)
    have HSM := Lib.hid (sameMedia_any hmD HND.out HFX.out HSX.out)
    clear hmD
    go_wp2_with fail
    refine HSM.out.mono ?_
    rintro e wE ⟨rfl, hbE⟩
    have hblE := hblD.trans (hbE.mono hblD.size)
    have HNE := Lib.hid (HND.out.below0 hbE)
    have HCE := Lib.hid (HCD.out.below0 hbE)
    go_wp2_with fail
    refine (rcnew_any HNE.out HFX.out).mono ?_
    rintro e wG ⟨d2, rfl, hd2, hbG⟩
    have hblG := hblE.trans (hbG.mono hblE.size)
    have HCG := Lib.hid (HCE.out.below0 hbG)
    have HDG := Lib.hid hd2
    clear hd2
    go_wp2_with fail
    refine (csame_any HCG.out HDG.out HFX.out HSX.out (by simp)).mono ?_
    rintro e wH ⟨rfl, hbH⟩
    go_wp2
    go_ret
    exact ⟨rfl, hblG.trans (hbH.mono hblG.size)⟩

set_option maxRecDepth 100000 in
theorem cacheFlush_lifted (os : Os) (started : os.Started) (H : Type) (enc : TypeId × Value → H) :
    ReturnsInHanded {} Try.checked os 12 .any (Rows.cacheFlushSpec.pre6 enc Try.prog Try.f12 Rows.cacheFlushRow.domain false) (Rows.cacheFlushSpec.post enc Try.prog Try.f12 false true false false) := by
  refine returnsInHanded_of_change (C := Try.checked) own started (by kernel_rfl) Try.func12
    (ChangeSpec.witness6 (enc := enc) (C := Try.checked) false ⟨#[], #[.agg #[.int .i64 0, .int .i64 0, .int .i64 0, .int .i64 0, .int .i64 0], .slice none 0 0, .int .i64 0], []⟩ 8 (by kernel_rfl) (by kernel_rfl) (by kernel_rfl) (by kernel_rfl)) ?_
  intro W base args ds gs before hval0 hW hcnd _
  have hval : ∀ (j : Nat) t v, Try.f12.params[j]? = some t → args[j]? = some v → Value.okWide Try.prog W .any base t v := hval0
  have hW' := hW
  obtain ⟨p, q, hA0, hV, rfl, hfz, hnd⟩ := hW
  have hA : DataW.TrodAll enc Try.prog W 0 (fun _ => true) true Try.f12.params.toList args.toList ds p := hA0
  rw [Try.params12] at hA hval
  obtain ⟨v0, vs0, d0, ds0, p0, q0, hargs, rfl, rfl, h0, r0⟩ := trodAll_cons hA
  obtain ⟨v1, vs1, d1, ds1, p1, q1, rfl, rfl, rfl, h1, r1⟩ := trodAll_cons r0
  obtain ⟨v2, vs2, d2, ds2, p2, q2, rfl, rfl, rfl, h2, r2⟩ := trodAll_cons r1
  obtain ⟨rfl, rfl, rfl⟩ := trodAll_nil r2
  obtain rfl : args = #[v0, v1, v2] := by cases args; simp_all
  obtain ⟨rfl, rfl⟩ := trodVars_none hV
  have k0 := h0
  have lt0 : ∀ x ∈ p0, x.block < W.heap.size := by obtain ⟨m, hm⟩ := k0; exact DataW.trod_lt m _ _ _ hm
  have k1 := h1
  have lt1 : ∀ x ∈ p1, x.block < W.heap.size := by obtain ⟨m, hm⟩ := k1; exact DataW.trod_lt m _ _ _ hm
  have k2 := h2
  have lt2 : ∀ x ∈ p2, x.block < W.heap.size := by obtain ⟨m, hm⟩ := k2; exact DataW.trod_lt m _ _ _ hm
  obtain ⟨g, rfl, hg⟩ := open_geo (hval 0 _ _ rfl rfl) h0
  obtain ⟨A, l, c, rfl, hl⟩ := open_stepsv (hval 1 _ _ rfl rfl) h1
  obtain ⟨keep, rfl, _, _, w2⟩ := open_int Try.underlying3 (hval 2 _ _ rfl rfl) h2
  clear hA0 hval0
  refine (cacheFlush_walk g A l c keep W hl).mono fun e W' ⟨he, bel⟩ => ?_
  subst he
  exact ⟨_, rfl, _, _, _, [], _, [], hW', trodAll_mk1 (shut_bool Try.underlying4 _), (trodAll_cons_mk (Below.trod laidOut (by kernel_rfl) (of_decide_eq_true (by kernel_rfl)) k0 bel lt0) (trodAll_cons_mk (Below.trod laidOut (by kernel_rfl) (of_decide_eq_true (by kernel_rfl)) k1 bel lt1) (trodAll_cons_mk (Below.trod laidOut (by kernel_rfl) (of_decide_eq_true (by kernel_rfl)) k2 bel lt2) trodAll_mk0))), rfl, bel.frame _, fun h => by cases h⟩

/-- The statement. -/
theorem cacheFlush_holds : Rows.CacheFlushSaid :=
  OpenClaim.holds_of_wide 12 Try.f12 rfl rfl rfl rfl rfl rfl rfl ⟨rfl, rfl, rfl, rfl, rfl⟩ rfl rfl rfl rfl rfl (by kernel_rfl) Try.func12 (by kernel_rfl)
    (of_decide_eq_true (by kernel_rfl)) (by unfold Func.isWrapper; first | (rw [if_pos (by decide +kernel)]; kernel_rfl) | (rw [if_neg (by decide +kernel)]; exact ⟨rfl, rfl⟩))
    (fun os started H enc _ => cacheFlush_lifted os started H enc)
#print axioms cacheFlush_holds
end Go.Proofs.Ytmjkpnplfeafeaa
