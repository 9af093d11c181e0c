/-
  WHAT IS SHOWN: tegulalaw11.MediaClone returns true for any geometry and operations, and changes nothing. No condition.
-/
import Derived.Test.YtmjkpnplfeafeaaMediaOps
namespace Go.Proofs.Ytmjkpnplfeafeaa
set_option linter.unusedVariables false
open Go.ChangeShapes Go.WideShapes Go.ChangeAt Go.RowKit

/-- A pair of media stays while another pair is played on. -/
theorem pair_kept {w w' : World} {m bs n rs m2 bs2 n2 rs2 : Nat} {g g2 : Geo} {L L2 : List Sec} (hm : Med w m bs g L) (hr : RMed w n rs g L) (hm2 : Med w m2 bs2 g2 L2) (hr2 : RMed w n2 rs2 g2 L2)
    (hk : Kept (fun k => k = bs2 ∨ k = rs2) w w') (h1 : bs ≠ bs2) (h2 : rs ≠ rs2) : Med w' m bs g L ∧ RMed w' n rs g L := by
  obtain ⟨a1, a2, a3, a4⟩ := med_apart hm hr2
  obtain ⟨b1, b2, b3, b4⟩ := med_apart hm2 hr
  have c1 : m ≠ bs2 := by
    obtain ⟨c, V, e1, _⟩ := hm
    obtain ⟨c', V', _, e2, _⟩ := hm2
    obtain ⟨cur, hc⟩ := own_type e2
    intro e; subst e; rw [e1] at hc; injection hc with hc; injection hc with _ hc; revert hc; decide
  have c2 : n ≠ rs2 := by
    obtain ⟨c, e1, _⟩ := hr
    obtain ⟨c', _, e2⟩ := hr2
    obtain ⟨cur, hc⟩ := own_type e2
    intro e; subst e; rw [e1] at hc; injection hc with hc; injection hc with _ hc; revert hc; decide
  refine ⟨hm.kept hk (fun h => ?_) (fun h => ?_) (hm2.nobytes.or hr2.nobytes), hr.kept hk (fun h => ?_) (fun h => ?_)⟩
  · rcases h with h | h
    · exact c1 h
    · exact a2 h
  · rcases h with h | h
    · exact h1 h
    · exact a4 h
  · rcases h with h | h
    · exact b3 h.symm
    · exact c2 h
  · rcases h with h | h
    · exact b4 h.symm
    · exact h2 h

set_option maxRecDepth 100000 in
set_option maxHeartbeats 2000000 in
theorem mediaClone_walk (g : Geo) (A : Option Addr) (l : List OpV) (c : Nat) (A' : Option Addr) (l' : List OpV) (c' : Nat) (w : World) (hl : OpsIn w (.slice A l.length c) A l c) (hl' : OpsIn w (.slice A' l'.length c') A' l' c') :
    Calls Try.prog 7 #[.agg #[.int .i64 g.random, .int .i64 g.bands, .int .i64 g.tracks, .int .i64 g.sectors, .int .i64 g.overlap], .slice A l.length c, .slice A' l'.length c'] w fun e w' => e = .returned (.bool true) ∧ Below w.heap.size w w' := by
  have hb0 : Below w.heap.size w (w.alloc (.cells #[.int .i64 g.random, .int .i64 g.bands, .int .i64 g.tracks, .int .i64 g.sectors, .int .i64 g.overlap] 23)) := (Below.refl _ _).alloc (Nat.le_refl _) _
  have HRD := Lib.hid hl.rd
  have HOK := Lib.hid hl.ok
  have hbig := hl.big
  have HRD' := Lib.hid hl'.rd
  have HOK' := Lib.hid hl'.ok
  have hbig' := hl'.big
  have HSH : Hid (∀ W, Below w.heap.size w W → Calls Try.prog 21 #[.slice A l.length c] W fun e w' => e = .returned (.bool (shortOps l)) ∧ W = w') := by
    unfold Hid; intro W hW; exact short_any l A c W ((HRD.out.below hW (Nat.le_refl _)).more hW.size) hbig (fun o ho => (HOK.out o ho).n)
  have HSH' : Hid (∀ W, Below w.heap.size w W → Calls Try.prog 21 #[.slice A' l'.length c'] W fun e w' => e = .returned (.bool (shortOps l')) ∧ W = w') := by
    unfold Hid; intro W hW; exact short_any l' A' c' W ((HRD'.out.below hW (Nat.le_refl _)).more hW.size) hbig' (fun o ho => (HOK'.out o ho).n)
  have HFR := Lib.hid (fun W => fair_any g W)
  clear hl hl'
  cases hs : shortOps l
  · rw [hs] at HSH
    clear hs
    go_enter Try.func7, Try.ntmps7
    go_wp2_with fail
    refine (awake11_any _).mono ?_
    rintro e w1 ⟨rfl, hb1⟩
    have hbl1 := hb0.trans (hb1.mono hb0.size)
    have PB1 := Cells5.below (Cells5.new w 23 _ _ _ _ _) hb1 (by simp)
    have hz1 : w.heap.size < w1.heap.size := by have := hb1.size; simp at this; omega
    have p0 := PB1.c0; have p1 := PB1.c1; have p2 := PB1.c2; have p3 := PB1.c3; have p4 := PB1.c4
    go_wp2_with fail
    refine (HSH.out _ hbl1).mono ?_
    rintro e w2 ⟨rfl, rfl⟩
    go_wp2_with fail
    refine (awake11_any _).mono ?_
    rintro e w3 ⟨rfl, hb3⟩
    clear p0 p1 p2 p3 p4
    have hbl3 := hbl1.trans (hb3.mono hbl1.size)
    have hz3 := Nat.lt_of_lt_of_le hz1 hb3.size
    have PB3 := PB1.below hb3 hz1
    have p0 := PB3.c0; have p1 := PB3.c1; have p2 := PB3.c2; have p3 := PB3.c3; have p4 := PB3.c4
    go_wp2
    go_ret
    exact ⟨rfl, hbl3⟩
  · rw [hs] at HSH
    cases hs' : shortOps l'
    · rw [hs'] at HSH'
      clear hs hs'
      go_enter Try.func7, Try.ntmps7
      go_wp2_with fail
      refine (awake11_any _).mono ?_
      rintro e w1 ⟨rfl, hb1⟩
      have hbl1 := hb0.trans (hb1.mono hb0.size)
      have PB1 := Cells5.below (Cells5.new w 23 _ _ _ _ _) hb1 (by simp)
      have hz1 : w.heap.size < w1.heap.size := by have := hb1.size; simp at this; omega
      have p0 := PB1.c0; have p1 := PB1.c1; have p2 := PB1.c2; have p3 := PB1.c3; have p4 := PB1.c4
      go_wp2_with fail
      refine (HSH.out _ hbl1).mono ?_
      rintro e w2 ⟨rfl, rfl⟩
      go_wp2_with fail
      refine (HSH'.out _ hbl1).mono ?_
      rintro e w2 ⟨rfl, rfl⟩
      go_wp2_with fail
      refine (awake11_any _).mono ?_
      rintro e w3 ⟨rfl, hb3⟩
      clear p0 p1 p2 p3 p4
      have hbl3 := hbl1.trans (hb3.mono hbl1.size)
      have hz3 := Nat.lt_of_lt_of_le hz1 hb3.size
      have PB3 := PB1.below hb3 hz1
      have p0 := PB3.c0; have p1 := PB3.c1; have p2 := PB3.c2; have p3 := PB3.c3; have p4 := PB3.c4
      go_wp2
      go_ret
      exact ⟨rfl, hbl3⟩
    · rw [hs'] at HSH'
      cases hfr : fairB g
      · rw [hfr] at HFR
        clear hs hs' hfr
        go_enter Try.func7, Try.ntmps7
        go_wp2_with fail
        refine (awake11_any _).mono ?_
        rintro e w1 ⟨rfl, hb1⟩
        have hbl1 := hb0.trans (hb1.mono hb0.size)
        have PB1 := Cells5.below (Cells5.new w 23 _ _ _ _ _) hb1 (by simp)
        have hz1 : w.heap.size < w1.heap.size := by have := hb1.size; simp at this; omega
        have p0 := PB1.c0; have p1 := PB1.c1; have p2 := PB1.c2; have p3 := PB1.c3; have p4 := PB1.c4
        go_wp2_with fail
        refine (HSH.out _ hbl1).mono ?_
        rintro e w2 ⟨rfl, rfl⟩
        go_wp2_with fail
        refine (HSH'.out _ hbl1).mono ?_
        rintro e w2 ⟨rfl, rfl⟩
        go_wp2_with fail
        refine (HFR.out _).mono ?_
        rintro e w3 ⟨rfl, hb3⟩
        clear p0 p1 p2 p3 p4
        have hbl3 := hbl1.trans (hb3.mono hbl1.size)
        have hz3 := Nat.lt_of_lt_of_le hz1 hb3.size
        have PB3 := PB1.below hb3 hz1
        have p0 := PB3.c0; have p1 := PB3.c1; have p2 := PB3.c2; have p3 := PB3.c3; have p4 := PB3.c4
        go_wp2_with fail
        refine (awake11_any _).mono ?_
        rintro e w4 ⟨rfl, hb4⟩
        clear p0 p1 p2 p3 p4
        have hbl4 := hbl3.trans (hb4.mono hbl3.size)
        have hz4 := Nat.lt_of_lt_of_le hz3 hb4.size
        have PB4 := PB3.below hb4 hz3
        have p0 := PB4.c0; have p1 := PB4.c1; have p2 := PB4.c2; have p3 := PB4.c3; have p4 := PB4.c4
        go_wp2
        go_ret
        exact ⟨rfl, hbl4⟩
      · rw [hfr] at HFR
        have hv := fair_valid hfr
        have HN := Lib.hid (fun W => new_yes g hv W)
        have HRN := Lib.hid (fun W => rnew_yes g hv W)
        have HF := Lib.hid (blank_fit ((validG_iff g).1 hv))
        have HS := Lib.hid hs
        have HS' := Lib.hid hs'
        clear hs hs' hv hfr
        go_enter Try.func7, Try.ntmps7
        go_wp2_with fail
        refine (awake11_any _).mono ?_
        rintro e w1 ⟨rfl, hb1⟩
        have hbl1 := hb0.trans (hb1.mono hb0.size)
        have PB1 := Cells5.below (Cells5.new w 23 _ _ _ _ _) hb1 (by simp)
        have hz1 : w.heap.size < w1.heap.size := by have := hb1.size; simp at this; omega
        have p0 := PB1.c0; have p1 := PB1.c1; have p2 := PB1.c2; have p3 := PB1.c3; have p4 := PB1.c4
        go_wp2_with fail
        refine (HSH.out _ hbl1).mono ?_
        rintro e w2 ⟨rfl, rfl⟩
        go_wp2_with fail
        refine (HSH'.out _ hbl1).mono ?_
        rintro e w2 ⟨rfl, rfl⟩
        go_wp2_with fail
        refine (HFR.out _).mono ?_
        rintro e w4 ⟨rfl, hb4⟩
        clear p0 p1 p2 p3 p4
        have hbl4 := hbl1.trans (hb4.mono hbl1.size)
        have hz4 := Nat.lt_of_lt_of_le hz1 hb4.size
        have PB4 := PB1.below hb4 hz1
        have p0 := PB4.c0; have p1 := PB4.c1; have p2 := PB4.c2; have p3 := PB4.c3; have p4 := PB4.c4
        go_wp2_with fail
        refine (HN.out _).mono ?_
        rintro e w5 ⟨m, bs, rfl, hm5, hmb, hbb, hb5⟩
        have HM5 := Lib.hid hm5
        clear hm5
        clear p0 p1 p2 p3 p4
        have hbl5 := hbl4.trans (hb5.mono hbl4.size)
        have hz5 := Nat.lt_of_lt_of_le hz4 hb5.size
        have PB5 := PB4.below hb5 hz4
        have p0 := PB5.c0; have p1 := PB5.c1; have p2 := PB5.c2; have p3 := PB5.c3; have p4 := PB5.c4
        go_wp2_with fail
        refine (HRN.out _).mono ?_
        rintro e w6 ⟨n, rs, rfl, hr6, hnb, hrb, hb6⟩
        have HM6 := Lib.hid (HM5.out.below0 hb6)
        have HR6 := Lib.hid hr6
        clear hr6
        clear p0 p1 p2 p3 p4
        have hbl6 := hbl5.trans (hb6.mono hbl5.size)
        have hz6 := Nat.lt_of_lt_of_le hz5 hb6.size
        have PB6 := PB5.below hb6 hz5
        have p0 := PB6.c0; have p1 := PB6.c1; have p2 := PB6.c2; have p3 := PB6.c3; have p4 := PB6.c4
        clear p0 p1 p2 p3 p4
        clear PB1 PB4 PB5 PB6 hb5 hb6 hbl1
        have h16 := hbl6.size
        have hbs1 : w.heap.size ≤ bs := Nat.le_trans hbl4.size hbb
        have hrs1 : w.heap.size ≤ rs := Nat.le_trans hbl5.size hrb
        have hn1 : l.length ≤ 100000 := by have := ((shortOps_iff l).1 HS.out).1; omega
        have hn2 : l'.length ≤ 100000 := by have := ((shortOps_iff l').1 HS'.out).1; omega
        clear hmb hbb hnb hrb hbl4 hbl5 hz1 hz4 hz5 hz6
        have HP := Lib.hid (play_any l A c HM6.out HR6.out HF.out (HRD.out.below hbl6 (Nat.le_refl _)) (opsok HOK.out HS.out (belKept hbl6) (fun i hi h => by omega)) h16 hbs1 hrs1 hn1)
        go_wp2_with fail
        refine HP.out.mono ?_
        rintro e w7 ⟨rfl, hm7, hr7, hk7⟩
        have hbl7 : Below w.heap.size w w7 := hbl6.trans (hk7.below (B := w.heap.size) (fun i hi => by omega) h16)
        have HF7 : Hid (Fit g (playL g (blankL g) l)) := Lib.hid (HF.out.len (playL_len _ _ _))
        have HB7 : Hid (ShortB (playL g (blankL g) l)) := Lib.hid (short_play l (short_blankL g))
        generalize playL g (blankL g) l = L7 at *
        have HC := Lib.hid (clone_any hm7 HF7.out)
        have HM7 := Lib.hid hm7
        have HR7 := Lib.hid hr7
        clear hm7 hr7 HP HM6 HR6 hk7
        go_wp2_with fail
        refine HC.out.mono ?_
        rintro e w8 ⟨m2, bs2, rfl, hm8, hmb, hbb, hb8⟩
        have hbl8 := hbl7.trans (hb8.mono hbl7.size)
        have HM8 := Lib.hid (HM7.out.below0 hb8)
        have HR8 := Lib.hid (HR7.out.below0 hb8)
        have HC8 := Lib.hid hm8
        have hbs2 : bs ≠ bs2 := by have := HM7.out.lt; omega
        have hbw2 : w.heap.size ≤ bs2 := Nat.le_trans hbl7.size hbb
        have HRC := Lib.hid (rclone_any HR8.out HF7.out)
        clear hm8
        go_wp2_with fail
        refine HRC.out.mono ?_
        rintro e w9 ⟨n2, rs2, rfl, hr9, hnb, hrb, hb9⟩
        have hbl9 := hbl8.trans (hb9.mono hbl8.size)
        have hm9 := HM8.out.below0 hb9
        have hr9' := HR8.out.below0 hb9
        have hc9 := HC8.out.below0 hb9
        have hrs2 : rs ≠ rs2 := by have := HR8.out.lt; omega
        have hrw2 : w.heap.size ≤ rs2 := Nat.le_trans hbl8.size hrb
        clear HM7 HR7 HM8 HR8 HC8 HC HRC hmb hbb hnb hrb
        have h19 := hbl9.size
        have HP2 := Lib.hid (play_any l' A' c' hc9 hr9 HF7.out (HRD'.out.below hbl9 (Nat.le_refl _)) (opsok HOK'.out HS'.out (belKept hbl9) (fun i hi h => by omega)) h19 hbw2 hrw2 hn2)
        have HKP : Hid (∀ W, Kept (fun k => k = bs2 ∨ k = rs2) w9 W → Med W m bs g L7 ∧ RMed W n rs g L7) := by
          unfold Hid; intro W hW; exact pair_kept hm9 hr9' hc9 hr9 hW hbs2 hrs2
        clear hm9 hr9' hc9 hr9
        go_wp2_with fail
        refine HP2.out.mono ?_
        rintro e w10 ⟨rfl, hc10, hd10, hk10⟩
        obtain ⟨hm10, hr10⟩ := HKP.out w10 hk10
        have hbl10 : Below w.heap.size w w10 := hbl9.trans (hk10.below (B := w.heap.size) (fun i hi => by omega) h19)
        have HF10 : Hid (Fit g (playL g L7 l')) := Lib.hid (HF7.out.len (playL_len _ _ _))
        have HB10 : Hid (ShortB (playL g L7 l')) := Lib.hid (short_play l' HB7.out)
        generalize playL g L7 l' = L10 at *
        have HSM := Lib.hid (same_any hm10 hr10 HF7.out HB7.out)
        have HM10 := Lib.hid hm10
        have HR10 := Lib.hid hr10
        have HC10 := Lib.hid hc10
        have HD10 := Lib.hid hd10
        clear hm10 hr10 hc10 hd10 HP2 HKP hk10
        go_wp2_with fail
        refine HSM.out.mono ?_
        rintro e w11 ⟨rfl, hb11⟩
        have hbl11 := hbl10.trans (hb11.mono hbl10.size)
        have hm11 := HM10.out.below0 hb11
        have hr11 := HR10.out.below0 hb11
        have hc11 := HC10.out.below0 hb11
        have hd11 := HD10.out.below0 hb11
        have h111 := hbl11.size
        have HP3 := Lib.hid (play_any l A c hm11 hr11 HF7.out (HRD.out.below hbl11 (Nat.le_refl _)) (opsok HOK.out HS.out (belKept hbl11) (fun i hi h => by omega)) h111 hbs1 hrs1 hn1)
        have HKP : Hid (∀ W, Kept (fun k => k = bs ∨ k = rs) w11 W → Med W m2 bs2 g L10 ∧ RMed W n2 rs2 g L10) := by
          unfold Hid; intro W hW; exact pair_kept hc11 hd11 hm11 hr11 hW (fun e => hbs2 e.symm) (fun e => hrs2 e.symm)
        clear hm11 hr11 hc11 hd11 HSM HM10 HR10 HC10 HD10
        go_wp2_with fail
        refine HP3.out.mono ?_
        rintro e w12 ⟨rfl, hm12, hr12, hk12⟩
        obtain ⟨hc12, hd12⟩ := HKP.out w12 hk12
        have hbl12 : Below w.heap.size w w12 := hbl11.trans (hk12.below (B := w.heap.size) (fun i hi => by omega) h111)
        have HF12 : Hid (Fit g (playL g L7 l)) := Lib.hid (HF7.out.len (playL_len _ _ _))
        have HB12 : Hid (ShortB (playL g L7 l)) := Lib.hid (short_play l HB7.out)
        generalize playL g L7 l = L12 at *
        have HS1 := Lib.hid (same_any hc12 hd12 HF10.out HB10.out)
        have HM12 := Lib.hid hm12
        have HR12 := Lib.hid hr12
        clear hm12 hr12 hc12 hd12 HP3 HKP hk12
        go_wp2_with fail
        refine HS1.out.mono ?_
        rintro e w13 ⟨rfl, hb13⟩
        have hbl13 := hbl12.trans (hb13.mono hbl12.size)
        have HS2 := Lib.hid (same_any (HM12.out.below0 hb13) (HR12.out.below0 hb13) HF12.out HB12.out)
        go_wp2_with fail
        refine HS2.out.mono ?_
        rintro e w14 ⟨rfl, hb14⟩
        go_wp2
        go_ret
        exact ⟨rfl, hbl13.trans (hb14.mono hbl13.size)⟩

set_option maxRecDepth 100000 in
theorem mediaClone_lifted (os : Os) (started : os.Started) (H : Type) (enc : TypeId × Value → H) :
    ReturnsInHanded {} Try.checked os 7 .any (Rows.mediaCloneSpec.pre6 enc Try.prog Try.f7 Rows.mediaCloneRow.domain false) (Rows.mediaCloneSpec.post enc Try.prog Try.f7 false true false false) := by
  refine returnsInHanded_of_change (C := Try.checked) own started (by kernel_rfl) Try.func7
    (ChangeSpec.witness6 (enc := enc) (C := Try.checked) false ⟨#[], #[.agg #[.int .i64 0, .int .i64 0, .int .i64 0, .int .i64 0, .int .i64 0], .slice none 0 0, .slice none 0 0], []⟩ 8 (by kernel_rfl) (by kernel_rfl) (by kernel_rfl) (by kernel_rfl)) ?_
  intro W base args ds gs before hval0 hW hcnd _
  have hval : ∀ (j : Nat) t v, Try.f7.params[j]? = some t → args[j]? = some v → Value.okWide Try.prog W .any base t v := hval0
  have hW' := hW
  obtain ⟨p, q, hA0, hV, rfl, hfz, hnd⟩ := hW
  have hA : DataW.TrodAll enc Try.prog W 0 (fun _ => true) true Try.f7.params.toList args.toList ds p := hA0
  rw [Try.params7] at hA hval
  obtain ⟨v0, vs0, d0, ds0, p0, q0, hargs, rfl, rfl, h0, r0⟩ := trodAll_cons hA
  obtain ⟨v1, vs1, d1, ds1, p1, q1, rfl, rfl, rfl, h1, r1⟩ := trodAll_cons r0
  obtain ⟨v2, vs2, d2, ds2, p2, q2, rfl, rfl, rfl, h2, r2⟩ := trodAll_cons r1
  obtain ⟨rfl, rfl, rfl⟩ := trodAll_nil r2
  obtain rfl : args = #[v0, v1, v2] := by cases args; simp_all
  obtain ⟨rfl, rfl⟩ := trodVars_none hV
  have k0 := h0
  have lt0 : ∀ x ∈ p0, x.block < W.heap.size := by obtain ⟨m, hm⟩ := k0; exact DataW.trod_lt m _ _ _ hm
  have k1 := h1
  have lt1 : ∀ x ∈ p1, x.block < W.heap.size := by obtain ⟨m, hm⟩ := k1; exact DataW.trod_lt m _ _ _ hm
  have k2 := h2
  have lt2 : ∀ x ∈ p2, x.block < W.heap.size := by obtain ⟨m, hm⟩ := k2; exact DataW.trod_lt m _ _ _ hm
  obtain ⟨g, rfl, hg⟩ := open_geo (hval 0 _ _ rfl rfl) h0
  obtain ⟨A, l, c, rfl, hl⟩ := open_opsv (hval 1 _ _ rfl rfl) h1
  obtain ⟨A', l', c', rfl, hl'⟩ := open_opsv (hval 2 _ _ rfl rfl) h2
  clear hA0 hval0
  refine (mediaClone_walk g A l c A' l' c' W hl hl').mono fun e W' ⟨he, bel⟩ => ?_
  subst he
  exact ⟨_, rfl, _, _, _, [], _, [], hW', trodAll_mk1 (shut_bool Try.underlying4 _), (trodAll_cons_mk (Below.trod laidOut (by kernel_rfl) (of_decide_eq_true (by kernel_rfl)) k0 bel lt0) (trodAll_cons_mk (Below.trod laidOut (by kernel_rfl) (of_decide_eq_true (by kernel_rfl)) k1 bel lt1) (trodAll_cons_mk (Below.trod laidOut (by kernel_rfl) (of_decide_eq_true (by kernel_rfl)) k2 bel lt2) trodAll_mk0))), rfl, bel.frame _, fun h => by cases h⟩

/-- The statement. -/
theorem mediaClone_holds : Rows.MediaCloneSaid :=
  OpenClaim.holds_of_wide 7 Try.f7 rfl rfl rfl rfl rfl rfl rfl ⟨rfl, rfl, rfl, rfl, rfl⟩ rfl rfl rfl rfl rfl (by kernel_rfl) Try.func7 (by kernel_rfl)
    (of_decide_eq_true (by kernel_rfl)) (by unfold Func.isWrapper; first | (rw [if_pos (by decide +kernel)]; kernel_rfl) | (rw [if_neg (by decide +kernel)]; exact ⟨rfl, rfl⟩))
    (fun os started H enc _ => mediaClone_lifted os started H enc)
#print axioms mediaClone_holds
end Go.Proofs.Ytmjkpnplfeafeaa
