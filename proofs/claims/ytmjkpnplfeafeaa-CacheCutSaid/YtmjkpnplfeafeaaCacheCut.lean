/-
  WHAT IS SHOWN: tegulalaw12.CacheCut returns true for any geometry and steps, and changes nothing. No condition.
-/
import Derived.Test.YtmjkpnplfeafeaaCac10
namespace Go.Proofs.Ytmjkpnplfeafeaa
set_option linter.unusedVariables false
open Go.ChangeShapes Go.WideShapes Go.ChangeAt Go.RowKit

theorem own_typ {w : World} {base : Nat} {t : TypeId} {size n : Nat} {v : Value} {xs : List Value} (h : w.ownsRow base t size v n xs) : ∀ k, v.ownBlock = some k → IsT t w k ∧ base ≤ k := by
  intro k hk
  rcases h.2 with ⟨h2, _⟩ | ⟨g', cap, cur, h2, h3, h4, _⟩
  · rw [h2] at hk; cases hk
  · rw [h2] at hk; injection hk with hk; subst hk; exact ⟨IsT.of h4, h3⟩
theorem CacheM.keptO {w w' : World} {B p B' : Nat} {g : Geo} {LM : List Sec} {ops : List OpV} (h : CacheM w B p g LM ops) (hk : KeptT [40] B' w w') : CacheM w' B p g LM ops := by
  obtain ⟨m1, b1, m2, b2, A, c, F, h⟩ := h
  exact ⟨m1, b1, m2, b2, A, c, F, h.keptT hk (by decide)⟩
theorem rcac_med {w w1 : World} {B p : Nat} {g : Geo} {LM L' : List Sec} {l : List OpV} {m b : Nat} {A : Option Addr} {c : Nat} (h : RCac w B p g LM l m b A c) (hm : RMed w1 m b g L') (hk : Kept (fun k => k = b) w w1) : RCac w1 B p g L' l m b A c := by
  have t1 := h.med.types
  have tp := h.typ
  have f1 : Free w 40 (fun k => k = b) := by obtain ⟨cur, fr, hh⟩ := t1.2; exact Free.one hh (by decide)
  have f2 : Free w 5 (fun k => k = b) := by obtain ⟨cur, fr, hh⟩ := t1.2; exact Free.one hh (by decide)
  exact ⟨own_kept h.obj hk (fun k e => by simp [Value.ownBlock] at e; subst e; exact tp.ne t1.2 (by decide)), h.lb, hm, h.rd.kept hk f1, fun o ho => by
    obtain ⟨a1, a2, a3⟩ := h.op o ho
    exact ⟨a1, a2, a3.kept hk f2⟩, h.nil⟩
set_option maxRecDepth 100000 in
set_option maxHeartbeats 4000000 in
theorem cacheCut_walk (g : Geo) (A : Option Addr) (l : List StepV) (c : Nat) (A' : Option Addr) (l' : List StepV) (c' : Nat) (w : World) (hl : StepsIn w (.slice A l.length c) A l c) (hl' : StepsIn w (.slice A' l'.length c') A' l' c') :
    Calls Try.prog 11 #[.agg #[.int .i64 g.random, .int .i64 g.bands, .int .i64 g.tracks, .int .i64 g.sectors, .int .i64 g.overlap], .slice A l.length c, .slice A' l'.length c'] w fun e w' => e = .returned (.bool true) ∧ Below w.heap.size w w' := by
  obtain ⟨i0, hi0, hy0, hy1, hy2⟩ := info_parts info_op
  have hb0 : Below w.heap.size w (w.alloc (.cells #[.int .i64 g.random, .int .i64 g.bands, .int .i64 g.tracks, .int .i64 g.sectors, .int .i64 g.overlap] 23)) := (Below.refl _ _).alloc (Nat.le_refl _) _
  have HRD := Lib.hid hl.rd
  have HOK := Lib.hid hl.ok
  have hbig := hl.big
  have HRD' := Lib.hid hl'.rd
  have HOK' := Lib.hid hl'.ok
  have hbig' := hl'.big
  have HFR : Hid (∀ W, Below w.heap.size w W → Calls Try.prog 36 #[.agg #[.int .i64 g.random, .int .i64 g.bands, .int .i64 g.tracks, .int .i64 g.sectors, .int .i64 g.overlap], .slice A l.length c] W fun e w' => e = .returned (.bool (fair12B g l)) ∧ Below W.heap.size W w') := by
    unfold Hid; intro W hW; exact fair12_any g l A c W ((HRD.out.below hW (Nat.le_refl _)).more hW.size) hbig (fun o ho => (HOK.out o ho).n)
  have HFR' : Hid (∀ W, Below w.heap.size w W → Calls Try.prog 36 #[.agg #[.int .i64 g.random, .int .i64 g.bands, .int .i64 g.tracks, .int .i64 g.sectors, .int .i64 g.overlap], .slice A' l'.length c'] W fun e w' => e = .returned (.bool (fair12B g l')) ∧ Below W.heap.size W w') := by
    unfold Hid; intro W hW; exact fair12_any g l' A' c' W ((HRD'.out.below hW (Nat.le_refl _)).more hW.size) hbig' (fun o ho => (HOK'.out o ho).n)
  clear hl hl'
  by_cases hs0 : fair12B g l = false
  · rw [hs0] at HFR
    clear hs0
    go_enter Try.func11, Try.ntmps11
    go_wp2_with fail
    refine (awake12_any _).mono ?_
    rintro e w1 ⟨rfl, hb1⟩
    have hbl1 := hb0.trans (hb1.mono hb0.size)
    have PB1 := Cells5.below (Cells5.new w 23 (.int .i64 g.random) (.int .i64 g.bands) (.int .i64 g.tracks) (.int .i64 g.sectors) (.int .i64 g.overlap)) hb1 (by simp)
    have hz1 : w.heap.size < w1.heap.size := by have := hb1.size; simp at this; omega
    have p0 := PB1.c0; have p1 := PB1.c1; have p2 := PB1.c2; have p3 := PB1.c3; have p4 := PB1.c4
    go_wp2_with fail
    refine (HFR.out _ hbl1).mono ?_
    rintro e w3 ⟨rfl, hb3⟩
    clear p0 p1 p2 p3 p4
    have hbl3 := hbl1.trans (hb3.mono hbl1.size)
    have hz3 := Nat.lt_of_lt_of_le hz1 hb3.size
    have PB3 := PB1.below hb3 hz1
    have p0 := PB3.c0; have p1 := PB3.c1; have p2 := PB3.c2; have p3 := PB3.c3; have p4 := PB3.c4
    go_wp2_with fail
    refine (awake12_any _).mono ?_
    rintro e w4 ⟨rfl, hb4⟩
    clear p0 p1 p2 p3 p4
    have hbl4 := hbl3.trans (hb4.mono hbl3.size)
    have hz4 := Nat.lt_of_lt_of_le hz3 hb4.size
    have PB4 := PB3.below hb4 hz3
    have p0 := PB4.c0; have p1 := PB4.c1; have p2 := PB4.c2; have p3 := PB4.c3; have p4 := PB4.c4
    go_wp2
    go_ret
    exact ⟨rfl, hbl4⟩
  have hs : fair12B g l = true := by simpa using hs0
  clear hs0
  rw [hs] at HFR
  by_cases hs0 : fair12B g l' = false
  · rw [hs0] at HFR'
    clear hs0 hs
    go_enter Try.func11, Try.ntmps11
    go_wp2_with fail
    refine (awake12_any _).mono ?_
    rintro e w1 ⟨rfl, hb1⟩
    have hbl1 := hb0.trans (hb1.mono hb0.size)
    have PB1 := Cells5.below (Cells5.new w 23 (.int .i64 g.random) (.int .i64 g.bands) (.int .i64 g.tracks) (.int .i64 g.sectors) (.int .i64 g.overlap)) hb1 (by simp)
    have hz1 : w.heap.size < w1.heap.size := by have := hb1.size; simp at this; omega
    have p0 := PB1.c0; have p1 := PB1.c1; have p2 := PB1.c2; have p3 := PB1.c3; have p4 := PB1.c4
    go_wp2_with fail
    refine (HFR.out _ hbl1).mono ?_
    rintro e w3 ⟨rfl, hb3⟩
    clear p0 p1 p2 p3 p4
    have hbl3 := hbl1.trans (hb3.mono hbl1.size)
    have hz3 := Nat.lt_of_lt_of_le hz1 hb3.size
    have PB3 := PB1.below hb3 hz1
    have p0 := PB3.c0; have p1 := PB3.c1; have p2 := PB3.c2; have p3 := PB3.c3; have p4 := PB3.c4
    go_wp2_with fail
    refine (HFR'.out _ hbl3).mono ?_
    rintro e w4 ⟨rfl, hb4⟩
    clear p0 p1 p2 p3 p4
    have hbl4 := hbl3.trans (hb4.mono hbl3.size)
    have hz4 := Nat.lt_of_lt_of_le hz3 hb4.size
    have PB4 := PB3.below hb4 hz3
    have p0 := PB4.c0; have p1 := PB4.c1; have p2 := PB4.c2; have p3 := PB4.c3; have p4 := PB4.c4
    go_wp2_with fail
    refine (awake12_any _).mono ?_
    rintro e w5 ⟨rfl, hb5⟩
    clear p0 p1 p2 p3 p4
    have hbl5 := hbl4.trans (hb5.mono hbl4.size)
    have hz5 := Nat.lt_of_lt_of_le hz4 hb5.size
    have PB5 := PB4.below hb5 hz4
    have p0 := PB5.c0; have p1 := PB5.c1; have p2 := PB5.c2; have p3 := PB5.c3; have p4 := PB5.c4
    go_wp2
    go_ret
    exact ⟨rfl, hbl5⟩
  have hs' : fair12B g l' = true := by simpa using hs0
  clear hs0
  rw [hs'] at HFR'
  obtain ⟨hv, hn40, hsh⟩ := fair12_parts hs
  obtain ⟨_, hn40', hsh'⟩ := fair12_parts hs'
  have HF := Lib.hid (blank_fit ((validG_iff g).1 hv))
  have HST := Lib.hid (fun W => start_any g hv W)
  have HOKS := Lib.hid (stepsok HOK.out hsh)
  have HOKS' := Lib.hid (stepsok HOK'.out hsh')
  clear hs hs' hv hsh hsh'
  go_enter Try.func11, Try.ntmps11
  go_wp2_with fail
  refine (awake12_any _).mono ?_
  rintro e w1 ⟨rfl, hb1⟩
  have hbl1 := hb0.trans (hb1.mono hb0.size)
  have PB1 := Cells5.below (Cells5.new w 23 (.int .i64 g.random) (.int .i64 g.bands) (.int .i64 g.tracks) (.int .i64 g.sectors) (.int .i64 g.overlap)) hb1 (by simp)
  have hz1 : w.heap.size < w1.heap.size := by have := hb1.size; simp at this; omega
  have p0 := PB1.c0; have p1 := PB1.c1; have p2 := PB1.c2; have p3 := PB1.c3; have p4 := PB1.c4
  go_wp2_with fail
  refine (HFR.out _ hbl1).mono ?_
  rintro e w3 ⟨rfl, hb3⟩
  clear p0 p1 p2 p3 p4
  have hbl3 := hbl1.trans (hb3.mono hbl1.size)
  have hz3 := Nat.lt_of_lt_of_le hz1 hb3.size
  have PB3 := PB1.below hb3 hz1
  have p0 := PB3.c0; have p1 := PB3.c1; have p2 := PB3.c2; have p3 := PB3.c3; have p4 := PB3.c4
  go_wp2_with fail
  refine (HFR'.out _ hbl3).mono ?_
  rintro e w4 ⟨rfl, hb4⟩
  clear p0 p1 p2 p3 p4
  have hbl4 := hbl3.trans (hb4.mono hbl3.size)
  have hz4 := Nat.lt_of_lt_of_le hz3 hb4.size
  have PB4 := PB3.below hb4 hz3
  have p0 := PB4.c0; have p1 := PB4.c1; have p2 := PB4.c2; have p3 := PB4.c3; have p4 := PB4.c4
  go_wp2_with fail
  refine (HST.out _).mono ?_
  rintro e wS ⟨pS, dS, rfl, hpS, hdS, hbS⟩
  have hblS := hbl4.trans (hbS.mono hbl4.size)
  have HT : Hid (Two wS w.heap.size pS dS g (blankL g) []) := ⟨hpS.mono hbl4.size, hdS.mono hbl4.size, HF.out, short_blank _, hblS.size⟩
  clear hpS hdS PB4
  clear p0 p1 p2 p3 p4
  go_wp2_with fail
  refine (play12_any l A c HT.out (HRD.out.below hblS (Nat.le_refl _)) (HOKS.out wS hblS) (Nat.le_refl _) (by omega) (by simp)).mono ?_
  rintro e wP ⟨pP, LP, OPS, rfl, htP, hlenP, hkP⟩
  have hblP := hblS.trans (hkP.below hblS.size)
  have HTP := Lib.hid htP
  clear htP
  have hol : OPS.length ≤ 40 := by simp at hlenP; omega
  go_wp2_with fail
  refine (cflush_any HTP.out.c HTP.out.f HTP.out.B (by omega)).mono ?_
  rintro e wF ⟨rfl, hcF, hkF⟩
  have HCF := Lib.hid hcF
  have hblF := hblP.trans (hkF.below HTP.out.B)
  have hDF := rcflush_any (HTP.out.r.keptC hkF) HTP.out.f hblF.size (by omega)
  have HDF := Lib.hid hDF
  clear hcF hDF
  go_wp2_with fail
  refine HDF.out.mono ?_
  rintro e wG ⟨rfl, hdG, hkG⟩
  have hblG := hblF.trans (hkG.below hblF.size)
  have HCG := Lib.hid (HCF.out.keptR hkG)
  have HDG := Lib.hid hdG
  have HFX : Hid (Fit g (playL g LP (OPS.take OPS.length))) := Lib.hid (HTP.out.f.len (playL_len _ _ _))
  have HSX : Hid (ShortB (playL g LP (OPS.take OPS.length))) := Lib.hid (short_play _ HTP.out.s)
  generalize playL g LP (OPS.take OPS.length) = X at *
  clear hdG HCF HDF HTP
  go_wp2
  go_loopw [10, 11] (fun s10 s11 wr => ∃ (k : Nat) (dl : List OpV) (DA : Option Addr) (dc : Nat), k ≤ l'.length ∧ s11 = .int .i64 k ∧ s10 = .slice DA dl.length dc ∧ CacheM wr w.heap.size pP g X (dl.map OpV.bare) ∧ KeptT CT w.heap.size wG wr ∧
      wr.ownsRow wG.heap.size 40 3 (.slice DA dl.length dc) dl.length (flatOps dl) ∧ dl.length ≤ k ∧ ∀ o ∈ dl, ∃ s ∈ l', s.o = o) (fun _ v _ => l'.length - (intOf v).toNat)
  case atStart => exact ⟨0, [], none, 0, Nat.zero_le _, rfl, rfl, HCG.out, KeptT.refl _ _ _, ⟨rfl, .inl ⟨rfl, rfl⟩⟩, Nat.le_refl _, by simp⟩
  case round =>
    obtain ⟨k, dl, DA, dc, hk, rfl, rfl, hcr, hkr, hor, hdk, hdin⟩ := hrel
    have HCR := Lib.hid hcr
    have HOR := Lib.hid hor
    have HDI := Lib.hid hdin
    have hblr : Below w.heap.size w wr := hblG.trans (hkr.below hblG.size)
    clear hcr hor hdin
    by_cases hlt : k < l'.length
    · obtain ⟨go, oo, rfl, hgo, c0, c1, c2, c3, c4⟩ := steps_at (HRD'.out.below hblr (Nat.le_refl _)) hlt
      have hok := HOKS'.out wr hblr _ (List.getElem_mem hlt)
      have HIN : Hid (∀ o ∈ dl ++ [l'[k].o], ∃ s ∈ l', s.o = o) := by
        unfold Hid; intro o ho
        rcases List.mem_append.1 ho with ho | ho
        · exact HDI.out o ho
        · rw [List.mem_singleton] at ho; subst ho; exact ⟨_, List.getElem_mem hlt, rfl⟩
      have HDO := Lib.hid (claw_any l'[k].o HCR.out HFX.out hok hblr.size hblr.size (by rw [List.length_map]; omega))
      generalize l'[k] = s at *
      have k0 : (0 : Int) ≤ k := by omega
      have k1 : (k : Int) < l'.length := by omega
      have hgB : ¬ (w.heap.size ≤ go) := by omega
      clear hok c0 c4
      by_cases hE : doE g (playL g X (dl.map OpV.bare)) s.o.bare = 0
      · have HD0 : Hid (Calls Try.prog 47 #[.pointer (some ⟨pP, 0, none⟩), .agg #[.bool s.o.er, .int .i64 s.o.at_, .slice s.o.A s.o.xs.length s.o.c]] wr fun e w' => e = .returned (.int .i64 0) ∧ CacheM w' w.heap.size pP g X ((dl ++ [s.o]).map OpV.bare) ∧ KeptT CT w.heap.size wr w') := by
          unfold Hid; refine HDO.out.mono ?_
          intro e w' hp
          unfold DoPost at hp
          rw [hE, if_pos rfl] at hp
          rw [List.map_append]; exact hp
        clear hE HDO
        go_wp2_with fail
        refine HD0.out.mono ?_
        rintro e w2 ⟨rfl, hc2, hk2⟩
        have HC2 := Lib.hid hc2
        have q1 := Kept.cell hk2 c1 (fun h => hgB h.1)
        have q2 := Kept.cell hk2 c2 (fun h => hgB h.1)
        have q3 := Kept.cell hk2 c3 (fun h => hgB h.1)
        have HO2 : Hid (w2.ownsRow wG.heap.size 40 3 (.slice DA dl.length dc) dl.length (flatOps dl)) := Lib.hid (own_kept HOR.out hk2 (fun k e h => KeptT.no (own_typ HOR.out k e).1 (by unfold CT; decide) h))
        have hkG2 := hkr.trans hk2
        have hzz : wG.heap.size ≤ w2.heap.size := hkG2.size
        clear hc2 c1 c2 c3
        go_wp2_with (at_builtin; refine wpList_append_lies _ rfl _ _ 36 rfl wG.heap.size 40 i0 _ 3 40 Try.underlying36 hi0 hy0 hy1 hy2 rfl (by decide) _ dl.length (flatOps dl) rfl (HO2.out.alloc (.cells #[.bool s.o.er, .int .i64 s.o.at_, .slice s.o.A s.o.xs.length s.o.c] 40)) ⟨w2.heap.size, 0, none⟩ 1 1 [.bool s.o.er, .int .i64 s.o.at_, .slice s.o.A s.o.xs.length s.o.c] rfl rfl (World.news_of_block (heap_alloc_new _ _)) (by intro u hu; simp at hu; rcases hu with rfl | rfl | rfl <;> rfl) (by decide) (by unfold maxLen; omega) (by omega) (by first | omega | (simp; done) | (simp; omega)) _ rfl ?_)
        intro q cap w3 hown hgrow hloc hlt3
        have hkO : Kept (fun k => (Value.slice DA dl.length dc).ownBlock = some k) w2 w3 := ((Kept.refl (fun k => (Value.slice DA dl.length dc).ownBlock = some k) w2).alloc _).grown hgrow (fun i _ e => e)
        have HC3 : Hid (CacheM w3 w.heap.size pP g X ((dl ++ [s.o]).map OpV.bare)) :=
          Lib.hid (HC2.out.keptO (B' := 0) (KeptT.of hkO (fun k _ e => ⟨Nat.zero_le _, HasT.mem (own_typ HO2.out k e).1 (by simp)⟩)))
        have hkG3 : KeptT CT w.heap.size wG w3 := Kept.trans hkG2 hkO (fun i hi e => by have := (own_typ HO2.out i e).2; omega)
        have HO3 : Hid (w3.ownsRow wG.heap.size 40 3 (.slice (some ⟨q, 0, none⟩) (dl ++ [s.o]).length cap) (dl ++ [s.o]).length (flatOps (dl ++ [s.o]))) := by
          unfold Hid; rw [List.length_append, flatOps_snoc]; exact hown
        have hll : (dl ++ [s.o]).length = dl.length + 1 := by simp
        clear hown hgrow hloc hkO q1 q2 q3
        go_wp2
        go_roundw
        case rel => exact ⟨k + 1, dl ++ [s.o], some ⟨q, 0, none⟩, cap, by omega, by go_num, by rw [hll], HC3.out, hkG3, HO3.out, by omega, HIN.out⟩
        case measure => simp [intOf]; omega
      · have HD0 : Hid (Calls Try.prog 47 #[.pointer (some ⟨pP, 0, none⟩), .agg #[.bool s.o.er, .int .i64 s.o.at_, .slice s.o.A s.o.xs.length s.o.c]] wr fun e w' => e = .returned (.int .i64 (doE g (playL g X (dl.map OpV.bare)) s.o.bare)) ∧ CacheM w' w.heap.size pP g X (dl.map OpV.bare) ∧ KeptT CT w.heap.size wr w') := by
          unfold Hid; refine HDO.out.mono ?_
          intro e w' hp
          unfold DoPost at hp
          rw [if_neg hE] at hp
          exact hp
        have hE2 : (doE g (playL g X (dl.map OpV.bare)) s.o.bare == 0) = false := by simpa using hE
        generalize doE g (playL g X (dl.map OpV.bare)) s.o.bare = E at *
        clear hE HDO
        go_wp2_with fail
        refine HD0.out.mono ?_
        rintro e w2 ⟨rfl, hc2, hk2⟩
        have HC2 := Lib.hid hc2
        have HO2 : Hid (w2.ownsRow wG.heap.size 40 3 (.slice DA dl.length dc) dl.length (flatOps dl)) := Lib.hid (own_kept HOR.out hk2 (fun k e h => KeptT.no (own_typ HOR.out k e).1 (by unfold CT; decide) h))
        have hkG2 := hkr.trans hk2
        clear hc2 c1 c2 c3
        go_wp2
        go_roundw
        case rel => exact ⟨k + 1, dl, DA, dc, by omega, by go_num, rfl, HC2.out, hkG2, HO2.out, by omega, HDI.out⟩
        case measure => simp [intOf]; omega
    · have HDR := Lib.hid (HDG.out.keptC hkr)
      obtain ⟨h2, e2, hh2⟩ : ∃ h2 : Nat, ((dl.length : Int) / 2) = (h2 : Int) ∧ h2 ≤ dl.length := ⟨dl.length / 2, by omega, by omega⟩
      have hcut : cutN (h2 : Int) (dl.map OpV.bare).length = h2 := by rw [List.length_map]; unfold cutN; omega
      have e3 : playL g X ((dl.map OpV.bare).take h2) = playL g X (dl.take h2) := by rw [← List.map_take, playL_bare]
      have HCC := ccut_any (h2 : Int) HCR.out HFX.out hblr.size (by rw [List.length_map]; omega)
      rw [hcut] at HCC
      have HCX := Lib.hid HCC
      have HE3 := Lib.hid e3
      clear HCC e3 hcut
      go_wp2_with fail
      refine HCX.out.mono ?_
      rintro e w6 ⟨rfl, hc6, hk6⟩
      rw [HE3.out] at hc6
      have HC6 := Lib.hid hc6
      have hbl6 := hblr.trans (hk6.below hblr.size)
      have HR6 := Lib.hid (HDR.out.keptC hk6)
      have HO6 := Lib.hid (RdT.of_own (own_kept HOR.out hk6 (fun k e h => KeptT.no (own_typ HOR.out k e).1 (by unfold CT; decide) h)))
      clear hc6 HCX HCR HOR HDR e2
      obtain ⟨l0, m, b, A0, c0, el0, hR⟩ := HR6.out
      obtain ⟨r0, r1⟩ := hR.cells
      have hRm := hR.med
      have tb := hR.med.types.2
      have hlb := hR.lb
      have hdb : ¬ (dS = b) := hR.typ.ne tb (by decide)
      have HR := Lib.hid hR
      clear hR
      go_wp2
      go_loopw [13] (fun v w7 => ∃ j : Nat, j ≤ h2 ∧ v = .int .i64 j ∧ RMed w7 m b g (playL g X (dl.take j)) ∧ Kept (fun k => k = b) w6 w7) (fun v _ => h2 - (intOf v).toNat)
      case atStart => exact ⟨0, Nat.zero_le _, rfl, hRm, Kept.refl _ _⟩
      case round =>
        obtain ⟨j, hj, rfl, hm7, hk7⟩ := hrel
        have fO : Free w6 40 (fun k => k = b) := by obtain ⟨cur, fr, hh⟩ := tb; exact Free.one hh (by decide)
        have hbl7 : Below w.heap.size w wr := hbl6.trans (hk7.below (B := w.heap.size) (fun i hi => by have e : i = b := hi; omega) hbl6.size)
        have d0 := hk7.cell r0 hdb
        by_cases hjl : j < h2
        · have hjd : j < dl.length := by omega
          obtain ⟨gq, oq, rfl, hgq, q0, q1, q2⟩ := ops_at (HO6.out.kept hk7 fO).rd hjd
          obtain ⟨s, hsl, hso⟩ := HDI.out _ (List.getElem_mem hjd)
          have hok := HOKS'.out wr hbl7 s hsl
          rw [hso] at hok
          have hT := Lib.hid (playL_take g X dl j hjd)
          have hgb : ¬ (gq = b) := fun e => by
            have := HO6.out (j * 3 + 0) (.bool dl[j].er) (by unfold flatOps; rw [flat_get _ 3 opcells_len dl j 0 (by decide), List.getElem?_eq_getElem hjd]; rfl)
            obtain ⟨g1, o1, cur, fr, e1, h1, _⟩ := this
            injection e1 with e1; injection e1 with e1; subst e1; subst e
            exact absurd ((IsT.of h1).same tb) (by decide)
          have HD : Hid (∀ W, Below wr.heap.size wr W → Calls Try.prog 37 #[.pointer (some ⟨m, 0, none⟩), .agg #[.bool dl[j].er, .int .i64 dl[j].at_, .slice dl[j].A dl[j].xs.length dl[j].c]] W (RWritePost W m b g (doE g (playL g X (dl.take j)) dl[j]) (doL g (playL g X (dl.take j)) dl[j]))) := by
            unfold Hid; intro W hW
            exact rdo_any dl[j] (hm7.below0 hW) (HFX.out.len (playL_len _ _ _)) (hok.kept (belKept0 (S := fun _ => False) hW) (fun _ _ h => h)) (Nat.le_trans hbl7.size hW.size)
          generalize playL g X (dl.take j) = Y at *
          generalize dl[j] = o at *
          have j0 : (0 : Int) ≤ j := by omega
          have j1 : (j : Int) < dl.length := by omega
          have j2 : (j : Int) < h2 := by omega
          clear hm7 hok hso
          go_wp2
          go_region_held3 (fun W => W.cell? ⟨dS, 0, none⟩ = some (.pointer (some ⟨m, 0, none⟩)) ∧ W.cell? ⟨gq, oq + j * 3, none⟩ = some (.bool o.er) ∧ W.cell? ⟨gq, oq + j * 3 + 1, none⟩ = some (.int .i64 o.at_) ∧ W.cell? ⟨gq, oq + j * 3 + 2, none⟩ = some (.slice o.A o.xs.length o.c))
            (first | (refine ⟨?_, ?_, ?_, ?_⟩ <;> assumption) | (simp [*]; done))
            ((go_at_call 37
              refine (HD.out _ ((Below.refl wr.heap.size wr).drew)).mono ?_
              rintro e w8 ⟨rfl, hm8, hk8⟩
              have hw8 : Kept (fun k => k = b) wr w8 := ((Kept.refl (fun k => k = b) wr).drew).trans hk8 (fun _ _ h => h)
              have s0 := hw8.cell d0 hdb
              have s1 := hw8.cell q0 hgb
              have s2 := hw8.cell q1 hgb
              have s3 := hw8.cell q2 hgb))
          have hk9 := hk7.trans hw8 (fun _ _ h => h)
          have HM8 := Lib.hid hm8
          clear hm8 d0 q0 q1 q2 s0 s1 s2 s3
          go_wp2
          go_roundw
          case rel => exact ⟨j + 1, by omega, by go_num, by rw [hT.out]; exact HM8.out, hk9⟩
          case measure => simp [intOf]; omega
        · obtain rfl : j = h2 := by omega
          have hRC : RCacheM wr w.heap.size dS g (playL g X (dl.take j)) [] := ⟨l0, m, b, A0, c0, el0, rcac_med HR.out hm7 hk7⟩
          have hCC := HC6.out.keptR (B' := w.heap.size) (KeptT.of hk7 (fun k _ e => by have e' : k = b := e; subst e'; exact ⟨hlb, HasT.mem tb (by simp [RT])⟩))
          have HFIN := Lib.hid (csame_any hCC hRC (HFX.out.len (playL_len _ _ _)) (short_play _ HSX.out) (by simp))
          clear hm7 hRC hCC d0 r0 r1 hRm
          go_wp2_with fail
          refine HFIN.out.mono ?_
          rintro e w9 ⟨rfl, hb9⟩
          go_wp2
          go_ret
          exact ⟨rfl, hbl7.trans (hb9.mono hbl7.size)⟩

set_option maxRecDepth 100000 in
theorem cacheCut_lifted (os : Os) (started : os.Started) (H : Type) (enc : TypeId × Value → H) :
    ReturnsInHanded {} Try.checked os 11 .any (Rows.cacheCutSpec.pre6 enc Try.prog Try.f11 Rows.cacheCutRow.domain false) (Rows.cacheCutSpec.post enc Try.prog Try.f11 false true false false) := by
  refine returnsInHanded_of_change (C := Try.checked) own started (by kernel_rfl) Try.func11
    (ChangeSpec.witness6 (enc := enc) (C := Try.checked) false ⟨#[], #[.agg #[.int .i64 0, .int .i64 0, .int .i64 0, .int .i64 0, .int .i64 0], .slice none 0 0, .slice none 0 0], []⟩ 8 (by kernel_rfl) (by kernel_rfl) (by kernel_rfl) (by kernel_rfl)) ?_
  intro W base args ds gs before hval0 hW hcnd _
  have hval : ∀ (j : Nat) t v, Try.f11.params[j]? = some t → args[j]? = some v → Value.okWide Try.prog W .any base t v := hval0
  have hW' := hW
  obtain ⟨p, q, hA0, hV, rfl, hfz, hnd⟩ := hW
  have hA : DataW.TrodAll enc Try.prog W 0 (fun _ => true) true Try.f11.params.toList args.toList ds p := hA0
  rw [Try.params11] at hA hval
  obtain ⟨v0, vs0, d0, ds0, p0, q0, hargs, rfl, rfl, h0, r0⟩ := trodAll_cons hA
  obtain ⟨v1, vs1, d1, ds1, p1, q1, rfl, rfl, rfl, h1, r1⟩ := trodAll_cons r0
  obtain ⟨v2, vs2, d2, ds2, p2, q2, rfl, rfl, rfl, h2, r2⟩ := trodAll_cons r1
  obtain ⟨rfl, rfl, rfl⟩ := trodAll_nil r2
  obtain rfl : args = #[v0, v1, v2] := by cases args; simp_all
  obtain ⟨rfl, rfl⟩ := trodVars_none hV
  have k0 := h0
  have lt0 : ∀ x ∈ p0, x.block < W.heap.size := by obtain ⟨m, hm⟩ := k0; exact DataW.trod_lt m _ _ _ hm
  have k1 := h1
  have lt1 : ∀ x ∈ p1, x.block < W.heap.size := by obtain ⟨m, hm⟩ := k1; exact DataW.trod_lt m _ _ _ hm
  have k2 := h2
  have lt2 : ∀ x ∈ p2, x.block < W.heap.size := by obtain ⟨m, hm⟩ := k2; exact DataW.trod_lt m _ _ _ hm
  obtain ⟨g, rfl, hg⟩ := open_geo (hval 0 _ _ rfl rfl) h0
  obtain ⟨A, l, c, rfl, hl⟩ := open_stepsv (hval 1 _ _ rfl rfl) h1
  obtain ⟨A', l', c', rfl, hl'⟩ := open_stepsv (hval 2 _ _ rfl rfl) h2
  clear hA0 hval0
  refine (cacheCut_walk g A l c A' l' c' W hl hl').mono fun e W' ⟨he, bel⟩ => ?_
  subst he
  exact ⟨_, rfl, _, _, _, [], _, [], hW', trodAll_mk1 (shut_bool Try.underlying4 _), (trodAll_cons_mk (Below.trod laidOut (by kernel_rfl) (of_decide_eq_true (by kernel_rfl)) k0 bel lt0) (trodAll_cons_mk (Below.trod laidOut (by kernel_rfl) (of_decide_eq_true (by kernel_rfl)) k1 bel lt1) (trodAll_cons_mk (Below.trod laidOut (by kernel_rfl) (of_decide_eq_true (by kernel_rfl)) k2 bel lt2) trodAll_mk0))), rfl, bel.frame _, fun h => by cases h⟩

/-- The statement. -/
theorem cacheCut_holds : Rows.CacheCutSaid :=
  OpenClaim.holds_of_wide 11 Try.f11 rfl rfl rfl rfl rfl rfl rfl ⟨rfl, rfl, rfl, rfl, rfl⟩ rfl rfl rfl rfl rfl (by kernel_rfl) Try.func11 (by kernel_rfl)
    (of_decide_eq_true (by kernel_rfl)) (by unfold Func.isWrapper; first | (rw [if_pos (by decide +kernel)]; kernel_rfl) | (rw [if_neg (by decide +kernel)]; exact ⟨rfl, rfl⟩))
    (fun os started H enc _ => cacheCut_lifted os started H enc)
#print axioms cacheCut_holds
end Go.Proofs.Ytmjkpnplfeafeaa
