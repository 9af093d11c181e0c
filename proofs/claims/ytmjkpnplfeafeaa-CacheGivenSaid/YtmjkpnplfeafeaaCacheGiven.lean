/-
  WHAT IS SHOWN: tegulalaw12.CacheGiven returns true for any geometry and operations, and changes nothing. No condition.
-/
import Derived.Test.YtmjkpnplfeafeaaCac10
namespace Go.Proofs.Ytmjkpnplfeafeaa
set_option linter.unusedVariables false
open Go.ChangeShapes Go.WideShapes Go.ChangeAt Go.RowKit

theorem opsok12 {w : World} {l : List OpV} (h : ∀ o ∈ l, OpIn w o) (hs : shortOps l = true) : ∀ w', Below w.heap.size w w' → ∀ o ∈ l, OpOk w' w.heap.size o := fun w' hk o ho =>
  ⟨(h o ho).at_, (h o ho).rd.below hk (Nat.le_refl _), by have := ((shortOps_iff l).1 hs).2 o ho; omega⟩
set_option maxRecDepth 100000 in
set_option maxHeartbeats 4000000 in
theorem cacheGiven_walk (g : Geo) (A : Option Addr) (l : List OpV) (c : Nat) (w : World) (hl : OpsIn w (.slice A l.length c) A l c) :
    Calls Try.prog 9 #[.agg #[.int .i64 g.random, .int .i64 g.bands, .int .i64 g.tracks, .int .i64 g.sectors, .int .i64 g.overlap], .slice A l.length c] w fun e w' => e = .returned (.bool true) ∧ Below w.heap.size w w' := by
  have hb0 : Below w.heap.size w (w.alloc (.cells #[.int .i64 g.random, .int .i64 g.bands, .int .i64 g.tracks, .int .i64 g.sectors, .int .i64 g.overlap] 23)) := (Below.refl _ _).alloc (Nat.le_refl _) _
  have HRD := Lib.hid hl.rd
  have HOK := Lib.hid hl.ok
  have hbig := hl.big
  have HFR : Hid (∀ W, Calls Try.prog 36 #[.agg #[.int .i64 g.random, .int .i64 g.bands, .int .i64 g.tracks, .int .i64 g.sectors, .int .i64 g.overlap], .slice none 0 0] W fun e w' => e = .returned (.bool (fair12B g [])) ∧ Below W.heap.size W w') := by
    unfold Hid; intro W; exact fair12_any g [] none 0 W (Rd.nil_ _ _ _) (by simp) (by simp)
  have HSH : Hid (∀ W, Below w.heap.size w W → Calls Try.prog 21 #[.slice A l.length c] W fun e w' => e = .returned (.bool (shortOps l)) ∧ W = w') := by
    unfold Hid; intro W hW; exact short_any l A c W ((HRD.out.below hW (Nat.le_refl _)).more hW.size) hbig (fun o ho => (HOK.out o ho).n)
  clear hl
  by_cases hs0 : fair12B g [] = false
  · rw [hs0] at HFR
    clear hs0
    go_enter Try.func9, Try.ntmps9
    go_wp2_with fail
    refine (awake12_any _).mono ?_
    rintro e w1 ⟨rfl, hb1⟩
    have hbl1 := hb0.trans (hb1.mono hb0.size)
    have PB1 := Cells5.below (Cells5.new w 23 (.int .i64 g.random) (.int .i64 g.bands) (.int .i64 g.tracks) (.int .i64 g.sectors) (.int .i64 g.overlap)) hb1 (by simp)
    have hz1 : w.heap.size < w1.heap.size := by have := hb1.size; simp at this; omega
    have p0 := PB1.c0; have p1 := PB1.c1; have p2 := PB1.c2; have p3 := PB1.c3; have p4 := PB1.c4
    go_wp2_with fail
    refine (HFR.out _).mono ?_
    rintro e w3 ⟨rfl, hb3⟩
    clear p0 p1 p2 p3 p4
    have hbl3 := hbl1.trans (hb3.mono hbl1.size)
    have hz3 := Nat.lt_of_lt_of_le hz1 hb3.size
    have PB3 := PB1.below hb3 hz1
    have p0 := PB3.c0; have p1 := PB3.c1; have p2 := PB3.c2; have p3 := PB3.c3; have p4 := PB3.c4
    go_wp2_with fail
    refine (awake12_any _).mono ?_
    rintro e w4 ⟨rfl, hb4⟩
    clear p0 p1 p2 p3 p4
    have hbl4 := hbl3.trans (hb4.mono hbl3.size)
    have hz4 := Nat.lt_of_lt_of_le hz3 hb4.size
    have PB4 := PB3.below hb4 hz3
    have p0 := PB4.c0; have p1 := PB4.c1; have p2 := PB4.c2; have p3 := PB4.c3; have p4 := PB4.c4
    go_wp2
    go_ret
    exact ⟨rfl, hbl4⟩
  have hs : fair12B g [] = true := by simpa using hs0
  clear hs0
  rw [hs] at HFR
  by_cases hs0 : shortOps l = false
  · rw [hs0] at HSH
    clear hs0 hs
    go_enter Try.func9, Try.ntmps9
    go_wp2_with fail
    refine (awake12_any _).mono ?_
    rintro e w1 ⟨rfl, hb1⟩
    have hbl1 := hb0.trans (hb1.mono hb0.size)
    have PB1 := Cells5.below (Cells5.new w 23 (.int .i64 g.random) (.int .i64 g.bands) (.int .i64 g.tracks) (.int .i64 g.sectors) (.int .i64 g.overlap)) hb1 (by simp)
    have hz1 : w.heap.size < w1.heap.size := by have := hb1.size; simp at this; omega
    have p0 := PB1.c0; have p1 := PB1.c1; have p2 := PB1.c2; have p3 := PB1.c3; have p4 := PB1.c4
    go_wp2_with fail
    refine (HFR.out _).mono ?_
    rintro e w3 ⟨rfl, hb3⟩
    clear p0 p1 p2 p3 p4
    have hbl3 := hbl1.trans (hb3.mono hbl1.size)
    have hz3 := Nat.lt_of_lt_of_le hz1 hb3.size
    have PB3 := PB1.below hb3 hz1
    have p0 := PB3.c0; have p1 := PB3.c1; have p2 := PB3.c2; have p3 := PB3.c3; have p4 := PB3.c4
    go_wp2_with fail
    refine (HSH.out _ hbl3).mono ?_
    rintro e w2 ⟨rfl, rfl⟩
    go_wp2_with fail
    refine (awake12_any _).mono ?_
    rintro e w4 ⟨rfl, hb4⟩
    clear p0 p1 p2 p3 p4
    have hbl4 := hbl3.trans (hb4.mono hbl3.size)
    have hz4 := Nat.lt_of_lt_of_le hz3 hb4.size
    have PB4 := PB3.below hb4 hz3
    have p0 := PB4.c0; have p1 := PB4.c1; have p2 := PB4.c2; have p3 := PB4.c3; have p4 := PB4.c4
    go_wp2
    go_ret
    exact ⟨rfl, hbl4⟩
  have hs' : shortOps l = true := by simpa using hs0
  clear hs0
  rw [hs'] at HSH
  obtain ⟨hv, _, _⟩ := fair12_parts hs
  have hn60 := ((shortOps_iff l).1 hs').1
  have HF := Lib.hid (blank_fit ((validG_iff g).1 hv))
  have HN := Lib.hid (fun W => new_yes g hv W)
  have HRN := Lib.hid (fun W => rnew_yes g hv W)
  have HOKS := Lib.hid (opsok12 HOK.out hs')
  clear hs hs' hv
  go_enter Try.func9, Try.ntmps9
  go_wp2_with fail
  refine (awake12_any _).mono ?_
  rintro e w1 ⟨rfl, hb1⟩
  have hbl1 := hb0.trans (hb1.mono hb0.size)
  have PB1 := Cells5.below (Cells5.new w 23 (.int .i64 g.random) (.int .i64 g.bands) (.int .i64 g.tracks) (.int .i64 g.sectors) (.int .i64 g.overlap)) hb1 (by simp)
  have hz1 : w.heap.size < w1.heap.size := by have := hb1.size; simp at this; omega
  have p0 := PB1.c0; have p1 := PB1.c1; have p2 := PB1.c2; have p3 := PB1.c3; have p4 := PB1.c4
  go_wp2_with fail
  refine (HFR.out _).mono ?_
  rintro e w3 ⟨rfl, hb3⟩
  clear p0 p1 p2 p3 p4
  have hbl3 := hbl1.trans (hb3.mono hbl1.size)
  have hz3 := Nat.lt_of_lt_of_le hz1 hb3.size
  have PB3 := PB1.below hb3 hz1
  have p0 := PB3.c0; have p1 := PB3.c1; have p2 := PB3.c2; have p3 := PB3.c3; have p4 := PB3.c4
  go_wp2_with fail
  refine (HSH.out _ hbl3).mono ?_
  rintro e w2 ⟨rfl, rfl⟩
  go_wp2_with fail
  refine (HN.out _).mono ?_
  rintro e w4 ⟨m, bs, rfl, hm, hmb, hbb, hb4⟩
  have HM4 := Lib.hid hm
  clear hm
  clear p0 p1 p2 p3 p4
  have hbl4 := hbl3.trans (hb4.mono hbl3.size)
  have hz4 := Nat.lt_of_lt_of_le hz3 hb4.size
  have PB4 := PB3.below hb4 hz3
  have p0 := PB4.c0; have p1 := PB4.c1; have p2 := PB4.c2; have p3 := PB4.c3; have p4 := PB4.c4
  go_wp2_with fail
  refine (HRN.out _).mono ?_
  rintro e w5 ⟨n, rs, rfl, hr, hnb, hrb, hb5⟩
  have HR5 := Lib.hid hr
  have HM5 := Lib.hid (HM4.out.below0 hb5)
  have hbl5 := hbl4.trans (hb5.mono hbl4.size)
  have hws : w.heap.size ≤ bs := Nat.le_trans hbl3.size hbb
  have hwr : w.heap.size ≤ rs := Nat.le_trans hbl4.size hrb
  clear p0 p1 p2 p3 p4
  clear hr HM4 PB4 PB3 PB1
  go_wp2
  go_loopw [9] (fun v wr => ∃ k : Nat, k ≤ l.length ∧ v = .int .i64 k ∧ Med wr m bs g (playL g (blankL g) (l.take k)) ∧ RMed wr n rs g (playL g (blankL g) (l.take k)) ∧ Kept (fun k => k = bs ∨ k = rs) w5 wr) (fun v _ => l.length - (intOf v).toNat)
  case atStart => exact ⟨0, Nat.zero_le _, rfl, HM5.out, HR5.out, Kept.refl _ _⟩
  case round =>
    obtain ⟨k, hk, rfl, hmr, hrr, hkr⟩ := hrel
    have hblr : Below w.heap.size w wr := hbl5.trans (hkr.below (B := w.heap.size) (fun i hi => by rcases hi with e | e <;> omega) hbl5.size)
    by_cases hlt : k < l.length
    · obtain ⟨go, oo, rfl, hgo, c0, c1, c2⟩ := ops_at (HRD.out.below hblr (Nat.le_refl _)) hlt
      have hok := HOKS.out wr hblr _ (List.getElem_mem hlt)
      have HT := Lib.hid (playL_take g (blankL g) l k hlt)
      have HF2 : Hid (Fit g (playL g (blankL g) (l.take k))) := Lib.hid (HF.out.len (playL_len _ _ _))
      obtain ⟨a1, a2, a3, a4⟩ := med_apart hmr hrr
      generalize playL g (blankL g) (l.take k) = X at *
      generalize l[k] = o at *
      have hne1 : ¬ (go = bs) := by omega
      have hne2 : ¬ (go = rs) := by omega
      have HD := Lib.hid (rdo_any o hrr HF2.out hok hblr.size)
      have HNB := Lib.hid hrr.nobytes
      have HMR := Lib.hid hmr
      have HOo := Lib.hid hok
      have k0 : (0 : Int) ≤ k := by omega
      have k1 : (k : Int) < l.length := by omega
      clear hok hmr hrr
      go_wp2_with fail
      refine HD.out.mono ?_
      rintro e w6 ⟨rfl, hr6, hk6⟩
      have HR6 := Lib.hid hr6
      have HM6 := Lib.hid (HMR.out.kept hk6 a2 a4 HNB.out)
      have q0 := hk6.cell c0 hne2
      have q1 := hk6.cell c1 hne2
      have q2 := hk6.cell c2 hne2
      have hok6 := HOo.out.kept hk6 (fun i hi e => by have e' : i = rs := e; omega)
      have hks : w.heap.size ≤ w6.heap.size := Nat.le_trans hblr.size hk6.size
      have hk56 : Kept (fun k => k = bs ∨ k = rs) w5 w6 := hkr.trans hk6 (fun _ _ h => .inr h)
      clear hr6 c0 c1 c2 HOo HMR
      obtain her | her : o.er = false ∨ o.er = true := by cases o.er <;> simp
      · rw [her] at q0
        have HL : Hid (doL g X o = writeL g X o.at_ o.xs) := by unfold Hid doL; rw [if_neg (by simp [her])]
        have HW : Hid (∀ W, Below w6.heap.size w6 W → Calls Try.prog 19 #[.pointer (some ⟨m, 0, none⟩), .int .i64 o.at_, .slice o.A o.xs.length o.c] W (WritePost W m bs g (writeE X o.at_ o.xs) (writeL g X o.at_ o.xs))) := by
          unfold Hid; intro W hW
          exact write_any o.at_ hok6.at_ (HM6.out.below0 hW) HF2.out o.xs o.A o.c ((hok6.rd.more hks).below hW (Nat.le_refl _) |>.more hW.size) hok6.n
        have HX6 := Lib.hid HM6.out.nobytes
        clear her hok6
        go_wp2
        go_region_held3 (fun W => W.cell? ⟨go, oo + k * 3 + 1, none⟩ = some (.int .i64 o.at_) ∧ W.cell? ⟨go, oo + k * 3 + 2, none⟩ = some (.slice o.A o.xs.length o.c))
          (first | (refine ⟨?_, ?_⟩ <;> assumption) | (simp [*]; done))
          ((go_at_call 19
            refine (HW.out _ ((Below.refl w6.heap.size w6).drew)).mono ?_
            rintro e w7 ⟨rfl, hm7, hk7⟩
            have hw7 : Kept (fun k => k = bs) w6 w7 := ((Kept.refl (fun k => k = bs) w6).drew).trans hk7 (fun _ _ h => h)
            have q1' := hw7.cell q1 hne1
            have q2' := hw7.cell q2 hne1))
        have HM7 := Lib.hid hm7
        have HR7 := Lib.hid (HR6.out.kept hw7 (fun e => a3 e.symm) (fun e => a4 e.symm))
        have hk57 : Kept (fun k => k = bs ∨ k = rs) w5 w7 := hk56.trans hw7 (fun _ _ h => .inl h)
        clear hm7 q0 q1 q2 q1' q2'
        go_wp2
        go_roundw
        case rel => exact ⟨k + 1, by omega, by go_num, by rw [HT.out, HL.out]; exact HM7.out, by rw [HT.out]; exact HR7.out, hk57⟩
        case measure => simp [intOf]; omega
      · rw [her] at q0
        have HL : Hid (doL g X o = eraseL g X o.at_) := by unfold Hid doL; rw [if_pos her]
        have HE := Lib.hid (erase_any (band := o.at_) HM6.out HF2.out)
        clear her hok6 q2
        go_wp2_with fail
        refine HE.out.mono ?_
        rintro e w7 ⟨rfl, hm7, hk7⟩
        have HM7 := Lib.hid hm7
        have HR7 := Lib.hid (HR6.out.kept hk7 (fun e => a3 e.symm) (fun e => a4 e.symm))
        have hk57 : Kept (fun k => k = bs ∨ k = rs) w5 w7 := hk56.trans hk7 (fun _ _ h => .inl h)
        clear hm7 q0 q1
        go_wp2
        go_roundw
        case rel => exact ⟨k + 1, by omega, by go_num, by rw [HT.out, HL.out]; exact HM7.out, by rw [HT.out]; exact HR7.out, hk57⟩
        case measure => simp [intOf]; omega
    · obtain rfl : k = l.length := by omega
      rw [List.take_of_length_le (Nat.le_refl _)] at hmr hrr
      have HFX : Hid (Fit g (playL g (blankL g) l)) := Lib.hid (HF.out.len (playL_len _ _ _))
      have HSX : Hid (ShortB (playL g (blankL g) l)) := Lib.hid (short_play _ (short_blank _))
      generalize playL g (blankL g) l = X at *
      have HMX := Lib.hid hmr
      have HRX := Lib.hid hrr
      have kc := fun (w : World) (C : Array Value) (n c : Nat) => Lib.run_convert_bytes_const (P := Try.prog) w 24 5 C n c Try.underlying24 Try.underlying5
      clear hmr hrr
      go_wp2_with fail
      refine (cnew_any HMX.out HFX.out).mono ?_
      rintro e w6 ⟨p, rfl, hp, hb6⟩
      have HP6 := Lib.hid hp
      clear hp
      go_wp2_with fail
      refine (cwrite_any (ops := []) 0 ⟨by omega, by omega⟩ [113] _ _ ((rd_one w6 113 5 _).more (by simp)) (by simp) (HP6.out.below0 ((Below.refl _ _).alloc (Nat.le_refl _) _)) HFX.out (Nat.le_trans hb6.size (by simp)) (by simp)).mono ?_
      rintro e w7 ⟨rfl, hp7, hk7⟩
      have hb7 := (hb6.alloc hb6.size _).trans (hk7.below (Nat.le_trans hb6.size (by simp)))
      generalize hO : (if doE g (playL g X []) ⟨false, 0, [113], none, 0⟩ = 0 then ([] : List OpV) ++ [⟨false, 0, [113], none, 0⟩] else []) = O at *
      have hol : O.length ≤ 1 := by rw [← hO]; split <;> simp
      have HP7 := Lib.hid hp7
      clear hp7 hk7 HP6 kc hO
      go_wp2_with fail
      refine (cflush_any HP7.out HFX.out hb7.size (by omega)).mono ?_
      rintro e w8 ⟨rfl, hp8, hk8⟩
      have HP8 := Lib.hid hp8
      have hb8 := hb7.trans (hk8.below hb7.size)
      have HM8 := Lib.hid (HMX.out.below0 hb8)
      have HR8 := Lib.hid (HRX.out.below0 hb8)
      have HSM := Lib.hid (sameMedia_any HM8.out HR8.out HFX.out HSX.out)
      clear hp8 hk8
      go_wp2_with fail
      refine HSM.out.mono ?_
      rintro e w9 ⟨rfl, hb9⟩
      have HP9 := Lib.hid (HP8.out.below0 hb9)
      have HPN := Lib.hid (cpending_any HP9.out)
      have hb89 := hb8.trans (hb9.mono hb8.size)
      go_wp2_with fail
      refine HPN.out.mono ?_
      rintro e w10 ⟨rfl, rfl⟩
      go_wp2
      go_ret
      exact ⟨rfl, hblr.trans (hb89.mono hblr.size)⟩

set_option maxRecDepth 100000 in
theorem cacheGiven_lifted (os : Os) (started : os.Started) (H : Type) (enc : TypeId × Value → H) :
    ReturnsInHanded {} Try.checked os 9 .any (Rows.cacheGivenSpec.pre6 enc Try.prog Try.f9 Rows.cacheGivenRow.domain false) (Rows.cacheGivenSpec.post enc Try.prog Try.f9 false true false false) := by
  refine returnsInHanded_of_change (C := Try.checked) own started (by kernel_rfl) Try.func9
    (ChangeSpec.witness6 (enc := enc) (C := Try.checked) false ⟨#[], #[.agg #[.int .i64 0, .int .i64 0, .int .i64 0, .int .i64 0, .int .i64 0], .slice none 0 0], []⟩ 8 (by kernel_rfl) (by kernel_rfl) (by kernel_rfl) (by kernel_rfl)) ?_
  intro W base args ds gs before hval0 hW hcnd _
  have hval : ∀ (j : Nat) t v, Try.f9.params[j]? = some t → args[j]? = some v → Value.okWide Try.prog W .any base t v := hval0
  have hW' := hW
  obtain ⟨p, q, hA0, hV, rfl, hfz, hnd⟩ := hW
  have hA : DataW.TrodAll enc Try.prog W 0 (fun _ => true) true Try.f9.params.toList args.toList ds p := hA0
  rw [Try.params9] at hA hval
  obtain ⟨v0, vs0, d0, ds0, p0, q0, hargs, rfl, rfl, h0, r0⟩ := trodAll_cons hA
  obtain ⟨v1, vs1, d1, ds1, p1, q1, rfl, rfl, rfl, h1, r1⟩ := trodAll_cons r0
  obtain ⟨rfl, rfl, rfl⟩ := trodAll_nil r1
  obtain rfl : args = #[v0, v1] := by cases args; simp_all
  obtain ⟨rfl, rfl⟩ := trodVars_none hV
  have k0 := h0
  have lt0 : ∀ x ∈ p0, x.block < W.heap.size := by obtain ⟨m, hm⟩ := k0; exact DataW.trod_lt m _ _ _ hm
  have k1 := h1
  have lt1 : ∀ x ∈ p1, x.block < W.heap.size := by obtain ⟨m, hm⟩ := k1; exact DataW.trod_lt m _ _ _ hm
  obtain ⟨g, rfl, hg⟩ := open_geo (hval 0 _ _ rfl rfl) h0
  obtain ⟨A, l, c, rfl, hl⟩ := open_opsv (hval 1 _ _ rfl rfl) h1
  clear hA0 hval0
  refine (cacheGiven_walk g A l c W hl).mono fun e W' ⟨he, bel⟩ => ?_
  subst he
  exact ⟨_, rfl, _, _, _, [], _, [], hW', trodAll_mk1 (shut_bool Try.underlying4 _), (trodAll_cons_mk (Below.trod laidOut (by kernel_rfl) (of_decide_eq_true (by kernel_rfl)) k0 bel lt0) (trodAll_cons_mk (Below.trod laidOut (by kernel_rfl) (of_decide_eq_true (by kernel_rfl)) k1 bel lt1) trodAll_mk0)), rfl, bel.frame _, fun h => by cases h⟩

/-- The statement. -/
theorem cacheGiven_holds : Rows.CacheGivenSaid :=
  OpenClaim.holds_of_wide 9 Try.f9 rfl rfl rfl rfl rfl rfl rfl ⟨rfl, rfl, rfl, rfl, rfl⟩ rfl rfl rfl rfl rfl (by kernel_rfl) Try.func9 (by kernel_rfl)
    (of_decide_eq_true (by kernel_rfl)) (by unfold Func.isWrapper; first | (rw [if_pos (by decide +kernel)]; kernel_rfl) | (rw [if_neg (by decide +kernel)]; exact ⟨rfl, rfl⟩))
    (fun os started H enc _ => cacheGiven_lifted os started H enc)
#print axioms cacheGiven_holds
end Go.Proofs.Ytmjkpnplfeafeaa
