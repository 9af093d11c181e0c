/-
  WHAT IS SHOWN: what Encode of tegularef27 returns. Conditions: the record can be read.
-/
import Derived.Test.YtndifkjenjfjpaaRec21
namespace Go.Proofs.Ytndifkjenjfjpaa
set_option linter.unusedVariables false
open Go.RowKit

set_option maxRecDepth 100000 in
set_option maxHeartbeats 1000000 in
theorem rencode_any (r : Rec) (hok : r.Ok) (A D N : Option Addr) (c d n : Nat) (w : World) (h : RecR w w.heap.size r A c D d N n) (hw : r.ws.length ≤ 9223372036854775807) (hm : r.ms.length ≤ 9223372036854775807) (hn : r.note.length ≤ 9223372036854775807) :
    Calls Try.prog 19 #[.agg #[.int .u64 r.gen, .int .u64 r.seq, .slice A r.ws.length c, .slice D r.ms.length d, .slice N r.note.length n]] w (EncPost w r) := by
  have HB : Hid (∀ W, Below (w.heap.size + 1) (w.alloc (.cells #[.int .u64 r.gen, .int .u64 r.seq, .slice A r.ws.length c, .slice D r.ms.length d, .slice N r.note.length n] 27)) W → Below w.heap.size w W) := fun W hW => ((Below.refl w.heap.size w).alloc (Nat.le_refl _) _).trans (hW.mono (by omega))
  have HP0 : Hid (∀ W, Below (w.heap.size + 1) (w.alloc (.cells #[.int .u64 r.gen, .int .u64 r.seq, .slice A r.ws.length c, .slice D r.ms.length d, .slice N r.note.length n] 27)) W → Cells5 W w.heap.size (.int .u64 r.gen) (.int .u64 r.seq) (.slice A r.ws.length c) (.slice D r.ms.length d) (.slice N r.note.length n)) := fun W hW => (Cells5.new w 27 _ _ _ _ _).below hW (by simp)
  have HH := Lib.hid h
  have HC := Lib.hid (qvalid_any r A D N c d n (w.alloc (.cells #[.int .u64 r.gen, .int .u64 r.seq, .slice A r.ws.length c, .slice D r.ms.length d, .slice N r.note.length n] 27)) ((h.below (HB.out _ (Below.refl _ _)) (Nat.le_refl _)).more (by simp)) hw hm hn)
  have HO := Lib.hid hok
  obtain ⟨W0, hW0⟩ : ∃ W0, (w.alloc (.cells #[.int .u64 r.gen, .int .u64 r.seq, .slice A r.ws.length c, .slice D r.ms.length d, .slice N r.note.length n] 27)) = W0 := ⟨_, rfl⟩
  rw [hW0] at HB HP0 HC
  have hzW0 : w.heap.size + 1 = W0.heap.size := by rw [← hW0]; simp
  have HW0 := Lib.hid hW0
  clear hW0 h hok
  obtain hv | hv : validR r = false ∨ validR r = true := by cases validR r <;> simp
  · have HE : Hid (encE r = 1 ∧ encL r = []) := by unfold Hid encE encL; rw [hv]; exact ⟨rfl, rfl⟩
    rw [hv] at HC
    clear hv
    go_enter Try.func19, Try.ntmps19
    go_wp2_with fail
    rw [HW0.out]
    refine HC.out.mono ?_
    rintro e w1 ⟨rfl, hb1⟩
    go_wp2
    go_ret2
    exact ⟨none, 0, [], by rw [HE.out.1]; rfl, by rw [HE.out.2]; rfl, ⟨World.ownsRow_nil _ _ _ _, by simp⟩, HB.out _ (hb1.mono (by omega))⟩
  · have HE : Hid (encE r = 0 ∧ encL r = encR r) := by unfold Hid encE encL; rw [hv]; exact ⟨rfl, rfl⟩
    have hvl := validR_vld hv
    rw [hv] at HC
    clear hv
    have hpl := payR_len hvl
    have hp0 : 0 < (payR r).length := by unfold payR; have := uintB_pos r.gen; simp only [List.length_append]; omega
    have HV := Lib.hid hvl
    clear hvl
    go_enter Try.func19, Try.ntmps19
    go_wp2_with fail
    rw [HW0.out]
    refine HC.out.mono ?_
    rintro e w1 ⟨rfl, hb1⟩
    have PB := HP0.out _ (hb1.mono (by omega))
    have q0 := PB.c0; have q1 := PB.c1; have q2 := PB.c2; have q3 := PB.c3; have q4 := PB.c4
    clear PB
    have HB1 : Hid (Below (w.heap.size + 1) W0 w1) := hb1.mono (by omega)
    clear hb1 HC
    have HP := Lib.hid (rpayload_any r HV.out HO.out A D N c d n w1 ((HH.out.below (HB.out _ HB1.out) (Nat.le_refl _)).more (HB.out _ HB1.out).size))
    have HRE : Hid (encR r = (List.range (nCh (payR r).length)).map fun k => secB r.gen r.seq k (nCh (payR r).length) (((payR r).drop (28 * k)).take 28)) := rfl
    generalize payR r = p at *
    go_wp2_with fail
    refine HP.out.mono ?_
    rintro e w2 ⟨A2, c2, rfl, ho2, hb2⟩
    clear q0 q1 q2 q3 q4
    obtain ⟨b, cap, he, hcap⟩ := own_cap ho2 hp0
    obtain ⟨hc2, hc3, _⟩ := own_cap0 ho2
    injection he with he1 he2 he3
    subst he1
    subst he3
    have HO2 := Lib.hid ho2
    have HB2 : Hid (Below (w.heap.size + 1) W0 w2) := HB1.out.trans (hb2.mono (by have := HB1.out.size; omega))
    have HP2 : Hid (Rd w2 w2.heap.size (some ⟨b, 0, none⟩) (p.map (Value.int .u8))) := Rd.of_own ho2
    obtain ⟨i0, hi0, hz0, hz1, hz2⟩ := info_parts info_sl
    have hm215 : nCh p.length ≤ 300 := by unfold nCh; omega
    have HMM : Hid (nCh p.length = (p.length + 27) / 28) := rfl
    have HG := Lib.hid HO.out.gen
    have HS := Lib.hid HO.out.seq
    clear ho2 hb2 HO2 HP
    go_wp2
    rw [show (((p.length : Nat) : Int) + 27) / 28 = ((nCh p.length : Nat) : Int) by unfold nCh; omega]
    generalize nCh p.length = m at *
    go_loopw [6, 7] (fun o i wr => ∃ (k : Nat) (ss : List Sl) (DA : Option Addr) (dc : Nat), k ≤ m ∧ i = .int .i64 k ∧ o = .slice DA ss.length dc ∧ Hid (ss.length = k) ∧ Hid (ss.map Sl.xs = (List.range k).map fun k => secB r.gen r.seq k m ((p.drop (28 * k)).take 28)) ∧ Hid (SlsO wr w2.heap.size DA dc ss) ∧ Hid (Below w2.heap.size w2 wr)) (fun _ i _ => m - (intOf i).toNat)
    case atStart => exact ⟨0, [], none, 0, Nat.zero_le _, rfl, rfl, rfl, rfl, ⟨World.ownsRow_nil _ _ _ _, by simp⟩, Below.refl _ _⟩
    case round =>
      obtain ⟨k, ss, DA, dc, hk, rfl, rfl, HSK, HSS, HSO, HBR⟩ := hrel
      have hzr := HBR.out.size
      have hz4 := HB2.out.size
      by_cases hlt : k < m
      · have hkL : 28 * k < p.length := by have := HMM.out; omega
        have hRch : Rd wr wr.heap.size (some ⟨b, 0 + 28 * k, none⟩) (((p.drop (28 * k)).take 28).map (Value.int .u8)) := by
          have := (((HP2.out.below HBR.out (Nat.le_refl _)).more HBR.out.size).dropk (28 * k)).take 28
          rw [List.map_take, List.map_drop]; exact this
        rw [Nat.zero_add] at hRch
        have hlc : ((p.drop (28 * k)).take 28).length = min 28 (p.length - 28 * k) := by rw [List.length_take, List.length_drop]
        have hchl : ((p.drop (28 * k)).take 28).length ≤ 28 := by rw [List.length_take]; omega
        have HSE : Hid ((ss.map Sl.xs) ++ [secB r.gen r.seq k m ((p.drop (28 * k)).take 28)] = (List.range (k + 1)).map fun k => secB r.gen r.seq k m ((p.drop (28 * k)).take 28)) := by
          unfold Hid; rw [List.range_succ, List.map_append, HSS.out]; rfl
        have PB := HP0.out _ (HB2.out.trans (HBR.out.mono (by omega)))
        have q0 := PB.c0; have q1 := PB.c1
        clear PB
        generalize (p.drop (28 * k)).take 28 = ch at *
        have e1 : (28 : Int) * (k : Int) = ((28 * k : Nat) : Int) := by omega
        have e2 : (28 : Int) * ((k : Int) + 1) = ((28 * k + 28 : Nat) : Int) := by omega
        generalize 28 * k = i at *
        have HRch := Lib.hid hRch
        clear hRch
        have HC6 := Lib.hid (fun cc => sector_any r.gen r.seq k m HG.out HS.out (by omega) (by omega) ch (some ⟨b, i, none⟩) cc wr.drew (rd_drew HRch.out) (by omega))
        generalize secB r.gen r.seq k m ch = zz at *
        by_cases h28 : i + 28 ≤ p.length
        · have hcl : ch.length = 28 := by omega
          have eW : IntKind.i64.wrap (i : Int) = (i : Int) := by rw [IntKind.wrap_i64]; omega
          have eM : max ((i : Int) + 28) 0 = (i : Int) + 28 := by omega
          have k0 : 0 ≤ (i : Int) + 28 := by omega
          have k1 : (i : Int) + 28 ≤ (c2 : Int) := by omega
          have k2 : (i : Int) ≤ (i : Int) + 28 := by omega
          have k3 : ¬ c2 = i := by omega
          have eT : ((i : Int) + 28).toNat = i + 28 := by omega
          have e3 : i + 28 - i = 28 := by omega
          have HC6 : Hid (∀ cc, Calls Try.prog 30 #[.agg #[.int .u64 r.gen, .int .u64 r.seq, .int .i64 k, .int .i64 m], .slice (some ⟨b, i, none⟩) (28) cc] wr.drew (NewO wr.drew zz)) := by
            intro cc; have := HC6.out cc; rw [hcl] at this; exact this
          clear hcl hlc hchl
          go_wp2
          go_region_law (first
            | (refine step_append_own rfl (.tmp 32) (.tmp 46) 30 rfl w2.heap.size 25 i0 _ 1 24 Try.underlying30 hi0 hz0 hz1 hz2 rfl (by decide) (.slice DA ss.length dc) ss.length (ss.map Sl.v) rfl (hO8.own.alloc _) ⟨w8.heap.size, 0, none⟩ 1 1 [.slice A8 zz.length c8] rfl rfl (World.news_of_block (heap_alloc_new _ _)) (by intro u hu; simp at hu; subst hu; rfl) ?c1 ?c2 ?c3 ?_
               case c1 => have := HSK.out; unfold maxLen; omega
               case c2 => have := HSK.out; omega
               case c3 => simp; omega
               intro v' w9 hown hgrow hiff
               obtain ⟨DA', dc', hv⟩ := own_form hown
               subst hv
               have HO9 : Hid (SlsO w9 w2.heap.size DA' dc' (ss ++ [⟨A8, zz, c8⟩])) := hO8.push hS8 hown hgrow
               have HB9 : Hid (Below w2.heap.size w2 w9) := (((HBR.out.trans (HB8.out.mono hzr)).alloc (Nat.le_trans hzr h8z) _).grown hgrow (by simp; omega) (fun k hk => own_low hO8.own hk))
               have HX9 : Hid ((ss ++ [(⟨A8, zz, c8⟩ : Sl)]).map Sl.xs = (List.range (k + 1)).map fun k => secB r.gen r.seq k m ((p.drop (28 * k)).take 28)) := (by unfold Hid; rw [← HSE.out, List.map_append]; rfl)
               clear hown hgrow hiff hO8 hS8)
            | (go_simp
               go_at_call 30
               refine (HC6.out _).mono ?_
               rintro e w8 ⟨A8, c8, rfl, ho8, hb8⟩
               have hB8 : Below wr.heap.size wr w8 := ((Below.refl _ _).drew).trans hb8
               have hO8 : SlsO w8 w2.heap.size DA dc ss := HSO.out.below hB8
               have hS8 : w8.ownsRow w2.heap.size 5 1 (Sl.v ⟨A8, zz, c8⟩) zz.length (zz.map (Value.int .u8)) := own_mono ho8 hzr
               have h8z := hB8.size
               have HB8 := Lib.hid hB8
               clear ho8 hb8 hB8))
          all_goals go_wp2
          all_goals go_roundw
          all_goals first
            | exact ⟨k + 1, ss ++ [⟨A8, zz, c8⟩], DA', dc', hlt, by go_num, by rw [List.length_append]; rfl, by unfold Hid; rw [List.length_append, HSK.out]; rfl, HX9, HO9, HB9⟩
            | (simp [intOf]; omega)
        · have hcl : ch.length = p.length - i := by omega
          have eW : IntKind.i64.wrap (i : Int) = (i : Int) := by rw [IntKind.wrap_i64]; omega
          have k1 : (p.length : Int) ≤ (c2 : Int) := by omega
          have k2 : (i : Int) ≤ (p.length : Int) := by omega
          have k3 : ¬ c2 = i := by omega
          have HC6 : Hid (∀ cc, Calls Try.prog 30 #[.agg #[.int .u64 r.gen, .int .u64 r.seq, .int .i64 k, .int .i64 m], .slice (some ⟨b, i, none⟩) (p.length - i) cc] wr.drew (NewO wr.drew zz)) := by
            intro cc; have := HC6.out cc; rw [hcl] at this; exact this
          clear hcl hlc hchl
          go_wp2
          go_region_law (first
            | (refine step_append_own rfl (.tmp 32) (.tmp 46) 30 rfl w2.heap.size 25 i0 _ 1 24 Try.underlying30 hi0 hz0 hz1 hz2 rfl (by decide) (.slice DA ss.length dc) ss.length (ss.map Sl.v) rfl (hO8.own.alloc _) ⟨w8.heap.size, 0, none⟩ 1 1 [.slice A8 zz.length c8] rfl rfl (World.news_of_block (heap_alloc_new _ _)) (by intro u hu; simp at hu; subst hu; rfl) ?c1 ?c2 ?c3 ?_
               case c1 => have := HSK.out; unfold maxLen; omega
               case c2 => have := HSK.out; omega
               case c3 => simp; omega
               intro v' w9 hown hgrow hiff
               obtain ⟨DA', dc', hv⟩ := own_form hown
               subst hv
               have HO9 : Hid (SlsO w9 w2.heap.size DA' dc' (ss ++ [⟨A8, zz, c8⟩])) := hO8.push hS8 hown hgrow
               have HB9 : Hid (Below w2.heap.size w2 w9) := (((HBR.out.trans (HB8.out.mono hzr)).alloc (Nat.le_trans hzr h8z) _).grown hgrow (by simp; omega) (fun k hk => own_low hO8.own hk))
               have HX9 : Hid ((ss ++ [(⟨A8, zz, c8⟩ : Sl)]).map Sl.xs = (List.range (k + 1)).map fun k => secB r.gen r.seq k m ((p.drop (28 * k)).take 28)) := (by unfold Hid; rw [← HSE.out, List.map_append]; rfl)
               clear hown hgrow hiff hO8 hS8)
            | (go_simp
               go_at_call 30
               refine (HC6.out _).mono ?_
               rintro e w8 ⟨A8, c8, rfl, ho8, hb8⟩
               have hB8 : Below wr.heap.size wr w8 := ((Below.refl _ _).drew).trans hb8
               have hO8 : SlsO w8 w2.heap.size DA dc ss := HSO.out.below hB8
               have hS8 : w8.ownsRow w2.heap.size 5 1 (Sl.v ⟨A8, zz, c8⟩) zz.length (zz.map (Value.int .u8)) := own_mono ho8 hzr
               have h8z := hB8.size
               have HB8 := Lib.hid hB8
               clear ho8 hb8 hB8))
          all_goals go_wp2
          all_goals go_roundw
          all_goals first
            | exact ⟨k + 1, ss ++ [⟨A8, zz, c8⟩], DA', dc', hlt, by go_num, by rw [List.length_append]; rfl, by unfold Hid; rw [List.length_append, HSK.out]; rfl, HX9, HO9, HB9⟩
            | (simp [intOf]; omega)
      · obtain rfl : k = m := by omega
        go_wp2
        go_ret2
        exact ⟨DA, dc, ss, by rw [HE.out.1]; rfl, by rw [HSS.out, HE.out.2, HRE.out], HSO.out.mono (by omega), HB.out _ (HB2.out.trans (HBR.out.mono (by omega)))⟩
end Go.Proofs.Ytndifkjenjfjpaa
