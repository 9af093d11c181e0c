/-
  WHAT IS SHOWN: the sectors of any payload are decoded if and only if it is that of a valid record (RecordPayload). Conditions: none.
-/
import Derived.Test.YtndifkjenjfjpaaRec33
import Derived.Test.YtndifkjenjfjpaaRecO
import Derived.Test.YtndifkjenjfjpaaRecE
import Derived.Test.YtndifkjenjfjpaaRows
namespace Go.Proofs.Ytndifkjenjfjpaa
set_option linter.unusedVariables false
open Go.ChangeShapes Go.WideShapes Go.ChangeAt Go.RowKit

/-- The sectors of a payload. -/
def paySec (gen seq : Nat) (p : List Int) : List (List Int) := (List.range (nCh p.length)).map fun k => secB gen seq k (nCh p.length) ((p.drop (28 * k)).take 28)
theorem sec_len (gen seq k m : Nat) (ch : List Int) : (secB gen seq k m ch).length ≤ ch.length + 59 := by
  unfold secB sealB
  have h1 := hdS_len gen seq k m
  have h2 := uintB_len ch.length
  have h4 : ∀ s, (be8 s).length = 8 := fun _ => rfl
  rw [List.length_append, List.length_append, List.length_append, h4]
  omega
theorem paySec_ok {gen seq : Nat} {p : List Int} (hu : U8s p) : ∀ b ∈ paySec gen seq p, U8s b ∧ b.length ≤ 1000 := fun b hb => by
  unfold paySec at hb
  obtain ⟨k, _, rfl⟩ := List.mem_map.1 hb
  have h3 : ((p.drop (28 * k)).take 28).length ≤ 28 := by rw [List.length_take]; omega
  exact ⟨secB_u8 ((hu.drop _).take _), by have := sec_len gen seq k (nCh p.length) ((p.drop (28 * k)).take 28); omega⟩
set_option maxRecDepth 100000 in
set_option maxHeartbeats 20000000 in
theorem recordPayload_walk (gen seq : Nat) (hg : gen < 2 ^ 64) (hs : seq < 2 ^ 64) (p : List Int) (hu : U8s p) (A : Option Addr) (c : Nat) (w : World) (h : Rd w w.heap.size A (p.map (Value.int .u8))) (hc : p.length ≤ c) (hcm : c ≤ 9223372036854775807) :
    Calls Try.prog 7 #[.int .u64 gen, .int .u64 seq, .slice A p.length c] w fun e w' => e = .returned (.bool true) ∧ Below w.heap.size w w' := by
  have HH := Lib.hid h
  clear h
  have HG := Lib.hid hg
  have HS := Lib.hid hs
  clear hg hs
  go_enter Try.func7, Try.ntmps7
  go_wp2_with fail
  refine (awake_any _).mono ?_
  rintro e w1 ⟨rfl, hb1⟩
  have HB1 := Lib.hid hb1
  clear hb1
  by_cases hl : 1000 < p.length
  · go_wp2
    go_ret
    exact ⟨rfl, HB1.out⟩
  by_cases hl0 : p.length = 0
  · go_wp2
    go_ret
    exact ⟨rfl, HB1.out⟩
  have hp0 : 0 < p.length := by omega
  obtain ⟨b, o, rfl, _, _⟩ := byte_at HH.out hp0
  have HP2 : Hid (Rd w1 w1.heap.size (some ⟨b, o, none⟩) (p.map (Value.int .u8))) := (HH.out.below HB1.out (Nat.le_refl _)).more HB1.out.size
  obtain ⟨i0, hi0, hz0, hz1, hz2⟩ := info_parts info_sl
  have hm215 : nCh p.length ≤ 300 := by unfold nCh; omega
  have HMM : Hid (nCh p.length = (p.length + 27) / 28) := rfl
  have HPS : Hid (paySec gen seq p = (List.range (nCh p.length)).map fun k => secB gen seq k (nCh p.length) ((p.drop (28 * k)).take 28)) := rfl
  have hq1 : decide (1000 < (p.length : Int)) = false := by simp; omega
  have hq2 : ((p.length : Int) == 0) = false := by simpa using (by omega : ¬ p.length = 0)
  have HL := Lib.hid hl
  have HL0 := Lib.hid hl0
  have hb1000 : p.length ≤ 1000 := by omega
  clear hl hl0
  go_wp2
  clear hq1 hq2
  rw [show (((p.length : Nat) : Int) + 27) / 28 = ((nCh p.length : Nat) : Int) by unfold nCh; omega]
  generalize nCh p.length = m at *
  go_loopw [8, 31] (fun o' i wr => ∃ (k : Nat) (ss : List Sl) (DA : Option Addr) (dc : Nat), k ≤ m ∧ i = .int .i64 k ∧ o' = .slice DA ss.length dc ∧ Hid (ss.length = k) ∧ Hid (ss.map Sl.xs = (List.range k).map fun k => secB gen seq k m ((p.drop (28 * k)).take 28)) ∧ Hid (SlsO wr w1.heap.size DA dc ss) ∧ Hid (Below w1.heap.size w1 wr)) (fun _ i _ => m - (intOf i).toNat)
  case atStart => exact ⟨0, [], none, 0, Nat.zero_le _, rfl, rfl, rfl, rfl, ⟨World.ownsRow_nil _ _ _ _, by simp⟩, Below.refl _ _⟩
  case round =>
    obtain ⟨k, ss, DA, dc, hk, rfl, rfl, HSK, HSS, HSO, HBR⟩ := hrel
    by_cases hlt : k < m
    · have hzr := HBR.out.size
      have hkL : 28 * k < p.length := by have := HMM.out; omega
      have hRch : Rd wr wr.heap.size (some ⟨b, o + 28 * k, none⟩) (((p.drop (28 * k)).take 28).map (Value.int .u8)) := by
        have := (((HP2.out.below HBR.out (Nat.le_refl _)).more HBR.out.size).dropk (28 * k)).take 28
        rw [List.map_take, List.map_drop]; exact this
      have hlc : ((p.drop (28 * k)).take 28).length = min 28 (p.length - 28 * k) := by rw [List.length_take, List.length_drop]
      have hchl : ((p.drop (28 * k)).take 28).length ≤ 28 := by rw [List.length_take]; omega
      have HSE : Hid ((ss.map Sl.xs) ++ [secB gen seq k m ((p.drop (28 * k)).take 28)] = (List.range (k + 1)).map fun k => secB gen seq k m ((p.drop (28 * k)).take 28)) := by
        unfold Hid; rw [List.range_succ, List.map_append, HSS.out]; rfl
      generalize (p.drop (28 * k)).take 28 = ch at *
      have e1 : (28 : Int) * (k : Int) = ((28 * k : Nat) : Int) := by omega
      generalize 28 * k = i at *
      have HRch := Lib.hid hRch
      clear hRch
      have HC6 := Lib.hid (fun cc => sector_any gen seq k m HG.out HS.out (by omega) (by omega) ch (some ⟨b, o + i, none⟩) cc wr HRch.out (by omega))
      generalize secB gen seq k m ch = zz at *
      by_cases h28 : i + 28 ≤ p.length
      · have hcl : ch.length = 28 := by omega
        have eM : min ((i : Int) + 28) (p.length : Int) = (i : Int) + 28 := by omega
        have k0 : 0 ≤ (i : Int) + 28 := by omega
        have k1 : (i : Int) + 28 ≤ (c : Int) := by omega
        have k2 : (i : Int) ≤ (i : Int) + 28 := by omega
        have k3 : ¬ c = i := by omega
        have eT : ((i : Int) + 28).toNat = i + 28 := by omega
        have e3 : i + 28 - i = 28 := by omega
        have HC7 := Lib.hid (HC6.out (c - i))
        rw [hcl] at HC7
        clear hcl hlc hchl HC6
        go_wp2_with fail
        refine HC7.out.mono ?_
        rintro e w8 ⟨A8, c8, rfl, ho8, hb8⟩
        have h8z := hb8.size
        have hO8 : SlsO w8 w1.heap.size DA dc ss := HSO.out.below hb8
        have hS8 : w8.ownsRow w1.heap.size 5 1 (Sl.v ⟨A8, zz, c8⟩) zz.length (zz.map (Value.int .u8)) := own_mono ho8 hzr
        have HB8 := Lib.hid hb8
        have hsk : ss.length ≤ 300 := by rw [HSK.out]; omega
        clear ho8 hb8
        go_wp2_with (at_builtin; go_loud (refine wpList_append_own _ rfl _ _ 30 rfl w1.heap.size 25 i0 _ 1 24 Try.underlying30 hi0 hz0 hz1 hz2 rfl (by decide) (.slice DA ss.length dc) ss.length (ss.map Sl.v) rfl (hO8.own.alloc _) ⟨w8.heap.size, 0, none⟩ 1 1 [.slice A8 zz.length c8] rfl rfl (World.news_of_block (heap_alloc_new _ _)) (by intro u hu; simp at hu; subst hu; rfl) ?c1 ?c2 ?c3 ?_))
        case c1 => unfold maxLen; omega
        case c2 => omega
        case c3 => first | omega | (simp; omega)
        intro v' w9 hown hgrow hiff
        obtain ⟨DA', dc', hv⟩ := own_form hown
        subst hv
        have HO9 : Hid (SlsO w9 w1.heap.size DA' dc' (ss ++ [⟨A8, zz, c8⟩])) := hO8.push hS8 hown hgrow
        have HB9 : Hid (Below w1.heap.size w1 w9) := (((HBR.out.trans (HB8.out.mono hzr)).alloc (Nat.le_trans hzr h8z) _).grown hgrow (by simp; omega) (fun k hk => own_low hO8.own hk))
        have HX9 : Hid ((ss ++ [(⟨A8, zz, c8⟩ : Sl)]).map Sl.xs = (List.range (k + 1)).map fun k => secB gen seq k m ((p.drop (28 * k)).take 28)) := (by unfold Hid; rw [← HSE.out, List.map_append]; rfl)
        clear hown hgrow hiff hO8 hS8 hsk
        go_wp2
        go_roundw
        case rel => exact ⟨k + 1, ss ++ [⟨A8, zz, c8⟩], DA', dc', hlt, by go_num, by rw [List.length_append]; rfl, by unfold Hid; rw [List.length_append, HSK.out]; rfl, HX9, HO9, HB9⟩
        case measure => simp [intOf]; omega
      · have hcl : ch.length = p.length - i := by omega
        have eM : min ((i : Int) + 28) (p.length : Int) = (p.length : Int) := by omega
        have k1 : (p.length : Int) ≤ (c : Int) := by omega
        have k2 : (i : Int) ≤ (p.length : Int) := by omega
        have k3 : ¬ c = i := by omega
        have HC7 := Lib.hid (HC6.out (c - i))
        rw [hcl] at HC7
        clear hcl hlc hchl HC6
        go_wp2_with fail
        refine HC7.out.mono ?_
        rintro e w8 ⟨A8, c8, rfl, ho8, hb8⟩
        have h8z := hb8.size
        have hO8 : SlsO w8 w1.heap.size DA dc ss := HSO.out.below hb8
        have hS8 : w8.ownsRow w1.heap.size 5 1 (Sl.v ⟨A8, zz, c8⟩) zz.length (zz.map (Value.int .u8)) := own_mono ho8 hzr
        have HB8 := Lib.hid hb8
        have hsk : ss.length ≤ 300 := by rw [HSK.out]; omega
        clear ho8 hb8
        go_wp2_with (at_builtin; go_loud (refine wpList_append_own _ rfl _ _ 30 rfl w1.heap.size 25 i0 _ 1 24 Try.underlying30 hi0 hz0 hz1 hz2 rfl (by decide) (.slice DA ss.length dc) ss.length (ss.map Sl.v) rfl (hO8.own.alloc _) ⟨w8.heap.size, 0, none⟩ 1 1 [.slice A8 zz.length c8] rfl rfl (World.news_of_block (heap_alloc_new _ _)) (by intro u hu; simp at hu; subst hu; rfl) ?c1 ?c2 ?c3 ?_))
        case c1 => unfold maxLen; omega
        case c2 => omega
        case c3 => first | omega | (simp; omega)
        intro v' w9 hown hgrow hiff
        obtain ⟨DA', dc', hv⟩ := own_form hown
        subst hv
        have HO9 : Hid (SlsO w9 w1.heap.size DA' dc' (ss ++ [⟨A8, zz, c8⟩])) := hO8.push hS8 hown hgrow
        have HB9 : Hid (Below w1.heap.size w1 w9) := (((HBR.out.trans (HB8.out.mono hzr)).alloc (Nat.le_trans hzr h8z) _).grown hgrow (by simp; omega) (fun k hk => own_low hO8.own hk))
        have HX9 : Hid ((ss ++ [(⟨A8, zz, c8⟩ : Sl)]).map Sl.xs = (List.range (k + 1)).map fun k => secB gen seq k m ((p.drop (28 * k)).take 28)) := (by unfold Hid; rw [← HSE.out, List.map_append]; rfl)
        clear hown hgrow hiff hO8 hS8 hsk
        go_wp2
        go_roundw
        case rel => exact ⟨k + 1, ss ++ [⟨A8, zz, c8⟩], DA', dc', hlt, by go_num, by rw [List.length_append]; rfl, by unfold Hid; rw [List.length_append, HSK.out]; rfl, HX9, HO9, HB9⟩
        case measure => simp [intOf]; omega
    · obtain rfl : k = m := by omega
      have hX : ss.map Sl.xs = paySec gen seq p := by rw [HSS.out, HPS.out]
      have HDP : Hid ((decD (paySec gen seq p)).er = 0 → ∃ r, decD (paySec gen seq p) = ⟨r, nCh p.length, 0⟩ ∧ payR r = p) := fun h => dec_pay HG.out HS.out hp0 (by omega) hu h
      have hlen : ss.length = k := HSK.out
      have hso : ∀ s ∈ ss, SlOk s := fun s hs => by
        have h1 := paySec_ok (gen := gen) (seq := seq) hu s.xs (by rw [← hX]; exact List.mem_map.2 ⟨s, hs, rfl⟩)
        have h2 := own_cap0 (HSO.out.each s hs)
        exact ⟨h1.1, h1.2, h2.1, by have := h2.2.1; unfold maxLen at this; omega⟩
      have hcd := own_cap0 HSO.out.own
      have HD := Lib.hid (fun W (hW : Below wr.heap.size wr W) => decode_r ss hso DA dc hcd.1 (by have := hcd.2.1; unfold maxLen at this; omega) (by omega) W (HSO.out.rd.up hW))
      have HE := Lib.hid (fun W (hW : Below wr.heap.size wr W) => rdecode_r ss hso DA dc hcd.1 (by have := hcd.2.1; unfold maxLen at this; omega) (by omega) W (HSO.out.rd.up hW))
      have HSM := Lib.hid (dec_small' (ss.map Sl.xs))
      have HRV : Hid ((decD (paySec gen seq p)).er = 0 → Vld (decD (paySec gen seq p)).r ∧ (decD (paySec gen seq p)).r.Ok) := fun h => by
        obtain ⟨_, _, r, hr, _, hd⟩ := dec_zero h
        rw [hd]
        have := recD_ok (allB_u8 (fun b hb => (paySec_ok hu b hb).1) _) hr
        exact ⟨validR_vld this.2, this.1⟩
      rw [hX] at HD HE HSM
      generalize decD (paySec gen seq p) = X at *
      obtain ⟨r, mm, er⟩ := X
      have HBW := Lib.hid (HB1.out.trans (HBR.out.mono HB1.out.size))
      have hzr := HBR.out.size
      clear hso hcd hX hlen HL HL0 HSK HSS HSO HBR HPS
      go_wp2_with fail
      refine (HD.out _ (Below.refl _ _)).mono ?_
      rintro e w3 ⟨A3, c3, D3, d3, N3, n3, rfl, hr3, hb3⟩
      simp only at *
      have hbx : Below w3.heap.size w3 (w3.alloc (.cells #[.int .u64 r.gen, .int .u64 r.seq, .slice A3 r.ws.length c3, .slice D3 r.ms.length d3, .slice N3 r.note.length n3] 27)) := (Below.refl _ _).alloc (Nat.le_refl _) _
      have HB3 := Lib.hid (hb3.trans (hbx.mono hb3.size))
      have HR3 := Lib.hid (hr3.below0 hbx)
      have PB3 := (Cells5.new w3 27 (.int .u64 r.gen) (.int .u64 r.seq) (.slice A3 r.ws.length c3) (.slice D3 r.ms.length d3) (.slice N3 r.note.length n3))
      have hz3 : w3.heap.size < (w3.alloc (.cells #[.int .u64 r.gen, .int .u64 r.seq, .slice A3 r.ws.length c3, .slice D3 r.ms.length d3, .slice N3 r.note.length n3] 27)).heap.size := by simp
      clear hr3 hbx hb3 HD
      go_wp2_with fail
      refine (HE.out _ HB3.out).mono ?_
      rintro e w4 ⟨A4, c4, D4, d4, N4, n4, rfl, hr4, hb4⟩
      simp only at *
      have hbx : Below w4.heap.size w4 (w4.alloc (.cells #[.int .u64 r.gen, .int .u64 r.seq, .slice A4 r.ws.length c4, .slice D4 r.ms.length d4, .slice N4 r.note.length n4] 27)) := (Below.refl _ _).alloc (Nat.le_refl _) _
      have hb4w := HB3.out.trans (hb4.mono HB3.out.size)
      have hb4x := hb4.trans (hbx.mono hb4.size)
      have HB4 := Lib.hid (hb4w.trans (hbx.mono hb4w.size))
      have HR4 := Lib.hid (hr4.below0 hbx)
      have HR3' := Lib.hid (HR3.out.below0 hb4x)
      have PB4 := (Cells5.new w4 27 (.int .u64 r.gen) (.int .u64 r.seq) (.slice A4 r.ws.length c4) (.slice D4 r.ms.length d4) (.slice N4 r.note.length n4))
      have PB3' := PB3.below hb4x hz3
      have x0 := PB3'.c0; have x1 := PB3'.c1; have x2 := PB3'.c2; have x3 := PB3'.c3; have x4 := PB3'.c4
      have y0 := PB4.c0; have y1 := PB4.c1; have y2 := PB4.c2; have y3 := PB4.c3; have y4 := PB4.c4
      have HSD : Hid (∀ W, Below (w4.alloc (.cells #[.int .u64 r.gen, .int .u64 r.seq, .slice A4 r.ws.length c4, .slice D4 r.ms.length d4, .slice N4 r.note.length n4] 27)).heap.size (w4.alloc (.cells #[.int .u64 r.gen, .int .u64 r.seq, .slice A4 r.ws.length c4, .slice D4 r.ms.length d4, .slice N4 r.note.length n4] 27)) W → Calls Try.prog 29 #[.agg #[.int .u64 r.gen, .int .u64 r.seq, .slice A3 r.ws.length c3, .slice D3 r.ms.length d3, .slice N3 r.note.length n3], .agg #[.int .u64 r.gen, .int .u64 r.seq, .slice A4 r.ws.length c4, .slice D4 r.ms.length d4, .slice N4 r.note.length n4]] W fun e w' => e = .returned (.bool true) ∧ Below W.heap.size W w') := fun W hW => same_rec r A3 D3 N3 A4 D4 N4 c3 d3 n3 c4 d4 n4 W (HR3'.out.below0 hW).rec_ (HR4.out.below0 hW).rec_ (by have := HSM.out.ws; omega) (by have := HSM.out.ms; omega) (by have := HSM.out.note; omega)
      have hz5 : w4.heap.size < (w4.alloc (.cells #[.int .u64 r.gen, .int .u64 r.seq, .slice A4 r.ws.length c4, .slice D4 r.ms.length d4, .slice N4 r.note.length n4] 27)).heap.size := by simp
      have hz4 : w3.heap.size < (w4.alloc (.cells #[.int .u64 r.gen, .int .u64 r.seq, .slice A4 r.ws.length c4, .slice D4 r.ms.length d4, .slice N4 r.note.length n4] 27)).heap.size := Nat.lt_of_lt_of_le hz3 hb4x.size
      have HPB : Hid (∀ W, Below (w4.alloc (.cells #[.int .u64 r.gen, .int .u64 r.seq, .slice A4 r.ws.length c4, .slice D4 r.ms.length d4, .slice N4 r.note.length n4] 27)).heap.size (w4.alloc (.cells #[.int .u64 r.gen, .int .u64 r.seq, .slice A4 r.ws.length c4, .slice D4 r.ms.length d4, .slice N4 r.note.length n4] 27)) W → Cells5 W w3.heap.size (.int .u64 r.gen) (.int .u64 r.seq) (.slice A3 r.ws.length c3) (.slice D3 r.ms.length d3) (.slice N3 r.note.length n3)) := fun W hW => PB3'.below hW hz4
      have HPC : Hid (∀ W, Below (w4.alloc (.cells #[.int .u64 r.gen, .int .u64 r.seq, .slice A4 r.ws.length c4, .slice D4 r.ms.length d4, .slice N4 r.note.length n4] 27)).heap.size (w4.alloc (.cells #[.int .u64 r.gen, .int .u64 r.seq, .slice A4 r.ws.length c4, .slice D4 r.ms.length d4, .slice N4 r.note.length n4] 27)) W → Cells5 W w4.heap.size (.int .u64 r.gen) (.int .u64 r.seq) (.slice A4 r.ws.length c4) (.slice D4 r.ms.length d4) (.slice N4 r.note.length n4)) := fun W hW => PB4.below hW hz5
      clear hr4 hbx hb4 hb4w hb4x HE PB4 PB3 PB3' HR3 HR4 hz3 HB3
      go_upto_region 14 with fail
      generalize (w4.alloc (.cells #[.int .u64 r.gen, .int .u64 r.seq, .slice A4 r.ws.length c4, .slice D4 r.ms.length d4, .slice N4 r.note.length n4] 27)) = W4 at *
      have HB4 : Hid (Below w.heap.size w W4) := HBW.out.trans (HB4.out.mono HBW.out.size)
      by_cases her : er = 0
      · subst her
        obtain ⟨r', hd, hpay⟩ := HDP.out rfl
        injection hd with hd1 hd2 hd3
        subst hd1
        obtain ⟨hvl, hok⟩ := HRV.out rfl
        have HPY := Lib.hid (fun W (hW : Below W4.heap.size W4 W) => rpayload_any r hvl hok A3 D3 N3 c3 d3 n3 W (HR3'.out.below0 hW).rec_)
        have HV2 := Lib.hid (fun W (hW : Below W4.heap.size W4 W) => conv_bytes c ((HH.out.below HB4.out (Nat.le_refl _)).below hW HB4.out.size))
        have HV1 := Lib.hid (fun (W : World) (A8 : Option Addr) (c8 : Nat) (hR : Rd W W.heap.size A8 (p.map (Value.int .u8))) => conv_bytes c8 hR)
        rw [hpay] at HPY
        have hbD : Below W4.heap.size W4 W4.drew := (Below.refl _ _).drew
        have HSA : Hid (Calls Try.prog 29 #[.agg #[.int .u64 r.gen, .int .u64 r.seq, .slice A3 r.ws.length c3, .slice D3 r.ms.length d3, .slice N3 r.note.length n3], .agg #[.int .u64 r.gen, .int .u64 r.seq, .slice A4 r.ws.length c4, .slice D4 r.ms.length d4, .slice N4 r.note.length n4]] W4.drew fun e w' => e = .returned (.bool true) ∧ Below W4.drew.heap.size W4.drew w') := HSD.out _ hbD
        have hv0 := HV2.out _ hbD
        generalize strOfNums p = S at *
        have HVL := Lib.hid hvl
        have HOK := Lib.hid hok
        clear hd2 hd3 HDP HRV hpay hvl hok HSD
        have hF1 : Hid (Below W4.heap.size W4 W4.drew) := hbD
        clear HP2 HMM hzr HSM HR3' HBW hu hc hcm hb1000 hm215
        go_region_law (first
            | (go_simp
               go_at_call 29
               refine HSA.out.mono ?_
               rintro e w5 ⟨rfl, hb5⟩
               have hb5' : Below W4.heap.size W4 w5 := hbD.trans hb5
               have HB5 := Lib.hid hb5'
               have hv5 := HV2.out _ hb5'
               have HPY5 := Lib.hid (HPY.out _ hb5')
               have PB5 := HPB.out _ hb5'
               have z0 := PB5.c0; have z1 := PB5.c1; have z2 := PB5.c2; have z3 := PB5.c3; have z4 := PB5.c4
               have PC5 := HPC.out _ hb5'
               have s0 := PC5.c0; have s1 := PC5.c1; have s2 := PC5.c2; have s3 := PC5.c3; have s4 := PC5.c4
               clear PB5 PC5 hb5 hb5' HSA x0 x1 x2 x3 x4 y0 y1 y2 y3 y4 hv0)
            | (go_simp
               go_at_call 31
               refine HPY5.out.mono ?_
               rintro e w6 ⟨A8, c8, rfl, ho8, hb6⟩
               have hb6' : Below W4.heap.size W4 w6 := HB5.out.trans (hb6.mono HB5.out.size)
               have HB6 := Lib.hid hb6'
               have hv6 := HV2.out _ hb6'
               have hv7 := HV1.out w6 A8 c8 (Rd.of_own ho8)
               have PB5 := HPB.out _ hb6'
               clear z0 z1 z2 z3 z4 s0 s1 s2 s3 s4
               have z0 := PB5.c0; have z1 := PB5.c1; have z2 := PB5.c2; have z3 := PB5.c3; have z4 := PB5.c4
               have PC5 := HPC.out _ hb6'
               have s0 := PC5.c0; have s1 := PC5.c1; have s2 := PC5.c2; have s3 := PC5.c3; have s4 := PC5.c4
               clear PB5 PC5 ho8 hb6 hb6' hv5))
        all_goals go_wp2
        all_goals go_ret
        all_goals exact ⟨rfl, HB4.out.trans (HB6.out.mono HB4.out.size)⟩
      · have he2 : (er == 0) = false := by simpa using her
        have he3 : (er != 0) = true := by simpa using her
        have k0 := Held.cell x0 hz4
        have k1 := Held.cell x1 hz4
        have k2 := Held.cell x2 hz4
        have k3 := Held.cell x3 hz4
        have k4 := Held.cell x4 hz4
        have l0 := Held.cell y0 hz5
        have l1 := Held.cell y1 hz5
        have l2 := Held.cell y2 hz5
        have l3 := Held.cell y3 hz5
        have l4 := Held.cell y4 hz5
        clear x0 x1 x2 x3 x4 y0 y1 y2 y3 y4 HDP HRV
        have hne : Nonempty (Held (Below W4.heap.size W4)) := ⟨⟨_, (Held.drew_below (Nat.le_refl _))⟩⟩
        refine wp_region_heldq (S := (Below W4.heap.size W4)) (by kernel_rfl) (by kernel_rfl) (Held.drew_below (Nat.le_refl _)) ?_
        repeat (go_big_quiet_step ((go_at_call 29; exact Calls.held_below (Nat.le_refl _) (HSD.out _ (Held.h _)))))
        refine wpQuiet_nil ?_
        intro _ hw'
        obtain ⟨sq, hw''⟩ := hw'
        subst hw''
        clear hne
        go_wp2
        go_ret
        exact ⟨rfl, HB4.out.trans (sq.h.mono HB4.out.size)⟩

set_option maxRecDepth 100000 in
theorem recordPayload_lifted (os : Os) (started : os.Started) (H : Type) (enc : TypeId × Value → H) :
    ReturnsInHanded {} Try.checked os 7 .any (Rows.recordPayloadSpec.pre6 enc Try.prog Try.f7 Rows.recordPayloadRow.domain false) (Rows.recordPayloadSpec.post enc Try.prog Try.f7 false true false false) := by
  refine returnsInHanded_of_change (C := Try.checked) own started (by kernel_rfl) Try.func7
    (ChangeSpec.witness6 (enc := enc) (C := Try.checked) false ⟨#[], #[.int .u64 0, .int .u64 0, .slice none 0 0], []⟩ 8 (by kernel_rfl) (by kernel_rfl) (by kernel_rfl) (by kernel_rfl)) ?_
  intro W base args ds gs before hval0 hW hcnd _
  have hval : ∀ (j : Nat) t v, Try.f7.params[j]? = some t → args[j]? = some v → Value.okWide Try.prog W .any base t v := hval0
  have hW' := hW
  obtain ⟨p, q, hA0, hV, rfl, hfz, hnd⟩ := hW
  have hA : DataW.TrodAll enc Try.prog W 0 (fun _ => true) true Try.f7.params.toList args.toList ds p := hA0
  rw [Try.params7] at hA hval
  obtain ⟨v0, vs0, d0, ds0, p0, q0, hargs, rfl, rfl, h0, r0⟩ := trodAll_cons hA
  obtain ⟨v1, vs1, d1, ds1, p1, q1, rfl, rfl, rfl, h1, r1⟩ := trodAll_cons r0
  obtain ⟨v2, vs2, d2, ds2, p2, q2, rfl, rfl, rfl, h2, r2⟩ := trodAll_cons r1
  obtain ⟨rfl, rfl, rfl⟩ := trodAll_nil r2
  obtain rfl : args = #[v0, v1, v2] := by cases args; simp_all
  obtain ⟨rfl, rfl⟩ := trodVars_none hV
  have k0 := h0
  have lt0 : ∀ x ∈ p0, x.block < W.heap.size := by obtain ⟨m, hm⟩ := k0; exact DataW.trod_lt m _ _ _ hm
  have k1 := h1
  have lt1 : ∀ x ∈ p1, x.block < W.heap.size := by obtain ⟨m, hm⟩ := k1; exact DataW.trod_lt m _ _ _ hm
  have k2 := h2
  have lt2 : ∀ x ∈ p2, x.block < W.heap.size := by obtain ⟨m, hm⟩ := k2; exact DataW.trod_lt m _ _ _ hm
  obtain ⟨g, rfl, _, _, wg⟩ := open_int Try.underlying22 (hval 0 _ _ rfl rfl) h0
  obtain ⟨q, rfl, _, _, wq⟩ := open_int Try.underlying22 (hval 1 _ _ rfl rfl) h1
  have hg := u64_of wg
  have hq := u64_of wq
  obtain ⟨gn, rfl⟩ := Int.eq_ofNat_of_zero_le hg.1
  obtain ⟨qn, rfl⟩ := Int.eq_ofNat_of_zero_le hq.1
  obtain ⟨a0, n0, c0, rfl⟩ := Go.WideShapes.okWide_slice Try.underlying25 (hval 2 _ _ rfl rfl)
  obtain ⟨s, hs⟩ : ∃ s, BytesIn W (.slice a0 n0 c0) s := by obtain ⟨fuel, hf⟩ := h2; exact open_bytes hf
  have hsv := hs.val
  unfold Sl.v at hsv
  injection hsv with e1 e2 e3
  subst e1 e2 e3
  clear hA0 hval0
  refine (recordPayload_walk gn qn (by omega) (by omega) s.xs hs.ok s.A s.c W hs.rd hs.cap hs.big).mono fun e W' ⟨he, bel⟩ => ?_
  subst he
  exact ⟨_, rfl, _, _, _, [], _, [], hW', trodAll_mk1 (shut_bool Try.underlying4 _), (trodAll_cons_mk (Below.trod laidOut (by kernel_rfl) (of_decide_eq_true (by kernel_rfl)) k0 bel lt0) (trodAll_cons_mk (Below.trod laidOut (by kernel_rfl) (of_decide_eq_true (by kernel_rfl)) k1 bel lt1) (trodAll_cons_mk (Below.trod laidOut (by kernel_rfl) (of_decide_eq_true (by kernel_rfl)) k2 bel lt2) trodAll_mk0))), rfl, bel.frame _, fun h => by cases h⟩

/-- The statement. -/
theorem recordPayload_holds : Rows.RecordPayloadSaid :=
  OpenClaim.holds_of_wide 7 Try.f7 rfl rfl rfl rfl rfl rfl rfl ⟨rfl, rfl, rfl, rfl, rfl⟩ rfl rfl rfl rfl rfl (by kernel_rfl) Try.func7 (by kernel_rfl)
    (of_decide_eq_true (by kernel_rfl)) (by unfold Func.isWrapper; first | (rw [if_pos (by decide +kernel)]; kernel_rfl) | (rw [if_neg (by decide +kernel)]; exact ⟨rfl, rfl⟩))
    (fun os started H enc _ => recordPayload_lifted os started H enc)
#print axioms recordPayload_holds
end Go.Proofs.Ytndifkjenjfjpaa
