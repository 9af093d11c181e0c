/-
  WHAT IS SHOWN: a record is decoded from its sectors, whatever follows them (RecordRoundTrip). Conditions: none.
-/
import Derived.Test.YtndifkjenjfjpaaRec33
import Derived.Test.YtndifkjenjfjpaaRecO
import Derived.Test.YtndifkjenjfjpaaRecE
import Derived.Test.YtndifkjenjfjpaaRows
namespace Go.Proofs.Ytndifkjenjfjpaa
set_option linter.unusedVariables false
open Go.ChangeShapes Go.WideShapes Go.ChangeAt Go.RowKit

theorem uintB_len1 {n : Nat} (h : n < 128) : (uintB n).length = 1 := by unfold uintB; rw [uintF_small h]; rfl
theorem uintB_len2 {n : Nat} (h : n < 16384) : (uintB n).length ≤ 2 := by
  by_cases h1 : n < 128
  · rw [uintB_len1 h1]; omega
  · unfold uintB; rw [uintF_big h1, uintF_small (by omega)]; simp
theorem sec_len64 {gen seq k m : Nat} {ch : List Int} (hk : k < 16384) (hm : m < 16384) (hc : ch.length ≤ 28) : (secB gen seq k m ch).length ≤ 64 := by
  unfold secB sealB hdS
  have h1 := uintB_len gen; have h2 := uintB_len seq; have h3 := uintB_len2 hk; have h4 := uintB_len2 hm
  have h5 := uintB_len1 (n := ch.length) (by omega)
  have h6 : ∀ s, (be8 s).length = 8 := fun _ => rfl
  simp only [List.length_append, h6, h5, List.length_cons, List.length_nil]
  omega
/-- What is known of the sectors of a valid record. -/
theorem enc_each {r : Rec} (hv : validR r = true) (hok : r.Ok) {k : Nat} (hk : k < (encR r).length) : ∃ s ch, (encR r)[k]? = some s ∧ insD s = ⟨r.gen, r.seq, k, (encR r).length, ch, 0⟩ ∧ s.length ≤ 64 ∧ 0 < ch.length := by
  have hn : k < nCh (payR r).length := by rw [← encR_len]; exact hk
  have hl := chunk_len hn
  have hm := nCh_le (payR_len (validR_vld hv))
  refine ⟨_, ((payR r).drop (28 * k)).take 28, encR_get r hn, ?_, sec_len64 (by omega) (by omega) hl.2, by omega⟩
  rw [encR_len]; exact ins_enc (validR_vld hv) hok hn
theorem encR_pos (r : Rec) : 0 < (encR r).length := by rw [encR_len]; have := payR_pos r; unfold nCh; omega
set_option maxRecDepth 100000 in
set_option maxHeartbeats 4000000 in
theorem recordRoundTrip_walk (r : Rec) (hok : r.Ok) (A D N : Option Addr) (c d n : Nat) (w : World) (h : RecR w w.heap.size r A c D d N n) (hw : r.ws.length ≤ 9223372036854775807) (hm : r.ms.length ≤ 9223372036854775807) (hn : r.note.length ≤ 9223372036854775807)
    (tt : List Sl) (T : Option Addr) (t : Nat) (ht : SlsR w w.heap.size T tt) (htok : ∀ s ∈ tt, U8s s.xs ∧ s.xs.length ≤ s.c ∧ s.c ≤ 9223372036854775807) (htc : tt.length ≤ t) (htm : t ≤ 9223372036854775807) :
    Calls Try.prog 8 #[.agg #[.int .u64 r.gen, .int .u64 r.seq, .slice A r.ws.length c, .slice D r.ms.length d, .slice N r.note.length n], .slice T tt.length t] w fun e w' => e = .returned (.bool true) ∧ Below w.heap.size w w' := by
  have HB : Hid (∀ W, Below (w.heap.size + 1) (w.alloc (.cells #[.int .u64 r.gen, .int .u64 r.seq, .slice A r.ws.length c, .slice D r.ms.length d, .slice N r.note.length n] 27)) W → Below w.heap.size w W) := fun W hW => ((Below.refl w.heap.size w).alloc (Nat.le_refl _) _).trans (hW.mono (by omega))
  have HP0 : Hid (∀ W, Below (w.heap.size + 1) (w.alloc (.cells #[.int .u64 r.gen, .int .u64 r.seq, .slice A r.ws.length c, .slice D r.ms.length d, .slice N r.note.length n] 27)) W → Cells5 W w.heap.size (.int .u64 r.gen) (.int .u64 r.seq) (.slice A r.ws.length c) (.slice D r.ms.length d) (.slice N r.note.length n)) := fun W hW => (Cells5.new w 27 _ _ _ _ _).below hW (by simp)
  have HH := Lib.hid h
  have HT := Lib.hid ht
  have HTK := Lib.hid htok
  have hz0 : (w.alloc (.cells #[.int .u64 r.gen, .int .u64 r.seq, .slice A r.ws.length c, .slice D r.ms.length d, .slice N r.note.length n] 27)).heap.size = w.heap.size + 1 := by simp
  clear h ht htok
  go_enter Try.func8, Try.ntmps8
  go_wp2_with fail
  refine (awake_any _).mono ?_
  rintro e w1 ⟨rfl, hb1⟩
  rw [hz0] at hb1
  have HB1 := Lib.hid hb1
  have PB := HP0.out _ hb1
  have p0 := PB.c0
  have p1 := PB.c1
  have p2 := PB.c2
  have p3 := PB.c3
  have p4 := PB.c4
  clear PB
  clear hb1
  go_wp2_with fail
  refine (short_any r A D N c d n _).mono ?_
  rintro e w2 ⟨rfl, hb2⟩
  have HB2 := Lib.hid (HB1.out.trans (hb2.mono (by have := HB1.out.size; omega)))
  clear p0 p1 p2 p3 p4
  have PB := HP0.out _ HB2.out
  have p0 := PB.c0
  have p1 := PB.c1
  have p2 := PB.c2
  have p3 := PB.c3
  have p4 := PB.c4
  clear PB
  clear hb2 HB1
  obtain hs | hs : shortR r = false ∨ shortR r = true := by cases shortR r; exact .inl rfl; exact .inr rfl
  · rw [hs]
    clear hs
    go_wp2
    go_ret
    exact ⟨rfl, HB.out _ HB2.out⟩
  · rw [hs]
    clear hs
    have HV := Lib.hid (qvalid_any r A D N c d n w2 (HH.out.up (HB.out _ HB2.out)) hw hm hn)
    go_wp2_with fail
    refine HV.out.mono ?_
    rintro e w3 ⟨rfl, hb3⟩
    have HB3 := Lib.hid (HB2.out.trans (hb3.mono (by have := HB2.out.size; omega)))
    clear p0 p1 p2 p3 p4
    have PB := HP0.out _ HB3.out
    have p0 := PB.c0
    have p1 := PB.c1
    have p2 := PB.c2
    have p3 := PB.c3
    have p4 := PB.c4
    clear PB
    clear hb3 HV HB2
    obtain hs | hs : validR r = false ∨ validR r = true := by cases validR r; exact .inl rfl; exact .inr rfl
    · rw [hs]
      clear hs
      go_wp2
      go_ret
      exact ⟨rfl, HB.out _ HB3.out⟩
    · rw [hs]
      have HVL := Lib.hid hs
      clear hs
      have HL := Lib.hid (long_any tt T t w3 (HT.out.up (HB.out _ HB3.out)) (by omega) (fun s hs => by have := HTK.out s hs; omega))
      go_wp2_with fail
      refine HL.out.mono ?_
      rintro e w4 ⟨rfl, hb4⟩
      have HB4 := Lib.hid (HB3.out.trans (hb4.mono (by have := HB3.out.size; omega)))
      clear p0 p1 p2 p3 p4
      have PB := HP0.out _ HB4.out
      have p0 := PB.c0
      have p1 := PB.c1
      have p2 := PB.c2
      have p3 := PB.c3
      have p4 := PB.c4
      clear PB
      clear hb4 HL HB3
      obtain hs | hs : longL (tt.map Sl.xs) = true ∨ longL (tt.map Sl.xs) = false := by cases longL (tt.map Sl.xs); exact .inr rfl; exact .inl rfl
      · rw [hs]
        clear hs
        go_wp2
        go_ret
        exact ⟨rfl, HB.out _ HB4.out⟩
      · obtain ⟨hl, hx⟩ := long_no hs
        rw [hs]
        rw [List.length_map] at hl
        have HX := Lib.hid hx
        have HE := Lib.hid (encode_any r hok A D N c d n w4 (HH.out.up (HB.out _ HB4.out)) hw hm hn)
        clear hs hx
        go_wp2_with fail
        refine HE.out.mono ?_
        rintro e w5 ⟨A5, c5, ss, rfl, hss, ho5, hb5⟩
        have hEE : encE r = 0 := by unfold encE; rw [if_pos HVL.out]
        have hEL : encL r = encR r := by unfold encL; rw [if_pos HVL.out]
        rw [hEE]
        rw [hEL] at hss
        have HB5 := Lib.hid (HB4.out.trans (hb5.mono (by have := HB4.out.size; omega)))
        have hlen : ss.length = (encR r).length := by rw [← hss, List.length_map]
        have hpos : 0 < ss.length := by rw [hlen]; exact encR_pos r
        have hmax : ss.length ≤ 4096 := by rw [hlen, encR_len]; exact nCh_le (payR_len (validR_vld HVL.out))
        have HSS := Lib.hid hss
        have HLN := Lib.hid hlen
        have HO5 := Lib.hid ho5
        have hpos' : ¬ ss.length = 0 := by omega
        have hpos2 : ((ss.length : Int) == 0) = false := by simpa using hpos'
        obtain ⟨g5, rfl, hg5, hg5z⟩ := own_at HO5.out.own hpos
        clear hpos' hpos
        obtain ⟨i0, hi0, hz0', hz1, hz2⟩ := info_parts info_sl
        clear p0 p1 p2 p3 p4
        clear hss hlen ho5 hb5 HE hEE hEL HB4
        go_wp2
        go_loopw [42] (fun i wr => ∃ k : Nat, k ≤ ss.length ∧ i = .int .i64 k ∧ Hid (Below w5.heap.size w5 wr)) (fun i _ => ss.length - (intOf i).toNat)
        case atStart => exact ⟨0, Nat.zero_le _, rfl, Below.refl _ _⟩
        case round =>
          obtain ⟨k, hk, rfl, HBR⟩ := hrel
          have PB := HP0.out _ (HB5.out.trans (HBR.out.mono (by have := HB5.out.size; omega)))
          have p0 := PB.c0
          have p1 := PB.c1
          have p2 := PB.c2
          have p3 := PB.c3
          have p4 := PB.c4
          clear PB
          by_cases hlt : k < ss.length
          · obtain ⟨g1, o1, he1, hg1, j1, hr1⟩ := sl_at (HO5.out.rd.up HBR.out) hlt
            injection he1 with he1; injection he1 with he1 he2; subst he1; subst he2
            rw [Nat.zero_add] at j1
            obtain ⟨s', ch, hs', hins, hs64, hch⟩ := enc_each HVL.out hok (by rw [← HLN.out]; exact hlt)
            have hsk : ss[k].xs = s' := by
              have h1 : (ss.map Sl.xs)[k]? = some s' := by rw [HSS.out]; exact hs'
              rw [List.getElem?_map, List.getElem?_eq_getElem hlt] at h1
              injection h1
            have hown := own_cap0 (HO5.out.each _ (List.getElem_mem hlt))
            rw [hsk] at j1 hr1 hown
            have hu : U8s s' := encR_u8 hok s' (List.mem_of_getElem? hs')
            generalize ss[k].A = A6 at *
            generalize ss[k].c = c6 at *
            have HI := Lib.hid (inspect_any s' hu A6 c6 wr hr1 (by omega) hown.1 (by have := hown.2.1; unfold maxLen at this; omega))
            have HIS := Lib.hid hins
            have HCH := Lib.hid hch
            rw [← HLN.out] at HIS
            clear hs' hins hr1 hown hu hsk hch
            go_wp2_with fail
            refine HI.out.mono ?_
            rintro e w6 ⟨A7, c7, rfl, hr7, hb7⟩
            rw [HIS.out]
            simp only
            have hbx : Below w6.heap.size w6 (w6.alloc (.cells #[.int .u64 r.gen, .int .u64 r.seq, .int .i64 k, .int .i64 ss.length] 36)) := (Below.refl _ _).alloc (Nat.le_refl _) _
            have hb7' : Below wr.heap.size wr (w6.alloc (.cells #[.int .u64 r.gen, .int .u64 r.seq, .int .i64 k, .int .i64 ss.length] 36)) := hb7.trans (hbx.mono hb7.size)
            have HB6 := Lib.hid (HBR.out.trans (hb7'.mono HBR.out.size))
            have PH := Cells4.new w6 36 (.int .u64 r.gen) (.int .u64 r.seq) (.int .i64 k) (.int .i64 ss.length)
            have x0 := PH.c0; have x1 := PH.c1; have x2 := PH.c2; have x3 := PH.c3
            have j2 := (hb7'.cell (p := ⟨g5, k, none⟩) hg1).trans j1
            clear p0 p1 p2 p3 p4
            have hbz := HB5.out.trans (HB6.out.mono (by have := HB5.out.size; omega))
            have PB := HP0.out _ hbz
            have p0 := PB.c0
            have p1 := PB.c1
            have p2 := PB.c2
            have p3 := PB.c3
            have p4 := PB.c4
            clear PB
            have hch1 : ¬ ch.length = 0 := by have := HCH.out; omega
            have hs64' : ¬ (64 : Int) < s'.length := by omega
            have hch2 : ((ch.length : Int) == 0) = false := by simpa using hch1
            clear HI hb7 hb7' hbx PH j1 hbz hr7 HCH
            go_upto_region 12 with fail
            generalize (w6.alloc (.cells #[.int .u64 r.gen, .int .u64 r.seq, .int .i64 k, .int .i64 ss.length] 36)) = w7 at *
            go_wp2
            go_roundw
            case rel => exact ⟨k + 1, hlt, by go_num, HB6⟩
            case measure => simp [intOf]; omega
          · obtain rfl : k = ss.length := by omega
            have hrS := HO5.out.rd.up HBR.out
            have hbz := HB5.out.trans (HBR.out.mono (by have := HB5.out.size; omega))
            have hrT := HT.out.up (HB.out _ hbz)
            have hlx : ∀ u ∈ ss.map Sl.v, u.oneCell' = true := fun u hu => by obtain ⟨s, _, rfl⟩ := List.mem_map.1 hu; rfl
            have hro := World.ownsRow_lit (base := wr.heap.size) (e := 25) (size := 1) wr #[] 0 (Nat.le_refl _) (by decide) rfl
            have hla := hrS.rd.alloc (Nat.le_refl _) (.cells #[] 25)
            go_wp2_with (at_builtin; go_loud (refine wpList_append_own _ rfl _ _ 30 rfl wr.heap.size 25 i0 _ 1 24 Try.underlying30 hi0 hz0' hz1 hz2 rfl (by decide) _ 0 [] rfl hro ⟨g5, 0, none⟩ ss.length c5 (ss.map Sl.v) rfl (by simp) hla.at_add hlx ?c1 ?c2 ?c3 ?_))
            case c1 => unfold maxLen; omega
            case c2 => omega
            try (case c3 => omega)
            intro v' w6 hown hgrow _
            try simp only [Nat.zero_add, List.nil_append] at hown
            obtain ⟨A6, c6, hv⟩ := own_form hown
            subst hv
            have hbl : Below wr.heap.size wr w6 := ((Below.refl _ _).alloc (Nat.le_refl _) _).grown hgrow (by simp) (fun k hk => by simp [Value.ownBlock] at hk; omega)
            have HBL := Lib.hid hbl
            have HOW := Lib.hid hown
            have HRS := Lib.hid (hrS.up hbl)
            have HRT := Lib.hid (hrT.up hbl)
            have HRSE : Hid (∀ s ∈ ss, Rd wr wr.heap.size s.A (s.xs.map (Value.int .u8))) := hrS.each
            have HRTE : Hid (∀ s ∈ tt, Rd wr wr.heap.size s.A (s.xs.map (Value.int .u8))) := hrT.each
            have HSO : Hid (∀ s ∈ ss, SlOk s) := fun s hs => by
              obtain ⟨i, hi, rfl⟩ := List.mem_iff_getElem.1 hs
              obtain ⟨s', ch, hs', _, hs64, _⟩ := enc_each HVL.out hok (k := i) (by rw [← HLN.out]; exact hi)
              have hsk : ss[i].xs = s' := by
                have h1 : (ss.map Sl.xs)[i]? = some s' := by rw [HSS.out]; exact hs'
                rw [List.getElem?_map, List.getElem?_eq_getElem hi] at h1
                injection h1
              have hown := own_cap0 (HO5.out.each _ (List.getElem_mem hi))
              have hu : U8s s' := encR_u8 hok s' (List.mem_of_getElem? hs')
              exact ⟨by rw [hsk]; exact hu, by rw [hsk]; omega, hown.1, by have := hown.2.1; unfold maxLen at this; omega⟩
            have HTO : Hid (∀ s ∈ tt, SlOk s) := fun s hs => by
              obtain ⟨q1, q2, q3⟩ := HTK.out s hs
              exact ⟨q1, by have := HX.out s.xs (List.mem_map.2 ⟨s, hs, rfl⟩); omega, q2, q3⟩
            clear hla hro hgrow hbl hown hrS hrT
            obtain ⟨hc6, hcm6, _⟩ := own_cap0 HOW.out
            obtain ⟨g6, rfl, _, hg6⟩ := own_at HOW.out (show 0 < ss.length by rw [HLN.out]; exact encR_pos r)
            cases T with
            | none =>
              have hx := HRT.out.rd.at_none
              obtain rfl : tt = [] := by cases tt; rfl; simp at hx
              have hc6' : (ss.length : Int) ≤ (c6 : Int) := by omega
              have HB8 := Lib.hid (HBR.out.trans (HBL.out.mono HBR.out.size))
              have HD := Lib.hid (decode_r ss (HSO.out) (some ⟨g6, 0, none⟩) c6 hc6 (by unfold maxLen at hcm6; omega) (by omega) w6 ⟨Rd.of_own HOW.out, HRS.out.each⟩)
              have HDE : Hid (decD (ss.map Sl.xs) = ⟨r, (encR r).length, 0⟩) := by
                unfold Hid; rw [HSS.out]; have := dec_enc HVL.out hok []; rw [List.append_nil] at this; exact this
              clear p0 p1 p2 p3 p4
              have hbz8 := HB5.out.trans (HB8.out.mono (by have := HB5.out.size; omega))
              have PB := HP0.out _ hbz8
              have p0 := PB.c0
              have p1 := PB.c1
              have p2 := PB.c2
              have p3 := PB.c3
              have p4 := PB.c4
              clear PB
              have HBZ8 := Lib.hid hbz8
              clear hbz8
              go_wp2_with fail
              refine HD.out.mono ?_
              rintro e w9 ⟨A9, c9, D9, d9, N9, n9, rfl, hr9, hb9⟩
              rw [HDE.out] at hr9 ⊢
              simp only at hr9 ⊢
              have hbx : Below w9.heap.size w9 (w9.alloc (.cells #[.int .u64 r.gen, .int .u64 r.seq, .slice A9 r.ws.length c9, .slice D9 r.ms.length d9, .slice N9 r.note.length n9] 27)) := (Below.refl _ _).alloc (Nat.le_refl _) _
              have hb9x := hb9.trans (hbx.mono hb9.size)
              have HB9 := Lib.hid (HBZ8.out.trans (hb9x.mono (by have := HBZ8.out.size; omega)))
              have HR9 := Lib.hid (hr9.below0 hbx)
              have PB9 := (Cells5.new w9 27 (.int .u64 r.gen) (.int .u64 r.seq) (.slice A9 r.ws.length c9) (.slice D9 r.ms.length d9) (.slice N9 r.note.length n9))
              have x0 := PB9.c0
              have x1 := PB9.c1
              have x2 := PB9.c2
              have x3 := PB9.c3
              have x4 := PB9.c4
              clear p0 p1 p2 p3 p4
              have PB := HP0.out _ HB9.out
              have p0 := PB.c0
              have p1 := PB.c1
              have p2 := PB.c2
              have p3 := PB.c3
              have p4 := PB.c4
              clear PB
              have hvl := validR_vld HVL.out
              have HSA := Lib.hid (same_rec r A9 D9 N9 A D N c9 d9 n9 c d n _ HR9.out.rec_ (HH.out.up (HB.out _ HB9.out)) (by have := hvl.nw; omega) (by have := hvl.nm; omega) (by have := hvl.nn; omega))
              have hll := HLN.out
              rw [← hll]
              clear hr9 hbx hb9 hb9x PB9 HR9 HD HDE hvl hll
              go_wp2_with fail
              refine HSA.out.mono ?_
              rintro e w10 ⟨rfl, hb10⟩
              go_wp2
              go_ret
              exact ⟨rfl, HB.out _ (HB9.out.trans (hb10.mono (by have := HB9.out.size; omega)))⟩
            | some a =>
              have hly : ∀ u ∈ tt.map Sl.v, u.oneCell' = true := fun u hu => by obtain ⟨s, _, rfl⟩ := List.mem_map.1 hu; rfl
              go_wp2_with (at_builtin; go_loud (refine wpList_append_own _ rfl _ _ 30 rfl wr.heap.size 25 i0 _ 1 24 Try.underlying30 hi0 hz0' hz1 hz2 rfl (by decide) _ ss.length (ss.map Sl.v) rfl HOW.out a tt.length t (tt.map Sl.v) rfl (by simp) HRT.out.rd.at_add hly ?d1 ?d2 ?d3 ?_))
              case d1 => unfold maxLen; omega
              case d2 => omega
              case d3 => exact HBL.out.size
              intro v' w8 hown hgrow _
              obtain ⟨A8, c8, hv⟩ := own_form hown
              subst hv
              have hbl8 : Below wr.heap.size wr w8 := HBL.out.grown hgrow HBL.out.size (fun k hk => own_low HOW.out hk)
              have HB8 := Lib.hid (HBR.out.trans (hbl8.mono HBR.out.size))
              have hlx8 : (ss ++ tt).length = ss.length + tt.length := List.length_append
              have hR8 : Rd w8 w8.heap.size A8 ((ss ++ tt).map Sl.v) := by rw [List.map_append]; exact Rd.of_own hown
              obtain ⟨hc8, hcm8, _⟩ := own_cap0 hown
              have hE8 : ∀ s ∈ ss ++ tt, Rd w8 w8.heap.size s.A (s.xs.map (Value.int .u8)) := fun s hs => by
                rcases List.mem_append.1 hs with hs | hs
                · exact ((HRSE.out s hs).below hbl8 (Nat.le_refl _)).more hbl8.size
                · exact ((HRTE.out s hs).below hbl8 (Nat.le_refl _)).more hbl8.size
              have HD := Lib.hid (decode_r (ss ++ tt) (fun s hs => by
                rcases List.mem_append.1 hs with hs | hs
                · exact HSO.out s hs
                · exact HTO.out s hs) A8 c8 (by omega) (by unfold maxLen at hcm8; omega) (by omega) w8 ⟨hR8, hE8⟩)
              rw [hlx8] at HD
              have HDE : Hid (decD ((ss ++ tt).map Sl.xs) = ⟨r, (encR r).length, 0⟩) := by
                unfold Hid; rw [List.map_append, HSS.out]; exact dec_enc HVL.out hok _
              clear hown hgrow hbl8 hlx8 hR8 hE8 hc8 hcm8 hly
              clear p0 p1 p2 p3 p4
              have hbz8 := HB5.out.trans (HB8.out.mono (by have := HB5.out.size; omega))
              have PB := HP0.out _ hbz8
              have p0 := PB.c0
              have p1 := PB.c1
              have p2 := PB.c2
              have p3 := PB.c3
              have p4 := PB.c4
              clear PB
              have HBZ8 := Lib.hid hbz8
              clear hbz8
              go_wp2_with fail
              refine HD.out.mono ?_
              rintro e w9 ⟨A9, c9, D9, d9, N9, n9, rfl, hr9, hb9⟩
              rw [HDE.out] at hr9 ⊢
              simp only at hr9 ⊢
              have hbx : Below w9.heap.size w9 (w9.alloc (.cells #[.int .u64 r.gen, .int .u64 r.seq, .slice A9 r.ws.length c9, .slice D9 r.ms.length d9, .slice N9 r.note.length n9] 27)) := (Below.refl _ _).alloc (Nat.le_refl _) _
              have hb9x := hb9.trans (hbx.mono hb9.size)
              have HB9 := Lib.hid (HBZ8.out.trans (hb9x.mono (by have := HBZ8.out.size; omega)))
              have HR9 := Lib.hid (hr9.below0 hbx)
              have PB9 := (Cells5.new w9 27 (.int .u64 r.gen) (.int .u64 r.seq) (.slice A9 r.ws.length c9) (.slice D9 r.ms.length d9) (.slice N9 r.note.length n9))
              have x0 := PB9.c0
              have x1 := PB9.c1
              have x2 := PB9.c2
              have x3 := PB9.c3
              have x4 := PB9.c4
              clear p0 p1 p2 p3 p4
              have PB := HP0.out _ HB9.out
              have p0 := PB.c0
              have p1 := PB.c1
              have p2 := PB.c2
              have p3 := PB.c3
              have p4 := PB.c4
              clear PB
              have hvl := validR_vld HVL.out
              have HSA := Lib.hid (same_rec r A9 D9 N9 A D N c9 d9 n9 c d n _ HR9.out.rec_ (HH.out.up (HB.out _ HB9.out)) (by have := hvl.nw; omega) (by have := hvl.nm; omega) (by have := hvl.nn; omega))
              have hll := HLN.out
              rw [← hll]
              clear hr9 hbx hb9 hb9x PB9 HR9 HD HDE hvl hll
              go_wp2_with fail
              refine HSA.out.mono ?_
              rintro e w10 ⟨rfl, hb10⟩
              go_wp2
              go_ret
              exact ⟨rfl, HB.out _ (HB9.out.trans (hb10.mono (by have := HB9.out.size; omega)))⟩

set_option maxRecDepth 100000 in
theorem recordRoundTrip_lifted (os : Os) (started : os.Started) (H : Type) (enc : TypeId × Value → H) :
    ReturnsInHanded {} Try.checked os 8 .any (Rows.recordRoundTripSpec.pre6 enc Try.prog Try.f8 Rows.recordRoundTripRow.domain false) (Rows.recordRoundTripSpec.post enc Try.prog Try.f8 false true false false) := by
  refine returnsInHanded_of_change (C := Try.checked) own started (by kernel_rfl) Try.func8
    (ChangeSpec.witness6 (enc := enc) (C := Try.checked) false ⟨#[], #[.agg #[.int .u64 0, .int .u64 0, .slice none 0 0, .slice none 0 0, .slice none 0 0], .slice none 0 0], []⟩ 8 (by kernel_rfl) (by kernel_rfl) (by kernel_rfl) (by kernel_rfl)) ?_
  intro W base args ds gs before hval0 hW hcnd _
  have hval : ∀ (j : Nat) t v, Try.f8.params[j]? = some t → args[j]? = some v → Value.okWide Try.prog W .any base t v := hval0
  have hW' := hW
  obtain ⟨p, q, hA0, hV, rfl, hfz, hnd⟩ := hW
  have hA : DataW.TrodAll enc Try.prog W 0 (fun _ => true) true Try.f8.params.toList args.toList ds p := hA0
  rw [Try.params8] at hA hval
  obtain ⟨v0, vs0, d0, ds0, p0, q0, hargs, rfl, rfl, h0, r0⟩ := trodAll_cons hA
  obtain ⟨v1, vs1, d1, ds1, p1, q1, rfl, rfl, rfl, h1, r1⟩ := trodAll_cons r0
  obtain ⟨rfl, rfl, rfl⟩ := trodAll_nil r1
  obtain rfl : args = #[v0, v1] := by cases args; simp_all
  obtain ⟨rfl, rfl⟩ := trodVars_none hV
  have k0 := h0
  have lt0 : ∀ x ∈ p0, x.block < W.heap.size := by obtain ⟨m, hm⟩ := k0; exact DataW.trod_lt m _ _ _ hm
  have k1 := h1
  have lt1 : ∀ x ∈ p1, x.block < W.heap.size := by obtain ⟨m, hm⟩ := k1; exact DataW.trod_lt m _ _ _ hm
  obtain ⟨r, A, c, D, d, N, n, hr⟩ := open_rec (hval 0 _ _ rfl rfl) h0
  have hrv := hr.val
  subst hrv
  obtain ⟨a0, n0, c0, rfl⟩ := Go.WideShapes.okWide_slice Try.underlying30 (hval 1 _ _ rfl rfl)
  obtain ⟨T, ss, t, hs⟩ : ∃ A ss c, SecsIn W (.slice a0 n0 c0) A ss c := by obtain ⟨fuel, hf⟩ := h1; exact open_secs hf
  have hsv := hs.val
  injection hsv with e1 e2 e3
  subst e1 e2 e3
  clear hA0 hval0
  refine (recordRoundTrip_walk r hr.ok A D N c d n W hr.rd hr.nw hr.nm hr.nn ss _ _ hs.rd hs.ok hs.cap hs.big).mono fun e W' ⟨he, bel⟩ => ?_
  subst he
  exact ⟨_, rfl, _, _, _, [], _, [], hW', trodAll_mk1 (shut_bool Try.underlying4 _), (trodAll_cons_mk (Below.trod laidOut (by kernel_rfl) (of_decide_eq_true (by kernel_rfl)) k0 bel lt0) (trodAll_cons_mk (Below.trod laidOut (by kernel_rfl) (of_decide_eq_true (by kernel_rfl)) k1 bel lt1) trodAll_mk0)), rfl, bel.frame _, fun h => by cases h⟩

/-- The statement. -/
theorem recordRoundTrip_holds : Rows.RecordRoundTripSaid :=
  OpenClaim.holds_of_wide 8 Try.f8 rfl rfl rfl rfl rfl rfl rfl ⟨rfl, rfl, rfl, rfl, rfl⟩ rfl rfl rfl rfl rfl (by kernel_rfl) Try.func8 (by kernel_rfl)
    (of_decide_eq_true (by kernel_rfl)) (by unfold Func.isWrapper; first | (rw [if_pos (by decide +kernel)]; kernel_rfl) | (rw [if_neg (by decide +kernel)]; exact ⟨rfl, rfl⟩))
    (fun os started H enc _ => recordRoundTrip_lifted os started H enc)
#print axioms recordRoundTrip_holds
end Go.Proofs.Ytndifkjenjfjpaa
