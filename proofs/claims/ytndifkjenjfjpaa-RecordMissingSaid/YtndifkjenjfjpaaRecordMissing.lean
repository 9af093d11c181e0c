/-
  WHAT IS SHOWN: a record of which a sector is missing or changed is not decoded (RecordMissing). Conditions: none.
-/
import Derived.StillTailTactics
import Derived.Test.YtndifkjenjfjpaaRec33
import Derived.Test.YtndifkjenjfjpaaRecO
import Derived.Test.YtndifkjenjfjpaaRecE
import Derived.Test.YtndifkjenjfjpaaRows
namespace Go.Proofs.Ytndifkjenjfjpaa
set_option linter.unusedVariables false
open Go.ChangeShapes Go.WideShapes Go.ChangeAt Go.RowKit

theorem own_set {w : World} {base : Nat} {t : TypeId} {n : Nat} {v : Value} {xs : List Value} (h : w.ownsRow base 5 1 v n xs) {b2 g c m : Nat} {ys : List Value} (h2 : w.ownsRow b2 25 1 (.slice (some ⟨g, 0, none⟩) m c) m ys) (k : Nat) (u : Value) : (w.setCell ⟨g, k, none⟩ u).ownsRow base 5 1 v n xs :=
  own_kept h ((Kept.refl (fun i => i = g) w).setCell (p := ⟨g, k, none⟩) (fun _ => rfl) u) (fun i hi e => by
    have e' : i = g := e
    subst e'
    rcases own_apart h h2 (by decide) with h3 | h3
    · rw [h3] at hi; cases hi
    · exact h3 (by rw [hi]; rfl))
theorem SlsO.set {w : World} {base g c k : Nat} {ss : List Sl} (h : SlsO w base (some ⟨g, 0, none⟩) c ss) (s : Sl) (hk : k < ss.length) (hs : Rd (w.setCell ⟨g, k, none⟩ s.v) (w.setCell ⟨g, k, none⟩ s.v).heap.size s.A (s.xs.map (Value.int .u8))) : SlsR (w.setCell ⟨g, k, none⟩ s.v) (w.setCell ⟨g, k, none⟩ s.v).heap.size (some ⟨g, 0, none⟩) (ss.set k s) := by
  refine ⟨?_, fun u hu => ?_⟩
  · have h1 := (World.ownsRow.stored h.own k s.v).1
    rw [List.map_set]
    exact Rd.of_own h1
  · rcases List.mem_or_eq_of_mem_set hu with hu | rfl
    · exact Rd.of_own (own_set (t := 5) (h.each u hu) h.own k s.v)
    · exact hs
theorem encR_1000 {r : Rec} : ∀ b ∈ encR r, b.length ≤ 1000 := fun b hb => by
  unfold encR at hb
  obtain ⟨k, _, rfl⟩ := List.mem_map.1 hb
  unfold secB sealB
  have h1 := hdS_len r.gen r.seq k (nCh (payR r).length)
  have h2 := uintB_len (((payR r).drop (28 * k)).take 28).length
  have h3 : (((payR r).drop (28 * k)).take 28).length ≤ 28 := by rw [List.length_take]; omega
  have h4 : ∀ s, (be8 s).length = 8 := fun _ => rfl
  rw [List.length_append, List.length_append, List.length_append, h4]
  omega
set_option maxRecDepth 100000 in
set_option maxHeartbeats 4000000 in
theorem recordMissing_walk (r r' : Rec) (hok : r.Ok) (hok' : r'.Ok) (A D N A' D' N' : Option Addr) (c d n c' d' n' : Nat) (at_ how : Nat) (w : World) (h : RecR w w.heap.size r A c D d N n) (h' : RecR w w.heap.size r' A' c' D' d' N' n') (hw : r.ws.length ≤ 9223372036854775807) (hm : r.ms.length ≤ 9223372036854775807) (hn : r.note.length ≤ 9223372036854775807) (hw' : r'.ws.length ≤ 9223372036854775807) (hm' : r'.ms.length ≤ 9223372036854775807) (hn' : r'.note.length ≤ 9223372036854775807) (hat : at_ ≤ 255) (hhow : how ≤ 255) :
    Calls Try.prog 9 #[.agg #[.int .u64 r.gen, .int .u64 r.seq, .slice A r.ws.length c, .slice D r.ms.length d, .slice N r.note.length n], .agg #[.int .u64 r'.gen, .int .u64 r'.seq, .slice A' r'.ws.length c', .slice D' r'.ms.length d', .slice N' r'.note.length n'], .int .u8 at_, .int .u8 how] w fun e w' => e = .returned (.bool true) ∧ Below w.heap.size w w' := by
  have HB : Hid (∀ W, Below (w.heap.size + 2) ((w.alloc (.cells #[.int .u64 r.gen, .int .u64 r.seq, .slice A r.ws.length c, .slice D r.ms.length d, .slice N r.note.length n] 27)).alloc (.cells #[.int .u64 r'.gen, .int .u64 r'.seq, .slice A' r'.ws.length c', .slice D' r'.ms.length d', .slice N' r'.note.length n'] 27)) W → Below w.heap.size w W) := fun W hW => (((Below.refl w.heap.size w).alloc (Nat.le_refl _) _).alloc (by simp) _).trans (hW.mono (by omega))
  have HP0 : Hid (∀ W, Below (w.heap.size + 2) ((w.alloc (.cells #[.int .u64 r.gen, .int .u64 r.seq, .slice A r.ws.length c, .slice D r.ms.length d, .slice N r.note.length n] 27)).alloc (.cells #[.int .u64 r'.gen, .int .u64 r'.seq, .slice A' r'.ws.length c', .slice D' r'.ms.length d', .slice N' r'.note.length n'] 27)) W → Cells5 W w.heap.size (.int .u64 r.gen) (.int .u64 r.seq) (.slice A r.ws.length c) (.slice D r.ms.length d) (.slice N r.note.length n)) := fun W hW => (((Cells5.new w 27 (.int .u64 r.gen) (.int .u64 r.seq) (.slice A r.ws.length c) (.slice D r.ms.length d) (.slice N r.note.length n))).below ((Below.refl (w.heap.size + 1) _).alloc (by simp) _) (by omega)).below hW (by omega)
  have HQ0 : Hid (∀ W, Below (w.heap.size + 2) ((w.alloc (.cells #[.int .u64 r.gen, .int .u64 r.seq, .slice A r.ws.length c, .slice D r.ms.length d, .slice N r.note.length n] 27)).alloc (.cells #[.int .u64 r'.gen, .int .u64 r'.seq, .slice A' r'.ws.length c', .slice D' r'.ms.length d', .slice N' r'.note.length n'] 27)) W → Cells5 W (w.heap.size + 1) (.int .u64 r'.gen) (.int .u64 r'.seq) (.slice A' r'.ws.length c') (.slice D' r'.ms.length d') (.slice N' r'.note.length n')) := fun W hW => by
    have h1 := (Cells5.new (w.alloc (.cells #[.int .u64 r.gen, .int .u64 r.seq, .slice A r.ws.length c, .slice D r.ms.length d, .slice N r.note.length n] 27)) 27 (.int .u64 r'.gen) (.int .u64 r'.seq) (.slice A' r'.ws.length c') (.slice D' r'.ms.length d') (.slice N' r'.note.length n'))
    rw [World.size_alloc] at h1
    exact h1.below hW (by omega)
  have HH := Lib.hid h
  have HH' := Lib.hid h'
  have hz0 : ((w.alloc (.cells #[.int .u64 r.gen, .int .u64 r.seq, .slice A r.ws.length c, .slice D r.ms.length d, .slice N r.note.length n] 27)).alloc (.cells #[.int .u64 r'.gen, .int .u64 r'.seq, .slice A' r'.ws.length c', .slice D' r'.ms.length d', .slice N' r'.note.length n'] 27)).heap.size = w.heap.size + 2 := by simp
  clear h h'
  go_enter Try.func9, Try.ntmps9
  go_wp2_with fail
  refine (awake_any _).mono ?_
  rintro e w1 ⟨rfl, hb1⟩
  rw [hz0] at hb1
  generalize ((w.alloc (.cells #[.int .u64 r.gen, .int .u64 r.seq, .slice A r.ws.length c, .slice D r.ms.length d, .slice N r.note.length n] 27)).alloc (.cells #[.int .u64 r'.gen, .int .u64 r'.seq, .slice A' r'.ws.length c', .slice D' r'.ms.length d', .slice N' r'.note.length n'] 27)) = W0 at *
  have HB1 := Lib.hid hb1
  have PB := HP0.out _ hb1
  have p0 := PB.c0
  have p1 := PB.c1
  have p2 := PB.c2
  have p3 := PB.c3
  have p4 := PB.c4
  clear PB
  clear hb1
  go_wp2_with fail
  refine (short_any r A D N c d n _).mono ?_
  rintro e w2 ⟨rfl, hb2⟩
  have HB2 := Lib.hid (HB1.out.trans (hb2.mono (by have := HB1.out.size; omega)))
  clear p0 p1 p2 p3 p4
  have PB := HP0.out _ HB2.out
  have p0 := PB.c0
  have p1 := PB.c1
  have p2 := PB.c2
  have p3 := PB.c3
  have p4 := PB.c4
  clear PB
  clear hb2 HB1
  obtain hs | hs : shortR r = false ∨ shortR r = true := by cases shortR r; exact .inl rfl; exact .inr rfl
  · rw [hs]
    clear hs
    go_wp2
    go_ret
    exact ⟨rfl, HB.out _ HB2.out⟩
  · rw [hs]
    clear hs
    have HV := Lib.hid (qvalid_any r A D N c d n w2 (HH.out.up (HB.out _ HB2.out)) hw hm hn)
    go_wp2_with fail
    refine HV.out.mono ?_
    rintro e w3 ⟨rfl, hb3⟩
    have HB3 := Lib.hid (HB2.out.trans (hb3.mono (by have := HB2.out.size; omega)))
    clear p0 p1 p2 p3 p4
    have PB := HQ0.out _ HB3.out
    have p0 := PB.c0
    have p1 := PB.c1
    have p2 := PB.c2
    have p3 := PB.c3
    have p4 := PB.c4
    clear PB
    clear hb3 HV HB2
    obtain hs | hs : validR r = false ∨ validR r = true := by cases validR r; exact .inl rfl; exact .inr rfl
    · rw [hs]
      clear hs
      go_wp2
      go_ret
      exact ⟨rfl, HB.out _ HB3.out⟩
    · rw [hs]
      have HVL := Lib.hid hs
      clear hs
      go_wp2_with fail
      refine (short_any r' A' D' N' c' d' n' _).mono ?_
      rintro e w4 ⟨rfl, hb4⟩
      have HB4 := Lib.hid (HB3.out.trans (hb4.mono (by have := HB3.out.size; omega)))
      clear p0 p1 p2 p3 p4
      have PB := HQ0.out _ HB4.out
      have p0 := PB.c0
      have p1 := PB.c1
      have p2 := PB.c2
      have p3 := PB.c3
      have p4 := PB.c4
      clear PB
      clear hb4 HB3
      obtain hs | hs : shortR r' = false ∨ shortR r' = true := by cases shortR r'; exact .inl rfl; exact .inr rfl
      · rw [hs]
        clear hs
        go_wp2
        go_ret
        exact ⟨rfl, HB.out _ HB4.out⟩
      · rw [hs]
        clear hs
        have HV := Lib.hid (qvalid_any r' A' D' N' c' d' n' w4 (HH'.out.up (HB.out _ HB4.out)) hw' hm' hn')
        go_wp2_with fail
        refine HV.out.mono ?_
        rintro e w5 ⟨rfl, hb5⟩
        have HB5 := Lib.hid (HB4.out.trans (hb5.mono (by have := HB4.out.size; omega)))
        clear p0 p1 p2 p3 p4
        have PB := HP0.out _ HB5.out
        have p0 := PB.c0
        have p1 := PB.c1
        have p2 := PB.c2
        have p3 := PB.c3
        have p4 := PB.c4
        clear PB
        clear hb5 HV HB4
        obtain hs | hs : validR r' = false ∨ validR r' = true := by cases validR r'; exact .inl rfl; exact .inr rfl
        · rw [hs]
          clear hs
          go_wp2
          go_ret
          exact ⟨rfl, HB.out _ HB5.out⟩
        · rw [hs]
          have HVL' := Lib.hid hs
          clear hs
          have HE := Lib.hid (rencode_any r hok A D N c d n w5 (HH.out.up (HB.out _ HB5.out)) hw hm hn)
          go_wp2_with fail
          refine HE.out.mono ?_
          rintro e w6 ⟨A6, c6, ss, rfl, hss, ho6, hb6⟩
          have HB6 := Lib.hid (HB5.out.trans (hb6.mono (by have := HB5.out.size; omega)))
          have hz5 := HB5.out.size
          have HO6 := Lib.hid ho6
          clear p0 p1 p2 p3 p4
          have PB := HQ0.out _ HB6.out
          have p0 := PB.c0
          have p1 := PB.c1
          have p2 := PB.c2
          have p3 := PB.c3
          have p4 := PB.c4
          clear PB
          clear ho6 hb6 HE HB5
          have HE := Lib.hid (rencode_any r' hok' A' D' N' c' d' n' w6 (HH'.out.up (HB.out _ HB6.out)) hw' hm' hn')
          go_wp2_with fail
          refine HE.out.mono ?_
          rintro e w7 ⟨A7, c7, tt, rfl, htt, ho7, hb7⟩
          have HB7 := Lib.hid (HB6.out.trans (hb7.mono (by have := HB6.out.size; omega)))
          have HO6' := Lib.hid (HO6.out.below hb7)
          have HO7 := Lib.hid ho7
          have hEE : encE r = 0 := by unfold encE; rw [if_pos HVL.out]
          have hEE' : encE r' = 0 := by unfold encE; rw [if_pos HVL'.out]
          have hEL : encL r = encR r := by unfold encL; rw [if_pos HVL.out]
          have hEL' : encL r' = encR r' := by unfold encL; rw [if_pos HVL'.out]
          rw [hEL] at hss
          rw [hEL'] at htt
          have hlen : ss.length = (encR r).length := by rw [← hss, List.length_map]
          have hlen' : tt.length = (encR r').length := by rw [← htt, List.length_map]
          have hpos : 0 < ss.length := by rw [hlen, encR_len]; have := payR_pos r; unfold nCh; omega
          have hpos' : 0 < tt.length := by rw [hlen', encR_len]; have := payR_pos r'; unfold nCh; omega
          have hmax : ss.length ≤ 4096 := by rw [hlen, encR_len]; exact nCh_le (payR_len (validR_vld HVL.out))
          have hmax' : tt.length ≤ 4096 := by rw [hlen', encR_len]; exact nCh_le (payR_len (validR_vld HVL'.out))
          have HSS := Lib.hid hss
          have HTT := Lib.hid htt
          have HLN := Lib.hid hlen
          have HLN' := Lib.hid hlen'
          obtain ⟨g6, rfl, hg6, hg6z⟩ := own_at HO6'.out.own hpos
          obtain ⟨g7, rfl, hg7, hg7z⟩ := own_at HO7.out.own hpos'
          rw [hEE, hEE']
          clear p0 p1 p2 p3 p4
          have hg6w : w.heap.size + 2 ≤ g6 := by omega
          clear hss htt hlen hlen' ho7 hb7 HE HO6 hEE hEE' hEL hEL' HB6
          have hne : ¬ (ss.length : Int) = 0 := by omega
          have hke : ((at_ : Nat) : Int).tmod (ss.length : Int) = ((at_ % ss.length : Nat) : Int) := (Int.ofNat_tmod at_ ss.length).symm
          have hkl : at_ % ss.length < ss.length := Nat.mod_lt _ hpos
          obtain ⟨k, hk⟩ : ∃ k, at_ % ss.length = k := ⟨_, rfl⟩
          rw [hk] at hke hkl
          have HK := Lib.hid hk
          clear hk
          have hkc := World.ownsRow.cellAt HO6'.out.own k (by omega)
          rw [List.getElem?_map, List.getElem?_eq_getElem hkl] at hkc
          have hkc2 : w7.cell? ⟨g6, k, none⟩ = some (.slice ss[k].A ss[k].xs.length ss[k].c) := hkc
          have hkf := World.ownsRow.frozenAt HO6'.out.own k
          clear hkc
          obtain ⟨gk, hAk, _⟩ := own_at (HO6'.out.each _ (List.getElem_mem hkl)) (by
            obtain ⟨s, ch, hs, _, hsl⟩ := enc_get (r := r) (k := k) (by rw [← HLN.out]; exact hkl) HVL.out hok
            have h1 : (ss.map Sl.xs)[k]? = some s := by rw [HSS.out]; exact hs
            rw [List.getElem?_map, List.getElem?_eq_getElem hkl] at h1
            injection h1 with h1
            rw [h1]; exact hsl)
          have HSO : Hid (∀ s ∈ ss, SlOk s) := fun s hs => by
            have hown := own_cap0 (HO6'.out.each _ hs)
            have hm : s.xs ∈ encR r := by rw [← HSS.out]; exact List.mem_map.2 ⟨s, hs, rfl⟩
            exact ⟨encR_u8 hok _ hm, encR_1000 _ hm, hown.1, by have := hown.2.1; unfold maxLen at this; omega⟩
          have HTO : Hid (∀ s ∈ tt, SlOk s) := fun s hs => by
            have hown := own_cap0 (HO7.out.each _ hs)
            have hm : s.xs ∈ encR r' := by rw [← HTT.out]; exact List.mem_map.2 ⟨s, hs, rfl⟩
            exact ⟨encR_u8 hok' _ hm, encR_1000 _ hm, hown.1, by have := hown.2.1; unfold maxLen at this; omega⟩
          rcases (by omega : how % 4 = 0 ∨ how % 4 = 1 ∨ how % 4 = 2 ∨ how % 4 = 3) with h4 | h4 | h4 | h4
          · have hh4 : ((how : Nat) : Int).tmod 4 = 0 := by have := Int.ofNat_tmod how 4; rw [h4] at this; exact this.symm
            clear h4
            have HBW := Lib.hid (HB7.out.setCell (p := ⟨g6, k, none⟩) (by omega) (.slice none 0 0))
            have hRL := SlsO.set HO6'.out ⟨none, [], 0⟩ hkl (Rd.nil_ _ _ _)
            have hlm : (ss.set k ⟨none, [], 0⟩).map Sl.xs = misL 0 k 0 (encR r) (encR r') := by rw [List.map_set, HSS.out]; rfl
            have hso : ∀ s ∈ ss.set k ⟨none, [], 0⟩, SlOk s := fun s hs => by
              rcases List.mem_or_eq_of_mem_set hs with hs | rfl
              · exact HSO.out s hs
              · exact ⟨fun x hx => by simp at hx, by simp, by simp, by simp⟩
            have hll : (ss.set k ⟨none, [], 0⟩).length = ss.length := List.length_set
            have hcc := own_cap0 HO6'.out.own
            have HD := Lib.hid (decode_r (ss.set k ⟨none, [], 0⟩) hso (some ⟨g6, 0, none⟩) c6 (by omega) (by have := hcc.2.1; unfold maxLen at this; omega) (by omega) (w7.setCell ⟨g6, k, none⟩ (.slice none 0 0)) hRL)
            rw [hlm, hll] at HD
            have HER := Lib.hid (dec_er (misL 0 k 0 (encR r) (encR r')))
            have HMI : Hid ((decD (misL 0 k 0 (encR r) (encR r'))).er = 0 → 0 = 2 ∧ ((r.gen = r'.gen ∧ r.seq = r'.seq) ∨ (k = 0 ∧ (encR r').length = 1 ∧ (decD (misL 0 k 0 (encR r) (encR r'))).r = r'))) := fun h => mis_ok HVL.out hok HVL'.out hok' (by rw [← HLN.out]; omega) (by rw [← HLN'.out]; omega) h
            have HSM := Lib.hid (dec_small' (misL 0 k 0 (encR r) (encR r')))
            generalize decD (misL 0 k 0 (encR r) (encR r')) = X at *
            obtain ⟨x, m, er⟩ := X
            simp only at HER HMI HSM
            clear hcc
            go_wp2_with fail
            refine HD.out.mono ?_
            rintro e w9 ⟨A9, c9, D9, d9, N9, n9, rfl, hr9, hb9⟩
            simp only at hr9 ⊢
            have hbx : Below w9.heap.size w9 (w9.alloc (.cells #[.int .u64 x.gen, .int .u64 x.seq, .slice A9 x.ws.length c9, .slice D9 x.ms.length d9, .slice N9 x.note.length n9] 27)) := (Below.refl _ _).alloc (Nat.le_refl _) _
            have HB9 := Lib.hid (HBW.out.trans ((hb9.trans (hbx.mono hb9.size)).mono (by have := HBW.out.size; omega)))
            clear HD
            rcases HER.out with h0 | ⟨h5, hm0⟩
            · exact absurd (HMI.out h0).1 (by decide)
            · clear hRL hlm hso hll
              have hm0' : m = 0 := hm0
              subst hm0'
              clear hm0 HMI hr9 hb9 hbx HER
              rcases h5 with h5 | h5
              · have h5' : er = 5 := h5
                subst h5'
                clear h5
                go_wp2
                go_ret
                exact ⟨rfl, HB.out _ HB9.out⟩
              · have h5' : er = 6 := h5
                subst h5'
                clear h5
                go_wp2
                go_ret
                exact ⟨rfl, HB.out _ HB9.out⟩
          · have hh4 : ((how : Nat) : Int).tmod 4 = 1 := by have := Int.ofNat_tmod how 4; rw [h4] at this; exact this.symm
            clear h4
            have hown := HO6'.out.each _ (List.getElem_mem hkl)
            have hsx : ss[k].xs = (encR r).getD k [] := by
              have h1 : (ss.map Sl.xs)[k]? = (encR r)[k]? := by rw [HSS.out]
              rw [List.getElem?_map, List.getElem?_eq_getElem hkl] at h1
              rw [List.getD_eq_getElem?_getD, ← h1]; rfl
            have hso0 := HSO.out _ (List.getElem_mem hkl)
            have HX0 : Hid (Rd (w7.setCell ⟨g6, k, none⟩ (.slice (some ⟨gk, 0, none⟩) (ss[k].xs.length / 2) ss[k].c)) (w7.setCell ⟨g6, k, none⟩ (.slice (some ⟨gk, 0, none⟩) (ss[k].xs.length / 2) ss[k].c)).heap.size (some ⟨gk, 0, none⟩) ((ss[k].xs.take (ss[k].xs.length / 2)).map (Value.int .u8))) := by
              have h1 := Rd.of_own (own_set (t := 5) hown HO6'.out.own k (.slice (some ⟨gk, 0, none⟩) (ss[k].xs.length / 2) ss[k].c))
              rw [hAk] at h1
              have h2 := h1.take (ss[k].xs.length / 2)
              rw [← List.map_take] at h2
              exact h2
            have hlm : (ss.set k ⟨some ⟨gk, 0, none⟩, ss[k].xs.take (ss[k].xs.length / 2), ss[k].c⟩).map Sl.xs = misL 1 k 0 (encR r) (encR r') := by
              rw [List.map_set, HSS.out]
              show (encR r).set k (ss[k].xs.take (ss[k].xs.length / 2)) = _
              rw [hsx]; rfl
            rw [hAk] at hkc2
            generalize ss[k] = s0 at *
            have htl : (s0.xs.take (s0.xs.length / 2)).length = s0.xs.length / 2 := by rw [List.length_take]; omega
            have hRL : SlsR (w7.setCell ⟨g6, k, none⟩ (.slice (some ⟨gk, 0, none⟩) (s0.xs.length / 2) s0.c)) (w7.setCell ⟨g6, k, none⟩ (.slice (some ⟨gk, 0, none⟩) (s0.xs.length / 2) s0.c)).heap.size (some ⟨g6, 0, none⟩) (ss.set k ⟨some ⟨gk, 0, none⟩, s0.xs.take (s0.xs.length / 2), s0.c⟩) := by
              have h1 := SlsO.set HO6'.out ⟨some ⟨gk, 0, none⟩, s0.xs.take (s0.xs.length / 2), s0.c⟩ hkl (by
                unfold Sl.v
                simp only
                rw [htl]; exact HX0.out)
              unfold Sl.v at h1
              simp only at h1
              rw [htl] at h1
              exact h1
            have hso : ∀ s ∈ ss.set k ⟨some ⟨gk, 0, none⟩, s0.xs.take (s0.xs.length / 2), s0.c⟩, SlOk s := fun s hs => by
              rcases List.mem_or_eq_of_mem_set hs with hs | rfl
              · exact HSO.out s hs
              · exact ⟨hso0.u.take _, by show (s0.xs.take _).length ≤ _; rw [htl]; have := hso0.n; omega, by show (s0.xs.take _).length ≤ s0.c; rw [htl]; have := hso0.c; omega, hso0.m⟩
            have hll : (ss.set k ⟨some ⟨gk, 0, none⟩, s0.xs.take (s0.xs.length / 2), s0.c⟩).length = ss.length := List.length_set
            have hdv : ((s0.xs.length : Nat) : Int).tdiv 2 = ((s0.xs.length / 2 : Nat) : Int) := (Int.ofNat_tdiv s0.xs.length 2).symm
            have hdc : ((s0.xs.length / 2 : Nat) : Int) ≤ (s0.c : Int) := by have := hso0.c; omega
            have hn1000 : s0.xs.length ≤ 1000 := hso0.n
            have hdw : IntKind.i64.wrap ((s0.xs.length / 2 : Nat) : Int) = ((s0.xs.length / 2 : Nat) : Int) := by rw [IntKind.wrap_i64]; omega
            have HBW := Lib.hid (HB7.out.setCell (p := ⟨g6, k, none⟩) (by omega) (.slice (some ⟨gk, 0, none⟩) (s0.xs.length / 2) s0.c)).drew
            have hRL : SlsR (w7.setCell ⟨g6, k, none⟩ (.slice (some ⟨gk, 0, none⟩) (s0.xs.length / 2) s0.c)).drew (w7.setCell ⟨g6, k, none⟩ (.slice (some ⟨gk, 0, none⟩) (s0.xs.length / 2) s0.c)).drew.heap.size (some ⟨g6, 0, none⟩) (ss.set k ⟨some ⟨gk, 0, none⟩, s0.xs.take (s0.xs.length / 2), s0.c⟩) := ⟨hRL.rd, hRL.each⟩
            generalize s0.xs.length / 2 = hf at *
            clear hown hsx hso0 HX0 hAk
            go_upto_region 13 with fail
            go_still_tail 14, (by kernel_rfl)
            have hcc := own_cap0 HO6'.out.own
            have HD := Lib.hid (decode_r (ss.set k ⟨some ⟨gk, 0, none⟩, s0.xs.take hf, s0.c⟩) hso (some ⟨g6, 0, none⟩) c6 (by omega) (by have := hcc.2.1; unfold maxLen at this; omega) (by omega) (w7.setCell ⟨g6, k, none⟩ (.slice (some ⟨gk, 0, none⟩) hf s0.c)).drew hRL)
            rw [hlm, hll] at HD
            have HER := Lib.hid (dec_er (misL 1 k 0 (encR r) (encR r')))
            have HMI : Hid ((decD (misL 1 k 0 (encR r) (encR r'))).er = 0 → 1 = 2 ∧ ((r.gen = r'.gen ∧ r.seq = r'.seq) ∨ (k = 0 ∧ (encR r').length = 1 ∧ (decD (misL 1 k 0 (encR r) (encR r'))).r = r'))) := fun h => mis_ok HVL.out hok HVL'.out hok' (by rw [← HLN.out]; omega) (by rw [← HLN'.out]; omega) h
            have HSM := Lib.hid (dec_small' (misL 1 k 0 (encR r) (encR r')))
            generalize decD (misL 1 k 0 (encR r) (encR r')) = X at *
            obtain ⟨x, m, er⟩ := X
            simp only at HER HMI HSM
            clear hcc
            go_wp2_with fail
            refine HD.out.mono ?_
            rintro e w9 ⟨A9, c9, D9, d9, N9, n9, rfl, hr9, hb9⟩
            simp only at hr9 ⊢
            have hbx : Below w9.heap.size w9 (w9.alloc (.cells #[.int .u64 x.gen, .int .u64 x.seq, .slice A9 x.ws.length c9, .slice D9 x.ms.length d9, .slice N9 x.note.length n9] 27)) := (Below.refl _ _).alloc (Nat.le_refl _) _
            have HB9 := Lib.hid (HBW.out.trans ((hb9.trans (hbx.mono hb9.size)).mono (by have := HBW.out.size; omega)))
            clear HD
            rcases HER.out with h0 | ⟨h5, hm0⟩
            · exact absurd (HMI.out h0).1 (by decide)
            · clear hRL hlm hso hll
              have hm0' : m = 0 := hm0
              subst hm0'
              clear hm0 HMI hr9 hb9 hbx HER
              rcases h5 with h5 | h5
              · have h5' : er = 5 := h5
                subst h5'
                clear h5
                go_wp2
                go_ret
                exact ⟨rfl, HB.out _ HB9.out⟩
              · have h5' : er = 6 := h5
                subst h5'
                clear h5
                go_wp2
                go_ret
                exact ⟨rfl, HB.out _ HB9.out⟩
          · have hh4 : ((how : Nat) : Int).tmod 4 = 2 := by have := Int.ofNat_tmod how 4; rw [h4] at this; exact this.symm
            clear h4
            have hne' : ¬ (tt.length : Int) = 0 := by omega
            have hje : ((at_ : Nat) : Int).tmod (tt.length : Int) = ((at_ % tt.length : Nat) : Int) := (Int.ofNat_tmod at_ tt.length).symm
            have hjl : at_ % tt.length < tt.length := Nat.mod_lt _ hpos'
            obtain ⟨j, hj⟩ : ∃ j, at_ % tt.length = j := ⟨_, rfl⟩
            rw [hj] at hje hjl
            clear hj
            have hjc := World.ownsRow.cellAt HO7.out.own j (by omega)
            rw [List.getElem?_map, List.getElem?_eq_getElem hjl] at hjc
            have hjc2 : w7.cell? ⟨g7, j, none⟩ = some (.slice tt[j].A tt[j].xs.length tt[j].c) := hjc
            have hso1 := HTO.out _ (List.getElem_mem hjl)
            have hlm : (ss.set k tt[j]).map Sl.xs = misL 2 k j (encR r) (encR r') := by
              rw [List.map_set, HSS.out]
              show (encR r).set k tt[j].xs = _
              have h1 : (tt.map Sl.xs)[j]? = (encR r')[j]? := by rw [HTT.out]
              rw [List.getElem?_map, List.getElem?_eq_getElem hjl] at h1
              have h2 : (encR r').getD j [] = tt[j].xs := by rw [List.getD_eq_getElem?_getD, ← h1]; rfl
              unfold misL
              rw [if_neg (by decide), if_neg (by decide), if_pos rfl, h2]
            have hRL := SlsO.set HO6'.out tt[j] hkl (Rd.of_own (own_set (t := 5) (HO7.out.each _ (List.getElem_mem hjl)) HO6'.out.own k tt[j].v))
            have hso : ∀ s ∈ ss.set k tt[j], SlOk s := fun s hs => by
              rcases List.mem_or_eq_of_mem_set hs with hs | rfl
              · exact HSO.out s hs
              · exact hso1
            clear hjc
            generalize tt[j] = s0 at *
            have hll : (ss.set k s0).length = ss.length := List.length_set
            have HBW := Lib.hid (HB7.out.setCell (p := ⟨g6, k, none⟩) (by omega) (.slice s0.A s0.xs.length s0.c))
            have hcc := own_cap0 HO6'.out.own
            have HD := Lib.hid (decode_r (ss.set k s0) hso (some ⟨g6, 0, none⟩) c6 (by omega) (by have := hcc.2.1; unfold maxLen at this; omega) (by omega) (w7.setCell ⟨g6, k, none⟩ (.slice s0.A s0.xs.length s0.c)) hRL)
            rw [hlm, hll] at HD
            have HER := Lib.hid (dec_er (misL 2 k j (encR r) (encR r')))
            have HMI : Hid ((decD (misL 2 k j (encR r) (encR r'))).er = 0 → 2 = 2 ∧ ((r.gen = r'.gen ∧ r.seq = r'.seq) ∨ (k = 0 ∧ (encR r').length = 1 ∧ (decD (misL 2 k j (encR r) (encR r'))).r = r'))) := fun h => mis_ok HVL.out hok HVL'.out hok' (by rw [← HLN.out]; omega) (by rw [← HLN'.out]; omega) h
            have HSM := Lib.hid (dec_small' (misL 2 k j (encR r) (encR r')))
            generalize decD (misL 2 k j (encR r) (encR r')) = X at *
            obtain ⟨x, m, er⟩ := X
            simp only at HER HMI HSM
            clear hcc
            go_wp2_with fail
            refine HD.out.mono ?_
            rintro e w9 ⟨A9, c9, D9, d9, N9, n9, rfl, hr9, hb9⟩
            simp only at hr9 ⊢
            have hbx : Below w9.heap.size w9 (w9.alloc (.cells #[.int .u64 x.gen, .int .u64 x.seq, .slice A9 x.ws.length c9, .slice D9 x.ms.length d9, .slice N9 x.note.length n9] 27)) := (Below.refl _ _).alloc (Nat.le_refl _) _
            have HB9 := Lib.hid (HBW.out.trans ((hb9.trans (hbx.mono hb9.size)).mono (by have := HBW.out.size; omega)))
            clear HD
            rcases HER.out with h0 | ⟨h5, hm0⟩
            · have h0' : er = 0 := h0
              subst h0'
              obtain ⟨_, hcase⟩ := HMI.out rfl
              have HCA := Lib.hid hcase
              have PA := HP0.out _ HB9.out
              have PB := HQ0.out _ HB9.out
              have a0 := PA.c0; have a1 := PA.c1
              have b0 := PB.c0; have b1 := PB.c1; have b2 := PB.c2; have b3 := PB.c3; have b4 := PB.c4
              clear PA PB hcase HMI HER hRL hlm hso hll hjc2 hkc2 hkf hso1
              by_cases hgs : r.gen = r'.gen ∧ r.seq = r'.seq
              · obtain ⟨hg, hs⟩ := hgs
                rw [hg] at a0
                rw [hs] at a1
                clear hg hs
                go_wp2
                go_ret
                exact ⟨rfl, HB.out _ HB9.out⟩
              · obtain ⟨hk0, hl1, hx⟩ : k = 0 ∧ (encR r').length = 1 ∧ x = r' := by
                  rcases HCA.out with h1 | h1
                  · exact absurd h1 hgs
                  · exact h1
                rw [← HLN'.out] at hl1
                subst hx
                have hl1' : ((tt.length : Int) == 1) = true := by simp; omega
                have hk1' : ((k : Int) == 0) = true := by simp; omega
                have HR9 := Lib.hid (hr9.below0 hbx)
                have PN := (Cells5.new w9 27 (.int .u64 x.gen) (.int .u64 x.seq) (.slice A9 x.ws.length c9) (.slice D9 x.ms.length d9) (.slice N9 x.note.length n9))
                have y0 := PN.c0; have y1 := PN.c1; have y2 := PN.c2; have y3 := PN.c3; have y4 := PN.c4
                have HSA := Lib.hid (same_rec x A9 D9 N9 A' D' N' c9 d9 n9 c' d' n' _ HR9.out.rec_ (HH'.out.up (HB.out _ HB9.out)) (by have := HSM.out.ws; omega) (by have := HSM.out.ms; omega) (by have := HSM.out.note; omega))
                clear PN hr9 hbx hb9 hl1 hk0 HCA
                by_cases hg : r.gen = x.gen
                · have hge : ((r.gen : Int) == (x.gen : Int)) = true := by simp; omega
                  have hse : ((r.seq : Int) == (x.seq : Int)) = false := by
                    have : ¬ r.seq = x.seq := fun h => hgs ⟨hg, h⟩
                    simp; omega
                  clear hg hgs
                  go_wp2_with fail
                  refine HSA.out.mono ?_
                  rintro e w10 ⟨rfl, hb10⟩
                  go_wp2
                  go_ret
                  exact ⟨rfl, HB.out _ (HB9.out.trans (hb10.mono (by have := HB9.out.size; omega)))⟩
                · have hge : ((r.gen : Int) == (x.gen : Int)) = false := by simp; omega
                  clear hg hgs
                  go_wp2_with fail
                  refine HSA.out.mono ?_
                  rintro e w10 ⟨rfl, hb10⟩
                  go_wp2
                  go_ret
                  exact ⟨rfl, HB.out _ (HB9.out.trans (hb10.mono (by have := HB9.out.size; omega)))⟩
            · clear hRL hlm hso hll
              have hm0' : m = 0 := hm0
              subst hm0'
              clear hm0 HMI hr9 hb9 hbx HER
              rcases h5 with h5 | h5
              · have h5' : er = 5 := h5
                subst h5'
                clear h5
                go_wp2
                go_ret
                exact ⟨rfl, HB.out _ HB9.out⟩
              · have h5' : er = 6 := h5
                subst h5'
                clear h5
                go_wp2
                go_ret
                exact ⟨rfl, HB.out _ HB9.out⟩
          · have hh4 : ((how : Nat) : Int).tmod 4 = 3 := by have := Int.ofNat_tmod how 4; rw [h4] at this; exact this.symm
            clear h4
            have HBW := HB7
            have hRL : SlsR w7 w7.heap.size (some ⟨g6, 0, none⟩) (ss.take k) := ⟨by rw [List.map_take]; exact HO6'.out.rd.rd.take k, fun s hs => HO6'.out.rd.each s (List.mem_of_mem_take hs)⟩
            have hlm : (ss.take k).map Sl.xs = misL 3 k 0 (encR r) (encR r') := by rw [List.map_take, HSS.out]; rfl
            have hso : ∀ s ∈ ss.take k, SlOk s := fun s hs => HSO.out s (List.mem_of_mem_take hs)
            have hll : (ss.take k).length = k := by rw [List.length_take]; omega
            have hkc6 : (k : Int) ≤ (c6 : Int) := by have := (own_cap0 HO6'.out.own).1; omega
            have hcc := own_cap0 HO6'.out.own
            have HD := Lib.hid (decode_r (ss.take k) hso (some ⟨g6, 0, none⟩) c6 (by omega) (by have := hcc.2.1; unfold maxLen at this; omega) (by omega) w7 hRL)
            rw [hlm, hll] at HD
            have HER := Lib.hid (dec_er (misL 3 k 0 (encR r) (encR r')))
            have HMI : Hid ((decD (misL 3 k 0 (encR r) (encR r'))).er = 0 → 3 = 2 ∧ ((r.gen = r'.gen ∧ r.seq = r'.seq) ∨ (k = 0 ∧ (encR r').length = 1 ∧ (decD (misL 3 k 0 (encR r) (encR r'))).r = r'))) := fun h => mis_ok HVL.out hok HVL'.out hok' (by rw [← HLN.out]; omega) (by rw [← HLN'.out]; omega) h
            have HSM := Lib.hid (dec_small' (misL 3 k 0 (encR r) (encR r')))
            generalize decD (misL 3 k 0 (encR r) (encR r')) = X at *
            obtain ⟨x, m, er⟩ := X
            simp only at HER HMI HSM
            clear hcc
            go_wp2_with fail
            refine HD.out.mono ?_
            rintro e w9 ⟨A9, c9, D9, d9, N9, n9, rfl, hr9, hb9⟩
            simp only at hr9 ⊢
            have hbx : Below w9.heap.size w9 (w9.alloc (.cells #[.int .u64 x.gen, .int .u64 x.seq, .slice A9 x.ws.length c9, .slice D9 x.ms.length d9, .slice N9 x.note.length n9] 27)) := (Below.refl _ _).alloc (Nat.le_refl _) _
            have HB9 := Lib.hid (HBW.out.trans ((hb9.trans (hbx.mono hb9.size)).mono (by have := HBW.out.size; omega)))
            clear HD
            rcases HER.out with h0 | ⟨h5, hm0⟩
            · exact absurd (HMI.out h0).1 (by decide)
            · clear hRL hlm hso hll
              have hm0' : m = 0 := hm0
              subst hm0'
              clear hm0 HMI hr9 hb9 hbx HER
              rcases h5 with h5 | h5
              · have h5' : er = 5 := h5
                subst h5'
                clear h5
                go_wp2
                go_ret
                exact ⟨rfl, HB.out _ HB9.out⟩
              · have h5' : er = 6 := h5
                subst h5'
                clear h5
                go_wp2
                go_ret
                exact ⟨rfl, HB.out _ HB9.out⟩

set_option maxRecDepth 100000 in
theorem recordMissing_lifted (os : Os) (started : os.Started) (H : Type) (enc : TypeId × Value → H) :
    ReturnsInHanded {} Try.checked os 9 .any (Rows.recordMissingSpec.pre6 enc Try.prog Try.f9 Rows.recordMissingRow.domain false) (Rows.recordMissingSpec.post enc Try.prog Try.f9 false true false false) := by
  refine returnsInHanded_of_change (C := Try.checked) own started (by kernel_rfl) Try.func9
    (ChangeSpec.witness6 (enc := enc) (C := Try.checked) false ⟨#[], #[.agg #[.int .u64 0, .int .u64 0, .slice none 0 0, .slice none 0 0, .slice none 0 0], .agg #[.int .u64 0, .int .u64 0, .slice none 0 0, .slice none 0 0, .slice none 0 0], .int .u8 0, .int .u8 0], []⟩ 8 (by kernel_rfl) (by kernel_rfl) (by kernel_rfl) (by kernel_rfl)) ?_
  intro W base args ds gs before hval0 hW hcnd _
  have hval : ∀ (j : Nat) t v, Try.f9.params[j]? = some t → args[j]? = some v → Value.okWide Try.prog W .any base t v := hval0
  have hW' := hW
  obtain ⟨p, q, hA0, hV, rfl, hfz, hnd⟩ := hW
  have hA : DataW.TrodAll enc Try.prog W 0 (fun _ => true) true Try.f9.params.toList args.toList ds p := hA0
  rw [Try.params9] at hA hval
  obtain ⟨v0, vs0, d0, ds0, p0, q0, hargs, rfl, rfl, h0, r0⟩ := trodAll_cons hA
  obtain ⟨v1, vs1, d1, ds1, p1, q1, rfl, rfl, rfl, h1, r1⟩ := trodAll_cons r0
  obtain ⟨v2, vs2, d2, ds2, p2, q2, rfl, rfl, rfl, h2, r2⟩ := trodAll_cons r1
  obtain ⟨v3, vs3, d3, ds3, p3, q3, rfl, rfl, rfl, h3, r3⟩ := trodAll_cons r2
  obtain ⟨rfl, rfl, rfl⟩ := trodAll_nil r3
  obtain rfl : args = #[v0, v1, v2, v3] := by cases args; simp_all
  obtain ⟨rfl, rfl⟩ := trodVars_none hV
  have k0 := h0
  have lt0 : ∀ x ∈ p0, x.block < W.heap.size := by obtain ⟨m, hm⟩ := k0; exact DataW.trod_lt m _ _ _ hm
  have k1 := h1
  have lt1 : ∀ x ∈ p1, x.block < W.heap.size := by obtain ⟨m, hm⟩ := k1; exact DataW.trod_lt m _ _ _ hm
  have k2 := h2
  have lt2 : ∀ x ∈ p2, x.block < W.heap.size := by obtain ⟨m, hm⟩ := k2; exact DataW.trod_lt m _ _ _ hm
  have k3 := h3
  have lt3 : ∀ x ∈ p3, x.block < W.heap.size := by obtain ⟨m, hm⟩ := k3; exact DataW.trod_lt m _ _ _ hm
  obtain ⟨r, A, c, D, d, N, n, hr⟩ := open_rec (hval 0 _ _ rfl rfl) h0
  have hrv := hr.val
  subst hrv
  obtain ⟨r', A', c', D', d', N', n', hr'⟩ := open_rec (hval 1 _ _ rfl rfl) h1
  have hrv' := hr'.val
  subst hrv'
  obtain ⟨a, rfl, _, _, wa⟩ := open_int Try.underlying5 (hval 2 _ _ rfl rfl) h2
  obtain ⟨b, rfl, _, _, wb⟩ := open_int Try.underlying5 (hval 3 _ _ rfl rfl) h3
  have ha := u8_of wa
  have hb := u8_of wb
  obtain ⟨an, rfl⟩ := Int.eq_ofNat_of_zero_le ha.1
  obtain ⟨bn, rfl⟩ := Int.eq_ofNat_of_zero_le hb.1
  clear hA0 hval0
  refine (recordMissing_walk r r' hr.ok hr'.ok A D N A' D' N' c d n c' d' n' an bn W hr.rd hr'.rd hr.nw hr.nm hr.nn hr'.nw hr'.nm hr'.nn (by omega) (by omega)).mono fun e W' ⟨he, bel⟩ => ?_
  subst he
  exact ⟨_, rfl, _, _, _, [], _, [], hW', trodAll_mk1 (shut_bool Try.underlying4 _), (trodAll_cons_mk (Below.trod laidOut (by kernel_rfl) (of_decide_eq_true (by kernel_rfl)) k0 bel lt0) (trodAll_cons_mk (Below.trod laidOut (by kernel_rfl) (of_decide_eq_true (by kernel_rfl)) k1 bel lt1) (trodAll_cons_mk (Below.trod laidOut (by kernel_rfl) (of_decide_eq_true (by kernel_rfl)) k2 bel lt2) (trodAll_cons_mk (Below.trod laidOut (by kernel_rfl) (of_decide_eq_true (by kernel_rfl)) k3 bel lt3) trodAll_mk0)))), rfl, bel.frame _, fun h => by cases h⟩

/-- The statement. -/
theorem recordMissing_holds : Rows.RecordMissingSaid :=
  OpenClaim.holds_of_wide 9 Try.f9 rfl rfl rfl rfl rfl rfl rfl ⟨rfl, rfl, rfl, rfl, rfl⟩ rfl rfl rfl rfl rfl (by kernel_rfl) Try.func9 (by kernel_rfl)
    (of_decide_eq_true (by kernel_rfl)) (by unfold Func.isWrapper; first | (rw [if_pos (by decide +kernel)]; kernel_rfl) | (rw [if_neg (by decide +kernel)]; exact ⟨rfl, rfl⟩))
    (fun os started H enc _ => recordMissing_lifted os started H enc)
#print axioms recordMissing_holds
end Go.Proofs.Ytndifkjenjfjpaa
