/-
  WHAT IS SHOWN: tegulalaw11.MediaApart returns true for any geometry, number and bytes, and changes nothing. No condition.
-/
import Derived.Test.YtmjkpnplfeafeaaMediaOps
import Derived.Test.YtmjkpnplfeafeaaMedLaws
import Derived.Test.YtmjkpnplfeafeaaMedP
namespace Go.Proofs.Ytmjkpnplfeafeaa
set_option linter.unusedVariables false
open Go.ChangeShapes Go.WideShapes Go.ChangeAt Go.RowKit

theorem MedP.mono {P Q : Nat → Prop} {w : World} {m bs : Nat} {g : Geo} {L : List Sec} (h : MedP P w m bs g L) (hq : ∀ b, P b → Q b) : MedP Q w m bs g L := by
  obtain ⟨c, V, h1, h2, h3, h4⟩ := h
  exact ⟨c, V, h1, h2, h3, fun i s hs => by obtain ⟨v, a, b, p⟩ := h4 i s hs; exact ⟨v, a, b, fun k hk => hq k (p k hk)⟩⟩
theorem write_read {g : Geo} {L : List Sec} {a : Int} {xs : List Int} (hin : inL L a = true) (hx : xs.length ≤ 64) : writeE L a xs = 0 ∧ readE (writeL g L a xs) a = 0 ∧ readB (writeL g L a xs) a = xs := by
  obtain ⟨h0, h1⟩ := (inL_iff L a).1 hin
  have hw : writeL g L a xs = destroy (shadowL g a) (L.set a.toNat ⟨1, xs⟩) := by unfold writeL; rw [hin, if_pos (by simpa using hx)]
  have hg : (writeL g L a xs)[a.toNat]? = some ⟨1, xs⟩ := by
    rw [hw, destroy_other _ _ _ (fun s hs => by have := shadow_above hs; omega), List.getElem?_set_self (by omega)]
  obtain ⟨e1, e2⟩ := getD_get h0 hg
  have e3 : readE (writeL g L a xs) a = 0 := by unfold readE; rw [e1, e2]; rfl
  exact ⟨by unfold writeE; rw [hin, if_pos rfl, if_pos hx], e3, by unfold readB; rw [e3, e2]; rfl⟩
theorem own_some {w : World} {base : Nat} {e : TypeId} {size n c : Nat} {A : Option Addr} {xs : List Value} (h : w.ownsRow base e size (.slice A n c) n xs) (hA : A ≠ none) : ∃ g, A = some ⟨g, 0, none⟩ ∧ base ≤ g ∧ g < w.heap.size := by
  rcases h.2 with ⟨h2, _⟩ | ⟨g, cap, cur, h1, h2, h3, _⟩
  · injection h2 with h2; exact absurd h2 hA
  · injection h1 with h1; exact ⟨g, h1, h2, lt_of_block h3⟩
theorem map_set_u8 (ys : List Int) (k : Nat) (v : Int) : (ys.map (Value.int .u8)).set k (.int .u8 v) = (ys.set k v).map (Value.int .u8) := by rw [List.map_set]

set_option maxRecDepth 100000 in
set_option maxHeartbeats 2000000 in
theorem mediaApart_walk (g : Geo) (a : Int) (ha : I64 a) (A : Option Addr) (xs : List Int) (c : Nat) (w : World) (hb : BytesIn w (.slice A xs.length c) A xs c) :
    Calls Try.prog 3 #[.agg #[.int .i64 g.random, .int .i64 g.bands, .int .i64 g.tracks, .int .i64 g.sectors, .int .i64 g.overlap], .int .i64 a, .slice A xs.length c] w fun e w' => e = .returned (.bool true) ∧ Below w.heap.size w w' := by
  have hb0 : Below w.heap.size w (w.alloc (.cells #[.int .i64 g.random, .int .i64 g.bands, .int .i64 g.tracks, .int .i64 g.sectors, .int .i64 g.overlap] 23)) := (Below.refl _ _).alloc (Nat.le_refl _) _
  have HRD := Lib.hid hb.rd
  have hbig := hb.big
  have HFR := Lib.hid (fun W => fair_any g W)
  have HSZ := Lib.hid (fun W => rsz_any g W)
  clear hb
  cases hfr : fairB g
  · rw [hfr] at HFR
    clear hfr
    go_enter Try.func3, Try.ntmps3
    go_wp2_with fail
    refine (awake11_any _).mono ?_
    rintro e w1 ⟨rfl, hb1⟩
    have hbl1 := hb0.trans (hb1.mono hb0.size)
    have PB1 := Cells5.below (Cells5.new w 23 _ _ _ _ _) hb1 (by simp)
    have hz1 : w.heap.size < w1.heap.size := by have := hb1.size; simp at this; omega
    have p0 := PB1.c0; have p1 := PB1.c1; have p2 := PB1.c2; have p3 := PB1.c3; have p4 := PB1.c4
    go_wp2_with fail
    refine (HFR.out _).mono ?_
    rintro e w3 ⟨rfl, hb3⟩
    clear p0 p1 p2 p3 p4
    have hbl3 := hbl1.trans (hb3.mono hbl1.size)
    have hz3 := Nat.lt_of_lt_of_le hz1 hb3.size
    have PB3 := PB1.below hb3 hz1
    have p0 := PB3.c0; have p1 := PB3.c1; have p2 := PB3.c2; have p3 := PB3.c3; have p4 := PB3.c4
    go_wp2_with fail
    refine (awake11_any _).mono ?_
    rintro e w4 ⟨rfl, hb4⟩
    clear p0 p1 p2 p3 p4
    have hbl4 := hbl3.trans (hb4.mono hbl3.size)
    have hz4 := Nat.lt_of_lt_of_le hz3 hb4.size
    have PB4 := PB3.below hb4 hz3
    have p0 := PB4.c0; have p1 := PB4.c1; have p2 := PB4.c2; have p3 := PB4.c3; have p4 := PB4.c4
    go_wp2
    go_ret
    exact ⟨rfl, hbl4⟩
  · rw [hfr] at HFR
    have hv := fair_valid hfr
    have hg := (validG_iff g).1 hv
    have HF := Lib.hid (blank_fit hg)
    have hln : ((blankL g).length : Int) = szN g := by rw [szN_valid hg]; exact HF.out.n
    have HN := Lib.hid (fun W => newP_yes (fun _ => False) g hv W)
    clear hfr hv hg
    by_cases g1 : a < 0
    · go_enter Try.func3, Try.ntmps3
      go_wp2_with fail
      refine (awake11_any _).mono ?_
      rintro e w1 ⟨rfl, hb1⟩
      have hbl1 := hb0.trans (hb1.mono hb0.size)
      have PB1 := Cells5.below (Cells5.new w 23 _ _ _ _ _) hb1 (by simp)
      have hz1 : w.heap.size < w1.heap.size := by have := hb1.size; simp at this; omega
      have p0 := PB1.c0; have p1 := PB1.c1; have p2 := PB1.c2; have p3 := PB1.c3; have p4 := PB1.c4
      go_wp2_with fail
      refine (HFR.out _).mono ?_
      rintro e w3 ⟨rfl, hb3⟩
      clear p0 p1 p2 p3 p4
      have hbl3 := hbl1.trans (hb3.mono hbl1.size)
      have hz3 := Nat.lt_of_lt_of_le hz1 hb3.size
      have PB3 := PB1.below hb3 hz1
      have p0 := PB3.c0; have p1 := PB3.c1; have p2 := PB3.c2; have p3 := PB3.c3; have p4 := PB3.c4
      go_wp2_with fail
      refine (awake11_any _).mono ?_
      rintro e w4 ⟨rfl, hb4⟩
      clear p0 p1 p2 p3 p4
      have hbl4 := hbl3.trans (hb4.mono hbl3.size)
      have hz4 := Nat.lt_of_lt_of_le hz3 hb4.size
      have PB4 := PB3.below hb4 hz3
      have p0 := PB4.c0; have p1 := PB4.c1; have p2 := PB4.c2; have p3 := PB4.c3; have p4 := PB4.c4
      go_wp2
      go_ret
      exact ⟨rfl, hbl4⟩
    · by_cases g2 : szN g ≤ a
      · have d1 : decide (a < 0) = false := decide_eq_false g1
        have d2 : decide (szN g ≤ a) = true := decide_eq_true g2
        clear g1 g2
        generalize szN g = Z at *
        go_enter Try.func3, Try.ntmps3
        go_wp2_with fail
        refine (awake11_any _).mono ?_
        rintro e w1 ⟨rfl, hb1⟩
        have hbl1 := hb0.trans (hb1.mono hb0.size)
        have PB1 := Cells5.below (Cells5.new w 23 _ _ _ _ _) hb1 (by simp)
        have hz1 : w.heap.size < w1.heap.size := by have := hb1.size; simp at this; omega
        have p0 := PB1.c0; have p1 := PB1.c1; have p2 := PB1.c2; have p3 := PB1.c3; have p4 := PB1.c4
        go_wp2_with fail
        refine (HFR.out _).mono ?_
        rintro e w3 ⟨rfl, hb3⟩
        clear p0 p1 p2 p3 p4
        have hbl3 := hbl1.trans (hb3.mono hbl1.size)
        have hz3 := Nat.lt_of_lt_of_le hz1 hb3.size
        have PB3 := PB1.below hb3 hz1
        have p0 := PB3.c0; have p1 := PB3.c1; have p2 := PB3.c2; have p3 := PB3.c3; have p4 := PB3.c4
        go_wp2_with fail
        refine (HSZ.out _).mono ?_
        rintro e w4 ⟨rfl, hb4⟩
        clear p0 p1 p2 p3 p4
        have hbl4 := hbl3.trans (hb4.mono hbl3.size)
        have hz4 := Nat.lt_of_lt_of_le hz3 hb4.size
        have PB4 := PB3.below hb4 hz3
        have p0 := PB4.c0; have p1 := PB4.c1; have p2 := PB4.c2; have p3 := PB4.c3; have p4 := PB4.c4
        go_wp2_with fail
        refine (awake11_any _).mono ?_
        rintro e w5 ⟨rfl, hb5⟩
        clear p0 p1 p2 p3 p4
        have hbl5 := hbl4.trans (hb5.mono hbl4.size)
        have hz5 := Nat.lt_of_lt_of_le hz4 hb5.size
        have PB5 := PB4.below hb5 hz4
        have p0 := PB5.c0; have p1 := PB5.c1; have p2 := PB5.c2; have p3 := PB5.c3; have p4 := PB5.c4
        go_wp2
        go_ret
        exact ⟨rfl, hbl5⟩
      · have d1 : decide (a < 0) = false := decide_eq_false g1
        have d2 : decide (szN g ≤ a) = false := decide_eq_false g2
        have hin : inL (blankL g) a = true := (inL_iff _ _).2 ⟨by omega, by omega⟩
        clear g1 g2
        generalize szN g = Z at *
        by_cases g3 : xs.length ≤ 64
        · have d3 : decide ((64 : Int) < (xs.length : Int)) = false := decide_eq_false (by omega)
          have HW := Lib.hid (write_read (g := g) hin g3)
          have HIN := Lib.hid hin
          clear hin
          go_enter Try.func3, Try.ntmps3
          go_wp2_with fail
          refine (awake11_any _).mono ?_
          rintro e w1 ⟨rfl, hb1⟩
          have hbl1 := hb0.trans (hb1.mono hb0.size)
          have PB1 := Cells5.below (Cells5.new w 23 _ _ _ _ _) hb1 (by simp)
          have hz1 : w.heap.size < w1.heap.size := by have := hb1.size; simp at this; omega
          have p0 := PB1.c0; have p1 := PB1.c1; have p2 := PB1.c2; have p3 := PB1.c3; have p4 := PB1.c4
          go_wp2_with fail
          refine (HFR.out _).mono ?_
          rintro e w3 ⟨rfl, hb3⟩
          clear p0 p1 p2 p3 p4
          have hbl3 := hbl1.trans (hb3.mono hbl1.size)
          have hz3 := Nat.lt_of_lt_of_le hz1 hb3.size
          have PB3 := PB1.below hb3 hz1
          have p0 := PB3.c0; have p1 := PB3.c1; have p2 := PB3.c2; have p3 := PB3.c3; have p4 := PB3.c4
          go_wp2_with fail
          refine (HSZ.out _).mono ?_
          rintro e w4 ⟨rfl, hb4⟩
          clear p0 p1 p2 p3 p4
          have hbl4 := hbl3.trans (hb4.mono hbl3.size)
          have hz4 := Nat.lt_of_lt_of_le hz3 hb4.size
          have PB4 := PB3.below hb4 hz3
          have p0 := PB4.c0; have p1 := PB4.c1; have p2 := PB4.c2; have p3 := PB4.c3; have p4 := PB4.c4
          go_wp2_with fail
          refine (HN.out _).mono ?_
          rintro e w5 ⟨m, bs, rfl, hm5, hmb, hbb, hb5⟩
          have HM5 := Lib.hid hm5
          clear hm5
          clear p0 p1 p2 p3 p4
          have hbl5 := hbl4.trans (hb5.mono hbl4.size)
          have hz5 := Nat.lt_of_lt_of_le hz4 hb5.size
          have PB5 := PB4.below hb5 hz4
          have p0 := PB5.c0; have p1 := PB5.c1; have p2 := PB5.c2; have p3 := PB5.c3; have p4 := PB5.c4
          have hbs1 : w.heap.size ≤ bs := Nat.le_trans hbl4.size hbb
          have hbs5 := HM5.out.med.lt.2.1
          clear p0 p1 p2 p3 p4
          clear PB1 PB3 PB4 PB5 hbl1 hbl3 hbl4 hz1 hz3 hz4 hz5 hmb hbb hb5
          obtain ⟨i0, hi, hz0, hz1, hz2⟩ := info_parts info_u8
          have hro := World.ownsRow_lit (base := w5.heap.size) (e := 5) (size := 1) w5 #[] 0 (Nat.le_refl _) (by decide) rfl
          have hr5 : Rd w5 w5.heap.size A (xs.map (Value.int .u8)) := (HRD.out.below hbl5 (Nat.le_refl _)).more hbl5.size
          cases A with
          | none =>
            have hx := hr5.at_none
            obtain rfl : xs = [] := by cases xs; rfl; simp at hx
            go_wp2_with fail
            have hb56 : Below w5.heap.size w5 (w5.alloc (.cells #[] 5)) := (Below.refl _ _).alloc (Nat.le_refl _) _
            have hown : (w5.alloc (.cells #[] 5)).ownsRow w5.heap.size 5 1 (.slice (some ⟨w5.heap.size, 0, none⟩) ([] : List Int).length 0) ([] : List Int).length (([] : List Int).map (Value.int .u8)) := hro
            have hnn : (some ⟨w5.heap.size, 0, none⟩ : Option Addr) ≠ none := by simp
            generalize w5.alloc (.cells #[] 5) = w6 at *
            generalize hA6 : (some ⟨w5.heap.size, 0, none⟩ : Option Addr) = A6 at *
            clear hA6 hro hr5 hx
            obtain ⟨gO, rfl, hgO, hgOs⟩ := own_some hown hnn
            have hm6 : MedP (fun b => w6.heap.size ≤ b) w6 m bs g (blankL g) := (HM5.out.below0 hb56).mono (fun _ h => h.elim)
            have hbl6 : Below w.heap.size w w6 := hbl5.trans (hb56.mono hbl5.size)
            have HW6 := Lib.hid (writeP_any a ha hm6 (fun _ h => h) HF.out ([] : List Int) (some ⟨gO, 0, none⟩) 0 (Rd.of_own hown) (by omega))
            have HOW := Lib.hid hown
            have hgbs : gO ≠ bs := by omega
            clear hm6 hown
            go_wp2_with fail
            refine HW6.out.mono ?_
            rintro e w7 ⟨rfl, hm7, hk7⟩
            rw [HW.out.1]
            have HM7 := Lib.hid hm7
            have ho7 : w7.ownsRow w5.heap.size 5 1 (.slice (some ⟨gO, 0, none⟩) ([] : List Int).length 0) ([] : List Int).length (([] : List Int).map (Value.int .u8)) := own_kept HOW.out hk7 (fun k e => by simp [Value.ownBlock] at e; subst e; exact hgbs)
            have hbl7 : Below w.heap.size w w7 := hbl6.trans (hk7.below (B := w.heap.size) (fun i hi => by have e' : i = bs := hi; omega) hbl6.size)
            clear hm7 hk7 HW6 HOW
            go_wp2
            go_loopw [10] (fun v wr => ∃ (k : Nat) (ys : List Int), k ≤ ([] : List Int).length ∧ v = .int .i64 k ∧ wr.ownsRow w5.heap.size 5 1 (.slice (some ⟨gO, 0, none⟩) ([] : List Int).length 0) ([] : List Int).length (ys.map (Value.int .u8)) ∧ Kept (fun k => k = gO) w7 wr) (fun v _ => ([] : List Int).length - (intOf v).toNat)
            case atStart => exact ⟨0, ([] : List Int), Nat.zero_le _, rfl, ho7, Kept.refl _ _⟩
            case round =>
              obtain ⟨k, ys, hk, rfl, hor, hkr⟩ := hrel
              by_cases hlt : k < ([] : List Int).length
              · exact absurd hlt (by simp)
              · have hm8 := (HM7.out.apart hkr (fun e => by have e' : m = gO := e; have := HM5.out.med.lt.1; omega) (fun e => hgbs (show bs = gO from e).symm) (fun b hb e => by have e' : b = gO := e; have h' : w6.heap.size ≤ b := hb; omega)).med
                have hbl8 : Below w.heap.size w wr := hbl7.trans (hkr.below (B := w.heap.size) (fun i hi => by have e' : i = gO := hi; have := hbl5.size; omega) hbl7.size)
                have HM8 := Lib.hid hm8
                have HF8 : Hid (Fit g (writeL g (blankL g) a ([] : List Int))) := Lib.hid (HF.out.len (writeL_len _ _ _ _))
                have HS8 : Hid (ShortB (writeL g (blankL g) a ([] : List Int))) := Lib.hid (short_do (g := g) (short_blankL g) ⟨false, a, ([] : List Int), none, 0⟩)
                have HRF : Hid (∀ W, Below wr.heap.size wr W → Calls Try.prog 20 #[.pointer (some ⟨m, 0, none⟩), .int .i64 a] W (ReadPostF W ([] : List Int))) := by
                  unfold Hid; intro W hW; have := readF_any a (HM8.out.below0 hW) HF8.out HS8.out HW.out.2.1; rw [HW.out.2.2] at this; exact this
                clear hm8 hor hkr ho7
                go_wp2_with fail
                refine (HRF.out _ (Below.refl _ _)).mono ?_
                rintro e w9 ⟨A9, c9, rfl, ho9, hb9⟩
                have kc9 := conv_bytes c9 (Rd.of_own ho9)
                try simp only [List.length_nil] at kc9
                have HO9 := Lib.hid ho9
                generalize hSS : strOfNums ([] : List Int) = SS at *
                have HSS := Lib.hid hSS
                clear ho9 hSS
                go_wp2
                clear kc9
                obtain ⟨wo, rfl⟩ : ∃ wo : World, wo = wr := ⟨_, rfl⟩
                go_loopw [14] (fun v wr => ∃ (k : Nat) (ys : List Int), k ≤ ([] : List Int).length ∧ v = .int .i64 k ∧ wr.ownsRow wo.heap.size 5 1 (.slice A9 ([] : List Int).length c9) ([] : List Int).length (ys.map (Value.int .u8)) ∧ Below wo.heap.size wo wr) (fun v _ => ([] : List Int).length - (intOf v).toNat)
                case atStart => exact ⟨0, ([] : List Int), Nat.zero_le _, rfl, HO9.out, hb9⟩
                case round =>
                  obtain ⟨k, ys, hk, rfl, hor, hbv⟩ := hrel
                  by_cases hlt2 : k < ([] : List Int).length
                  · exact absurd hlt2 (by simp)
                  · have hbl9 := hbl8.trans (hbv.mono hbl8.size)
                    clear hor
                    go_wp2_with fail
                    refine (HRF.out _ hbv).mono ?_
                    rintro e w11 ⟨A11, c11, rfl, ho11, hb11⟩
                    have hbl11 := hbl9.trans (hb11.mono hbl9.size)
                    have kc1 := conv_bytes c11 (Rd.of_own ho11)
                    have kc2 := conv_bytes c (HRD.out.below hbl11 (Nat.le_refl _))
                    rw [HSS.out] at kc1 kc2
                    try simp only [List.length_nil] at kc1 kc2
                    clear ho11
                    go_wp2
                    go_ret
                    exact ⟨by first | rfl | simp, hbl11⟩
          | some ad =>
            have hla := hr5.alloc (Nat.le_refl _) (.cells #[] 5)
            go_wp2_with (at_builtin; refine wpList_append_own _ rfl _ _ 24 rfl w5.heap.size 5 i0 _ 1 1 Try.underlying24 hi hz0 hz1 hz2 rfl (by decide) _ 0 [] rfl hro ad xs.length c (xs.map (Value.int .u8)) rfl (by simp) hla.at_add (bytes_one xs) ?c1 ?c2 ?c3 ?_)
            case c1 => unfold maxLen; omega
            case c2 => omega
            case c3 => simp
            intro v' w6 hown hgrow hiff
            try simp only [Nat.zero_add, List.nil_append] at hown
            obtain ⟨A6, c6, hv6⟩ := own_form hown
            subst hv6
            have hb56 : Below w5.heap.size w5 w6 := ((Below.refl _ _).alloc (Nat.le_refl _) _).grown hgrow (by simp) (fun k hk => (hro.lt k hk).1)
            have hnn : A6 ≠ none := by
              intro e; subst e
              rcases hown.2 with ⟨h, _⟩ | ⟨_, _, _, h, _⟩
              · exact hiff h
              · cases h
            clear hla hgrow hiff hro hr5
            obtain ⟨gO, rfl, hgO, hgOs⟩ := own_some hown hnn
            have hm6 : MedP (fun b => w6.heap.size ≤ b) w6 m bs g (blankL g) := (HM5.out.below0 hb56).mono (fun _ h => h.elim)
            have hbl6 : Below w.heap.size w w6 := hbl5.trans (hb56.mono hbl5.size)
            have HW6 := Lib.hid (writeP_any a ha hm6 (fun _ h => h) HF.out xs (some ⟨gO, 0, none⟩) c6 (Rd.of_own hown) (by omega))
            have HOW := Lib.hid hown
            have hgbs : gO ≠ bs := by omega
            clear hm6 hown
            go_wp2_with fail
            refine HW6.out.mono ?_
            rintro e w7 ⟨rfl, hm7, hk7⟩
            rw [HW.out.1]
            have HM7 := Lib.hid hm7
            have ho7 : w7.ownsRow w5.heap.size 5 1 (.slice (some ⟨gO, 0, none⟩) xs.length c6) xs.length (xs.map (Value.int .u8)) := own_kept HOW.out hk7 (fun k e => by simp [Value.ownBlock] at e; subst e; exact hgbs)
            have hbl7 : Below w.heap.size w w7 := hbl6.trans (hk7.below (B := w.heap.size) (fun i hi => by have e' : i = bs := hi; omega) hbl6.size)
            clear hm7 hk7 HW6 HOW
            go_wp2
            go_loopw [10] (fun v wr => ∃ (k : Nat) (ys : List Int), k ≤ xs.length ∧ v = .int .i64 k ∧ wr.ownsRow w5.heap.size 5 1 (.slice (some ⟨gO, 0, none⟩) xs.length c6) xs.length (ys.map (Value.int .u8)) ∧ Kept (fun k => k = gO) w7 wr) (fun v _ => xs.length - (intOf v).toNat)
            case atStart => exact ⟨0, xs, Nat.zero_le _, rfl, ho7, Kept.refl _ _⟩
            case round =>
              obtain ⟨k, ys, hk, rfl, hor, hkr⟩ := hrel
              by_cases hlt : k < xs.length
              · have hyl : ys.length = xs.length := by have := hor.1; simpa using this
                have hc0 : wr.cell? ⟨gO, k, none⟩ = some (.int .u8 (ys.getD k 0)) := by
                  rw [World.ownsRow.cellAt hor k (by omega)]; simp [List.getD, hyl, hlt]
                have hf0 := hor.frozenAt k
                have k0 : (0 : Int) ≤ k := by omega
                have k1 : (k : Int) < xs.length := by omega
                have HST : Hid (∀ v, (wr.setCell ⟨gO, k, none⟩ (.int .u8 v)).ownsRow w5.heap.size 5 1 (.slice (some ⟨gO, 0, none⟩) xs.length c6) xs.length ((ys.set k v).map (Value.int .u8))) := by
                  unfold Hid; intro v; rw [← map_set_u8]; exact (World.ownsRow.stored hor k _).1
                have HKS : Hid (∀ v, Kept (fun k => k = gO) w7 (wr.setCell ⟨gO, k, none⟩ v)) := by
                  unfold Hid; intro v; exact hkr.setCell (p := ⟨gO, k, none⟩) (fun _ => rfl) v
                generalize ys.getD k 0 = yk at *
                clear hor hkr ho7 hyl
                go_wp2
                go_roundw
                case rel => exact ⟨k + 1, _, by omega, by go_num, HST.out _, HKS.out _⟩
                case measure => simp [intOf]; omega
              · have hm8 := (HM7.out.apart hkr (fun e => by have e' : m = gO := e; have := HM5.out.med.lt.1; omega) (fun e => hgbs (show bs = gO from e).symm) (fun b hb e => by have e' : b = gO := e; have h' : w6.heap.size ≤ b := hb; omega)).med
                have hbl8 : Below w.heap.size w wr := hbl7.trans (hkr.below (B := w.heap.size) (fun i hi => by have e' : i = gO := hi; have := hbl5.size; omega) hbl7.size)
                have HM8 := Lib.hid hm8
                have HF8 : Hid (Fit g (writeL g (blankL g) a xs)) := Lib.hid (HF.out.len (writeL_len _ _ _ _))
                have HS8 : Hid (ShortB (writeL g (blankL g) a xs)) := Lib.hid (short_do (g := g) (short_blankL g) ⟨false, a, xs, none, 0⟩)
                have HRF : Hid (∀ W, Below wr.heap.size wr W → Calls Try.prog 20 #[.pointer (some ⟨m, 0, none⟩), .int .i64 a] W (ReadPostF W xs)) := by
                  unfold Hid; intro W hW; have := readF_any a (HM8.out.below0 hW) HF8.out HS8.out HW.out.2.1; rw [HW.out.2.2] at this; exact this
                clear hm8 hor hkr ho7
                go_wp2_with fail
                refine (HRF.out _ (Below.refl _ _)).mono ?_
                rintro e w9 ⟨A9, c9, rfl, ho9, hb9⟩
                have kc9 := conv_bytes c9 (Rd.of_own ho9)
                have HO9 := Lib.hid ho9
                generalize hSS : strOfNums xs = SS at *
                have HSS := Lib.hid hSS
                clear ho9 hSS
                go_wp2
                clear kc9
                obtain ⟨wo, rfl⟩ : ∃ wo : World, wo = wr := ⟨_, rfl⟩
                go_loopw [14] (fun v wr => ∃ (k : Nat) (ys : List Int), k ≤ xs.length ∧ v = .int .i64 k ∧ wr.ownsRow wo.heap.size 5 1 (.slice A9 xs.length c9) xs.length (ys.map (Value.int .u8)) ∧ Below wo.heap.size wo wr) (fun v _ => xs.length - (intOf v).toNat)
                case atStart => exact ⟨0, xs, Nat.zero_le _, rfl, HO9.out, hb9⟩
                case round =>
                  obtain ⟨k, ys, hk, rfl, hor, hbv⟩ := hrel
                  by_cases hlt2 : k < xs.length
                  · obtain ⟨g9, rfl, hg9, _⟩ := own_at hor (by omega)
                    have hyl : ys.length = xs.length := by have := hor.1; simpa using this
                    have hc0 : wr.cell? ⟨g9, k, none⟩ = some (.int .u8 (ys.getD k 0)) := by
                      rw [World.ownsRow.cellAt hor k (by omega)]; simp [List.getD, hyl, hlt2]
                    have hf0 := hor.frozenAt k
                    have k0 : (0 : Int) ≤ k := by omega
                    have k1 : (k : Int) < xs.length := by omega
                    have HST : Hid (∀ v, (wr.setCell ⟨g9, k, none⟩ (.int .u8 v)).ownsRow wo.heap.size 5 1 (.slice (some ⟨g9, 0, none⟩) xs.length c9) xs.length ((ys.set k v).map (Value.int .u8))) := by
                      unfold Hid; intro v; rw [← map_set_u8]; exact (World.ownsRow.stored hor k _).1
                    have HKS : Hid (∀ v, Below wo.heap.size wo (wr.setCell ⟨g9, k, none⟩ v)) := by
                      unfold Hid; intro v; exact hbv.setCell (p := ⟨g9, k, none⟩) hg9 v
                    generalize ys.getD k 0 = yk at *
                    clear hor hbv hyl
                    go_wp2
                    go_roundw
                    case rel => exact ⟨k + 1, _, by omega, by go_num, HST.out _, HKS.out _⟩
                    case measure => simp [intOf]; omega
                  · have hbl9 := hbl8.trans (hbv.mono hbl8.size)
                    clear hor
                    go_wp2_with fail
                    refine (HRF.out _ hbv).mono ?_
                    rintro e w11 ⟨A11, c11, rfl, ho11, hb11⟩
                    have hbl11 := hbl9.trans (hb11.mono hbl9.size)
                    have kc1 := conv_bytes c11 (Rd.of_own ho11)
                    have kc2 := conv_bytes c (HRD.out.below hbl11 (Nat.le_refl _))
                    rw [HSS.out] at kc1 kc2
                    clear ho11
                    go_wp2
                    go_ret
                    exact ⟨by first | rfl | simp, hbl11⟩
        · have d3 : decide ((64 : Int) < (xs.length : Int)) = true := decide_eq_true (by omega)
          clear g3
          go_enter Try.func3, Try.ntmps3
          go_wp2_with fail
          refine (awake11_any _).mono ?_
          rintro e w1 ⟨rfl, hb1⟩
          have hbl1 := hb0.trans (hb1.mono hb0.size)
          have PB1 := Cells5.below (Cells5.new w 23 _ _ _ _ _) hb1 (by simp)
          have hz1 : w.heap.size < w1.heap.size := by have := hb1.size; simp at this; omega
          have p0 := PB1.c0; have p1 := PB1.c1; have p2 := PB1.c2; have p3 := PB1.c3; have p4 := PB1.c4
          go_wp2_with fail
          refine (HFR.out _).mono ?_
          rintro e w3 ⟨rfl, hb3⟩
          clear p0 p1 p2 p3 p4
          have hbl3 := hbl1.trans (hb3.mono hbl1.size)
          have hz3 := Nat.lt_of_lt_of_le hz1 hb3.size
          have PB3 := PB1.below hb3 hz1
          have p0 := PB3.c0; have p1 := PB3.c1; have p2 := PB3.c2; have p3 := PB3.c3; have p4 := PB3.c4
          go_wp2_with fail
          refine (HSZ.out _).mono ?_
          rintro e w4 ⟨rfl, hb4⟩
          clear p0 p1 p2 p3 p4
          have hbl4 := hbl3.trans (hb4.mono hbl3.size)
          have hz4 := Nat.lt_of_lt_of_le hz3 hb4.size
          have PB4 := PB3.below hb4 hz3
          have p0 := PB4.c0; have p1 := PB4.c1; have p2 := PB4.c2; have p3 := PB4.c3; have p4 := PB4.c4
          go_wp2_with fail
          refine (awake11_any _).mono ?_
          rintro e w5 ⟨rfl, hb5⟩
          clear p0 p1 p2 p3 p4
          have hbl5 := hbl4.trans (hb5.mono hbl4.size)
          have hz5 := Nat.lt_of_lt_of_le hz4 hb5.size
          have PB5 := PB4.below hb5 hz4
          have p0 := PB5.c0; have p1 := PB5.c1; have p2 := PB5.c2; have p3 := PB5.c3; have p4 := PB5.c4
          go_wp2
          go_ret
          exact ⟨rfl, hbl5⟩

set_option maxRecDepth 100000 in
theorem mediaApart_lifted (os : Os) (started : os.Started) (H : Type) (enc : TypeId × Value → H) :
    ReturnsInHanded {} Try.checked os 3 .any (Rows.mediaApartSpec.pre6 enc Try.prog Try.f3 Rows.mediaApartRow.domain false) (Rows.mediaApartSpec.post enc Try.prog Try.f3 false true false false) := by
  refine returnsInHanded_of_change (C := Try.checked) own started (by kernel_rfl) Try.func3
    (ChangeSpec.witness6 (enc := enc) (C := Try.checked) false ⟨#[], #[.agg #[.int .i64 0, .int .i64 0, .int .i64 0, .int .i64 0, .int .i64 0], .int .i64 0, .slice none 0 0], []⟩ 8 (by kernel_rfl) (by kernel_rfl) (by kernel_rfl) (by kernel_rfl)) ?_
  intro W base args ds gs before hval0 hW hcnd _
  have hval : ∀ (j : Nat) t v, Try.f3.params[j]? = some t → args[j]? = some v → Value.okWide Try.prog W .any base t v := hval0
  have hW' := hW
  obtain ⟨p, q, hA0, hV, rfl, hfz, hnd⟩ := hW
  have hA : DataW.TrodAll enc Try.prog W 0 (fun _ => true) true Try.f3.params.toList args.toList ds p := hA0
  rw [Try.params3] at hA hval
  obtain ⟨v0, vs0, d0, ds0, p0, q0, hargs, rfl, rfl, h0, r0⟩ := trodAll_cons hA
  obtain ⟨v1, vs1, d1, ds1, p1, q1, rfl, rfl, rfl, h1, r1⟩ := trodAll_cons r0
  obtain ⟨v2, vs2, d2, ds2, p2, q2, rfl, rfl, rfl, h2, r2⟩ := trodAll_cons r1
  obtain ⟨rfl, rfl, rfl⟩ := trodAll_nil r2
  obtain rfl : args = #[v0, v1, v2] := by cases args; simp_all
  obtain ⟨rfl, rfl⟩ := trodVars_none hV
  have k0 := h0
  have lt0 : ∀ x ∈ p0, x.block < W.heap.size := by obtain ⟨m, hm⟩ := k0; exact DataW.trod_lt m _ _ _ hm
  have k1 := h1
  have lt1 : ∀ x ∈ p1, x.block < W.heap.size := by obtain ⟨m, hm⟩ := k1; exact DataW.trod_lt m _ _ _ hm
  have k2 := h2
  have lt2 : ∀ x ∈ p2, x.block < W.heap.size := by obtain ⟨m, hm⟩ := k2; exact DataW.trod_lt m _ _ _ hm
  obtain ⟨g, rfl, hg⟩ := open_geo (hval 0 _ _ rfl rfl) h0
  obtain ⟨a, rfl, _, _, w1⟩ := open_int Try.underlying3 (hval 1 _ _ rfl rfl) h1
  obtain ⟨A, xs, c, rfl, hb⟩ := open_bytesv (hval 2 _ _ rfl rfl) h2
  clear hA0 hval0
  refine (mediaApart_walk g a (i64_of w1) A xs c W hb).mono fun e W' ⟨he, bel⟩ => ?_
  subst he
  exact ⟨_, rfl, _, _, _, [], _, [], hW', trodAll_mk1 (shut_bool Try.underlying4 _), (trodAll_cons_mk (Below.trod laidOut (by kernel_rfl) (of_decide_eq_true (by kernel_rfl)) k0 bel lt0) (trodAll_cons_mk (Below.trod laidOut (by kernel_rfl) (of_decide_eq_true (by kernel_rfl)) k1 bel lt1) (trodAll_cons_mk (Below.trod laidOut (by kernel_rfl) (of_decide_eq_true (by kernel_rfl)) k2 bel lt2) trodAll_mk0))), rfl, bel.frame _, fun h => by cases h⟩

/-- The statement. -/
theorem mediaApart_holds : Rows.MediaApartSaid :=
  OpenClaim.holds_of_wide 3 Try.f3 rfl rfl rfl rfl rfl rfl rfl ⟨rfl, rfl, rfl, rfl, rfl⟩ rfl rfl rfl rfl rfl (by kernel_rfl) Try.func3 (by kernel_rfl)
    (of_decide_eq_true (by kernel_rfl)) (by unfold Func.isWrapper; first | (rw [if_pos (by decide +kernel)]; kernel_rfl) | (rw [if_neg (by decide +kernel)]; exact ⟨rfl, rfl⟩))
    (fun os started H enc _ => mediaApart_lifted os started H enc)
#print axioms mediaApart_holds
end Go.Proofs.Ytmjkpnplfeafeaa
