/-
  WHAT IS SHOWN: what tegularef16.Open, with, Append, Unlink and Reset return: the same as those of band; they change nothing that was there. Conditions: the slices read as lists of bands.
-/
import Derived.Test.YtbnkpknoknenjaaBand4
import Derived.Test.YtbnkpknoknenjaaBand2
namespace Go.Proofs.Ytbnkpknoknenjaa
set_option linter.unusedVariables false
open Go.RowKit

set_option maxHeartbeats 1000000 in
theorem ropen_any (sz : Int) (l : List BI) (A : Option Addr) (c : Nat) (w : World) (hl : Rd w w.heap.size A (flat l)) (hn : l.length ≤ 100000) :
    Calls Try.prog 21 #[.slice A l.length c, .int .i64 sz] w fun e w' => e = .returned (.int .i64 (openB l sz)) ∧ Below w.heap.size w w' := by
  unfold openB
  cases hv : validB l sz
  · go_enter Try.func21, Try.ntmps21
    go_wp2
    go_loopw [5, 6] (fun n i wr => n = .int .i64 (-1) ∧ i = .int .i64 0 ∧ Below w.heap.size w wr) (fun _ _ _ => 0)
    case atStart => exact ⟨rfl, rfl, Below.refl _ _⟩
    case round =>
      obtain ⟨rfl, rfl, hbl⟩ := hrel
      go_wp2_with (go_at_call 17; refine (rvalid_any sz l A c _ ((hl.below hbl (Nat.le_refl _)).more hbl.size) (by omega)).mono ?_; rintro e w1 ⟨rfl, hb1⟩)
      go_ret
      exact ⟨rfl, hbl.trans (hb1.mono hbl.size)⟩
  · have hv1 := hv
    simp only [validB, Bool.and_eq_true, decide_eq_true_eq] at hv1
    have hl0 := hv1.1.1.1
    clear hv1
    go_enter Try.func21, Try.ntmps21
    go_wp2
    go_loopw [5, 6] (fun n i wr => ∃ k : Nat, k ≤ l.length ∧ i = .int .i64 k ∧ n = .int .i64 (openFrom sz (-1, 0) 0 (l.take k)).1 ∧ Below w.heap.size w wr) (fun _ i _ => l.length - (intOf i).toNat)
    case atStart => exact ⟨0, Nat.zero_le _, rfl, rfl, Below.refl _ _⟩
    case round =>
      obtain ⟨k, hk, rfl, rfl, hbl⟩ := hrel
      by_cases hlt : k < l.length
      · have hrd := (hl.below hbl (Nat.le_refl _)).more hbl.size
        have HI := Lib.hid (openFrom_inv sz l k hk)
        have HS := Lib.hid (openFrom_take sz l (-1, 0) k hlt)
        go_wp2_with fail
        refine (rvalid_any sz l A c _ hrd (by omega)).mono ?_
        rintro e w1 ⟨rfl, hb1⟩
        have hbl1 := hbl.trans (hb1.mono hbl.size)
        clear hbl hb1 hrd
        have hbl := hbl1
        clear hbl1
        obtain ⟨g, o, rfl, hg, h0, h1, h2, h3⟩ := hl.band (get_some hlt)
        have j0 := (hbl.cell (p := ⟨g, _, none⟩) hg).trans h0
        have j2 := (hbl.cell (p := ⟨g, _, none⟩) hg).trans h2
        clear h0 h1 h2 h3
        by_cases hp1 : 0 < l[k].used
        · have d1 : decide (0 < l[k].used) = true := decide_eq_true hp1
          by_cases hp2 : l[k].used < sz
          · have d2 : decide (l[k].used < sz) = true := decide_eq_true hp2
            have HP : Hid (partB sz l[k] = true) := by unfold Hid partB; simp [hp1, hp2]
            clear hp1 hp2
            rcases HI.out with hm | ⟨j, hjk, hm, bb, hbb, hage⟩
            · have HN := Lib.hid (openStep_first (k := k) HP.out hm)
              rw [hm]
              clear hm
              go_wp2
              go_quiet (fail)
              go_wp2
              go_roundw
              case rel => exact ⟨k + 1, by omega, by go_num, by rw [HS.out, HN.out], below_drewN' hbl _⟩
              case measure => simp [intOf]; omega
            · have hj : j < l.length := by omega
              have HB : Hid (bb = l[j]) := by unfold Hid; rw [get_some hj] at hbb; injection hbb with h; exact h.symm
              have HX : Hid (openStep sz (openFrom sz (-1, 0) 0 (l.take k)) k l[k] = if decide (l[j].age < l[k].age) = true then ((k : Int), l[k].age) else openFrom sz (-1, 0) 0 (l.take k)) := by
                unfold Hid; rw [openStep_next (k := k) HP.out hm, ← hage, HB.out]
              have HM := Lib.hid hm
              rw [hm]
              clear hm hage hbb
              obtain ⟨g', o', e, _, _, _, b2', _⟩ := hl.band (get_some hj)
              simp only [Option.some.injEq, Addr.mk.injEq, and_true] at e
              obtain ⟨rfl, rfl⟩ := e
              have i2 := (hbl.cell (p := ⟨g, _, none⟩) hg).trans b2'
              clear b2'
              have d3 : decide ((j : Int) < 0) = false := by simp
              have d5 : (j : Int) < l.length := by omega
              have d6 : (k : Int) < l.length := by omega
              have d7 : (0 : Int) ≤ j := by omega
              have d8 : (0 : Int) ≤ k := by omega
              cases hage : decide (l[j].age < l[k].age)
              · go_wp2
                go_quiet (fail)
                go_wp2
                go_roundw
                case rel => exact ⟨k + 1, by omega, by go_num, by rw [HS.out, HX.out, hage, ← HM.out]; rfl, below_drewN' hbl _⟩
                case measure => simp [intOf]; omega
              · go_wp2
                go_quiet (fail)
                go_wp2
                go_roundw
                case rel => exact ⟨k + 1, by omega, by go_num, by rw [HS.out, HX.out, hage]; rfl, below_drewN' hbl _⟩
                case measure => simp [intOf]; omega
          · have d2 : decide (l[k].used < sz) = false := decide_eq_false hp2
            have HP : Hid (partB sz l[k] = false) := by unfold Hid partB; simp [hp2]
            clear hp1 hp2
            go_wp2
            go_quiet (fail)
            go_wp2
            go_roundw
            case rel => exact ⟨k + 1, by omega, by go_num, by rw [HS.out, openStep_no HP.out], below_drewN' hbl _⟩
            case measure => simp [intOf]; omega
        · have d1 : decide (0 < l[k].used) = false := decide_eq_false hp1
          have HP : Hid (partB sz l[k] = false) := by unfold Hid partB; simp [hp1]
          clear hp1
          go_wp2
          go_quiet (fail)
          go_wp2
          go_roundw
          case rel => exact ⟨k + 1, by omega, by go_num, by rw [HS.out, openStep_no HP.out], below_drewN' hbl _⟩
          case measure => simp [intOf]; omega
      · have hk' : k = l.length := by omega
        subst hk'
        go_wp2_with (go_at_call 17; refine (rvalid_any sz l A c _ ((hl.below hbl (Nat.le_refl _)).more hbl.size) (by omega)).mono ?_; rintro e w1 ⟨rfl, hb1⟩)
        go_ret
        exact ⟨by first | rfl | (rw [List.take_of_length_le (Nat.le_refl _)]; rfl), hbl.trans (hb1.mono hbl.size)⟩

set_option maxHeartbeats 400000 in
theorem with_any (l : List BI) (k : Nat) (hk : k < l.length) (b : BI) (A : Option Addr) (c : Nat) (w : World) (hl : Rd w w.heap.size A (flat l)) (hn : l.length ≤ 100000) :
    Calls Try.prog 42 #[.slice A l.length c, .int .i64 k, .agg #[.int .i64 b.used, .int .i64 b.live, .int .u64 b.age, .int .u64 b.wear]] w fun e w' => ∃ A' c', e = .returned (.slice A' l.length c') ∧ World.ownsRow w' w.heap.size 35 4 (.slice A' l.length c') l.length (flat (l.set k b)) ∧ Below w.heap.size w w' := by
  obtain ⟨i0, hi, hz0, hz1, hz2⟩ := info_parts info_band
  obtain ⟨g, o, rfl, hg, _⟩ := hl.band (get_some hk)
  have hw1 : Rd (w.alloc (.cells #[.int .i64 b.used, .int .i64 b.live, .int .u64 b.age, .int .u64 b.wear] 35)) (w.heap.size + 1) (some ⟨g, o, none⟩) (flat l) := (hl.alloc (Nat.le_refl _) _).more (by omega)
  have hro := World.ownsRow_lit (base := w.heap.size + 1) (e := 35) (size := 4) (w.alloc (.cells #[.int .i64 b.used, .int .i64 b.live, .int .u64 b.age, .int .u64 b.wear] 35)) #[] 0 (by simp) (by decide) rfl
  have hla := hw1.alloc (by simp) (.cells #[] 35)
  simp only [World.size_alloc] at hro
  go_enter Try.func42, Try.ntmps42
  go_wp2_with (at_builtin; refine wpList_append_own _ rfl _ _ 22 rfl (w.heap.size + 1) 35 i0 _ 4 32 Try.underlying22 hi hz0 hz1 hz2 rfl (by decide) _ 0 [] rfl hro ⟨g, o, none⟩ l.length c (flat l) rfl (flat_len4 l) hla.at_add (flat_one l) ?c1 ?c2 ?c3 ?_)
  case c1 => unfold maxLen; omega
  case c2 => omega
  case c3 => simp
  intro v' w' hown hgrow _
  obtain ⟨A', c', hv⟩ := own_form hown
  subst hv
  obtain ⟨g', rfl, hgw, hg1⟩ := own_at hown (by omega)
  have hc := fun (j : Nat) (v : Value) => hgrow.cell (a := ⟨w.heap.size, j, none⟩) (v := v) (hne := (by simp [Value.ownBlock]))
  have hc0 : w'.cell? ⟨w.heap.size, 0, none⟩ = some (.int .i64 b.used) := hc 0 _ (by rw [World.cell?_alloc_past _ _ _ (by simp)]; simp)
  have hc1 : w'.cell? ⟨w.heap.size, 1, none⟩ = some (.int .i64 b.live) := hc 1 _ (by rw [World.cell?_alloc_past _ _ _ (by simp)]; simp)
  have hc2 : w'.cell? ⟨w.heap.size, 2, none⟩ = some (.int .u64 b.age) := hc 2 _ (by rw [World.cell?_alloc_past _ _ _ (by simp)]; simp)
  have hc3 : w'.cell? ⟨w.heap.size, 3, none⟩ = some (.int .u64 b.wear) := hc 3 _ (by rw [World.cell?_alloc_past _ _ _ (by simp)]; simp)
  clear hc
  have hbl : Below w.heap.size w w' := (((Below.refl _ _).alloc (Nat.le_refl _) _).alloc (by simp) _).grown hgrow (by simp; omega) (fun k hk => by simp [Value.ownBlock] at hk; omega)
  obtain ⟨g1, o1, e, _, a0, a1, a2, a3⟩ := (Rd.of_own hown).band (get_some hk)
  simp only [Option.some.injEq, Addr.mk.injEq, and_true] at e
  obtain ⟨rfl, rfl⟩ := e
  simp only [Nat.zero_add] at a0 a1 a2 a3
  have f0 := fun j => hown.frozenAt j
  have hle : (k : Int) < l.length := by omega
  go_wp2
  go_ret
  refine ⟨some ⟨g', 0, none⟩, c', rfl, ?_, ?_⟩
  · rw [flat_all l k l[k] b (get_some hk)]
    have s1 := (World.ownsRow.stored hown (k * 4) (.int .i64 b.used)).1
    have s2 := (World.ownsRow.stored s1 (k * 4 + 1) (.int .i64 b.live)).1
    have s3 := (World.ownsRow.stored s2 (k * 4 + 2) (.int .u64 b.age)).1
    exact own_mono (World.ownsRow.stored s3 (k * 4 + 3) (.int .u64 b.wear)).1 (by omega)
  · exact (((hbl.setCell (p := ⟨g', k * 4, none⟩) (by first | omega | (simp; done) | (simp; omega)) _).setCell (p := ⟨g', k * 4 + 1, none⟩) (by first | omega | (simp; done) | (simp; omega)) _).setCell (p := ⟨g', k * 4 + 2, none⟩) (by first | omega | (simp; done) | (simp; omega)) _).setCell (p := ⟨g', k * 4 + 3, none⟩) (by first | omega | (simp; done) | (simp; omega)) _

set_option maxHeartbeats 400000 in
theorem rappend_any (l : List BI) (sz band now : Int) (hok : Oks l) (A : Option Addr) (c : Nat) (w : World) (hl : Rd w w.heap.size A (flat l)) (hn : l.length ≤ 100000) :
    Calls Try.prog 24 #[.slice A l.length c, .int .i64 sz, .int .i64 band, .int .u64 now] w (ListPost w (appE l sz band) (appL l sz band now)) := by
  cases hin : inL l band
  · have HE : appE l sz band = 2 := by unfold appE; rw [hin]; rfl
    have HL : appL l sz band now = [] := by unfold appL; rw [HE]; rfl
    rw [HE, HL]
    clear HE HL
    simp [inL] at hin
    by_cases h0 : 0 ≤ band
    · have h1 := hin h0
      go_enter Try.func24, Try.ntmps24
      go_wp2
      go_ret2
      exact ⟨none, 0, rfl, World.ownsRow_nil _ _ _ _, Below.refl _ _⟩
    · have h1 : band < 0 := by omega
      clear hin
      go_enter Try.func24, Try.ntmps24
      go_wp2
      go_ret2
      exact ⟨none, 0, rfl, World.ownsRow_nil _ _ _ _, Below.refl _ _⟩
  · have hin' := hin
    simp [inL] at hin
    obtain ⟨h0, h1⟩ := hin
    obtain ⟨k, rfl⟩ := Int.eq_ofNat_of_zero_le h0
    have hk : k < l.length := by omega
    have HA := Lib.hid (at_eq hk)
    have HE : appE l sz (k : Int) = if sz ≤ l[k].used then 11 else 0 := by unfold appE; rw [hin', at_eq hk]; rfl
    have hbl := Below.refl w.heap.size w
    obtain ⟨g, o, rfl, hg, h0, h1, h2, h3⟩ := (hl).band (get_some hk)
    have j0 := (hbl.cell (p := ⟨g, _, none⟩) hg).trans h0
    have j1 := (hbl.cell (p := ⟨g, _, none⟩) hg).trans h1
    have j2 := (hbl.cell (p := ⟨g, _, none⟩) hg).trans h2
    have j3 := (hbl.cell (p := ⟨g, _, none⟩) hg).trans h3
    clear h0 h1 h2 h3
    clear h0 hin'
    by_cases hs : sz ≤ l[k].used
    · rw [if_pos hs] at HE
      have HL : appL l sz (k : Int) now = [] := by unfold appL; rw [HE]; rfl
      rw [HE, HL]
      clear HE HL
      go_enter Try.func24, Try.ntmps24
      go_wp2
      go_ret2
      exact ⟨none, 0, rfl, World.ownsRow_nil _ _ _ _, (Below.refl _ _).alloc (Nat.le_refl _) _⟩
    · rw [if_neg hs] at HE
      have HL : appL l sz (k : Int) now = l.set k (appBI now l[k]) := by unfold appL; rw [HE, at_eq hk]; rfl
      rw [HE, HL]
      clear HE HL
      have hl2 := fun o => (hl.alloc (Nat.le_refl _) o).more (B' := w.heap.size + 1) (by omega)
      go_enter Try.func24, Try.ntmps24
      go_wp2_with (go_at_call 42; refine (with_any l k hk (appBI now l[k]) _ c _ (by rw [World.size_alloc]; exact hl2 _) hn).mono ?_; rintro e w1 ⟨A1, c1, rfl, h1, h2⟩)
      go_ret2
      refine ⟨A1, c1, ?_, ?_, ((Below.refl _ _).alloc (Nat.le_refl _) _).trans (h2.mono (by simp))⟩
      · rw [List.length_set]; rfl
      · rw [List.length_set]; exact own_mono h1 (by simp)

set_option maxHeartbeats 400000 in
theorem runlink_any (l : List BI) (band : Int) (hok : Oks l) (A : Option Addr) (c : Nat) (w : World) (hl : Rd w w.heap.size A (flat l)) (hn : l.length ≤ 100000) :
    Calls Try.prog 27 #[.slice A l.length c, .int .i64 band] w (ListPost w (unlE l band) (unlL l band)) := by
  cases hin : inL l band
  · have HE : unlE l band = 2 := by unfold unlE; rw [hin]; rfl
    have HL : unlL l band = [] := by unfold unlL; rw [HE]; rfl
    rw [HE, HL]
    clear HE HL
    simp [inL] at hin
    by_cases h0 : 0 ≤ band
    · have h1 := hin h0
      go_enter Try.func27, Try.ntmps27
      go_wp2
      go_ret2
      exact ⟨none, 0, rfl, World.ownsRow_nil _ _ _ _, Below.refl _ _⟩
    · have h1 : band < 0 := by omega
      clear hin
      go_enter Try.func27, Try.ntmps27
      go_wp2
      go_ret2
      exact ⟨none, 0, rfl, World.ownsRow_nil _ _ _ _, Below.refl _ _⟩
  · have hin' := hin
    simp [inL] at hin
    obtain ⟨h0, h1⟩ := hin
    obtain ⟨k, rfl⟩ := Int.eq_ofNat_of_zero_le h0
    have hk : k < l.length := by omega
    have hb2 := (oks_get hok hk).live.2
    have HE : unlE l (k : Int) = if l[k].live < 1 then 8 else 0 := by unfold unlE; rw [hin', at_eq hk]; rfl
    have hbl := Below.refl w.heap.size w
    obtain ⟨g, o, rfl, hg, h0, h1, h2, h3⟩ := (hl).band (get_some hk)
    have j0 := (hbl.cell (p := ⟨g, _, none⟩) hg).trans h0
    have j1 := (hbl.cell (p := ⟨g, _, none⟩) hg).trans h1
    have j2 := (hbl.cell (p := ⟨g, _, none⟩) hg).trans h2
    have j3 := (hbl.cell (p := ⟨g, _, none⟩) hg).trans h3
    clear h0 h1 h2 h3
    clear h0 hin'
    by_cases hs : l[k].live < 1
    · rw [if_pos hs] at HE
      have HL : unlL l (k : Int) = [] := by unfold unlL; rw [HE]; rfl
      rw [HE, HL]
      clear HE HL
      go_enter Try.func27, Try.ntmps27
      go_wp2
      go_ret2
      exact ⟨none, 0, rfl, World.ownsRow_nil _ _ _ _, (Below.refl _ _).alloc (Nat.le_refl _) _⟩
    · rw [if_neg hs] at HE
      have HL : unlL l (k : Int) = l.set k (unlBI l[k]) := by unfold unlL; rw [HE, at_eq hk]; rfl
      rw [HE, HL]
      clear HE HL
      have hl2 := fun o => (hl.alloc (Nat.le_refl _) o).more (B' := w.heap.size + 1) (by omega)
      go_enter Try.func27, Try.ntmps27
      go_wp2_with (go_at_call 42; refine (with_any l k hk (unlBI l[k]) _ c _ (by rw [World.size_alloc]; exact hl2 _) hn).mono ?_; rintro e w1 ⟨A1, c1, rfl, h1, h2⟩)
      go_ret2
      refine ⟨A1, c1, ?_, ?_, ((Below.refl _ _).alloc (Nat.le_refl _) _).trans (h2.mono (by simp))⟩
      · rw [List.length_set]; rfl
      · rw [List.length_set]; exact own_mono h1 (by simp)

set_option maxHeartbeats 400000 in
theorem rreset_any (l : List BI) (band : Int) (hok : Oks l) (A : Option Addr) (c : Nat) (w : World) (hl : Rd w w.heap.size A (flat l)) (hn : l.length ≤ 100000) :
    Calls Try.prog 29 #[.slice A l.length c, .int .i64 band] w (ListPost w (resE l band) (resL l band)) := by
  cases hin : inL l band
  · have HE : resE l band = 2 := by unfold resE; rw [hin]; rfl
    have HL : resL l band = [] := by unfold resL; rw [HE]; rfl
    rw [HE, HL]
    clear HE HL
    simp [inL] at hin
    by_cases h0 : 0 ≤ band
    · have h1 := hin h0
      go_enter Try.func29, Try.ntmps29
      go_wp2
      go_ret2
      exact ⟨none, 0, rfl, World.ownsRow_nil _ _ _ _, Below.refl _ _⟩
    · have h1 : band < 0 := by omega
      clear hin
      go_enter Try.func29, Try.ntmps29
      go_wp2
      go_ret2
      exact ⟨none, 0, rfl, World.ownsRow_nil _ _ _ _, Below.refl _ _⟩
  · have hin' := hin
    simp [inL] at hin
    obtain ⟨h0, h1⟩ := hin
    obtain ⟨k, rfl⟩ := Int.eq_ofNat_of_zero_le h0
    have hk : k < l.length := by omega
    have HE : resE l (k : Int) = 0 := by unfold resE; rw [hin']; rfl
    have HL : resL l (k : Int) = l.set k (resBI l[k]) := by unfold resL; rw [HE, at_eq hk]; rfl
    rw [HE, HL]
    clear HE HL
    have hbl := Below.refl w.heap.size w
    obtain ⟨g, o, rfl, hg, h0, h1, h2, h3⟩ := (hl).band (get_some hk)
    have j0 := (hbl.cell (p := ⟨g, _, none⟩) hg).trans h0
    have j1 := (hbl.cell (p := ⟨g, _, none⟩) hg).trans h1
    have j2 := (hbl.cell (p := ⟨g, _, none⟩) hg).trans h2
    have j3 := (hbl.cell (p := ⟨g, _, none⟩) hg).trans h3
    clear h0 h1 h2 h3
    clear h0 hin'
    go_enter Try.func29, Try.ntmps29
    go_wp2_with (go_at_call 42; refine (with_any l k hk (resBI l[k]) _ c _ hl hn).mono ?_; rintro e w1 ⟨A1, c1, rfl, h1, h2⟩)
    go_ret2
    refine ⟨A1, c1, ?_, ?_, h2⟩
    · rw [List.length_set]; rfl
    · rw [List.length_set]; exact h1
end Go.Proofs.Ytbnkpknoknenjaa
