/-
  WHAT IS SHOWN: what Erase of media and of tegularef11 returns and makes of the medium. Conditions: the medium lies in memory.
-/
import Derived.Test.YtckdhhadlemakaaGreatMed2
namespace Go.Proofs.YtckdhhadlemakaaGreat
set_option linter.unusedVariables false
open Go.RowKit

theorem erase_adr {g : Geo} {L : List Sec} (hf : Fit g L) {band : Int} (hb : inR band 0 (g.bands - 1) = true) : adrN g band 0 0 = (g.random + band * (g.tracks * g.sectors), 0) := by
  have ht := hf.v.t0; have hs := hf.v.s0
  rw [adr_in ((validG_iff g).2 hf.v) hb ((inR_iff _ _ _).2 ⟨by omega, by omega⟩) ((inR_iff _ _ _).2 ⟨by omega, by omega⟩)]
  rw [Int.add_zero, Int.add_zero, Int.mul_assoc]
theorem erase_no {g : Geo} {L : List Sec} (hf : Fit g L) {band : Int} (hb : inR band 0 (g.bands - 1) = false) : adrN g band 0 0 = (0, 2) := by
  rw [adr_out ((validG_iff g).2 hf.v) (by rw [hb]; rfl)]
/-- What an operation of the reference's medium returns and leaves. -/
def RWritePost (w : World) (m bs : Nat) (g : Geo) (er : Int) (L : List Sec) (e : Ending) (w' : World) : Prop :=
  e = .returned (.int .i64 er) ∧ RMed w' m bs g L ∧ Kept (fun k => k = bs) w w'
theorem rsec_at {m bs : Nat} {g : Geo} {L : List Sec} {w : World} (hm : RMed w m bs g L) {i : Nat} (hi : i < L.length) : ∃ v, w.cell? ⟨bs, i * 2, none⟩ = some (.int .i64 L[i].st) ∧ w.cell? ⟨bs, i * 2 + 1, none⟩ = some v := by
  obtain ⟨c2, _, _, _, _, _, _, _, hs2⟩ := hm.cells
  obtain ⟨q0, q1⟩ := hs2 i L[i] (List.getElem?_eq_getElem hi)
  exact ⟨_, q0, q1⟩

set_option maxRecDepth 100000 in
set_option maxHeartbeats 1000000 in
theorem erase_any {m bs : Nat} {g : Geo} {L : List Sec} {w : World} (band : Int) (hm : Med w m bs g L) (hf : Fit g L) :
    Calls Tryz.prog 88 #[.pointer (some ⟨m, 0, none⟩), .int .i64 band] w (WritePost w m bs g (eraseE g band) (eraseL g L band)) := by
  have HA := Lib.hid (fun W => gadr_any g band 0 0 W)
  obtain ⟨c3, p0, p1, p2, p3, p4, p5, hc3, _⟩ := hm.cells
  obtain ⟨hlm, hlb, hmb⟩ := hm.lt
  have HM := Lib.hid hm
  have hle := hf.le
  cases hin : inR band 0 (g.bands - 1)
  · have HE : Hid (eraseE g band = 2) := by unfold Hid eraseE; rw [hin]; rfl
    have HB : Hid (eraseL g L band = L) := by unfold Hid eraseL; rw [hin]; rfl
    rw [erase_no hf hin] at HA
    simp only at HA
    clear hin hf hm
    go_enter Tryz.func88, Tryz.ntmps88
    go_wp2_with fail
    refine (HA.out _).mono ?_
    rintro e w1 ⟨rfl, hb1⟩
    have HM1 := Lib.hid (HM.out.below0 hb1)
    clear p0 p1 p2 p3 p4 p5 HM
    go_wp2
    go_ret
    exact ⟨by rw [HE.out]; rfl, by rw [HB.out]; exact HM1.out, belKept0 hb1⟩
  · have HE : Hid (eraseE g band = 0) := by unfold Hid eraseE; rw [hin]; rfl
    have HB : Hid (eraseL g L band = eraseTo L (g.random + band * (g.tracks * g.sectors)).toNat (g.tracks * g.sectors).toNat) := by unfold Hid eraseL; rw [hin]; rfl
    rw [erase_adr hf hin] at HA
    simp only at HA
    obtain ⟨r0, r1⟩ := erase_range hf hin
    have hz := hf.v.bz
    have HZ : Hid (∀ W, Calls Tryz.prog 97 #[.agg #[.int .i64 g.random, .int .i64 g.bands, .int .i64 g.tracks, .int .i64 g.sectors, .int .i64 g.overlap]] W fun e w' => e = .returned (.int .i64 (g.tracks * g.sectors)) ∧ Below W.heap.size W w') := by
      unfold Hid; intro W; have := gbz_any g W; rw [bzN_valid hf.v] at this; exact this
    generalize g.random + band * (g.tracks * g.sectors) = F at *
    generalize g.tracks * g.sectors = Z at *
    obtain ⟨f, rfl⟩ := Int.eq_ofNat_of_zero_le r0
    obtain ⟨z, rfl⟩ := Int.eq_ofNat_of_zero_le (show 0 ≤ Z by omega)
    rw [Int.toNat_natCast, Int.toNat_natCast] at HB
    have hfz : f + z ≤ L.length := by omega
    clear hin hf hm r1
    go_enter Tryz.func88, Tryz.ntmps88
    go_wp2_with fail
    refine (HA.out _).mono ?_
    rintro e w1 ⟨rfl, hb1⟩
    have HM1 := HM.out.below0 hb1
    clear p0 p1 p2 p3 p4 p5 HM
    obtain ⟨c4, p0, p1, p2, p3, p4, p5, hc4, _⟩ := HM1.cells
    go_wp2_with fail
    refine (HZ.out _).mono ?_
    rintro e w2 ⟨rfl, hb2⟩
    have hm2 := HM1.below0 hb2
    have hk2 := (belKept0 (S := fun k => k = bs) hb1).thenBelow hb2
    clear p0 p1 p2 p3 p4 p5 HM1 hb1 hb2
    go_wp2
    go_loopw [7, 26] (fun x v wr => ∃ k : Nat, k ≤ z ∧ v = .int .i64 k ∧ Med wr m bs g (eraseTo L f k) ∧ Kept (fun k => k = bs) w wr) (fun _ v _ => z - (intOf v).toNat)
    case atStart => exact ⟨0, Nat.zero_le _, rfl, hm2, hk2⟩
    case round =>
      obtain ⟨k, hk, rfl, hmr, hkr⟩ := hrel
      by_cases hlt : k < z
      · have HT := Lib.hid (eraseTo_succ L f k)
        have hdl := eraseTo_len L f k
        have hjl : f + k < (eraseTo L f k).length := by omega
        have q6 : (0 : Int) ≤ (f : Int) + k := by omega
        have q7 : (f : Int) + k < (eraseTo L f k).length := by omega
        obtain ⟨cr, _, _, _, _, _, r5, hcc2, _⟩ := hmr.cells
        obtain ⟨v1, q0, q1⟩ := sec_at hmr hjl
        have f0 := hmr.free
        have hmS : Hid (Med ((wr.setCell ⟨bs, (f + k) * 2, none⟩ (.int .i64 0)).setCell ⟨bs, (f + k) * 2 + 1, none⟩ (.slice none 0 0)) m bs g ((eraseTo L f k).set (f + k) blankS)) :=
          hmr.set hjl blankS (.slice none 0 0) (Byt.nil _ _)
        have HKS := Lib.hid (hkr.trans (set2_kept wr bs (f + k) (.int .i64 0) (.slice none 0 0)) (fun _ _ h => h))
        have hn : (eraseTo L f k).length ≤ 81920 := by omega
        have qt : ((f : Int) + k).toNat = f + k := by omega
        clear hmr hkr hm2 hdl
        generalize eraseTo L f k = D at *
        go_wp2
        go_roundw
        case rel => exact ⟨k + 1, by omega, by go_num, by rw [HT.out]; exact hmS.out, HKS.out⟩
        case measure => simp [intOf]; omega
      · have hk' : k = z := by omega
        subst hk'
        have HM' : Hid (Med wr m bs g (eraseL g L band)) := by unfold Hid; rw [HB.out]; exact hmr
        clear hmr hm2
        go_wp2
        go_ret
        exact ⟨by rw [HE.out]; rfl, HM'.out, hkr⟩

set_option maxRecDepth 100000 in
set_option maxHeartbeats 1000000 in
theorem rerase_any {m bs : Nat} {g : Geo} {L : List Sec} {w : World} (band : Int) (hm : RMed w m bs g L) (hf : Fit g L) :
    Calls Tryz.prog 93 #[.pointer (some ⟨m, 0, none⟩), .int .i64 band] w (RWritePost w m bs g (eraseE g band) (eraseL g L band)) := by
  obtain ⟨c3, p0, p1, p2, p3, p4, p5, hc3, _⟩ := hm.cells
  obtain ⟨hlm, hlb, hmb⟩ := hm.lt
  have HM := Lib.hid hm
  have hle := hf.le
  cases hin : inR band 0 (g.bands - 1)
  · have HE : Hid (eraseE g band = 2) := by unfold Hid eraseE; rw [hin]; rfl
    have HB : Hid (eraseL g L band = L) := by unfold Hid eraseL; rw [hin]; rfl
    rcases inR_no hin with h0 | h0
    · clear hin hf hm
      go_enter Tryz.func93, Tryz.ntmps93
      go_wp2
      go_ret
      exact ⟨by rw [HE.out]; rfl, by rw [HB.out]; exact HM.out, Kept.refl _ _⟩
    · have h2 : g.bands ≤ band := by omega
      have h3 : 0 ≤ band := by have := hf.v.b0; omega
      clear hin hf hm
      go_enter Tryz.func93, Tryz.ntmps93
      go_wp2
      go_ret
      exact ⟨by rw [HE.out]; rfl, by rw [HB.out]; exact HM.out, Kept.refl _ _⟩
  · have HE : Hid (eraseE g band = 0) := by unfold Hid eraseE; rw [hin]; rfl
    have HB : Hid (eraseL g L band = eraseTo L (g.random + band * (g.tracks * g.sectors)).toNat (g.tracks * g.sectors).toNat) := by unfold Hid eraseL; rw [hin]; rfl
    obtain ⟨b0, b1⟩ := (inR_iff _ _ _).1 hin
    obtain ⟨r0, r1⟩ := erase_range hf hin
    have hz := hf.v.bz
    have hmn := Int.mul_nonneg b0 (show 0 ≤ g.tracks * g.sectors by omega)
    have hR0 := hf.v.r0; have hR1 := hf.v.r1
    have HZ : Hid (∀ W, Calls Tryz.prog 58 #[.agg #[.int .i64 g.random, .int .i64 g.bands, .int .i64 g.tracks, .int .i64 g.sectors, .int .i64 g.overlap]] W fun e w' => e = .returned (.int .i64 (g.tracks * g.sectors)) ∧ Below W.heap.size W w') := by
      unfold Hid; intro W; have := rbz_any g W; rw [bzN_valid hf.v] at this; exact this
    generalize g.tracks * g.sectors = Z at *
    obtain ⟨z, rfl⟩ := Int.eq_ofNat_of_zero_le (show 0 ≤ Z by omega)
    generalize hM : band * (z : Int) = M at *
    have hM1 : M ≤ 81920 := by omega
    have hb64 : band < g.bands := by omega
    obtain ⟨f, hfe⟩ := Int.eq_ofNat_of_zero_le r0
    rw [hfe, Int.toNat_natCast, Int.toNat_natCast] at HB
    have hfz : f + z ≤ L.length := by omega
    have HFE := Lib.hid hfe
    have hw1 : IntKind.i64.wrap (band * (z : Int)) = M := by rw [hM, IntKind.wrap_i64]; omega
    have hw1' : wrap64 (band * (z : Int)) = M := by rw [hM]; exact w64_id (by omega) (by omega)
    have HM0 := Lib.hid hM
    clear hin hf hm r1 hfe hM
    go_enter Tryz.func93, Tryz.ntmps93
    go_wp2_with fail
    refine (HZ.out _).mono ?_
    rintro e w2 ⟨rfl, hb2⟩
    have hm2 := HM.out.below0 hb2
    have hk2 := belKept0 (S := fun k => k = bs) hb2
    clear p0 p1 p2 p3 p4 p5 HM hb2
    go_wp2
    go_loopw [6] (fun v wr => ∃ k : Nat, k ≤ z ∧ v = .int .i64 k ∧ RMed wr m bs g (eraseTo L f k) ∧ Kept (fun k => k = bs) w wr) (fun v _ => z - (intOf v).toNat)
    case atStart => exact ⟨0, Nat.zero_le _, rfl, hm2, hk2⟩
    case round =>
      obtain ⟨k, hk, rfl, hmr, hkr⟩ := hrel
      by_cases hlt : k < z
      · have HT := Lib.hid (eraseTo_succ L f k)
        have hdl := eraseTo_len L f k
        have hjl : f + k < (eraseTo L f k).length := by omega
        have hfk : g.random + M + (k : Int) = ((f + k : Nat) : Int) := by have := HFE.out; omega
        have HFK := Lib.hid hfk
        obtain ⟨cr, r0', _, _, _, _, r5, hcc2, _⟩ := hmr.cells
        obtain ⟨v1, q0, q1⟩ := rsec_at hmr hjl
        have f0 := hmr.free
        have hmS : Hid (RMed ((wr.setCell ⟨bs, (f + k) * 2, none⟩ (.int .i64 0)).setCell ⟨bs, (f + k) * 2 + 1, none⟩ (.string (strOfNums []))) m bs g ((eraseTo L f k).set (f + k) blankS)) :=
          hmr.set hjl blankS
        have HKS := Lib.hid (hkr.trans (set2_kept wr bs (f + k) (.int .i64 0) (.string (strOfNums []))) (fun _ _ h => h))
        have hn : (eraseTo L f k).length ≤ 81920 := by omega
        have q6 : (0 : Int) ≤ g.random + M + (k : Int) := by omega
        have q7 : g.random + M + (k : Int) < (eraseTo L f k).length := by omega
        have qt : (g.random + M + (k : Int)).toNat = f + k := by omega
        have wa : IntKind.i64.wrap (g.random + M) = g.random + M := by rw [IntKind.wrap_i64]; omega
        have wb : IntKind.i64.wrap (g.random + M + (k : Int)) = g.random + M + (k : Int) := by rw [IntKind.wrap_i64]; omega
        clear hfk
        clear hmr hkr hm2 hdl
        generalize eraseTo L f k = D at *
        go_wp2
        go_region
        all_goals
          go_wp2
          go_roundw
          case rel => exact ⟨k + 1, by omega, by go_num, by rw [HT.out]; exact hmS.out, HKS.out.drew⟩
          case measure => simp [intOf]; omega
      · have hk' : k = z := by omega
        subst hk'
        have HM' : Hid (RMed wr m bs g (eraseL g L band)) := by unfold Hid; rw [HB.out]; exact hmr
        clear hmr hm2
        go_wp2
        go_ret
        exact ⟨by rw [HE.out]; rfl, HM'.out, hkr⟩
end Go.Proofs.YtckdhhadlemakaaGreat
