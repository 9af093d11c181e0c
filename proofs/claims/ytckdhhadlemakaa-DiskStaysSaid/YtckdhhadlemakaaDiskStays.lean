/-
  WHAT IS SHOWN: tegulalaw14.DiskStays returns true for any case, and changes nothing. No condition.
-/
import Derived.Test.YtckdhhadlemakaaDisk32
namespace Go.Proofs.Ytckdhhadlemakaa
set_option linter.unusedVariables false
open Go.ChangeShapes Go.WideShapes Go.ChangeAt Go.RowKit

/-- The power supply: armed, failed, on again. -/
def sP1 : Pow := ⟨false, true, 0, 0⟩
def sP2 : Pow := ⟨true, false, -1, 1⟩
def sP3 : Pow := ⟨false, false, -1, 1⟩
def sSN : DS := newS P0
def sSR : DS := { newS P0 with seen := 1 }
theorem st_arm : armP P0 0 = sP1 := rfl
theorem st_trip : (begD [] sSN sP1 0).P = sP2 := by
  show (⟨true, false, wrap64 (0 - 1), wrap64 (0 + 1)⟩ : Pow) = ⟨true, false, -1, 1⟩
  rw [show wrap64 (0 - 1) = -1 by decide +kernel, show wrap64 (0 + 1) = 1 by decide +kernel]
theorem st_fl (g : Geo) (LM : List Sec) : (begD [] sSN sP1 0).er = 13 ∧ (begD [] sSN sP1 0).P = sP2 ∧ dFlS [] sSN sP1 0 = sSN ∧ dFlLM g [] sSN sP1 LM [] 0 = LM ∧ dFlO [] sSN sP1 [] 0 = [] := ⟨rfl, st_trip, rfl, rfl, rfl⟩
theorem st_rs (g : Geo) (LM : List Sec) : rstE sSN sP2 = 0 ∧ rstS sSN sP2 = sSR ∧ rstLM g sSN sP2 LM [] 0 = LM ∧ rstO sSN sP2 [] = [] := ⟨rfl, rfl, rfl, rfl⟩
theorem st_beg : begD [] sSN sP3 0 = ⟨13, sSN, sP3, noF⟩ := rfl
theorem st_aq : stE sSN sP3 = 13 ∧ acqS sSN sP3 1 = sSN ∧ rstE sSN sP3 = 8 ∧ (begD [] sSR sP3 0).er = 0 := ⟨rfl, rfl, rfl, rfl⟩
set_option maxRecDepth 100000 in
set_option maxHeartbeats 8000000 in
theorem diskStays_walk (g : Geo) (A0 A1 AA : Option Addr) (l0 l1 : List Flt) (acts : List ActV) (c0 c1 ca : Nat) (w : World) (hc : CaseIn w g A0 A1 AA l0 l1 acts) :
    Calls Try.prog 6 #[.agg #[.int .i64 g.random, .int .i64 g.bands, .int .i64 g.tracks, .int .i64 g.sectors, .int .i64 g.overlap, .slice A0 l0.length c0, .slice A1 l1.length c1, .slice AA acts.length ca]] w fun e w' => e = .returned (.bool true) ∧ Below w.heap.size w w' := by
  have hb0 : Below w.heap.size w (w.alloc (.cells #[.int .i64 g.random, .int .i64 g.bands, .int .i64 g.tracks, .int .i64 g.sectors, .int .i64 g.overlap, .slice none 0 0, .slice none 0 0, .slice AA acts.length ca] 64)) := (Below.refl _ _).alloc (Nat.le_refl _) _
  have o0 := heap_alloc_new w (.cells #[.int .i64 g.random, .int .i64 g.bands, .int .i64 g.tracks, .int .i64 g.sectors, .int .i64 g.overlap, .slice none 0 0, .slice none 0 0, .slice AA acts.length ca] 64)
  have HBX : Hid (∀ W, Below (w.heap.size + 1) (w.alloc (.cells #[.int .i64 g.random, .int .i64 g.bands, .int .i64 g.tracks, .int .i64 g.sectors, .int .i64 g.overlap, .slice none 0 0, .slice none 0 0, .slice AA acts.length ca] 64)) W →
      Below w.heap.size w W ∧ (W.cell? ⟨w.heap.size, 0, none⟩ = some (.int .i64 g.random) ∧ W.cell? ⟨w.heap.size, 1, none⟩ = some (.int .i64 g.bands) ∧ W.cell? ⟨w.heap.size, 2, none⟩ = some (.int .i64 g.tracks) ∧ W.cell? ⟨w.heap.size, 3, none⟩ = some (.int .i64 g.sectors) ∧ W.cell? ⟨w.heap.size, 4, none⟩ = some (.int .i64 g.overlap) ∧
      W.cell? ⟨w.heap.size, 5, none⟩ = some (.slice none 0 0) ∧ W.cell? ⟨w.heap.size, 6, none⟩ = some (.slice none 0 0) ∧ W.cell? ⟨w.heap.size, 7, none⟩ = some (.slice AA acts.length ca)) ∧ w.heap.size + 1 ≤ W.heap.size) := by
    unfold Hid; intro W hW
    have q := belObj hW o0 (by omega)
    exact ⟨hb0.trans (hW.mono (by omega)), ⟨by rw [cell_of_row _ _ _ _ _ _ q]; rfl, by rw [cell_of_row _ _ _ _ _ _ q]; rfl, by rw [cell_of_row _ _ _ _ _ _ q]; rfl, by rw [cell_of_row _ _ _ _ _ _ q]; rfl, by rw [cell_of_row _ _ _ _ _ _ q]; rfl, by rw [cell_of_row _ _ _ _ _ _ q]; rfl, by rw [cell_of_row _ _ _ _ _ _ q]; rfl, by rw [cell_of_row _ _ _ _ _ _ q]; rfl⟩, by have := hW.size; simpa using this⟩
  have HFR : Hid (∀ W, Below w.heap.size w W → Calls Try.prog 35 #[.agg #[.int .i64 g.random, .int .i64 g.bands, .int .i64 g.tracks, .int .i64 g.sectors, .int .i64 g.overlap, .slice none 0 0, .slice none 0 0, .slice AA acts.length ca]] W fun e w' => e = .returned (.bool (fair14B g [] [] acts)) ∧ Below W.heap.size W w') := by
    unfold Hid; intro W hW
    exact fair14_any g [] [] acts none none AA 0 0 ca W (Rd.nil_ _ _ _) (Rd.nil_ _ _ _) ((hc.a.rd.below hW (Nat.le_refl _)).more hW.size) (by simp) (by simp) hc.a.n (fun a ha => (hc.a.ok a ha).n)
  have hbc0 : Below (w.heap.size + 1) (w.alloc (.cells #[.int .i64 g.random, .int .i64 g.bands, .int .i64 g.tracks, .int .i64 g.sectors, .int .i64 g.overlap, .slice none 0 0, .slice none 0 0, .slice AA acts.length ca] 64)) (w.alloc (.cells #[.int .i64 g.random, .int .i64 g.bands, .int .i64 g.tracks, .int .i64 g.sectors, .int .i64 g.overlap, .slice none 0 0, .slice none 0 0, .slice AA acts.length ca] 64)) := Below.refl _ _
  have HC := Lib.hid hc
  clear hc o0
  cases hf : fair14B g [] [] acts
  · rw [hf] at HFR
    clear hf
    go_enter Try.func6, Try.ntmps6
    go_wp2_with fail
    refine (awake14_any _).mono ?_
    rintro e w1 ⟨rfl, hb1⟩
    have hbc1 := hb1
    rw [World.size_alloc] at hbc1
    obtain ⟨hbw1, ⟨x0, x1, x2, x3, x4, x5, x6, x7⟩, hz1⟩ := HBX.out w1 hbc1
    go_wp2_with fail
    refine (HFR.out _ hbw1).mono ?_
    rintro e w2 ⟨rfl, hb2⟩
    have hbc2 := hbc1.trans (hb2.mono hz1)
    try clear x0 x1 x2 x3 x4 x5 x6 x7
    obtain ⟨hbw2, ⟨x0, x1, x2, x3, x4, x5, x6, x7⟩, hz2⟩ := HBX.out w2 hbc2
    go_wp2_with fail
    refine (awake14_any _).mono ?_
    rintro e w3 ⟨rfl, hb3⟩
    have hbc3 := hbc2.trans (hb3.mono hz2)
    try clear x0 x1 x2 x3 x4 x5 x6 x7
    obtain ⟨hbw3, ⟨x0, x1, x2, x3, x4, x5, x6, x7⟩, hz3⟩ := HBX.out w3 hbc3
    go_wp2
    go_ret
    exact ⟨rfl, hbw3⟩
  · rw [hf] at HFR
    obtain ⟨pg, _, pa60, p20, p21, psh, pv0, pv1⟩ := fair14_parts hf
    have HST : Hid (∀ W, Below w.heap.size w W → Calls Try.prog 36 #[.agg #[.int .i64 g.random, .int .i64 g.bands, .int .i64 g.tracks, .int .i64 g.sectors, .int .i64 g.overlap, .slice none 0 0, .slice none 0 0, .slice AA acts.length ca]] W (StartPost W g [] [])) := by
      unfold Hid; intro W hW
      exact start14_any g [] [] none none AA 0 0 acts.length ca W (Rd.nil_ _ _ _) (Rd.nil_ _ _ _) pg pv0 pv1 (by simp) (by simp)
    have HON : Hid (∀ W, Below w.heap.size w W → Calls Try.prog 42 #[.slice AA acts.length ca] W fun e w' => ∃ A' c', e = .returned (.slice A' (onlyA acts).length c') ∧ w'.ownsRow W.heap.size 78 6 (.slice A' (onlyA acts).length c') (onlyA acts).length (flatA (onlyA acts)) ∧ Below W.heap.size W w') := by
      unfold Hid; intro W hW; exact only_any acts AA ca W ((HC.out.a.rd.below hW (Nat.le_refl _)).more hW.size) (by omega)
    have HIN : Hid (∀ a ∈ onlyA acts, ActIn w a ∧ a.xs.length ≤ 100 ∧ a.kind ≤ 3 ∧ a.key = 0) := by
      unfold Hid; intro a ha; exact ⟨onlyA_in HC.out.a.ok ha, onlyA_short psh ha, (onlyA_mem ha).1, (onlyA_mem ha).2.1⟩
    have HOL := Lib.hid (onlyA_len acts)
    clear hf pg pv0 pv1 psh HC p20 p21
    go_enter Try.func6, Try.ntmps6
    go_wp2_with fail
    refine (awake14_any _).mono ?_
    rintro e w1 ⟨rfl, hb1⟩
    have hbc1 := hb1
    rw [World.size_alloc] at hbc1
    obtain ⟨hbw1, ⟨x0, x1, x2, x3, x4, x5, x6, x7⟩, hz1⟩ := HBX.out w1 hbc1
    go_wp2_with fail
    refine (HFR.out _ hbw1).mono ?_
    rintro e w2 ⟨rfl, hb2⟩
    have hbc2 := hbc1.trans (hb2.mono hz1)
    try clear x0 x1 x2 x3 x4 x5 x6 x7
    obtain ⟨hbw2, ⟨x0, x1, x2, x3, x4, x5, x6, x7⟩, hz2⟩ := HBX.out w2 hbc2
    go_wp2_with fail
    refine (HST.out w2 hbw2).mono ?_
    rintro e w3 ⟨pw, q0, q1, rfl, htw, hb3⟩
    have hbc3 := hbc2.trans (hb3.mono hz2)
    have hpb := (Below.refl w3.heap.size w3).alloc (Nat.le_refl _) (.cells #[.pointer (some ⟨pw, 0, none⟩), .pointer (some ⟨q0, 0, none⟩), .pointer (some ⟨q1, 0, none⟩)] 68)
    have hpo := World.ownsRow_lit (base := 0) (e := 68) (size := 3) w3 #[.pointer (some ⟨pw, 0, none⟩), .pointer (some ⟨q0, 0, none⟩), .pointer (some ⟨q1, 0, none⟩)] 1 (Nat.zero_le _) (by decide) rfl
    have hbn2 := hbw2.size
    have htw4 := htw.below hpb
    have hW4 : Below (w.heap.size + 1) (w.alloc (.cells #[.int .i64 g.random, .int .i64 g.bands, .int .i64 g.tracks, .int .i64 g.sectors, .int .i64 g.overlap, .slice none 0 0, .slice none 0 0, .slice AA acts.length ca] 64)) (w3.alloc (.cells #[.pointer (some ⟨pw, 0, none⟩), .pointer (some ⟨q0, 0, none⟩), .pointer (some ⟨q1, 0, none⟩)] 68)) := hbc3.trans (hpb.mono (by have := hb3.size; omega))
    have hs4 : StW (w.heap.size + 1) (w.alloc (.cells #[.int .i64 g.random, .int .i64 g.bands, .int .i64 g.tracks, .int .i64 g.sectors, .int .i64 g.overlap, .slice none 0 0, .slice none 0 0, .slice AA acts.length ca] 64)) (w3.alloc (.cells #[.pointer (some ⟨pw, 0, none⟩), .pointer (some ⟨q0, 0, none⟩), .pointer (some ⟨q1, 0, none⟩)] 68)) w3.heap.size pw q0 q1 w2.heap.size g [] [] sSN sSN P0 (blankL g) (blankL g) [] [] := ⟨hW4, hpo, htw4, hz2⟩
    have HS4 := Lib.hid hs4
    obtain ⟨v0, v1, v2⟩ := hs4.cells
    clear htw htw4 hpo hW4 HST HFR hbc3 hb3 x0 x1 x2 x3 x4 x5 x6 x7 hs4 hpb
    go_wp2_with fail
    refine (HS4.out.arm 0).mono ?_
    rintro e w4 ⟨rfl, hs5⟩
    rw [st_arm] at hs5
    have HS5 := Lib.hid hs5
    have HC5 := Lib.hid hs5.cells
    generalize w3.heap.size = X at *
    clear v0 v1 v2 hs5 HS4
    obtain ⟨v0, v1, v2⟩ := HC5.out
    go_wp2_with fail
    refine (HS5.out.flush1 (by simp) (by simp)).mono ?_
    rintro e w5 ⟨rfl, hs6⟩
    obtain ⟨f0, f1, f2, f3, f4⟩ := st_fl g (blankL g)
    rw [f1, f2, f3, f4] at hs6
    rw [f0]
    have HS6 := Lib.hid hs6
    clear v0 v1 v2 hs6 HS5 f0 f1 f2 f3 f4
    obtain ⟨v0, v1, v2⟩ := HS6.out.cells
    go_wp2_with fail
    refine HS6.out.off.mono ?_
    rintro e w6 ⟨rfl, rfl⟩
    have hp2 : sP2.off = true := rfl
    rw [hp2]
    go_wp2_with fail
    refine (HS6.out.restart1 0 (by simp)).mono ?_
    rintro e w7 ⟨rfl, hs7⟩
    obtain ⟨f0, f1, f2, f3⟩ := st_rs g (blankL g)
    rw [f1, f2, f3] at hs7
    rw [f0]
    have HS7 := Lib.hid hs7
    clear v0 v1 v2 hs7 HS6 f0 f1 f2 f3 hp2
    obtain ⟨v0, v1, v2⟩ := HS7.out.cells
    go_wp2_with fail
    refine HS7.out.on.mono ?_
    rintro e w8 ⟨rfl, hs8⟩
    have HS8 : Hid (StW (w.heap.size + 1) (w.alloc (.cells #[.int .i64 g.random, .int .i64 g.bands, .int .i64 g.tracks, .int .i64 g.sectors, .int .i64 g.overlap, .slice none 0 0, .slice none 0 0, .slice AA acts.length ca] 64)) w8 X pw q0 q1 w2.heap.size g [] [] sSN sSR sP3 (blankL g) (blankL g) [] []) := hs8
    clear v0 v1 v2 hs8 HS7
    obtain ⟨v0, v1, v2⟩ := HS8.out.cells
    obtain ⟨hbw8, ⟨x0, x1, x2, x3, x4, x5, x6, x7⟩, hz8⟩ := HBX.out w8 HS8.out.box
    have HON8 := Lib.hid (HON.out w8 hbw8)
    go_wp2_with fail
    refine HON8.out.mono ?_
    rintro e w9 ⟨A', c', rfl, hrow, hb9⟩
    have HLP : Hid (LpW w w9 X pw q0 q1 (onlyA acts) A' c' 0) :=
      ⟨hbw8.trans (hb9.mono hbw8.size), own_kept HS8.out.var (belKept0 (S := fun _ => False) hb9) (fun _ _ h => h), _, own_mono hrow hbw8.size, fun _ _ => rfl⟩
    have HT9 := Lib.hid (HS8.out.two.below hb9)
    clear hrow x0 x1 x2 x3 x4 x5 x6 x7 v0 v1 v2 HS8 HON HON8 hb9 hbw8 hz8
    have hol := HOL.out
    generalize hno : onlyA acts = l at *
    have hln : l.length ≤ 60 := by omega
    go_wp2
    go_loopw [6, 7, 8] (fun s6 s7 s8 wr => ∃ k : Nat, k ≤ l.length ∧ s6 = .int .i64 k ∧ Hid (LpW w wr X pw q0 q1 l A' c' k) ∧ Hid (TwoM wr w2.heap.size pw q0 q1 g [] [] sSN sSR sP3 (blankL g) (blankL g) [] [])) (fun v _ _ _ => l.length - (intOf v).toNat)
    case atStart => exact ⟨0, Nat.zero_le _, rfl, HLP, HT9⟩
    case round =>
      obtain ⟨k, hk, rfl, HL, HT⟩ := hrel
      by_cases hlt : k < l.length
      · obtain ⟨ga, rfl, hca, hfz⟩ := HL.out.act hlt
        obtain ⟨hl2, hkz, hcz⟩ := HL.out.zero hlt
        obtain ⟨hai, hax, hak, hkey⟩ := HIN.out l[k] (List.getElem_mem hlt)
        have HL2 := Lib.hid (hl2.below ((Below.refl _ _).drew))
        obtain ⟨B, hBn, hd2, hstep⟩ := ((HT.out.types hkz (by simp) (by decide) (by decide) (by decide) (by decide)).below ((Below.refl _ _).drew)).first
        have HSP := Lib.hid hstep
        have a0 := hca 0 _ rfl
        have b0 := hcz 0 _ rfl
        have b1 := hcz 1 _ rfl
        have b2 := hcz 2 _ rfl
        have b3 := hcz 3 _ rfl
        have b4 := hcz 4 _ rfl
        have b5 := hcz 5 _ rfl
        obtain ⟨u0, u1, u2⟩ := hl2.cells
        have hga : ¬ (B.has ga ∧ HasT DAT (wr.setCell ⟨ga, k * 6, none⟩ (.int .u8 0)).drew ga) := KeptT.no (hl2.below ((Below.refl _ _).drew)).typ (by unfold DAT; decide)
        simp only [Nat.add_zero] at a0 b0
        have k0 : (0 : Int) ≤ k := by omega
        have k1 : (k : Int) < l.length := by omega
        have hrd : Rd (wr.setCell ⟨ga, k * 6, none⟩ (.int .u8 0)).drew B.n l[k].A (l[k].xs.map (Value.int .u8)) := (hai.rd.below (hl2.bel.drew) (Nat.le_refl _)).more (by rw [hBn]; exact hbn2)
        obtain ⟨a, hae⟩ : ∃ a : ActV, a = { l[k] with disk := 0 } := ⟨_, rfl⟩
        have e1 : l[k].kind = a.kind := by rw [hae]
        have e2 : l[k].key = a.key := by rw [hae]
        have e3 : l[k].at_ = a.at_ := by rw [hae]
        have e4 : l[k].A = a.A := by rw [hae]
        have e5 : l[k].xs = a.xs := by rw [hae]
        have e6 : l[k].c = a.c := by rw [hae]
        have e7 : l[k].force = a.force := by rw [hae]
        have e8 : a.disk = 0 := by rw [hae]
        have hop := op_err (g := g) (F := []) (d := ⟨sSN, sP3, blankL g, []⟩) (a := a) (E := 13) (s' := sSN) (P' := sP3) (f := noF) ⟨by rw [← e1]; exact hai.kd.1, by rw [← e1]; exact hak⟩ (by rw [← e2, hkey]; exact st_beg) (by decide)
        have hdo := ddo_any (q0 := q0) (q1 := q1) (d := ⟨sSN, sP3, blankL g, []⟩) a hd2 (by simp) (by simp) (by simp) (.inl ⟨by rw [e8]; rfl, rfl⟩) (by rw [← e3]; exact hai.at_) (by rw [← e4, ← e5]; exact hrd) (by rw [← e5]; omega) (by rw [← e5, ← e6]; exact hai.c)
        unfold DoDPost at hdo
        rw [hop.1, hop.2, e8] at hdo
        have HDO := Lib.hid hdo
        simp only [e1, e2, e3, e4, e5, e6, e7] at b1 b2 b3 b4 b5
        clear hca hcz hai hax hak hkey hd2 hl2 hkz hop hdo hrd hae e1 e2 e3 e4 e5 e6 e7 hstep
        go_wp2
        go_region_held3 (fun W => (W.cell? ⟨X, 0, none⟩ = some (.pointer (some ⟨pw, 0, none⟩)) ∧ W.cell? ⟨X, 1, none⟩ = some (.pointer (some ⟨q0, 0, none⟩)) ∧ W.cell? ⟨X, 2, none⟩ = some (.pointer (some ⟨q1, 0, none⟩))) ∧ (W.cell? ⟨ga, k * 6, none⟩ = some (.int .u8 0) ∧ W.cell? ⟨ga, k * 6 + 1, none⟩ = some (.int .u8 a.kind) ∧ W.cell? ⟨ga, k * 6 + 2, none⟩ = some (.int .u64 a.key) ∧ W.cell? ⟨ga, k * 6 + 3, none⟩ = some (.int .i64 a.at_) ∧ W.cell? ⟨ga, k * 6 + 4, none⟩ = some (.slice a.A a.xs.length a.c) ∧ W.cell? ⟨ga, k * 6 + 5, none⟩ = some (.bool a.force)))
          (first | (refine ⟨⟨?_, ?_, ?_⟩, ?_, ?_, ?_, ?_, ?_, ?_⟩ <;> assumption) | (simp (maxDischargeDepth := 20) [World.cell?_alloc_some, *]; done))
          ((go_at_call 43
            refine HDO.out.mono ?_
            rintro e w5 ⟨rfl, hd5, hk5⟩
            have HD5 := Lib.hid (HSP.out w5 _ _ _ _ hd5 hk5)
            have HL5 := Lib.hid (HL2.out.typed hk5 (by rw [hBn]; exact hbn2) (by unfold DAT; decide) (by unfold DAT; decide))
            obtain ⟨v0, v1, v2⟩ := HL5.out.cells
            have z0 := Kept.cell hk5 b0 hga
            have z1 := Kept.cell hk5 b1 hga
            have z2 := Kept.cell hk5 b2 hga
            have z3 := Kept.cell hk5 b3 hga
            have z4 := Kept.cell hk5 b4 hga
            have z5 := Kept.cell hk5 b5 hga
            clear hd5 hk5))
        go_wp2
        go_roundw
        case rel => exact ⟨k + 1, by omega, by go_num, HL5, HD5⟩
        case measure => simp [intOf]; omega
      · obtain rfl : k = l.length := by omega
        have HSA : Hid (StW w.heap.size w wr X pw q0 q1 w2.heap.size g [] [] sSN sSR sP3 (blankL g) (blankL g) [] []) := ⟨HL.out.bel, HL.out.var, HT.out, hbn2⟩
        clear HL HT
        obtain ⟨v0, v1, v2⟩ := HSA.out.cells
        obtain ⟨f0, f1, f2, f3⟩ := st_aq
        go_wp2_with fail
        refine (HSA.out.acquire0 1).mono ?_
        rintro e wb ⟨rfl, hsb⟩
        rw [f1] at hsb
        rw [f0]
        have HSB := Lib.hid hsb
        clear hsb HSA v0 v1 v2
        obtain ⟨v0, v1, v2⟩ := HSB.out.cells
        go_wp2_with fail
        refine (HSB.out.restart0 0 (by simp)).mono ?_
        rintro e wc ⟨rfl, hsc⟩
        have HSC : Hid (StW w.heap.size w wc X pw q0 q1 w2.heap.size g [] [] sSN sSR sP3 (blankL g) (blankL g) [] []) := hsc
        rw [f2]
        clear hsc HSB v0 v1 v2
        obtain ⟨v0, v1, v2⟩ := HSC.out.cells
        go_wp2_with fail
        refine (HSC.out.flush1 (by simp) (by simp)).mono ?_
        rintro e wd ⟨rfl, hsd⟩
        rw [f3]
        have HSD := Lib.hid hsd
        clear hsd HSC v0 v1 v2
        obtain ⟨v0, v1, v2⟩ := HSD.out.cells
        go_wp2_with fail
        refine HSD.out.ops0.mono ?_
        rintro e we ⟨rfl, rfl⟩
        have h0 : sSN.ops = 0 := rfl
        rw [h0]
        have hbx := HSD.out.box
        go_wp2
        go_ret
        exact ⟨by first | rfl | simp, hbx⟩

set_option maxRecDepth 100000 in
theorem diskStays_lifted (os : Os) (started : os.Started) (H : Type) (enc : TypeId × Value → H) :
    ReturnsInHanded {} Try.checked os 6 .any (Rows.diskStaysSpec.pre6 enc Try.prog Try.f6 Rows.diskStaysRow.domain false) (Rows.diskStaysSpec.post enc Try.prog Try.f6 false true false false) := by
  refine returnsInHanded_of_change (C := Try.checked) own started (by kernel_rfl) Try.func6
    (ChangeSpec.witness6 (enc := enc) (C := Try.checked) false ⟨#[], #[.agg #[.int .i64 0, .int .i64 0, .int .i64 0, .int .i64 0, .int .i64 0, .slice none 0 0, .slice none 0 0, .slice none 0 0]], []⟩ 8 (by kernel_rfl) (by kernel_rfl) (by kernel_rfl) (by kernel_rfl)) ?_
  intro W base args ds gs before hval0 hW hcnd _
  have hval : ∀ (j : Nat) t v, Try.f6.params[j]? = some t → args[j]? = some v → Value.okWide Try.prog W .any base t v := hval0
  have hW' := hW
  obtain ⟨p, q, hA0, hV, rfl, hfz, hnd⟩ := hW
  have hA : DataW.TrodAll enc Try.prog W 0 (fun _ => true) true Try.f6.params.toList args.toList ds p := hA0
  rw [Try.params6] at hA hval
  obtain ⟨v0, vs0, d0, ds0, p0, q0, hargs, rfl, rfl, h0, r0⟩ := trodAll_cons hA
  obtain ⟨rfl, rfl, rfl⟩ := trodAll_nil r0
  obtain rfl : args = #[v0] := by cases args; simp_all
  obtain ⟨rfl, rfl⟩ := trodVars_none hV
  have k0 := h0
  have lt0 : ∀ x ∈ p0, x.block < W.heap.size := by obtain ⟨m, hm⟩ := k0; exact DataW.trod_lt m _ _ _ hm
  obtain ⟨g, A0, A1, AA, l0, l1, acts, c0, c1, ca, rfl, hc⟩ := open_casev (hval 0 _ _ rfl rfl) h0
  clear hA0 hval0
  refine (diskStays_walk g A0 A1 AA l0 l1 acts c0 c1 ca W hc).mono fun e W' ⟨he, bel⟩ => ?_
  subst he
  exact ⟨_, rfl, _, _, _, [], _, [], hW', trodAll_mk1 (shut_bool Try.underlying4 _), (trodAll_cons_mk (Below.trod laidOut (by kernel_rfl) (of_decide_eq_true (by kernel_rfl)) k0 bel lt0) trodAll_mk0), rfl, bel.frame _, fun h => by cases h⟩

/-- The statement. -/
theorem diskStays_holds : Rows.DiskStaysSaid :=
  OpenClaim.holds_of_wide 6 Try.f6 rfl rfl rfl rfl rfl rfl rfl ⟨rfl, rfl, rfl, rfl, rfl⟩ rfl rfl rfl rfl rfl (by kernel_rfl) Try.func6 (by kernel_rfl)
    (of_decide_eq_true (by kernel_rfl)) (by unfold Func.isWrapper; first | (rw [if_pos (by decide +kernel)]; kernel_rfl) | (rw [if_neg (by decide +kernel)]; exact ⟨rfl, rfl⟩))
    (fun os started H enc _ => diskStays_lifted os started H enc)
#print axioms diskStays_holds
end Go.Proofs.Ytckdhhadlemakaa
