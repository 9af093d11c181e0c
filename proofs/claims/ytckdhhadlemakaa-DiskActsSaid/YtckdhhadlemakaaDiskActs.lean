/-
  WHAT IS SHOWN: tegulalaw14.DiskActs returns true for any case, and changes nothing. No condition.
-/
import Derived.Test.YtckdhhadlemakaaRkD
namespace Go.Proofs.Ytckdhhadlemakaa
set_option linter.unusedVariables false
open Go.ChangeShapes Go.WideShapes Go.ChangeAt Go.RowKit

def TS.new (g : Geo) : TS := ⟨newS P0, newS P0, P0, blankL g, blankL g, [], []⟩
set_option maxRecDepth 100000 in
set_option maxHeartbeats 8000000 in
theorem diskActs_walk (g : Geo) (A0 A1 AA : Option Addr) (l0 l1 : List Flt) (acts : List ActV) (c0 c1 ca : Nat) (w : World) (hc : CaseIn w g A0 A1 AA l0 l1 acts) :
    Calls Try.prog 9 #[.agg #[.int .i64 g.random, .int .i64 g.bands, .int .i64 g.tracks, .int .i64 g.sectors, .int .i64 g.overlap, .slice A0 l0.length c0, .slice A1 l1.length c1, .slice AA acts.length ca]] w fun e w' => e = .returned (.bool true) ∧ Below w.heap.size w w' := by
  have hb0 : Below w.heap.size w (w.alloc (.cells #[.int .i64 g.random, .int .i64 g.bands, .int .i64 g.tracks, .int .i64 g.sectors, .int .i64 g.overlap, .slice A0 l0.length c0, .slice A1 l1.length c1, .slice AA acts.length ca] 64)) := (Below.refl _ _).alloc (Nat.le_refl _) _
  have o0 := heap_alloc_new w (.cells #[.int .i64 g.random, .int .i64 g.bands, .int .i64 g.tracks, .int .i64 g.sectors, .int .i64 g.overlap, .slice A0 l0.length c0, .slice A1 l1.length c1, .slice AA acts.length ca] 64)
  have HBX : Hid (∀ W, Below (w.heap.size + 1) (w.alloc (.cells #[.int .i64 g.random, .int .i64 g.bands, .int .i64 g.tracks, .int .i64 g.sectors, .int .i64 g.overlap, .slice A0 l0.length c0, .slice A1 l1.length c1, .slice AA acts.length ca] 64)) W →
      Below w.heap.size w W ∧ (W.cell? ⟨w.heap.size, 0, none⟩ = some (.int .i64 g.random) ∧ W.cell? ⟨w.heap.size, 1, none⟩ = some (.int .i64 g.bands) ∧ W.cell? ⟨w.heap.size, 2, none⟩ = some (.int .i64 g.tracks) ∧ W.cell? ⟨w.heap.size, 3, none⟩ = some (.int .i64 g.sectors) ∧ W.cell? ⟨w.heap.size, 4, none⟩ = some (.int .i64 g.overlap) ∧
      W.cell? ⟨w.heap.size, 5, none⟩ = some (.slice A0 l0.length c0) ∧ W.cell? ⟨w.heap.size, 6, none⟩ = some (.slice A1 l1.length c1) ∧ W.cell? ⟨w.heap.size, 7, none⟩ = some (.slice AA acts.length ca)) ∧ w.heap.size + 1 ≤ W.heap.size) := by
    unfold Hid; intro W hW
    have q := belObj hW o0 (by omega)
    exact ⟨hb0.trans (hW.mono (by omega)), ⟨by rw [cell_of_row _ _ _ _ _ _ q]; rfl, by rw [cell_of_row _ _ _ _ _ _ q]; rfl, by rw [cell_of_row _ _ _ _ _ _ q]; rfl, by rw [cell_of_row _ _ _ _ _ _ q]; rfl, by rw [cell_of_row _ _ _ _ _ _ q]; rfl, by rw [cell_of_row _ _ _ _ _ _ q]; rfl, by rw [cell_of_row _ _ _ _ _ _ q]; rfl, by rw [cell_of_row _ _ _ _ _ _ q]; rfl⟩, by have := hW.size; simpa using this⟩
  have HFR : Hid (∀ W, Below w.heap.size w W → Calls Try.prog 35 #[.agg #[.int .i64 g.random, .int .i64 g.bands, .int .i64 g.tracks, .int .i64 g.sectors, .int .i64 g.overlap, .slice A0 l0.length c0, .slice A1 l1.length c1, .slice AA acts.length ca]] W fun e w' => e = .returned (.bool (fair14B g l0 l1 acts)) ∧ Below W.heap.size W w') := by
    unfold Hid; intro W hW
    exact fair14_any g l0 l1 acts A0 A1 AA c0 c1 ca W ((hc.f0.rd.below hW (Nat.le_refl _)).more hW.size) ((hc.f1.rd.below hW (Nat.le_refl _)).more hW.size) ((hc.a.rd.below hW (Nat.le_refl _)).more hW.size) hc.f0.n hc.f1.n hc.a.n (fun a ha => (hc.a.ok a ha).n)
  have hbc0 : Below (w.heap.size + 1) (w.alloc (.cells #[.int .i64 g.random, .int .i64 g.bands, .int .i64 g.tracks, .int .i64 g.sectors, .int .i64 g.overlap, .slice A0 l0.length c0, .slice A1 l1.length c1, .slice AA acts.length ca] 64)) (w.alloc (.cells #[.int .i64 g.random, .int .i64 g.bands, .int .i64 g.tracks, .int .i64 g.sectors, .int .i64 g.overlap, .slice A0 l0.length c0, .slice A1 l1.length c1, .slice AA acts.length ca] 64)) := Below.refl _ _
  have HC := Lib.hid hc
  clear hc o0
  cases hf : fair14B g l0 l1 acts
  · rw [hf] at HFR
    clear hf
    go_enter Try.func9, Try.ntmps9
    go_wp2_with fail
    refine (awake14_any _).mono ?_
    rintro e w1 ⟨rfl, hb1⟩
    have hbc1 := hb1
    rw [World.size_alloc] at hbc1
    obtain ⟨hbw1, ⟨x0, x1, x2, x3, x4, x5, x6, x7⟩, hz1⟩ := HBX.out w1 hbc1
    go_wp2_with fail
    refine (HFR.out _ hbw1).mono ?_
    rintro e w2 ⟨rfl, hb2⟩
    have hbc2 := hbc1.trans (hb2.mono hz1)
    try clear x0 x1 x2 x3 x4 x5 x6 x7
    obtain ⟨hbw2, ⟨x0, x1, x2, x3, x4, x5, x6, x7⟩, hz2⟩ := HBX.out w2 hbc2
    go_wp2_with fail
    refine (awake14_any _).mono ?_
    rintro e w3 ⟨rfl, hb3⟩
    have hbc3 := hbc2.trans (hb3.mono hz2)
    try clear x0 x1 x2 x3 x4 x5 x6 x7
    obtain ⟨hbw3, ⟨x0, x1, x2, x3, x4, x5, x6, x7⟩, hz3⟩ := HBX.out w3 hbc3
    go_wp2
    go_ret
    exact ⟨rfl, hbw3⟩
  · rw [hf] at HFR
    obtain ⟨pg, _, pa60, p20, p21, psh, pv0, pv1⟩ := fair14_parts hf
    have HST : Hid (∀ W, Below w.heap.size w W → Calls Try.prog 36 #[.agg #[.int .i64 g.random, .int .i64 g.bands, .int .i64 g.tracks, .int .i64 g.sectors, .int .i64 g.overlap, .slice A0 l0.length c0, .slice A1 l1.length c1, .slice AA acts.length ca]] W (StartPost W g l0 l1)) := by
      unfold Hid; intro W hW
      exact start14_any g l0 l1 A0 A1 AA c0 c1 acts.length ca W ((HC.out.f0.rd.below hW (Nat.le_refl _)).more hW.size) ((HC.out.f1.rd.below hW (Nat.le_refl _)).more hW.size) pg pv0 pv1 (by omega) (by omega)
    have HBG : Hid (∀ W, Below w.heap.size w W → Calls Try.prog 45 #[.agg #[.int .i64 g.random, .int .i64 g.bands, .int .i64 g.tracks, .int .i64 g.sectors, .int .i64 g.overlap, .slice A0 l0.length c0, .slice A1 l1.length c1, .slice AA acts.length ca]] W (BeginPost W g l0 l1)) := by
      unfold Hid; intro W hW
      exact begin14_any g l0 l1 A0 A1 AA c0 c1 acts.length ca W ((HC.out.f0.rd.below hW (Nat.le_refl _)).more hW.size) ((HC.out.f1.rd.below hW (Nat.le_refl _)).more hW.size) pg pv0 pv1 (by omega) (by omega)
    have HIN : Hid (∀ a ∈ acts, ActIn w a ∧ a.xs.length ≤ 100) := by
      unfold Hid; intro a ha; exact ⟨HC.out.a.ok a ha, psh a ha⟩
    have HRA := Lib.hid HC.out.a.rd
    have HTO := Lib.hid (And.intro HC.out.f0.to_ (And.intro HC.out.f1.to_ (And.intro HC.out.f0.n HC.out.f1.n)))
    clear hf pg pv0 pv1 psh HC
    go_enter Try.func9, Try.ntmps9
    go_wp2_with fail
    refine (awake14_any _).mono ?_
    rintro e w1 ⟨rfl, hb1⟩
    have hbc1 := hb1
    rw [World.size_alloc] at hbc1
    obtain ⟨hbw1, ⟨x0, x1, x2, x3, x4, x5, x6, x7⟩, hz1⟩ := HBX.out w1 hbc1
    go_wp2_with fail
    refine (HFR.out _ hbw1).mono ?_
    rintro e w2 ⟨rfl, hb2⟩
    have hbc2 := hbc1.trans (hb2.mono hz1)
    try clear x0 x1 x2 x3 x4 x5 x6 x7
    obtain ⟨hbw2, ⟨x0, x1, x2, x3, x4, x5, x6, x7⟩, hz2⟩ := HBX.out w2 hbc2
    go_wp2_with fail
    refine (HST.out w2 hbw2).mono ?_
    rintro e w3 ⟨pw, q0, q1, rfl, htw, hb3⟩
    have hbc3 := hbc2.trans (hb3.mono hz2)
    have hz3 := hb3.size
    have hpb := (Below.refl w3.heap.size w3).alloc (Nat.le_refl _) (.cells #[.pointer (some ⟨pw, 0, none⟩), .pointer (some ⟨q0, 0, none⟩), .pointer (some ⟨q1, 0, none⟩)] 68)
    have hpo := World.ownsRow_lit (base := 0) (e := 68) (size := 3) w3 #[.pointer (some ⟨pw, 0, none⟩), .pointer (some ⟨q0, 0, none⟩), .pointer (some ⟨q1, 0, none⟩)] 1 (Nat.zero_le _) (by decide) rfl
    have hs4 : StW (w.heap.size + 1) (w.alloc (.cells #[.int .i64 g.random, .int .i64 g.bands, .int .i64 g.tracks, .int .i64 g.sectors, .int .i64 g.overlap, .slice A0 l0.length c0, .slice A1 l1.length c1, .slice AA acts.length ca] 64)) (w3.alloc (.cells #[.pointer (some ⟨pw, 0, none⟩), .pointer (some ⟨q0, 0, none⟩), .pointer (some ⟨q1, 0, none⟩)] 68)) w3.heap.size pw q0 q1 w2.heap.size g l0 l1 (newS P0) (newS P0) P0 (blankL g) (blankL g) [] [] := ⟨hbc3.trans (hpb.mono (by omega)), hpo, htw.below hpb, hz2⟩
    have HS4 := Lib.hid hs4
    clear htw hpo hs4 hpb hbc3 hb3 x0 x1 x2 x3 x4 x5 x6 x7
    obtain ⟨hbw4, ⟨x0, x1, x2, x3, x4, x5, x6, x7⟩, hz4⟩ := HBX.out _ HS4.out.box
    go_wp2_with fail
    refine (HBG.out _ hbw4).mono ?_
    rintro e w5 ⟨rp, r0, r1, rfl, hrt, hb5⟩
    generalize w3.heap.size = X at *
    generalize w3.alloc (.cells #[.pointer (some ⟨pw, 0, none⟩), .pointer (some ⟨q0, 0, none⟩), .pointer (some ⟨q1, 0, none⟩)] 68) = w4 at *
    have hz5 := hb5.size
    have hpb := (Below.refl w5.heap.size w5).alloc (Nat.le_refl _) (.cells #[.pointer (some ⟨r0, 0, none⟩), .pointer (some ⟨r1, 0, none⟩)] 83)
    have hpo := World.ownsRow_lit (base := 0) (e := 83) (size := 2) w5 #[.pointer (some ⟨r0, 0, none⟩), .pointer (some ⟨r1, 0, none⟩)] 1 (Nat.zero_le _) (by decide) rfl
    have hdu : Duo (w.heap.size + 1) (w.alloc (.cells #[.int .i64 g.random, .int .i64 g.bands, .int .i64 g.tracks, .int .i64 g.sectors, .int .i64 g.overlap, .slice A0 l0.length c0, .slice A1 l1.length c1, .slice AA acts.length ca] 64)) (w5.alloc (.cells #[.pointer (some ⟨r0, 0, none⟩), .pointer (some ⟨r1, 0, none⟩)] 83)) X w5.heap.size pw q0 q1 w2.heap.size rp r0 r1 w4.heap.size g l0 l1 (TS.new g) (TS.new g) := ⟨(HS4.out.below hb5).below hpb, hpo, hrt.below hpb, hz4⟩
    have HDU := Lib.hid hdu
    have hnn : w.heap.size ≤ w2.heap.size := hbw2.size
    have hmm : w.heap.size ≤ w4.heap.size := hbw4.size
    clear hrt hpo hpb hdu hb5 HS4 HST HBG HFR x0 x1 x2 x3 x4 x5 x6 x7
    go_wp2
    generalize w5.heap.size = Y at *
    generalize w5.alloc (.cells #[.pointer (some ⟨r0, 0, none⟩), .pointer (some ⟨r1, 0, none⟩)] 83) = w6 at *
    obtain ⟨hbw6, ⟨x0, x1, x2, x3, x4, x5, x6, x7⟩, hz6⟩ := HBX.out w6 HDU.out.st.box
    go_loopw [7, 8, 9, 10, 11] (fun s7 s8 s9 s10 s11 wr => ∃ (k : Nat) (t : TS), k ≤ acts.length ∧ s7 = .int .i64 k ∧ Hid (Duo (w.heap.size + 1) (w.alloc (.cells #[.int .i64 g.random, .int .i64 g.bands, .int .i64 g.tracks, .int .i64 g.sectors, .int .i64 g.overlap, .slice A0 l0.length c0, .slice A1 l1.length c1, .slice AA acts.length ca] 64)) wr X Y pw q0 q1 w2.heap.size rp r0 r1 w4.heap.size g l0 l1 t t) ∧ Hid (t.O0.length ≤ k ∧ t.O1.length ≤ k)) (fun v _ _ _ _ _ => acts.length - (intOf v).toNat)
    case atStart => exact ⟨0, TS.new g, Nat.zero_le _, rfl, HDU, ⟨Nat.le_refl _, Nat.le_refl _⟩⟩
    case round =>
      obtain ⟨k, t, hk, rfl, HD, HO⟩ := hrel
      clear x0 x1 x2 x3 x4 x5 x6 x7
      obtain ⟨hbr, ⟨x0, x1, x2, x3, x4, x5, x6, x7⟩, hzr⟩ := HBX.out wr HD.out.st.box
      by_cases hlt : k < acts.length
      · obtain ⟨ga, oa, rfl, hga, hca⟩ := acts_at (HRA.out.below hbr (Nat.le_refl _)) hlt
        obtain ⟨hai, hax⟩ := HIN.out acts[k] (List.getElem_mem hlt)
        have HCA := Lib.hid (fun W (hW : Below w.heap.size w W) => acts_at (HRA.out.below hW (Nat.le_refl _)) hlt)
        have k0 : (0 : Int) ≤ k := by omega
        have k1 : (k : Int) < acts.length := by omega
        obtain ⟨⟨v0, v1, v2⟩, y0, y1⟩ := HD.out.cells
        generalize acts[k] = a at *
        have HCB : Hid (∀ W, Below w.heap.size w W → W.cell? ⟨ga, oa + k * 6, none⟩ = some (.int .u8 a.disk) ∧ W.cell? ⟨ga, oa + k * 6 + 1, none⟩ = some (.int .u8 a.kind) ∧ W.cell? ⟨ga, oa + k * 6 + 2, none⟩ = some (.int .u64 a.key) ∧ W.cell? ⟨ga, oa + k * 6 + 3, none⟩ = some (.int .i64 a.at_) ∧ W.cell? ⟨ga, oa + k * 6 + 4, none⟩ = some (.slice a.A a.xs.length a.c) ∧ W.cell? ⟨ga, oa + k * 6 + 5, none⟩ = some (.bool a.force)) := by
          unfold Hid; intro W hW
          obtain ⟨g2, o2, e2, _, hc2⟩ := HCA.out W hW
          injection e2 with e2; injection e2 with e2 e3; subst e2; subst e3
          exact ⟨hc2 0 _ rfl, hc2 1 _ rfl, hc2 2 _ rfl, hc2 3 _ rfl, hc2 4 _ rfl, hc2 5 _ rfl⟩
        have HDO := Lib.hid ((HD.out.below ((Below.refl _ _).drew)).do_ a HTO.out.1 HTO.out.2.1 HTO.out.2.2.1 HTO.out.2.2.2 ⟨by have := HO.out.1; omega, by have := HO.out.2; omega⟩ hai.dk hai.at_ ((hai.rd.below hbr.drew (Nat.le_refl _)).more hnn) (by omega) hai.c)
        have HWA := Lib.hid (fun W t' (hD : Duo (w.heap.size + 1) (w.alloc (.cells #[.int .i64 g.random, .int .i64 g.bands, .int .i64 g.tracks, .int .i64 g.sectors, .int .i64 g.overlap, .slice A0 l0.length c0, .slice A1 l1.length c1, .slice (some ⟨ga, oa, none⟩) acts.length ca] 64)) W X Y pw q0 q1 w2.heap.size rp r0 r1 w4.heap.size g l0 l1 t' t) (hW : Below w.heap.size w W) => hD.want a HTO.out.1 HTO.out.2.1 HTO.out.2.2.1 HTO.out.2.2.2 ⟨by have := HO.out.1; omega, by have := HO.out.2; omega⟩ (some ⟨rp, 0, none⟩) (fun _ => rfl) hai.dk hai.at_ ((hai.rd.below hW (Nat.le_refl _)).more hmm) (by omega) hai.c)
        have HLN := Lib.hid (TS.act_len (g := g) (F0 := l0) (F1 := l1) (a := a) HO.out)
        obtain ⟨b0, b1, b2, b3, b4, b5⟩ := HCB.out wr hbr
        clear hca hai hax x0 x1 x2 x3 x4 x5 x6
        generalize t.by_ g l0 l1 a = ys at *
        generalize t.er g l0 l1 a = E at *
        go_wp2
        go_region_held3 (fun W => (W.cell? ⟨X, 0, none⟩ = some (.pointer (some ⟨pw, 0, none⟩)) ∧ W.cell? ⟨X, 1, none⟩ = some (.pointer (some ⟨q0, 0, none⟩)) ∧ W.cell? ⟨X, 2, none⟩ = some (.pointer (some ⟨q1, 0, none⟩))) ∧ W.cell? ⟨w.heap.size, 7, none⟩ = some (.slice (some ⟨ga, oa, none⟩) acts.length ca) ∧ W.cell? ⟨ga, oa + k * 6, none⟩ = some (.int .u8 a.disk) ∧ W.cell? ⟨ga, oa + k * 6 + 1, none⟩ = some (.int .u8 a.kind) ∧ W.cell? ⟨ga, oa + k * 6 + 2, none⟩ = some (.int .u64 a.key) ∧ W.cell? ⟨ga, oa + k * 6 + 3, none⟩ = some (.int .i64 a.at_) ∧ W.cell? ⟨ga, oa + k * 6 + 4, none⟩ = some (.slice a.A a.xs.length a.c) ∧ W.cell? ⟨ga, oa + k * 6 + 5, none⟩ = some (.bool a.force))
          (first | (refine ⟨⟨?_, ?_, ?_⟩, ?_, ?_, ?_, ?_, ?_, ?_, ?_⟩ <;> assumption) | (simp (maxDischargeDepth := 20) [World.cell?_alloc_some, *]; done))
          ((go_at_call 43; refine HDO.out.mono ?_; rintro e w7 ⟨rfl, hd7⟩; have HD7 := Lib.hid hd7; obtain ⟨hb7, ⟨_, _, _, _, _, _, _, z7⟩, hz7⟩ := HBX.out w7 hd7.st.box; obtain ⟨c0', c1', c2', c3', c4', c5'⟩ := HCB.out w7 hb7; obtain ⟨⟨vv0, vv1, vv2⟩, yy0, yy1⟩ := hd7.cells; have HWN := Lib.hid (HWA.out w7.drew _ (hd7.below ((Below.refl _ _).drew)) hb7.drew); clear hd7))
        go_wp2
        go_region_held3 (fun W => (W.cell? ⟨Y, 0, none⟩ = some (.pointer (some ⟨r0, 0, none⟩)) ∧ W.cell? ⟨Y, 1, none⟩ = some (.pointer (some ⟨r1, 0, none⟩))) ∧ W.cell? ⟨w.heap.size, 7, none⟩ = some (.slice (some ⟨ga, oa, none⟩) acts.length ca) ∧ W.cell? ⟨ga, oa + k * 6, none⟩ = some (.int .u8 a.disk) ∧ W.cell? ⟨ga, oa + k * 6 + 1, none⟩ = some (.int .u8 a.kind) ∧ W.cell? ⟨ga, oa + k * 6 + 2, none⟩ = some (.int .u64 a.key) ∧ W.cell? ⟨ga, oa + k * 6 + 3, none⟩ = some (.int .i64 a.at_) ∧ W.cell? ⟨ga, oa + k * 6 + 4, none⟩ = some (.slice a.A a.xs.length a.c) ∧ W.cell? ⟨ga, oa + k * 6 + 5, none⟩ = some (.bool a.force))
          (first | (refine ⟨⟨?_, ?_⟩, ?_, ?_, ?_, ?_, ?_, ?_, ?_⟩ <;> assumption) | (simp (maxDischargeDepth := 20) [World.cell?_alloc_some, *]; done))
          ((go_at_call 46; refine HWN.out.mono ?_; rintro e w8 ⟨rfl, hd8⟩; have HD8 := Lib.hid hd8; obtain ⟨hb8, ⟨_, _, _, _, _, _, _, z8⟩, hz8⟩ := HBX.out w8 hd8.st.box; obtain ⟨d0', d1', d2', d3', d4', d5'⟩ := HCB.out w8 hb8; obtain ⟨⟨ww0, ww1, ww2⟩, xx0, xx1⟩ := hd8.cells; clear hd8))
        have HOF : Hid (∀ W, Below w8.heap.size w8 W → Calls Try.prog 39 #[.pointer (some ⟨pw, 0, none⟩)] W fun e w' => e = .returned (.bool (t.act g l0 l1 a).P.off) ∧ Below W.heap.size W w') := by
          unfold Hid; intro W hW; refine (HD8.out.below hW).st.off.mono ?_; rintro e w' ⟨rfl, rfl⟩; exact ⟨rfl, Below.refl _ _⟩
        have hpo := HD8.out.power
        have hlX : X < w8.heap.size := block_lt_of_cell ww0
        have hlR : rp < w8.heap.size := block_lt_of_cell hpo
        have t0 := Held.cell ww0 hlX
        have t1 := Held.cell hpo hlR
        generalize t.act g l0 l1 a = t' at *
        generalize strOfNums ys = SS at *
        clear ww0 ww1 ww2 hpo v0 v1 v2 vv0 vv1 vv2
        have HPO : ∃ b : Bool, t'.P.off = b := ⟨_, rfl⟩
        obtain ⟨bo, hbo⟩ := HPO
        rw [hbo] at HOF t1
        clear hbo
        cases bo
        all_goals (
          go_wp2
          have hne : Nonempty (Held (Below w8.heap.size w8)) := ⟨⟨_, (Held.drew_below (Nat.le_refl _))⟩⟩
          refine wp_region_heldq (S := (Below w8.heap.size w8)) (by kernel_rfl) (by kernel_rfl) (Held.drew_below (Nat.le_refl _)) ?_
          repeat (go_big_quiet_step ((go_at_call 39; exact Calls.held_below (Nat.le_refl _) (HOF.out _ (Held.h _)))))
          refine wpQuiet_nil ?_
          intro _ hw'
          obtain ⟨sq, hw''⟩ := hw'
          subst hw''
          clear hne
          obtain ⟨W9, hW9⟩ := sq
          simp only
          go_wp2
          go_roundw
          case rel => exact ⟨k + 1, t', by omega, by go_num, Lib.hid (HD8.out.below hW9), HLN⟩
          case measure => simp [intOf]; omega)
      · obtain rfl : k = acts.length := by omega
        obtain ⟨⟨v0, v1, v2⟩, y0, y1⟩ := HD.out.cells
        obtain ⟨B, _, hd, _⟩ := HD.out.st.first
        obtain ⟨C, _, hr, _⟩ := HD.out.ref.first
        have HS0 := Lib.hid (same14_any hd hr (by have := HO.out.1; omega))
        clear hd hr x0 x1 x2 x3 x4 x5 x6
        go_wp2_with fail
        refine HS0.out.mono ?_
        rintro e w7 ⟨rfl, hb7⟩
        have hd7 := HD.out.below hb7
        obtain ⟨B2, _, hd, _⟩ := hd7.st.swap0
        obtain ⟨C2, _, hr, _⟩ := hd7.ref.second
        have HS1 := Lib.hid (same14_any hd hr (by have := HO.out.2; omega))
        have hb9 := hbr.trans (hb7.mono hbr.size)
        clear v0 v1 v2 y0 y1 hd hr
        obtain ⟨⟨v0, v1, v2⟩, y0, y1⟩ := hd7.cells
        clear hd7
        go_wp2_with fail
        refine HS1.out.mono ?_
        rintro e w8 ⟨rfl, hb8⟩
        go_wp2
        go_ret
        exact ⟨rfl, hb9.trans (hb8.mono hb9.size)⟩

set_option maxRecDepth 100000 in
theorem diskActs_lifted (os : Os) (started : os.Started) (H : Type) (enc : TypeId × Value → H) :
    ReturnsInHanded {} Try.checked os 9 .any (Rows.diskActsSpec.pre6 enc Try.prog Try.f9 Rows.diskActsRow.domain false) (Rows.diskActsSpec.post enc Try.prog Try.f9 false true false false) := by
  refine returnsInHanded_of_change (C := Try.checked) own started (by kernel_rfl) Try.func9
    (ChangeSpec.witness6 (enc := enc) (C := Try.checked) false ⟨#[], #[.agg #[.int .i64 0, .int .i64 0, .int .i64 0, .int .i64 0, .int .i64 0, .slice none 0 0, .slice none 0 0, .slice none 0 0]], []⟩ 8 (by kernel_rfl) (by kernel_rfl) (by kernel_rfl) (by kernel_rfl)) ?_
  intro W base args ds gs before hval0 hW hcnd _
  have hval : ∀ (j : Nat) t v, Try.f9.params[j]? = some t → args[j]? = some v → Value.okWide Try.prog W .any base t v := hval0
  have hW' := hW
  obtain ⟨p, q, hA0, hV, rfl, hfz, hnd⟩ := hW
  have hA : DataW.TrodAll enc Try.prog W 0 (fun _ => true) true Try.f9.params.toList args.toList ds p := hA0
  rw [Try.params9] at hA hval
  obtain ⟨v0, vs0, d0, ds0, p0, q0, hargs, rfl, rfl, h0, r0⟩ := trodAll_cons hA
  obtain ⟨rfl, rfl, rfl⟩ := trodAll_nil r0
  obtain rfl : args = #[v0] := by cases args; simp_all
  obtain ⟨rfl, rfl⟩ := trodVars_none hV
  have k0 := h0
  have lt0 : ∀ x ∈ p0, x.block < W.heap.size := by obtain ⟨m, hm⟩ := k0; exact DataW.trod_lt m _ _ _ hm
  obtain ⟨g, A0, A1, AA, l0, l1, acts, c0, c1, ca, rfl, hc⟩ := open_casev (hval 0 _ _ rfl rfl) h0
  clear hA0 hval0
  refine (diskActs_walk g A0 A1 AA l0 l1 acts c0 c1 ca W hc).mono fun e W' ⟨he, bel⟩ => ?_
  subst he
  exact ⟨_, rfl, _, _, _, [], _, [], hW', trodAll_mk1 (shut_bool Try.underlying4 _), (trodAll_cons_mk (Below.trod laidOut (by kernel_rfl) (of_decide_eq_true (by kernel_rfl)) k0 bel lt0) trodAll_mk0), rfl, bel.frame _, fun h => by cases h⟩

/-- The statement. -/
theorem diskActs_holds : Rows.DiskActsSaid :=
  OpenClaim.holds_of_wide 9 Try.f9 rfl rfl rfl rfl rfl rfl rfl ⟨rfl, rfl, rfl, rfl, rfl⟩ rfl rfl rfl rfl rfl (by kernel_rfl) Try.func9 (by kernel_rfl)
    (of_decide_eq_true (by kernel_rfl)) (by unfold Func.isWrapper; first | (rw [if_pos (by decide +kernel)]; kernel_rfl) | (rw [if_neg (by decide +kernel)]; exact ⟨rfl, rfl⟩))
    (fun os started H enc _ => diskActs_lifted os started H enc)
#print axioms diskActs_holds
end Go.Proofs.Ytckdhhadlemakaa
