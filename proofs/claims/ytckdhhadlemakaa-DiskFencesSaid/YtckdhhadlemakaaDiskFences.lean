/-
  WHAT IS SHOWN: tegulalaw14.DiskFences returns true for any case and key, and changes nothing. No condition.
-/
import Derived.Test.YtckdhhadlemakaaDisk31
namespace Go.Proofs.Ytckdhhadlemakaa
set_option linter.unusedVariables false
open Go.ChangeShapes Go.WideShapes Go.ChangeAt Go.RowKit

/-- While a disk waits for another key. -/
structure FenSt (P : Pow) : Prop where
  o : P.off = false
  a : P.armed = false
  f : P.fails = 0
def fenS (key : Int) : DS := { newS P0 with key := key }
theorem fen_call {P : Pow} (h : FenSt P) : FenSt (callP P) := by
  unfold callP trip; rw [h.a]; exact ⟨h.o, rfl, h.f⟩
theorem fen_beg {F : List Flt} {P : Pow} {key : Int} (h : FenSt P) (hk : ¬ key = 0) : begD F (fenS key) P 0 = ⟨17, fenS key, callP P, noF⟩ := by
  have h1 : stE (fenS key) P = 0 := by
    unfold stE fenS newS; simp only; rw [h.o, h.f]; rfl
  unfold begD
  rw [if_neg (by simp [h1]), if_neg (by rw [(fen_call h).o]; decide), if_pos (show (0 : Int) ≠ (fenS key).key from fun e => hk e.symm)]
theorem fen_start (key : Int) : acqS (newS P0) P0 key = fenS key := by
  unfold acqS; rw [if_pos (by decide +kernel)]; rfl
set_option maxRecDepth 100000 in
set_option maxHeartbeats 8000000 in
theorem diskFences_walk (g : Geo) (A0 A1 AA : Option Addr) (l0 l1 : List Flt) (acts : List ActV) (c0 c1 ca : Nat) (key : Int) (w : World) (hc : CaseIn w g A0 A1 AA l0 l1 acts) :
    Calls Try.prog 8 #[.agg #[.int .i64 g.random, .int .i64 g.bands, .int .i64 g.tracks, .int .i64 g.sectors, .int .i64 g.overlap, .slice A0 l0.length c0, .slice A1 l1.length c1, .slice AA acts.length ca], .int .u64 key] w fun e w' => e = .returned (.bool true) ∧ Below w.heap.size w w' := by
  have hb0 : Below w.heap.size w (w.alloc (.cells #[.int .i64 g.random, .int .i64 g.bands, .int .i64 g.tracks, .int .i64 g.sectors, .int .i64 g.overlap, .slice A0 l0.length c0, .slice A1 l1.length c1, .slice AA acts.length ca] 64)) := (Below.refl _ _).alloc (Nat.le_refl _) _
  have o0 := heap_alloc_new w (.cells #[.int .i64 g.random, .int .i64 g.bands, .int .i64 g.tracks, .int .i64 g.sectors, .int .i64 g.overlap, .slice A0 l0.length c0, .slice A1 l1.length c1, .slice AA acts.length ca] 64)
  have HBX : Hid (∀ W, Below (w.heap.size + 1) (w.alloc (.cells #[.int .i64 g.random, .int .i64 g.bands, .int .i64 g.tracks, .int .i64 g.sectors, .int .i64 g.overlap, .slice A0 l0.length c0, .slice A1 l1.length c1, .slice AA acts.length ca] 64)) W →
      Below w.heap.size w W ∧ (W.cell? ⟨w.heap.size, 0, none⟩ = some (.int .i64 g.random) ∧ W.cell? ⟨w.heap.size, 1, none⟩ = some (.int .i64 g.bands) ∧ W.cell? ⟨w.heap.size, 2, none⟩ = some (.int .i64 g.tracks) ∧ W.cell? ⟨w.heap.size, 3, none⟩ = some (.int .i64 g.sectors) ∧ W.cell? ⟨w.heap.size, 4, none⟩ = some (.int .i64 g.overlap) ∧
      W.cell? ⟨w.heap.size, 5, none⟩ = some (.slice A0 l0.length c0) ∧ W.cell? ⟨w.heap.size, 6, none⟩ = some (.slice A1 l1.length c1) ∧ W.cell? ⟨w.heap.size, 7, none⟩ = some (.slice AA acts.length ca)) ∧ w.heap.size + 1 ≤ W.heap.size) := by
    unfold Hid; intro W hW
    have q := belObj hW o0 (by omega)
    exact ⟨hb0.trans (hW.mono (by omega)), ⟨by rw [cell_of_row _ _ _ _ _ _ q]; rfl, by rw [cell_of_row _ _ _ _ _ _ q]; rfl, by rw [cell_of_row _ _ _ _ _ _ q]; rfl, by rw [cell_of_row _ _ _ _ _ _ q]; rfl, by rw [cell_of_row _ _ _ _ _ _ q]; rfl, by rw [cell_of_row _ _ _ _ _ _ q]; rfl, by rw [cell_of_row _ _ _ _ _ _ q]; rfl, by rw [cell_of_row _ _ _ _ _ _ q]; rfl⟩, by have := hW.size; simpa using this⟩
  have HFR : Hid (∀ W, Below w.heap.size w W → Calls Try.prog 35 #[.agg #[.int .i64 g.random, .int .i64 g.bands, .int .i64 g.tracks, .int .i64 g.sectors, .int .i64 g.overlap, .slice A0 l0.length c0, .slice A1 l1.length c1, .slice AA acts.length ca]] W fun e w' => e = .returned (.bool (fair14B g l0 l1 acts)) ∧ Below W.heap.size W w') := by
    unfold Hid; intro W hW
    exact fair14_any g l0 l1 acts A0 A1 AA c0 c1 ca W ((hc.f0.rd.below hW (Nat.le_refl _)).more hW.size) ((hc.f1.rd.below hW (Nat.le_refl _)).more hW.size) ((hc.a.rd.below hW (Nat.le_refl _)).more hW.size) hc.f0.n hc.f1.n hc.a.n (fun a ha => (hc.a.ok a ha).n)
  have hbc0 : Below (w.heap.size + 1) (w.alloc (.cells #[.int .i64 g.random, .int .i64 g.bands, .int .i64 g.tracks, .int .i64 g.sectors, .int .i64 g.overlap, .slice A0 l0.length c0, .slice A1 l1.length c1, .slice AA acts.length ca] 64)) (w.alloc (.cells #[.int .i64 g.random, .int .i64 g.bands, .int .i64 g.tracks, .int .i64 g.sectors, .int .i64 g.overlap, .slice A0 l0.length c0, .slice A1 l1.length c1, .slice AA acts.length ca] 64)) := Below.refl _ _
  have HC := Lib.hid hc
  clear hc o0
  cases hf : fair14B g l0 l1 acts
  · rw [hf] at HFR
    clear hf
    go_enter Try.func8, Try.ntmps8
    go_wp2_with fail
    refine (awake14_any _).mono ?_
    rintro e w1 ⟨rfl, hb1⟩
    have hbc1 := hb1
    rw [World.size_alloc] at hbc1
    obtain ⟨hbw1, ⟨x0, x1, x2, x3, x4, x5, x6, x7⟩, hz1⟩ := HBX.out w1 hbc1
    go_wp2_with fail
    refine (HFR.out _ hbw1).mono ?_
    rintro e w2 ⟨rfl, hb2⟩
    have hbc2 := hbc1.trans (hb2.mono hz1)
    try clear x0 x1 x2 x3 x4 x5 x6 x7
    obtain ⟨hbw2, ⟨x0, x1, x2, x3, x4, x5, x6, x7⟩, hz2⟩ := HBX.out w2 hbc2
    go_wp2_with fail
    refine (awake14_any _).mono ?_
    rintro e w3 ⟨rfl, hb3⟩
    have hbc3 := hbc2.trans (hb3.mono hz2)
    try clear x0 x1 x2 x3 x4 x5 x6 x7
    obtain ⟨hbw3, ⟨x0, x1, x2, x3, x4, x5, x6, x7⟩, hz3⟩ := HBX.out w3 hbc3
    go_wp2
    go_ret
    exact ⟨rfl, hbw3⟩
  · rw [hf] at HFR
    by_cases hk : key = 0
    · subst hk
      clear hf
      go_enter Try.func8, Try.ntmps8
      go_wp2_with fail
      refine (awake14_any _).mono ?_
      rintro e w1 ⟨rfl, hb1⟩
      have hbc1 := hb1
      rw [World.size_alloc] at hbc1
      obtain ⟨hbw1, ⟨x0, x1, x2, x3, x4, x5, x6, x7⟩, hz1⟩ := HBX.out w1 hbc1
      go_wp2_with fail
      refine (HFR.out _ hbw1).mono ?_
      rintro e w2 ⟨rfl, hb2⟩
      have hbc2 := hbc1.trans (hb2.mono hz1)
      try clear x0 x1 x2 x3 x4 x5 x6 x7
      obtain ⟨hbw2, ⟨x0, x1, x2, x3, x4, x5, x6, x7⟩, hz2⟩ := HBX.out w2 hbc2
      go_wp2_with fail
      refine (awake14_any _).mono ?_
      rintro e w3 ⟨rfl, hb3⟩
      have hbc3 := hbc2.trans (hb3.mono hz2)
      try clear x0 x1 x2 x3 x4 x5 x6 x7
      obtain ⟨hbw3, ⟨x0, x1, x2, x3, x4, x5, x6, x7⟩, hz3⟩ := HBX.out w3 hbc3
      go_wp2
      go_ret
      exact ⟨rfl, hbw3⟩
    · have e1 : (key == 0) = false := by simpa using hk
      obtain ⟨pg, _, pa60, p20, p21, psh, pv0, pv1⟩ := fair14_parts hf
      have HST : Hid (∀ W, Below w.heap.size w W → Calls Try.prog 36 #[.agg #[.int .i64 g.random, .int .i64 g.bands, .int .i64 g.tracks, .int .i64 g.sectors, .int .i64 g.overlap, .slice A0 l0.length c0, .slice A1 l1.length c1, .slice AA acts.length ca]] W (StartPost W g l0 l1)) := by
        unfold Hid; intro W hW
        exact start14_any g l0 l1 A0 A1 AA c0 c1 acts.length ca W ((HC.out.f0.rd.below hW (Nat.le_refl _)).more hW.size) ((HC.out.f1.rd.below hW (Nat.le_refl _)).more hW.size) pg pv0 pv1 (by omega) (by omega)
      have HON : Hid (∀ W, Below w.heap.size w W → Calls Try.prog 42 #[.slice AA acts.length ca] W fun e w' => ∃ A' c', e = .returned (.slice A' (onlyA acts).length c') ∧ w'.ownsRow W.heap.size 78 6 (.slice A' (onlyA acts).length c') (onlyA acts).length (flatA (onlyA acts)) ∧ Below W.heap.size W w') := by
        unfold Hid; intro W hW; exact only_any acts AA ca W ((HC.out.a.rd.below hW (Nat.le_refl _)).more hW.size) (by omega)
      have HIN : Hid (∀ a ∈ onlyA acts, ActIn w a ∧ a.xs.length ≤ 100 ∧ a.kind ≤ 3 ∧ a.key = 0) := by
        unfold Hid; intro a ha; exact ⟨onlyA_in HC.out.a.ok ha, onlyA_short psh ha, (onlyA_mem ha).1, (onlyA_mem ha).2.1⟩
      have HTO := Lib.hid HC.out.f0.to_
      have hn0 := HC.out.f0.n
      have HKY := Lib.hid hk
      have HOL := Lib.hid (onlyA_len acts)
      clear hf pg pv0 pv1 psh hk HC
      go_enter Try.func8, Try.ntmps8
      go_wp2_with fail
      refine (awake14_any _).mono ?_
      rintro e w1 ⟨rfl, hb1⟩
      have hbc1 := hb1
      rw [World.size_alloc] at hbc1
      obtain ⟨hbw1, ⟨x0, x1, x2, x3, x4, x5, x6, x7⟩, hz1⟩ := HBX.out w1 hbc1
      go_wp2_with fail
      refine (HFR.out _ hbw1).mono ?_
      rintro e w2 ⟨rfl, hb2⟩
      have hbc2 := hbc1.trans (hb2.mono hz1)
      try clear x0 x1 x2 x3 x4 x5 x6 x7
      obtain ⟨hbw2, ⟨x0, x1, x2, x3, x4, x5, x6, x7⟩, hz2⟩ := HBX.out w2 hbc2
      go_wp2_with fail
      refine (HST.out w2 hbw2).mono ?_
      rintro e w3 ⟨pw, q0, q1, rfl, htw, hb3⟩
      have hbc3 := hbc2.trans (hb3.mono hz2)
      have hpb := (Below.refl w3.heap.size w3).alloc (Nat.le_refl _) (.cells #[.pointer (some ⟨pw, 0, none⟩), .pointer (some ⟨q0, 0, none⟩), .pointer (some ⟨q1, 0, none⟩)] 68)
      have hpo := World.ownsRow_lit (base := 0) (e := 68) (size := 3) w3 #[.pointer (some ⟨pw, 0, none⟩), .pointer (some ⟨q0, 0, none⟩), .pointer (some ⟨q1, 0, none⟩)] 1 (Nat.zero_le _) (by decide) rfl
      obtain ⟨S0, S1, hsn, htw⟩ := htw
      have hbn2 := hbw2.size
      have hd3 := htw.a.below0 hpb
      obtain ⟨B, hBB⟩ : ∃ B : Bd, B = Bd.on w2.heap.size w3.heap.size S0 hsn := ⟨_, rfl⟩
      rw [← hBB] at hd3
      have hBn : B.n = w2.heap.size := by rw [hBB]; rfl
      have HAQ := Lib.hid (dacquire_any key hd3)
      have HL0 : Hid (∀ W, KeptT DAT B (w3.alloc (.cells #[.pointer (some ⟨pw, 0, none⟩), .pointer (some ⟨q0, 0, none⟩), .pointer (some ⟨q1, 0, none⟩)] 68)) W → Below (w.heap.size + 1) (w.alloc (.cells #[.int .i64 g.random, .int .i64 g.bands, .int .i64 g.tracks, .int .i64 g.sectors, .int .i64 g.overlap, .slice A0 l0.length c0, .slice A1 l1.length c1, .slice AA acts.length ca] 64)) W ∧ W.ownsRow 0 68 3 (.slice (some ⟨w3.heap.size, 0, none⟩) 1 1) 1 [.pointer (some ⟨pw, 0, none⟩), .pointer (some ⟨q0, 0, none⟩), .pointer (some ⟨q1, 0, none⟩)]) := by
        unfold Hid; intro W hW
        refine ⟨(hbc3.trans (hpb.mono (by have := hb3.size; omega))).trans ((hW.below (by rw [hBn]; have := hb3.size; have := hpb.size; omega)).mono (by rw [hBn]; exact hz2)), own_typed hpo hW (by unfold DAT; decide)⟩
      obtain ⟨hbw3, ⟨x0, x1, x2, x3, x4, x5, x6, x7⟩, hz3⟩ := HBX.out _ (hbc3.trans (hpb.mono (by have := hb3.size; omega)))
      clear hd3 htw hBB hpo
      have hk4 := KeptT.refl DAT B (w3.alloc (.cells #[.pointer (some ⟨pw, 0, none⟩), .pointer (some ⟨q0, 0, none⟩), .pointer (some ⟨q1, 0, none⟩)] 68))
      obtain ⟨_, hpo4⟩ := HL0.out _ hk4
      have y1 : (w3.alloc (.cells #[.pointer (some ⟨pw, 0, none⟩), .pointer (some ⟨q0, 0, none⟩), .pointer (some ⟨q1, 0, none⟩)] 68)).cell? ⟨w3.heap.size, 1, none⟩ = some (.pointer (some ⟨q0, 0, none⟩)) := (World.ownsRow.cellAt hpo4 1 (by decide)).trans rfl
      clear hk4 hpo4
      go_wp2_with fail
      refine HAQ.out.mono ?_
      rintro e w4 ⟨rfl, hd4, hk4⟩
      rw [fen_start] at hd4
      obtain ⟨hbc4, hpo4⟩ := HL0.out w4 hk4
      clear x0 x1 x2 x3 x4 x5 x6 x7 y1
      obtain ⟨hbw4, ⟨x0, x1, x2, x3, x4, x5, x6, x7⟩, hz4⟩ := HBX.out w4 hbc4
      have HON4 := Lib.hid (HON.out w4 hbw4)
      have HD4 := Lib.hid hd4
      have HP4 := Lib.hid hpo4
      have hst0 : stE (newS P0) P0 = 0 := by decide +kernel
      rw [hst0]
      clear hd4 hk4 hpo4 hst0
      go_wp2_with fail
      refine HON4.out.mono ?_
      rintro e w5 ⟨A', c', rfl, hrow, hb5⟩
      have HLP : Hid (LpW w w5 w3.heap.size pw q0 q1 (onlyA acts) A' c' 0) :=
        ⟨hbw4.trans (hb5.mono hbw4.size), own_kept HP4.out (belKept0 (S := fun _ => False) hb5) (fun _ _ h => h), _, own_mono hrow hbw4.size, fun _ _ => rfl⟩
      have HD5 := Lib.hid (HD4.out.below0 hb5)
      clear hrow x0 x1 x2 x3 x4 x5 x6 x7 HAQ HL0 HON HON4 HST HFR
      generalize w3.heap.size = X at *
      have hol := HOL.out
      generalize hno : onlyA acts = l at *
      have hln : l.length ≤ 60 := by omega
      go_wp2
      go_loopw [8, 9, 10] (fun s8 s9 s10 wr => ∃ (k : Nat) (P : Pow), k ≤ l.length ∧ s8 = .int .i64 k ∧ Hid (LpW w wr X pw q0 q1 l A' c' k) ∧ Hid (DPm wr B q0 pw g l0 (fenS key) P (blankL g) []) ∧ Hid (FenSt P)) (fun v _ _ _ => l.length - (intOf v).toNat)
      case atStart => exact ⟨0, P0, Nat.zero_le _, rfl, HLP, HD5, ⟨rfl, rfl, rfl⟩⟩
      case round =>
        obtain ⟨k, P, hk, rfl, HL, HD, HF⟩ := hrel
        by_cases hlt : k < l.length
        · obtain ⟨ga, rfl, hca, hfz⟩ := HL.out.act hlt
          obtain ⟨hl2, hkz, hcz⟩ := HL.out.zero hlt
          obtain ⟨hai, hax, hak, hkey⟩ := HIN.out l[k] (List.getElem_mem hlt)
          have HL2 := Lib.hid (hl2.below ((Below.refl _ _).drew))
          have hd2 := HD.out.types hkz (by decide) (by decide) (by decide) (by decide)
          have a0 := hca 0 _ rfl
          have b0 := hcz 0 _ rfl
          have b1 := hcz 1 _ rfl
          have b2 := hcz 2 _ rfl
          have b3 := hcz 3 _ rfl
          have b4 := hcz 4 _ rfl
          have b5 := hcz 5 _ rfl
          obtain ⟨u0, u1, u2⟩ := hl2.cells
          have hga : ¬ (B.has ga ∧ HasT DAT (wr.setCell ⟨ga, k * 6, none⟩ (.int .u8 0)).drew ga) := KeptT.no (hl2.below ((Below.refl _ _).drew)).typ (by unfold DAT; decide)
          simp only [Nat.add_zero] at a0 b0
          have k0 : (0 : Int) ≤ k := by omega
          have k1 : (k : Int) < l.length := by omega
          have hrd : Rd (wr.setCell ⟨ga, k * 6, none⟩ (.int .u8 0)).drew B.n l[k].A (l[k].xs.map (Value.int .u8)) := (hai.rd.below (hl2.bel.drew) (Nat.le_refl _)).more (by rw [hBn]; exact hbn2)
          obtain ⟨a, hae⟩ : ∃ a : ActV, a = { l[k] with disk := 0 } := ⟨_, rfl⟩
          have e1 : l[k].kind = a.kind := by rw [hae]
          have e2 : l[k].key = a.key := by rw [hae]
          have e3 : l[k].at_ = a.at_ := by rw [hae]
          have e4 : l[k].A = a.A := by rw [hae]
          have e5 : l[k].xs = a.xs := by rw [hae]
          have e6 : l[k].c = a.c := by rw [hae]
          have e7 : l[k].force = a.force := by rw [hae]
          have e8 : a.disk = 0 := by rw [hae]
          have hop := op_err (g := g) (F := l0) (d := ⟨fenS key, P, blankL g, []⟩) (a := a) (E := 17) (s' := fenS key) (P' := callP P) (f := noF) ⟨by rw [← e1]; exact hai.kd.1, by rw [← e1]; exact hak⟩ (by rw [← e2, hkey]; exact fen_beg HF.out HKY.out) (by decide)
          have hdo := ddo_any (q0 := q0) (q1 := q1) (d := ⟨fenS key, P, blankL g, []⟩) a (hd2.below0 ((Below.refl _ _).drew)) HTO.out hn0 (by simp) (.inl ⟨by rw [e8]; rfl, rfl⟩) (by rw [← e3]; exact hai.at_) (by rw [← e4, ← e5]; exact hrd) (by rw [← e5]; omega) (by rw [← e5, ← e6]; exact hai.c)
          unfold DoDPost at hdo
          rw [hop.1, hop.2, e8] at hdo
          have HDO := Lib.hid hdo
          have HF2 := Lib.hid (fen_call HF.out)
          simp only [e1, e2, e3, e4, e5, e6, e7] at b1 b2 b3 b4 b5
          clear hca hcz hai hax hak hkey hd2 hl2 hkz hop hdo hrd hae e1 e2 e3 e4 e5 e6 e7
          go_wp2
          go_region_held3 (fun W => (W.cell? ⟨X, 0, none⟩ = some (.pointer (some ⟨pw, 0, none⟩)) ∧ W.cell? ⟨X, 1, none⟩ = some (.pointer (some ⟨q0, 0, none⟩)) ∧ W.cell? ⟨X, 2, none⟩ = some (.pointer (some ⟨q1, 0, none⟩))) ∧ (W.cell? ⟨ga, k * 6, none⟩ = some (.int .u8 0) ∧ W.cell? ⟨ga, k * 6 + 1, none⟩ = some (.int .u8 a.kind) ∧ W.cell? ⟨ga, k * 6 + 2, none⟩ = some (.int .u64 a.key) ∧ W.cell? ⟨ga, k * 6 + 3, none⟩ = some (.int .i64 a.at_) ∧ W.cell? ⟨ga, k * 6 + 4, none⟩ = some (.slice a.A a.xs.length a.c) ∧ W.cell? ⟨ga, k * 6 + 5, none⟩ = some (.bool a.force)))
            (first | (refine ⟨⟨?_, ?_, ?_⟩, ?_, ?_, ?_, ?_, ?_, ?_⟩ <;> assumption) | (simp (maxDischargeDepth := 20) [World.cell?_alloc_some, *]; done))
            ((go_at_call 43
              refine HDO.out.mono ?_
              rintro e w5 ⟨rfl, hd5, hk5⟩
              have HD5 := Lib.hid hd5
              have HL5 := Lib.hid (HL2.out.typed hk5 (by rw [hBn]; exact hbn2) (by unfold DAT; decide) (by unfold DAT; decide))
              obtain ⟨v0, v1, v2⟩ := HL5.out.cells
              have z0 := Kept.cell hk5 b0 hga
              have z1 := Kept.cell hk5 b1 hga
              have z2 := Kept.cell hk5 b2 hga
              have z3 := Kept.cell hk5 b3 hga
              have z4 := Kept.cell hk5 b4 hga
              have z5 := Kept.cell hk5 b5 hga
              clear hd5 hk5))
          go_wp2
          go_roundw
          case rel => exact ⟨k + 1, callP P, by omega, by go_num, HL5, HD5, HF2⟩
          case measure => simp [intOf]; omega
        · obtain rfl : k = l.length := by omega
          obtain ⟨u0, u1, u2⟩ := HL.out.cells
          have hd9 := HD.out
          have hbl9 := HL.out.bel
          have HOP := Lib.hid (dops_any hd9)
          have HPE := Lib.hid (dpending_any hd9)
          have HSS := Lib.hid (dstats_any hd9)
          clear hd9
          go_wp2_with fail
          refine HOP.out.mono ?_
          rintro e w6 ⟨rfl, rfl⟩
          go_wp2_with fail
          refine HPE.out.mono ?_
          rintro e w7 ⟨rfl, rfl⟩
          go_wp2_with fail
          refine HSS.out.mono ?_
          rintro e w8 ⟨rfl, hb8⟩
          unfold fenS newS
          go_wp2
          go_ret
          exact ⟨by first | rfl | simp, hbl9.trans (hb8.mono hbl9.size)⟩

set_option maxRecDepth 100000 in
theorem diskFences_lifted (os : Os) (started : os.Started) (H : Type) (enc : TypeId × Value → H) :
    ReturnsInHanded {} Try.checked os 8 .any (Rows.diskFencesSpec.pre6 enc Try.prog Try.f8 Rows.diskFencesRow.domain false) (Rows.diskFencesSpec.post enc Try.prog Try.f8 false true false false) := by
  refine returnsInHanded_of_change (C := Try.checked) own started (by kernel_rfl) Try.func8
    (ChangeSpec.witness6 (enc := enc) (C := Try.checked) false ⟨#[], #[.agg #[.int .i64 0, .int .i64 0, .int .i64 0, .int .i64 0, .int .i64 0, .slice none 0 0, .slice none 0 0, .slice none 0 0], .int .u64 0], []⟩ 8 (by kernel_rfl) (by kernel_rfl) (by kernel_rfl) (by kernel_rfl)) ?_
  intro W base args ds gs before hval0 hW hcnd _
  have hval : ∀ (j : Nat) t v, Try.f8.params[j]? = some t → args[j]? = some v → Value.okWide Try.prog W .any base t v := hval0
  have hW' := hW
  obtain ⟨p, q, hA0, hV, rfl, hfz, hnd⟩ := hW
  have hA : DataW.TrodAll enc Try.prog W 0 (fun _ => true) true Try.f8.params.toList args.toList ds p := hA0
  rw [Try.params8] at hA hval
  obtain ⟨v0, vs0, d0, ds0, p0, q0, hargs, rfl, rfl, h0, r0⟩ := trodAll_cons hA
  obtain ⟨v1, vs1, d1, ds1, p1, q1, rfl, rfl, rfl, h1, r1⟩ := trodAll_cons r0
  obtain ⟨rfl, rfl, rfl⟩ := trodAll_nil r1
  obtain rfl : args = #[v0, v1] := by cases args; simp_all
  obtain ⟨rfl, rfl⟩ := trodVars_none hV
  have k0 := h0
  have lt0 : ∀ x ∈ p0, x.block < W.heap.size := by obtain ⟨m, hm⟩ := k0; exact DataW.trod_lt m _ _ _ hm
  have k1 := h1
  have lt1 : ∀ x ∈ p1, x.block < W.heap.size := by obtain ⟨m, hm⟩ := k1; exact DataW.trod_lt m _ _ _ hm
  obtain ⟨g, A0, A1, AA, l0, l1, acts, c0, c1, ca, rfl, hc⟩ := open_casev (hval 0 _ _ rfl rfl) h0
  obtain ⟨key, rfl, _⟩ := Go.WideShapes.okWide_int Try.underlying73 (hval 1 _ _ rfl rfl)
  clear hA0 hval0
  refine (diskFences_walk g A0 A1 AA l0 l1 acts c0 c1 ca key W hc).mono fun e W' ⟨he, bel⟩ => ?_
  subst he
  exact ⟨_, rfl, _, _, _, [], _, [], hW', trodAll_mk1 (shut_bool Try.underlying4 _), (trodAll_cons_mk (Below.trod laidOut (by kernel_rfl) (of_decide_eq_true (by kernel_rfl)) k0 bel lt0) (trodAll_cons_mk (Below.trod laidOut (by kernel_rfl) (of_decide_eq_true (by kernel_rfl)) k1 bel lt1) trodAll_mk0)), rfl, bel.frame _, fun h => by cases h⟩

/-- The statement. -/
theorem diskFences_holds : Rows.DiskFencesSaid :=
  OpenClaim.holds_of_wide 8 Try.f8 rfl rfl rfl rfl rfl rfl rfl ⟨rfl, rfl, rfl, rfl, rfl⟩ rfl rfl rfl rfl rfl (by kernel_rfl) Try.func8 (by kernel_rfl)
    (of_decide_eq_true (by kernel_rfl)) (by unfold Func.isWrapper; first | (rw [if_pos (by decide +kernel)]; kernel_rfl) | (rw [if_neg (by decide +kernel)]; exact ⟨rfl, rfl⟩))
    (fun os started H enc _ => diskFences_lifted os started H enc)
#print axioms diskFences_holds
end Go.Proofs.Ytckdhhadlemakaa
