/-
  WHAT IS SHOWN: tegulalaw14.DiskDurable returns true for any case and numbers, and changes nothing. No condition.
-/
import Derived.Test.YtckdhhadlemakaaDisk38
namespace Go.Proofs.Ytckdhhadlemakaa
set_option linter.unusedVariables false
open Go.ChangeShapes Go.WideShapes Go.ChangeAt Go.RowKit

def TS.new (g : Geo) : TS := ⟨newS P0, newS P0, P0, blankL g, blankL g, [], []⟩
set_option maxRecDepth 100000 in
set_option maxHeartbeats 8000000 in
theorem diskDurable_walk (g : Geo) (A0 A1 AA : Option Addr) (l0 l1 : List Flt) (acts : List ActV) (c0 c1 ca : Nat) (n keep : Int) (w : World) (hc : CaseIn w g A0 A1 AA l0 l1 acts) (hn : n ≤ 9223372036854775807) :
    Calls Try.prog 7 #[.agg #[.int .i64 g.random, .int .i64 g.bands, .int .i64 g.tracks, .int .i64 g.sectors, .int .i64 g.overlap, .slice A0 l0.length c0, .slice A1 l1.length c1, .slice AA acts.length ca], .int .i64 n, .int .i64 keep] w fun e w' => e = .returned (.bool true) ∧ Below w.heap.size w w' := by
  have hb0 : Below w.heap.size w (w.alloc (.cells #[.int .i64 g.random, .int .i64 g.bands, .int .i64 g.tracks, .int .i64 g.sectors, .int .i64 g.overlap, .slice none 0 0, .slice none 0 0, .slice AA acts.length ca] 64)) := (Below.refl _ _).alloc (Nat.le_refl _) _
  have o0 := heap_alloc_new w (.cells #[.int .i64 g.random, .int .i64 g.bands, .int .i64 g.tracks, .int .i64 g.sectors, .int .i64 g.overlap, .slice none 0 0, .slice none 0 0, .slice AA acts.length ca] 64)
  have HBX : Hid (∀ W, Below (w.heap.size + 1) (w.alloc (.cells #[.int .i64 g.random, .int .i64 g.bands, .int .i64 g.tracks, .int .i64 g.sectors, .int .i64 g.overlap, .slice none 0 0, .slice none 0 0, .slice AA acts.length ca] 64)) W →
      Below w.heap.size w W ∧ (W.cell? ⟨w.heap.size, 0, none⟩ = some (.int .i64 g.random) ∧ W.cell? ⟨w.heap.size, 1, none⟩ = some (.int .i64 g.bands) ∧ W.cell? ⟨w.heap.size, 2, none⟩ = some (.int .i64 g.tracks) ∧ W.cell? ⟨w.heap.size, 3, none⟩ = some (.int .i64 g.sectors) ∧ W.cell? ⟨w.heap.size, 4, none⟩ = some (.int .i64 g.overlap) ∧
      W.cell? ⟨w.heap.size, 5, none⟩ = some (.slice none 0 0) ∧ W.cell? ⟨w.heap.size, 6, none⟩ = some (.slice none 0 0) ∧ W.cell? ⟨w.heap.size, 7, none⟩ = some (.slice AA acts.length ca)) ∧ w.heap.size + 1 ≤ W.heap.size) := by
    unfold Hid; intro W hW
    have q := belObj hW o0 (by omega)
    exact ⟨hb0.trans (hW.mono (by omega)), ⟨by rw [cell_of_row _ _ _ _ _ _ q]; rfl, by rw [cell_of_row _ _ _ _ _ _ q]; rfl, by rw [cell_of_row _ _ _ _ _ _ q]; rfl, by rw [cell_of_row _ _ _ _ _ _ q]; rfl, by rw [cell_of_row _ _ _ _ _ _ q]; rfl, by rw [cell_of_row _ _ _ _ _ _ q]; rfl, by rw [cell_of_row _ _ _ _ _ _ q]; rfl, by rw [cell_of_row _ _ _ _ _ _ q]; rfl⟩, by have := hW.size; simpa using this⟩
  have HFR : Hid (∀ W, Below w.heap.size w W → Calls Try.prog 35 #[.agg #[.int .i64 g.random, .int .i64 g.bands, .int .i64 g.tracks, .int .i64 g.sectors, .int .i64 g.overlap, .slice none 0 0, .slice none 0 0, .slice AA acts.length ca]] W fun e w' => e = .returned (.bool (fair14B g [] [] acts)) ∧ Below W.heap.size W w') := by
    unfold Hid; intro W hW
    exact fair14_any g [] [] acts none none AA 0 0 ca W (Rd.nil_ _ _ _) (Rd.nil_ _ _ _) ((hc.a.rd.below hW (Nat.le_refl _)).more hW.size) (by simp) (by simp) hc.a.n (fun a ha => (hc.a.ok a ha).n)
  have hbc0 : Below (w.heap.size + 1) (w.alloc (.cells #[.int .i64 g.random, .int .i64 g.bands, .int .i64 g.tracks, .int .i64 g.sectors, .int .i64 g.overlap, .slice none 0 0, .slice none 0 0, .slice AA acts.length ca] 64)) (w.alloc (.cells #[.int .i64 g.random, .int .i64 g.bands, .int .i64 g.tracks, .int .i64 g.sectors, .int .i64 g.overlap, .slice none 0 0, .slice none 0 0, .slice AA acts.length ca] 64)) := Below.refl _ _
  have HC := Lib.hid hc
  clear hc o0
  cases hf : fair14B g [] [] acts
  · rw [hf] at HFR
    clear hf
    go_enter Try.func7, Try.ntmps7
    go_wp2_with fail
    refine (awake14_any _).mono ?_
    rintro e w1 ⟨rfl, hb1⟩
    have hbc1 := hb1
    rw [World.size_alloc] at hbc1
    obtain ⟨hbw1, ⟨x0, x1, x2, x3, x4, x5, x6, x7⟩, hz1⟩ := HBX.out w1 hbc1
    go_wp2_with fail
    refine (HFR.out _ hbw1).mono ?_
    rintro e w2 ⟨rfl, hb2⟩
    have hbc2 := hbc1.trans (hb2.mono hz1)
    try clear x0 x1 x2 x3 x4 x5 x6 x7
    obtain ⟨hbw2, ⟨x0, x1, x2, x3, x4, x5, x6, x7⟩, hz2⟩ := HBX.out w2 hbc2
    go_wp2_with fail
    refine (awake14_any _).mono ?_
    rintro e w3 ⟨rfl, hb3⟩
    have hbc3 := hbc2.trans (hb3.mono hz2)
    try clear x0 x1 x2 x3 x4 x5 x6 x7
    obtain ⟨hbw3, ⟨x0, x1, x2, x3, x4, x5, x6, x7⟩, hz3⟩ := HBX.out w3 hbc3
    go_wp2
    go_ret
    exact ⟨rfl, hbw3⟩
  · rw [hf] at HFR
    by_cases hn0 : n < 0
    · clear hf
      go_enter Try.func7, Try.ntmps7
      go_wp2_with fail
      refine (awake14_any _).mono ?_
      rintro e w1 ⟨rfl, hb1⟩
      have hbc1 := hb1
      rw [World.size_alloc] at hbc1
      obtain ⟨hbw1, ⟨x0, x1, x2, x3, x4, x5, x6, x7⟩, hz1⟩ := HBX.out w1 hbc1
      go_wp2_with fail
      refine (HFR.out _ hbw1).mono ?_
      rintro e w2 ⟨rfl, hb2⟩
      have hbc2 := hbc1.trans (hb2.mono hz1)
      try clear x0 x1 x2 x3 x4 x5 x6 x7
      obtain ⟨hbw2, ⟨x0, x1, x2, x3, x4, x5, x6, x7⟩, hz2⟩ := HBX.out w2 hbc2
      go_wp2_with fail
      refine (awake14_any _).mono ?_
      rintro e w3 ⟨rfl, hb3⟩
      have hbc3 := hbc2.trans (hb3.mono hz2)
      try clear x0 x1 x2 x3 x4 x5 x6 x7
      obtain ⟨hbw3, ⟨x0, x1, x2, x3, x4, x5, x6, x7⟩, hz3⟩ := HBX.out w3 hbc3
      go_wp2
      go_ret
      exact ⟨rfl, hbw3⟩
    have hn0' : 0 ≤ n := by omega
    obtain ⟨pg, _, pa60, p20, p21, psh, pv0, pv1⟩ := fair14_parts hf
    have HST : Hid (∀ W, Below w.heap.size w W → Calls Try.prog 36 #[.agg #[.int .i64 g.random, .int .i64 g.bands, .int .i64 g.tracks, .int .i64 g.sectors, .int .i64 g.overlap, .slice none 0 0, .slice none 0 0, .slice AA acts.length ca]] W (StartPost W g [] [])) := by
      unfold Hid; intro W hW
      exact start14_any g [] [] none none AA 0 0 acts.length ca W (Rd.nil_ _ _ _) (Rd.nil_ _ _ _) pg pv0 pv1 (by simp) (by simp)
    have HBG : Hid (∀ W, Below w.heap.size w W → Calls Try.prog 45 #[.agg #[.int .i64 g.random, .int .i64 g.bands, .int .i64 g.tracks, .int .i64 g.sectors, .int .i64 g.overlap, .slice none 0 0, .slice none 0 0, .slice AA acts.length ca]] W (BeginPost W g [] [])) := by
      unfold Hid; intro W hW
      exact begin14_any g [] [] none none AA 0 0 acts.length ca W (Rd.nil_ _ _ _) (Rd.nil_ _ _ _) pg pv0 pv1 (by simp) (by simp)
    have HON : Hid (∀ W, Below w.heap.size w W → Calls Try.prog 42 #[.slice AA acts.length ca] W fun e w' => ∃ A' c', e = .returned (.slice A' (onlyA acts).length c') ∧ w'.ownsRow W.heap.size 78 6 (.slice A' (onlyA acts).length c') (onlyA acts).length (flatA (onlyA acts)) ∧ Below W.heap.size W w') := by
      unfold Hid; intro W hW; exact only_any acts AA ca W ((HC.out.a.rd.below hW (Nat.le_refl _)).more hW.size) (by omega)
    have HIN : Hid (∀ a ∈ onlyA acts, ActIn w a ∧ a.xs.length ≤ 100 ∧ a.kind ≤ 3 ∧ a.key = 0) := by
      unfold Hid; intro a ha; exact ⟨onlyA_in HC.out.a.ok ha, onlyA_short psh ha, (onlyA_mem ha).1, (onlyA_mem ha).2.1⟩
    have HOL := Lib.hid (onlyA_len acts)
    have HSZ := Lib.hid (fun W => rsz_any g W)
    clear hf pg pv0 pv1 psh HC p20 p21
    go_enter Try.func7, Try.ntmps7
    go_wp2_with fail
    refine (awake14_any _).mono ?_
    rintro e w1 ⟨rfl, hb1⟩
    have hbc1 := hb1
    rw [World.size_alloc] at hbc1
    obtain ⟨hbw1, ⟨x0, x1, x2, x3, x4, x5, x6, x7⟩, hz1⟩ := HBX.out w1 hbc1
    go_wp2_with fail
    refine (HFR.out _ hbw1).mono ?_
    rintro e w2 ⟨rfl, hb2⟩
    have hbc2 := hbc1.trans (hb2.mono hz1)
    try clear x0 x1 x2 x3 x4 x5 x6 x7
    obtain ⟨hbw2, ⟨x0, x1, x2, x3, x4, x5, x6, x7⟩, hz2⟩ := HBX.out w2 hbc2
    go_wp2_with fail
    refine (HST.out w2 hbw2).mono ?_
    rintro e w3 ⟨pw, q0, q1, rfl, htw, hb3⟩
    have hbc3 := hbc2.trans (hb3.mono hz2)
    have hz3 := hb3.size
    have hpb := (Below.refl w3.heap.size w3).alloc (Nat.le_refl _) (.cells #[.pointer (some ⟨pw, 0, none⟩), .pointer (some ⟨q0, 0, none⟩), .pointer (some ⟨q1, 0, none⟩)] 68)
    have hpo := World.ownsRow_lit (base := 0) (e := 68) (size := 3) w3 #[.pointer (some ⟨pw, 0, none⟩), .pointer (some ⟨q0, 0, none⟩), .pointer (some ⟨q1, 0, none⟩)] 1 (Nat.zero_le _) (by decide) rfl
    have hs4 : StW (w.heap.size + 1) (w.alloc (.cells #[.int .i64 g.random, .int .i64 g.bands, .int .i64 g.tracks, .int .i64 g.sectors, .int .i64 g.overlap, .slice none 0 0, .slice none 0 0, .slice AA acts.length ca] 64)) (w3.alloc (.cells #[.pointer (some ⟨pw, 0, none⟩), .pointer (some ⟨q0, 0, none⟩), .pointer (some ⟨q1, 0, none⟩)] 68)) w3.heap.size pw q0 q1 w2.heap.size g [] [] (newS P0) (newS P0) P0 (blankL g) (blankL g) [] [] := ⟨hbc3.trans (hpb.mono (by omega)), hpo, htw.below hpb, hz2⟩
    have HS4 := Lib.hid hs4
    clear htw hpo hs4 hpb hbc3 hb3 x0 x1 x2 x3 x4 x5 x6 x7
    obtain ⟨hbw4, ⟨x0, x1, x2, x3, x4, x5, x6, x7⟩, hz4⟩ := HBX.out _ HS4.out.box
    go_wp2_with fail
    refine (HBG.out _ hbw4).mono ?_
    rintro e w5 ⟨rp, r0, r1, rfl, hrt, hb5⟩
    generalize w3.heap.size = X at *
    generalize w3.alloc (.cells #[.pointer (some ⟨pw, 0, none⟩), .pointer (some ⟨q0, 0, none⟩), .pointer (some ⟨q1, 0, none⟩)] 68) = w4 at *
    have hz5 := hb5.size
    have hpb := (Below.refl w5.heap.size w5).alloc (Nat.le_refl _) (.cells #[.pointer (some ⟨r0, 0, none⟩), .pointer (some ⟨r1, 0, none⟩)] 83)
    have hpo := World.ownsRow_lit (base := 0) (e := 83) (size := 2) w5 #[.pointer (some ⟨r0, 0, none⟩), .pointer (some ⟨r1, 0, none⟩)] 1 (Nat.zero_le _) (by decide) rfl
    have hdu : Duo (w.heap.size + 1) (w.alloc (.cells #[.int .i64 g.random, .int .i64 g.bands, .int .i64 g.tracks, .int .i64 g.sectors, .int .i64 g.overlap, .slice none 0 0, .slice none 0 0, .slice AA acts.length ca] 64)) (w5.alloc (.cells #[.pointer (some ⟨r0, 0, none⟩), .pointer (some ⟨r1, 0, none⟩)] 83)) X w5.heap.size pw q0 q1 w2.heap.size rp r0 r1 w4.heap.size g [] [] (TS.new g) (TS.new g) := ⟨(HS4.out.below hb5).below hpb, hpo, hrt.below hpb, hz4⟩
    have HDU := Lib.hid hdu
    have hnn : w.heap.size ≤ w2.heap.size := hbw2.size
    have hmm : w.heap.size ≤ w4.heap.size := hbw4.size
    obtain ⟨⟨v0, v1, v2⟩, y0, y1⟩ := hdu.cells
    clear hrt hpo hpb hdu hb5 HS4 HST HBG HFR x0 x1 x2 x3 x4 x5 x6 x7
    have hes : (w.alloc (.cells #[.int .i64 g.random, .int .i64 g.bands, .int .i64 g.tracks, .int .i64 g.sectors, .int .i64 g.overlap, .slice none 0 0, .slice none 0 0, .slice AA acts.length ca] 64)).heap.size = w.heap.size + 1 := World.size_alloc _ _
    go_wp2_with fail
    refine (HDU.out.arm n).mono ?_
    rintro e w6 ⟨rfl, hd6⟩
    generalize w5.heap.size = Y at *
    have HD6 := Lib.hid hd6
    clear hd6 HDU v0 v1 v2 y0 y1
    obtain ⟨⟨v0, v1, v2⟩, y0, y1⟩ := HD6.out.cells
    obtain ⟨hbw6, ⟨x0, x1, x2, x3, x4, x5, x6, x7⟩, hz6⟩ := HBX.out w6 HD6.out.st.box
    have HON6 := Lib.hid (HON.out w6 hbw6)
    go_wp2_with fail
    refine HON6.out.mono ?_
    rintro e w7 ⟨A', c', rfl, hrow, hb7⟩
    have HD7 := Lib.hid (HD6.out.below hb7)
    have HLP : Hid (LpW (w.alloc (.cells #[.int .i64 g.random, .int .i64 g.bands, .int .i64 g.tracks, .int .i64 g.sectors, .int .i64 g.overlap, .slice none 0 0, .slice none 0 0, .slice AA acts.length ca] 64)) w7 X pw q0 q1 (onlyA acts) A' c' 0) := by
      refine ⟨?_, HD7.out.st.var, _, own_mono hrow (by rw [hes]; exact hz6), fun _ _ => rfl⟩
      rw [hes]; exact HD7.out.st.box
    have HDS : Hid (DurSt n 0 { TS.new g with P := armP P0 n } (TS.new g)) := by
      refine ⟨rfl, rfl, rfl, ?_, ⟨rfl, rfl, rfl⟩, ⟨rfl, rfl, rfl⟩, ⟨Nat.le_refl _, Nat.le_refl _⟩, ⟨Nat.le_refl _, Nat.le_refl _⟩, by simpa using hn0'⟩
      show armP P0 n = _
      unfold armP P0
      simp [hn0']
    clear hrow x0 x1 x2 x3 x4 x5 x6 x7 v0 v1 v2 y0 y1 HD6 HON HON6 hb7 hbw6 hz6
    have hol := HOL.out
    generalize hno : onlyA acts = l at *
    have hln : l.length ≤ 60 := by omega
    go_wp2
    go_loopw [12, 13, 14] (fun s12 s13 s14 wr => ∃ (k : Nat) (t u : TS), k ≤ l.length ∧ s12 = .int .i64 k ∧ Hid (LpW (w.alloc (.cells #[.int .i64 g.random, .int .i64 g.bands, .int .i64 g.tracks, .int .i64 g.sectors, .int .i64 g.overlap, .slice none 0 0, .slice none 0 0, .slice AA acts.length ca] 64)) wr X pw q0 q1 l A' c' k) ∧ Hid (Duo (w.heap.size + 1) (w.alloc (.cells #[.int .i64 g.random, .int .i64 g.bands, .int .i64 g.tracks, .int .i64 g.sectors, .int .i64 g.overlap, .slice none 0 0, .slice none 0 0, .slice AA acts.length ca] 64)) wr X Y pw q0 q1 w2.heap.size rp r0 r1 w4.heap.size g [] [] t u) ∧ Hid (DurSt n k t u)) (fun v _ _ _ => l.length - (intOf v).toNat)
    case atStart => exact ⟨0, _, _, Nat.zero_le _, rfl, HLP, HD7, HDS⟩
    case round =>
      obtain ⟨k, t, u, hk, rfl, HL, HD, HS⟩ := hrel
      obtain ⟨hbr, ⟨x0, x1, x2, x3, x4, x5, x6, x7⟩, hzr⟩ := HBX.out wr HD.out.st.box
      by_cases hlt : k < l.length
      · obtain ⟨ga, rfl, hca, hfz⟩ := HL.out.act hlt
        obtain ⟨hl2, hkz, hcz⟩ := HL.out.zero hlt
        obtain ⟨hai, hax, hak, hkey⟩ := HIN.out l[k] (List.getElem_mem hlt)
        have hl3 := hl2.below ((Below.refl _ _).drew)
        have HL2 := Lib.hid hl3
        have HD2 := Lib.hid ((HD.out.typed hkz (by show _ ≤ (w.alloc (.cells #[.int .i64 g.random, .int .i64 g.bands, .int .i64 g.tracks, .int .i64 g.sectors, .int .i64 g.overlap, .slice none 0 0, .slice none 0 0, .slice AA acts.length ca] 64)).heap.size; rw [hes]; exact Nat.le_refl _) (by show (w.alloc (.cells #[.int .i64 g.random, .int .i64 g.bands, .int .i64 g.tracks, .int .i64 g.sectors, .int .i64 g.overlap, .slice none 0 0, .slice none 0 0, .slice AA acts.length ca] 64)).heap.size ≤ _; rw [hes]; exact hzr) (by decide) (by decide) (by decide) (by decide) (by decide) (by decide) (by decide) (by decide) (by decide)).below ((Below.refl _ _).drew))
        have hga : ∀ (ts : List TypeId) (C : Bd) W, LpW (w.alloc (.cells #[.int .i64 g.random, .int .i64 g.bands, .int .i64 g.tracks, .int .i64 g.sectors, .int .i64 g.overlap, .slice none 0 0, .slice none 0 0, .slice AA acts.length ca] 64)) W X pw q0 q1 l (some ⟨ga, 0, none⟩) c' (k + 1) → 78 ∉ ts → ¬ (C.has ga ∧ HasT ts W ga) := fun ts C W hW ht => KeptT.no hW.typ ht
        have HGA := Lib.hid hga
        obtain ⟨a, hae⟩ : ∃ a : ActV, a = { l[k] with disk := 0 } := ⟨_, rfl⟩
        have e1 : l[k].kind = a.kind := by rw [hae]
        have e2 : l[k].key = a.key := by rw [hae]
        have e3 : l[k].at_ = a.at_ := by rw [hae]
        have e4 : l[k].A = a.A := by rw [hae]
        have e5 : l[k].xs = a.xs := by rw [hae]
        have e6 : l[k].c = a.c := by rw [hae]
        have e7 : l[k].force = a.force := by rw [hae]
        have e8 : a.disk = 0 := by rw [hae]
        have a0 := hca 0 _ rfl
        have b0 := hcz 0 _ rfl
        have b1 := hcz 1 _ rfl
        have b2 := hcz 2 _ rfl
        have b3 := hcz 3 _ rfl
        have b4 := hcz 4 _ rfl
        have b5 := hcz 5 _ rfl
        simp only [Nat.add_zero] at a0 b0
        simp only [e1, e2, e3, e4, e5, e6, e7] at b1 b2 b3 b4 b5
        rw [e1] at hak
        have hkd : 0 ≤ a.kind := by rw [← e1]; exact hai.kd.1
        have hkey' : a.key = 0 := by rw [← e2]; exact hkey
        have hat : I64 a.at_ := by rw [← e3]; exact hai.at_
        have hrd : Rd w w.heap.size a.A (a.xs.map (Value.int .u8)) := by rw [← e4, ← e5]; exact hai.rd
        have hxl : a.xs.length ≤ 100 := by rw [← e5]; exact hax
        have hcc : a.xs.length ≤ a.c := by rw [← e5, ← e6]; exact hai.c
        have k0 : (0 : Int) ≤ k := by omega
        have k1 : (k : Int) < l.length := by omega
        have hbz := (HBX.out _ HD2.out.st.box).1
        have hls := HS.out.l
        have hls2 := HS.out.l2
        have HDO := Lib.hid (HD2.out.do0 a (by simp) (by simp) (by omega) e8 hat ((hrd.below hbz (Nat.le_refl _)).more hnn) (by omega) hcc)
        have HWA : Hid (∀ W t', Duo (w.heap.size + 1) (w.alloc (.cells #[.int .i64 g.random, .int .i64 g.bands, .int .i64 g.tracks, .int .i64 g.sectors, .int .i64 g.overlap, .slice none 0 0, .slice none 0 0, .slice AA acts.length ca] 64)) W X Y pw q0 q1 w2.heap.size rp r0 r1 w4.heap.size g [] [] t' u → Calls Try.prog 46 #[.pointer none, .agg #[.pointer (some ⟨r0, 0, none⟩), .pointer (some ⟨r1, 0, none⟩)], .agg #[.int .u8 0, .int .u8 a.kind, .int .u64 a.key, .int .i64 a.at_, .slice a.A a.xs.length a.c, .bool a.force]] W
            (fun e w' => e = .returned (.tuple #[.string (strOfNums (u.by_ g [] [] a)), .int .i64 (u.er g [] [] a)]) ∧ Duo (w.heap.size + 1) (w.alloc (.cells #[.int .i64 g.random, .int .i64 g.bands, .int .i64 g.tracks, .int .i64 g.sectors, .int .i64 g.overlap, .slice none 0 0, .slice none 0 0, .slice AA acts.length ca] 64)) w' X Y pw q0 q1 w2.heap.size rp r0 r1 w4.heap.size g [] [] t' (u.act g [] [] a) ∧ ∃ C : Bd, C.n = w4.heap.size ∧ KeptT RDT C W w')) := by
          unfold Hid; intro W t' hD
          exact hD.want0 a (by simp) (by simp) (by omega) hak e8 hat ((hrd.below (HBX.out W hD.st.box).1 (Nat.le_refl _)).more hmm) (by omega) hcc
        obtain ⟨u0, u1, u2⟩ := hl3.cells
        by_cases hkn : (k : Int) < n
        · have HX := Lib.hid (HS.out.step (g := g) (F1 := []) hn ⟨hkd, hak⟩ hkey' e8 hkn)
          have hne : (t.er g [] [] a == 13) = false := by simpa using HX.out.2
          generalize t.er g [] [] a = E at *
          generalize t.by_ g [] [] a = ys at *
          clear hca hcz hai hax hak hkey hl2 hl3 hkz hae e1 e2 e3 e4 e5 e6 e7 hat hrd hxl hcc hls hls2 hbz hkd hkey' hga
          go_wp2
          go_region_held3 (fun W => (W.cell? ⟨X, 0, none⟩ = some (.pointer (some ⟨pw, 0, none⟩)) ∧ W.cell? ⟨X, 1, none⟩ = some (.pointer (some ⟨q0, 0, none⟩)) ∧ W.cell? ⟨X, 2, none⟩ = some (.pointer (some ⟨q1, 0, none⟩))) ∧ (W.cell? ⟨ga, k * 6, none⟩ = some (.int .u8 0) ∧ W.cell? ⟨ga, k * 6 + 1, none⟩ = some (.int .u8 a.kind) ∧ W.cell? ⟨ga, k * 6 + 2, none⟩ = some (.int .u64 a.key) ∧ W.cell? ⟨ga, k * 6 + 3, none⟩ = some (.int .i64 a.at_) ∧ W.cell? ⟨ga, k * 6 + 4, none⟩ = some (.slice a.A a.xs.length a.c) ∧ W.cell? ⟨ga, k * 6 + 5, none⟩ = some (.bool a.force)))
            (first | (refine ⟨⟨?_, ?_, ?_⟩, ?_, ?_, ?_, ?_, ?_, ?_⟩ <;> assumption) | (simp (maxDischargeDepth := 20) [World.cell?_alloc_some, *]; done))
            ((go_at_call 43
              refine HDO.out.mono ?_
              rintro e w5 ⟨rfl, hd5, B5, hB5, hk5⟩
              have hl5 := HL2.out.typed hk5 (by rw [hB5, hes]; exact hz2) (by unfold DAT; decide) (by unfold DAT; decide)
              have HD5 := Lib.hid hd5
              have HL5 := Lib.hid hl5
              obtain ⟨⟨v0, v1, v2⟩, y0, y1⟩ := hd5.cells
              have z0 := Kept.cell hk5 b0 (HGA.out _ _ _ HL2.out (by unfold DAT; decide))
              have z1 := Kept.cell hk5 b1 (HGA.out _ _ _ HL2.out (by unfold DAT; decide))
              have z2 := Kept.cell hk5 b2 (HGA.out _ _ _ HL2.out (by unfold DAT; decide))
              have z3 := Kept.cell hk5 b3 (HGA.out _ _ _ HL2.out (by unfold DAT; decide))
              have z4 := Kept.cell hk5 b4 (HGA.out _ _ _ HL2.out (by unfold DAT; decide))
              have z5 := Kept.cell hk5 b5 (HGA.out _ _ _ HL2.out (by unfold DAT; decide))
              clear hd5 hk5 hl5))
          go_wp2
          have HWN := Lib.hid (HWA.out w5.drew _ (HD5.out.below ((Below.refl _ _).drew)))
          go_region_held3 (fun W => (W.cell? ⟨Y, 0, none⟩ = some (.pointer (some ⟨r0, 0, none⟩)) ∧ W.cell? ⟨Y, 1, none⟩ = some (.pointer (some ⟨r1, 0, none⟩))) ∧ (W.cell? ⟨ga, k * 6, none⟩ = some (.int .u8 0) ∧ W.cell? ⟨ga, k * 6 + 1, none⟩ = some (.int .u8 a.kind) ∧ W.cell? ⟨ga, k * 6 + 2, none⟩ = some (.int .u64 a.key) ∧ W.cell? ⟨ga, k * 6 + 3, none⟩ = some (.int .i64 a.at_) ∧ W.cell? ⟨ga, k * 6 + 4, none⟩ = some (.slice a.A a.xs.length a.c) ∧ W.cell? ⟨ga, k * 6 + 5, none⟩ = some (.bool a.force)))
            (first | (refine ⟨⟨?_, ?_⟩, ?_, ?_, ?_, ?_, ?_, ?_⟩ <;> assumption) | (simp (maxDischargeDepth := 20) [World.cell?_alloc_some, *]; done))
            ((go_at_call 46
              refine HWN.out.mono ?_
              rintro e w8 ⟨rfl, hd8, C8, hC8, hk8⟩
              have hl5 := HL5.out.below ((Below.refl _ _).drew)
              have hl8 := hl5.typed hk8 (by rw [hC8, hes]; exact hz4) (by unfold RDT; decide) (by unfold RDT; decide)
              have HD8 := Lib.hid hd8
              have HL8 := Lib.hid hl8
              obtain ⟨⟨vv0, vv1, vv2⟩, yy0, yy1⟩ := hd8.cells
              have zz0 := Kept.cell hk8 z0 (HGA.out _ _ _ hl5 (by unfold RDT; decide))
              have zz1 := Kept.cell hk8 z1 (HGA.out _ _ _ hl5 (by unfold RDT; decide))
              have zz2 := Kept.cell hk8 z2 (HGA.out _ _ _ hl5 (by unfold RDT; decide))
              have zz3 := Kept.cell hk8 z3 (HGA.out _ _ _ hl5 (by unfold RDT; decide))
              have zz4 := Kept.cell hk8 z4 (HGA.out _ _ _ hl5 (by unfold RDT; decide))
              have zz5 := Kept.cell hk8 z5 (HGA.out _ _ _ hl5 (by unfold RDT; decide))
              clear hd8 hk8 hl8 hl5))
          go_wp2
          go_roundw
          case rel => exact ⟨k + 1, _, _, by omega, by go_num, HL8, HD8, HX.out.1⟩
          case measure => simp [intOf]; omega
        · have hkn' : (k : Int) = n := by have := HS.out.n; omega
          have HX := Lib.hid (HS.out.trips (g := g) (F1 := []) ⟨hkd, hak⟩ hkey' e8 hkn')
          rw [HX.out.1] at HDO
          generalize t.by_ g [] [] a = ys at *
          clear hca hcz hai hax hak hkey hl2 hl3 hkz hae e1 e2 e3 e4 e5 e6 e7 hat hrd hxl hcc hls hls2 hbz hkd hkey' hga HWA hkn hkn'
          go_wp2
          go_region_held3 (fun W => (W.cell? ⟨X, 0, none⟩ = some (.pointer (some ⟨pw, 0, none⟩)) ∧ W.cell? ⟨X, 1, none⟩ = some (.pointer (some ⟨q0, 0, none⟩)) ∧ W.cell? ⟨X, 2, none⟩ = some (.pointer (some ⟨q1, 0, none⟩))) ∧ (W.cell? ⟨ga, k * 6, none⟩ = some (.int .u8 0) ∧ W.cell? ⟨ga, k * 6 + 1, none⟩ = some (.int .u8 a.kind) ∧ W.cell? ⟨ga, k * 6 + 2, none⟩ = some (.int .u64 a.key) ∧ W.cell? ⟨ga, k * 6 + 3, none⟩ = some (.int .i64 a.at_) ∧ W.cell? ⟨ga, k * 6 + 4, none⟩ = some (.slice a.A a.xs.length a.c) ∧ W.cell? ⟨ga, k * 6 + 5, none⟩ = some (.bool a.force)))
            (first | (refine ⟨⟨?_, ?_, ?_⟩, ?_, ?_, ?_, ?_, ?_, ?_⟩ <;> assumption) | (simp (maxDischargeDepth := 20) [World.cell?_alloc_some, *]; done))
            ((go_at_call 43
              refine HDO.out.mono ?_
              rintro e w5 ⟨rfl, hd5, B5, hB5, hk5⟩
              have hl5 := HL2.out.typed hk5 (by rw [hB5, hes]; exact hz2) (by unfold DAT; decide) (by unfold DAT; decide)
              have HD5 := Lib.hid hd5
              have HL5 := Lib.hid hl5
              obtain ⟨⟨v0, v1, v2⟩, y0, y1⟩ := hd5.cells
              have z0 := Kept.cell hk5 b0 (HGA.out _ _ _ HL2.out (by unfold DAT; decide))
              have z1 := Kept.cell hk5 b1 (HGA.out _ _ _ HL2.out (by unfold DAT; decide))
              have z2 := Kept.cell hk5 b2 (HGA.out _ _ _ HL2.out (by unfold DAT; decide))
              have z3 := Kept.cell hk5 b3 (HGA.out _ _ _ HL2.out (by unfold DAT; decide))
              have z4 := Kept.cell hk5 b4 (HGA.out _ _ _ HL2.out (by unfold DAT; decide))
              have z5 := Kept.cell hk5 b5 (HGA.out _ _ _ HL2.out (by unfold DAT; decide))
              clear hd5 hk5 hl5))
          rw [HX.out.2] at HD5
          have HR := Lib.hid (HS.out)
          have HF5 := Lib.hid HD5.out.st.off
          have hls := HS.out.l
          have HRS : Hid (rstE t.s0 ⟨true, false, -1, 1⟩ = 0 ∧ rstS t.s0 ⟨true, false, -1, 1⟩ = { t.s0 with seen := 1 } ∧ rstLM g t.s0 ⟨true, false, -1, 1⟩ t.L0 t.O0 keep = playL g t.L0 (t.O0.take (cutN keep t.O0.length)) ∧ rstO t.s0 ⟨true, false, -1, 1⟩ t.O0 = []) := by
            have h0 : rstE t.s0 ⟨true, false, -1, 1⟩ = 0 := by unfold rstE; rw [HS.out.d.1]; rfl
            unfold Hid rstS rstLM rstO; rw [h0]; exact ⟨rfl, rfl, rfl, rfl⟩
          have HAF : Hid (AftSt { t.s0 with seen := 1 } ⟨false, false, -1, 1⟩) := ⟨⟨HS.out.d.1, HS.out.d.2.1, rfl, rfl⟩, rfl⟩
          clear b0 b1 b2 b3 b4 b5 z0 z1 z2 z3 z4 z5 HL5 HL2 HD2 HDO HGA
          go_wp2_with fail
          refine HF5.out.mono ?_
          rintro e w6 ⟨rfl, rfl⟩
          go_wp2_with fail
          refine (HD5.out.restart0 keep (by show t.O0.length ≤ 100000; omega)).mono ?_
          rintro e w7 ⟨rfl, hd7⟩
          simp only at hd7
          rw [HRS.out.2.1, HRS.out.2.2.1, HRS.out.2.2.2] at hd7
          simp only
          rw [HRS.out.1]
          have HD7 := Lib.hid hd7
          obtain ⟨⟨v0, v1, v2⟩, y0, y1⟩ := hd7.cells
          clear hd7 HF5
          go_wp2_with fail
          refine HD7.out.on.mono ?_
          rintro e w8 ⟨rfl, hd8⟩
          simp only at hd8
          obtain ⟨⟨v0, v1, v2⟩, y0, y1⟩ := hd8.cells
          obtain ⟨p, p5, _, _, hcut⟩ := hd8.cache (by have := HS.out.l2; omega)
          have HCU := Lib.hid (hcut keep)
          clear hd8 hcut HD7
          go_wp2_with fail
          refine HCU.out.mono ?_
          rintro e w9 ⟨rfl, hd9⟩
          have hLu : u.L0 = t.L0 := HS.out.L.symm
          have hOu : u.O0 = t.O0 := HS.out.O.symm
          rw [hLu, hOu] at hd9
          generalize playL g t.L0 (t.O0.take (cutN keep t.O0.length)) = LX at *
          have HD9 := Lib.hid hd9
          have hfit := hd9.fit
          simp only at hfit
          clear hd9 HCU HD5 hLu hOu p5 y0 y1 v0 v1 v2 hls x0 x1 x2 x3 x4 x5 x6 x7
          go_wp2
          go_loopw [16, 17, 18, 19, 20] (fun s16 s17 s18 s19 s20 wr => ∃ (j : Nat) (s : DS) (P : Pow), j ≤ LX.length ∧ s16 = .int .i64 j ∧ Hid (Duo (w.heap.size + 1) (w.alloc (.cells #[.int .i64 g.random, .int .i64 g.bands, .int .i64 g.tracks, .int .i64 g.sectors, .int .i64 g.overlap, .slice none 0 0, .slice none 0 0, .slice AA acts.length ca] 64)) wr X Y pw q0 q1 w2.heap.size rp r0 r1 w4.heap.size g [] [] ⟨s, t.s1, P, LX, t.L1, [], t.O1⟩ { u with L0 := LX, O0 := [] }) ∧ Hid (AftSt s P)) (fun v _ _ _ _ _ => LX.length - (intOf v).toNat)
          case atStart => exact ⟨0, _, _, Nat.zero_le _, rfl, HD9, HAF⟩
          case round =>
            obtain ⟨j, s, P, hj, rfl, HDJ, HA⟩ := hrel
            obtain ⟨hbj, ⟨x0, x1, x2, x3, x4, x5, x6, x7⟩, hzj⟩ := HBX.out wr HDJ.out.st.box
            obtain ⟨⟨v0, v1, v2⟩, y0, y1⟩ := HDJ.out.cells
            have HSJ := HSZ.out wr
            rw [hfit] at HSJ
            have HSJ := Lib.hid HSJ
            go_wp2_with fail
            refine HSJ.out.mono ?_
            rintro e wa ⟨rfl, hba⟩
            have hda := HDJ.out.below hba
            have HDA := Lib.hid hda
            clear x0 x1 x2 x3 x4 x5 x6 x7 v0 v1 v2 y0 y1
            obtain ⟨hbwa, ⟨x0, x1, x2, x3, x4, x5, x6, x7⟩, hza⟩ := HBX.out wa hda.st.box
            obtain ⟨⟨v0, v1, v2⟩, y0, y1⟩ := hda.cells
            by_cases hjl : j < LX.length
            · have hjl' : (j : Int) < LX.length := by omega
              have hin : inL LX (j : Int) = true := (inL_iff _ _).2 ⟨by omega, hjl'⟩
              obtain ⟨f1, f2, f3⟩ := aft_read (a := (j : Int)) HA.out hin
              have hrd := hda.read0 (j : Int) (by simp)
              simp only [show playL g LX [] = LX from rfl] at hrd
              rw [f1, f2] at hrd
              have HRD := Lib.hid hrd
              have HA3 := Lib.hid f3
              generalize dRdS [] s P LX LX 0 (j : Int) = s3 at *
              generalize (begD [] s P 0).P = P3 at *
              clear hda hrd f1 f2 f3 hin
              have HNS := Lib.hid (norm_str (readB LX (j : Int)))
              go_wp2_with fail
              refine HRD.out.mono ?_
              rintro e wb ⟨v, rfl, hv, hdb⟩
              have HDB := Lib.hid hdb
              clear v0 v1 v2 y0 y1
              obtain ⟨⟨v0, v1, v2⟩, y0, y1⟩ := hdb.cells
              obtain ⟨p, p5, _, hcr, _⟩ := hdb.cache (by simp)
              have HCR := hcr (j : Int)
              simp only [show playL g LX [] = LX from rfl] at HCR
              have HCR := Lib.hid HCR
              clear hdb hcr HRD
              go_wp2_with fail
              refine HCR.out.mono ?_
              rintro e wc ⟨v', rfl, hv', hbc⟩
              have HDC := Lib.hid (HDB.out.below hbc)
              obtain ⟨A1, k1', rfl, hr1, _⟩ := hv.kept (belKept0 (S := fun _ => False) hbc) (Free.none _ _)
              obtain ⟨A2, k2', rfl, hr2, _⟩ := hv'
              have cv1 := conv_bytes k1' hr1.rd
              have cv2 := conv_bytes k2' hr2.rd
              rw [HNS.out] at cv2
              generalize readE LX (j : Int) = E at *
              clear hv hr1 hr2 p5 HCR HDA HDJ
              generalize strOfNums (readB LX (j : Int)) = SS at *
              go_wp2
              go_roundw
              case rel => exact ⟨j + 1, s3, P3, by omega, by go_num, HDC, HA3⟩
              case measure => simp [intOf]; omega
            · have hjl' : ¬ ((j : Int) < LX.length) := by omega
              clear hda
              go_wp2_with fail
              refine HDA.out.pending0.mono ?_
              rintro e wb ⟨rfl, rfl⟩
              go_wp2
              go_ret
              exact ⟨by first | rfl | simp, hbwa⟩
      · obtain rfl : k = l.length := by omega
        have HPO : Hid (t.P.off = false) := by unfold Hid; rw [HS.out.p]
        have HF5 := Lib.hid HD.out.st.off
        have hle := HS.out.n
        obtain ⟨⟨v0, v1, v2⟩, y0, y1⟩ := HD.out.cells
        rw [HPO.out] at HF5
        clear x0 x1 x2 x3 x4 x5 x6 x7 HL
        go_wp2_with fail
        refine HF5.out.mono ?_
        rintro e w6 ⟨rfl, rfl⟩
        go_wp2
        go_ret
        exact ⟨by first | rfl | (simp; omega) | (simp; done), hbr⟩

set_option maxRecDepth 100000 in
theorem diskDurable_lifted (os : Os) (started : os.Started) (H : Type) (enc : TypeId × Value → H) :
    ReturnsInHanded {} Try.checked os 7 .any (Rows.diskDurableSpec.pre6 enc Try.prog Try.f7 Rows.diskDurableRow.domain false) (Rows.diskDurableSpec.post enc Try.prog Try.f7 false true false false) := by
  refine returnsInHanded_of_change (C := Try.checked) own started (by kernel_rfl) Try.func7
    (ChangeSpec.witness6 (enc := enc) (C := Try.checked) false ⟨#[], #[.agg #[.int .i64 0, .int .i64 0, .int .i64 0, .int .i64 0, .int .i64 0, .slice none 0 0, .slice none 0 0, .slice none 0 0], .int .i64 0, .int .i64 0], []⟩ 8 (by kernel_rfl) (by kernel_rfl) (by kernel_rfl) (by kernel_rfl)) ?_
  intro W base args ds gs before hval0 hW hcnd _
  have hval : ∀ (j : Nat) t v, Try.f7.params[j]? = some t → args[j]? = some v → Value.okWide Try.prog W .any base t v := hval0
  have hW' := hW
  obtain ⟨p, q, hA0, hV, rfl, hfz, hnd⟩ := hW
  have hA : DataW.TrodAll enc Try.prog W 0 (fun _ => true) true Try.f7.params.toList args.toList ds p := hA0
  rw [Try.params7] at hA hval
  obtain ⟨v0, vs0, d0, ds0, p0, q0, hargs, rfl, rfl, h0, r0⟩ := trodAll_cons hA
  obtain ⟨v1, vs1, d1, ds1, p1, q1, rfl, rfl, rfl, h1, r1⟩ := trodAll_cons r0
  obtain ⟨v2, vs2, d2, ds2, p2, q2, rfl, rfl, rfl, h2, r2⟩ := trodAll_cons r1
  obtain ⟨rfl, rfl, rfl⟩ := trodAll_nil r2
  obtain rfl : args = #[v0, v1, v2] := by cases args; simp_all
  obtain ⟨rfl, rfl⟩ := trodVars_none hV
  have k0 := h0
  have lt0 : ∀ x ∈ p0, x.block < W.heap.size := by obtain ⟨m, hm⟩ := k0; exact DataW.trod_lt m _ _ _ hm
  have k1 := h1
  have lt1 : ∀ x ∈ p1, x.block < W.heap.size := by obtain ⟨m, hm⟩ := k1; exact DataW.trod_lt m _ _ _ hm
  have k2 := h2
  have lt2 : ∀ x ∈ p2, x.block < W.heap.size := by obtain ⟨m, hm⟩ := k2; exact DataW.trod_lt m _ _ _ hm
  obtain ⟨g, A0, A1, AA, l0, l1, acts, c0, c1, ca, rfl, hc⟩ := open_casev (hval 0 _ _ rfl rfl) h0
  obtain ⟨nn, rfl, wn, wn2, wn3⟩ := open_int Try.underlying3 (hval 1 _ _ rfl rfl) h1
  obtain ⟨kp, rfl, _⟩ := Go.WideShapes.okWide_int Try.underlying3 (hval 2 _ _ rfl rfl)
  clear hA0 hval0
  refine (diskDurable_walk g A0 A1 AA l0 l1 acts c0 c1 ca nn kp W hc (i64_of wn3).2).mono fun e W' ⟨he, bel⟩ => ?_
  subst he
  exact ⟨_, rfl, _, _, _, [], _, [], hW', trodAll_mk1 (shut_bool Try.underlying4 _), (trodAll_cons_mk (Below.trod laidOut (by kernel_rfl) (of_decide_eq_true (by kernel_rfl)) k0 bel lt0) (trodAll_cons_mk (Below.trod laidOut (by kernel_rfl) (of_decide_eq_true (by kernel_rfl)) k1 bel lt1) (trodAll_cons_mk (Below.trod laidOut (by kernel_rfl) (of_decide_eq_true (by kernel_rfl)) k2 bel lt2) trodAll_mk0))), rfl, bel.frame _, fun h => by cases h⟩

/-- The statement. -/
theorem diskDurable_holds : Rows.DiskDurableSaid :=
  OpenClaim.holds_of_wide 7 Try.f7 rfl rfl rfl rfl rfl rfl rfl ⟨rfl, rfl, rfl, rfl, rfl⟩ rfl rfl rfl rfl rfl (by kernel_rfl) Try.func7 (by kernel_rfl)
    (of_decide_eq_true (by kernel_rfl)) (by unfold Func.isWrapper; first | (rw [if_pos (by decide +kernel)]; kernel_rfl) | (rw [if_neg (by decide +kernel)]; exact ⟨rfl, rfl⟩))
    (fun os started H enc _ => diskDurable_lifted os started H enc)
#print axioms diskDurable_holds
end Go.Proofs.Ytckdhhadlemakaa
