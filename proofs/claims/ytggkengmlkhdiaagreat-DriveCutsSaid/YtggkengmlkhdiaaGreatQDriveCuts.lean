/-
  WHAT IS SHOWN: behind several power failures, each with a restart and Open, every block shows an entry that is permitted, and the drive can be written again (DriveCuts), for any case. Conditions: none.
-/
import Derived.Test.YtggkengmlkhdiaaGreatM49
namespace Go.Proofs.YtggkengmlkhdiaaGreat
set_option linter.unusedVariables false
open Go.ChangeShapes Go.WideShapes Go.ChangeAt Go.RowKit Go.Deep

def cellsP (x : Int × Int) : List Value := [.int .u8 x.1, .int .u8 x.2]
def flatP (l : List (Int × Int)) : List Value := l.flatMap cellsP
theorem flatP_len (l : List (Int × Int)) : (flatP l).length = l.length * 2 := flat_len cellsP 2 (fun _ => rfl) l
structure PairsIn (w : World) (A : Option Addr) (l : List (Int × Int)) : Prop where
  rd : Rd w w.heap.size A (flatP l)
  ok : ∀ x ∈ l, (0 ≤ x.1 ∧ x.1 ≤ 255) ∧ 0 ≤ x.2 ∧ x.2 ≤ 255
  big : l.length ≤ 9223372036854775807
set_option maxRecDepth 100000 in
theorem cellsU2 : Tryz.prog.cellsOf 81 = 2 := by kernel_rfl
section
variable {H : Type} {enc : TypeId × Value → H} {w : World} {base : Nat} {spare : Nat → Bool} {held : Bool}
set_option maxRecDepth 100000 in
theorem open_pair {fuel : Nat} {cs : List Value} {y : DataW H × List MemPlace} (hcs : cs.length = 2) (h : DataW.trod enc Tryz.prog w base spare held fuel 81 cs = some y) : ∃ x : Int × Int, cs = cellsP x ∧ (0 ≤ x.1 ∧ x.1 ≤ 255) ∧ 0 ≤ x.2 ∧ x.2 ≤ 255 := by
  match cs, hcs with
  | [c0, c1], _ =>
    obtain ⟨xs, k, _, _, _, hxl, hf⟩ := DataW.trod_array Tryz.underlying81 h
    match xs, hxl with
    | [x0, x1], _ =>
      have f0 : DataW.trod enc Tryz.prog w base spare held k 5 (([c0, c1].drop (0 * Tryz.prog.cellsOf 5)).take (Tryz.prog.cellsOf 5)) = some x0 := hf 0 (by decide)
      have f1 : DataW.trod enc Tryz.prog w base spare held k 5 (([c0, c1].drop (1 * Tryz.prog.cellsOf 5)).take (Tryz.prog.cellsOf 5)) = some x1 := hf 1 (by decide)
      rw [cellsU8] at f0 f1
      obtain ⟨n0, e0, _, w0⟩ := DataW.trod_int Tryz.underlying5 f0
      obtain ⟨n1, e1, _, w1⟩ := DataW.trod_int Tryz.underlying5 f1
      simp at e0 e1
      subst e0; subst e1
      exact ⟨(n0, n1), rfl, u8_of w0, u8_of w1⟩
set_option maxRecDepth 100000 in
theorem open_pairs {fuel : Nat} {v : Value} {y : DataW H × List MemPlace} (h : DataW.trod enc Tryz.prog w base spare held fuel 80 [v] = some y) : ∃ A l c, v = .slice A l.length c ∧ PairsIn w A l := by
  rcases open_slice Tryz.underlying80 h with ⟨hcs, _⟩ | ⟨a, len, cap, m, n, D, Pl, hcs, _, hl, hm, hmm, hx, hel⟩
  · simp at hcs
    subst hcs
    exact ⟨none, [], 0, rfl, Rd.nil_ _ _ _, by simp, by simp⟩
  · simp at hcs
    subst hcs
    have hlm : len ≤ m := by rw [hmm]; split <;> omega
    obtain ⟨l, hll, hq⟩ := list_of (Q := fun i (o : Int × Int) => ((0 ≤ o.1 ∧ o.1 ≤ 255) ∧ 0 ≤ o.2 ∧ o.2 ≤ 255) ∧ ∀ t u, (cellsP o)[t]? = some u → w.cell? (a.add (i * 2 + t)) = some u) len (fun i hi => by
      obtain ⟨cs', hc, ht⟩ := hel i (by omega)
      rw [cellsU2] at hc
      obtain ⟨_, hcl, hat⟩ := World.cells?_some hc
      obtain ⟨o, rfl, h1⟩ := open_pair hcl ht
      refine ⟨o, h1, fun t u hu => ?_⟩
      have ht3 : t < 2 := (List.getElem?_eq_some_iff.1 hu).1
      rw [← Go.Deep.add_add, hat t ht3]
      exact hu)
    refine ⟨some a, l, cap, by rw [hll], rd_of_add fun j u hu => ?_, fun b hb => ?_, by unfold maxLen at hm; omega⟩
    · have hj : j < l.length * 2 := by rw [← flatP_len]; exact (List.getElem?_eq_some_iff.1 hu).1
      have hj4 : j = j / 2 * 2 + j % 2 := by omega
      rw [hj4] at hu
      unfold flatP at hu
      rw [flat_get _ 2 (fun _ => rfl) l _ _ (by omega), List.getElem?_eq_getElem (show j / 2 < l.length by omega)] at hu
      have := (hq (j / 2) _ (List.getElem?_eq_getElem (by omega))).2 (j % 2) u hu
      rw [hj4]; exact this
    · obtain ⟨i, hi⟩ := List.mem_iff_getElem?.1 hb
      exact (hq i b hi).1
end
theorem pairs_at {w : World} {B : Nat} {A : Option Addr} {l : List (Int × Int)} (h : Rd w B A (flatP l)) {k : Nat} {x : Int × Int} (hk : l[k]? = some x) : ∃ ga oa, A = some ⟨ga, oa, none⟩ ∧ ga < B ∧ w.cell? ⟨ga, oa + k * 2, none⟩ = some (.int .u8 x.1) ∧ w.cell? ⟨ga, oa + k * 2 + 1, none⟩ = some (.int .u8 x.2) := by
  have e : ∀ t, t < 2 → (flatP l)[k * 2 + t]? = (cellsP x)[t]? := fun t ht => by
    unfold flatP; rw [flat_get _ 2 (fun _ => rfl) l k t ht, hk]; rfl
  obtain ⟨g, o, e0, hg, h0⟩ := h (k * 2 + 0) _ (e 0 (by omega))
  obtain ⟨g1, o1, e1, _, h1⟩ := h (k * 2 + 1) _ (e 1 (by omega))
  rw [e0] at e1
  injection e1 with e1; injection e1 with e1 e1'; subst e1; subst e1'
  exact ⟨g, o, e0, hg, h0, h1⟩
set_option maxRecDepth 100000 in
set_option maxHeartbeats 16000000 in
theorem driveCuts_walk (g : Geo) (nb : Int) (A0 A1 A2 : Option Addr) (F : List Flt) (acts : List Act20) (l : List (Int × Int)) (c0 c1 c2 : Nat) (w : World) (hc : Case20In w g nb A0 A1 F acts) (hp : PairsIn w A2 l) :
    Calls Tryz.prog 12 #[.agg #[.int .i64 g.random, .int .i64 g.bands, .int .i64 g.tracks, .int .i64 g.sectors, .int .i64 g.overlap, .int .i64 nb, .slice A0 F.length c0, .slice A1 acts.length c1], .slice A2 l.length c2] w fun e w' => e = .returned (.bool true) ∧ Below w.heap.size w w' := by
  have HP := Lib.hid hp
  clear hp
  have hO0 : (w.alloc (.cells #[.int .i64 g.random, .int .i64 g.bands, .int .i64 g.tracks, .int .i64 g.sectors, .int .i64 g.overlap, .int .i64 nb, .slice A0 F.length c0, .slice A1 acts.length c1] 46)).heap[w.heap.size]? = some (.cells #[.int .i64 g.random, .int .i64 g.bands, .int .i64 g.tracks, .int .i64 g.sectors, .int .i64 g.overlap, .int .i64 nb, .slice A0 F.length c0, .slice A1 acts.length c1] 46 (0, 0)) := heap_alloc_new _ _
  obtain ⟨⟨x0, x1, x2, x3, x4, x5, x6, x7⟩, ⟨_, _, _, _, _, _, y6, _⟩⟩ := cells8q hO0
  have HB1 : Hid (Below w.heap.size w (w.alloc (.cells #[.int .i64 g.random, .int .i64 g.bands, .int .i64 g.tracks, .int .i64 g.sectors, .int .i64 g.overlap, .int .i64 nb, .slice none 0 0, .slice A1 acts.length c1] 46))) := (Below.refl _ _).alloc (Nat.le_refl _) _
  have HO1 : Hid ((w.alloc (.cells #[.int .i64 g.random, .int .i64 g.bands, .int .i64 g.tracks, .int .i64 g.sectors, .int .i64 g.overlap, .int .i64 nb, .slice none 0 0, .slice A1 acts.length c1] 46)).heap[w.heap.size]? = some (.cells #[.int .i64 g.random, .int .i64 g.bands, .int .i64 g.tracks, .int .i64 g.sectors, .int .i64 g.overlap, .int .i64 nb, .slice none 0 0, .slice A1 acts.length c1] 46 (0, 0))) := heap_alloc_new _ _
  have HFAW : Hid (∀ W, Calls Tryz.prog 22 #[.agg #[.int .i64 g.random, .int .i64 g.bands, .int .i64 g.tracks, .int .i64 g.sectors, .int .i64 g.overlap, .int .i64 nb, .slice none 0 0, .slice A1 acts.length c1]] W fun e w' => e = .returned (.bool (fairB g nb [] acts.length)) ∧ Below W.heap.size W w') := fun W => fair_any g nb [] none A1 0 c1 acts.length W hc.a.n (Rd.nil_ _ _ _) (by simp)
  have HC := Lib.hid hc
  have HC := Lib.hid hc
  clear hc hO0
  go_enter Tryz.func12, Tryz.ntmps12
  go_upto_region 2 with fail
  generalize (w.alloc (.cells #[.int .i64 g.random, .int .i64 g.bands, .int .i64 g.tracks, .int .i64 g.sectors, .int .i64 g.overlap, .int .i64 nb, .slice none 0 0, .slice A1 acts.length c1] 46)) = w0 at *
  clear x0 x1 x2 x3 x4 x5 x6 x7 y6
  obtain ⟨⟨x0, x1, x2, x3, x4, x5, x6, x7⟩, _⟩ := cells8q HO1.out
  go_wp2_with fail
  refine (awake20_any _).mono ?_
  rintro e w2 ⟨rfl, hb2⟩
  have HB2 : Hid (Below w.heap.size w w2) := HB1.out.trans (hb2.mono HB1.out.size)
  have HO2 := Lib.hid (belObj hb2 HO1.out (lt_of_block HO1.out))
  clear hb2 x0 x1 x2 x3 x4 x5 x6 x7
  obtain ⟨⟨x0, x1, x2, x3, x4, x5, x6, x7⟩, _⟩ := cells8q HO2.out
  have HF2 := Lib.hid (HFAW.out w2)
  go_wp2_with fail
  refine HF2.out.mono ?_
  rintro e w3 ⟨rfl, hb3⟩
  have HB3 : Hid (Below w.heap.size w w3) := HB2.out.trans (hb3.mono HB2.out.size)
  have HO3 := Lib.hid (belObj hb3 HO2.out (lt_of_block HO2.out))
  clear hb3 x0 x1 x2 x3 x4 x5 x6 x7 HF2 HFAW
  obtain ⟨⟨x0, x1, x2, x3, x4, x5, x6, x7⟩, _⟩ := cells8q HO3.out
  cases hfr : fairB g nb [] acts.length
  · clear hfr
    go_wp2_with fail
    refine (awake20_any _).mono ?_
    rintro e w4 ⟨rfl, hb4⟩
    have HB4 : Hid (Below w.heap.size w w4) := HB3.out.trans (hb4.mono HB3.out.size)
    clear hb4
    go_wp2
    go_ret
    exact ⟨rfl, HB4.out⟩
  · by_cases hm : 4 < l.length
    · have dm : decide ((4 : Int) < (l.length : Int)) = true := decide_eq_true (by omega)
      have dm2 : decide (4 < l.length) = true := decide_eq_true hm
      clear hfr hm
      go_wp2_with fail
      refine (awake20_any _).mono ?_
      rintro e w4 ⟨rfl, hb4⟩
      have HB4 : Hid (Below w.heap.size w w4) := HB3.out.trans (hb4.mono HB3.out.size)
      clear hb4
      go_wp2
      go_ret
      exact ⟨rfl, HB4.out⟩
    · have dm : decide ((4 : Int) < (l.length : Int)) = false := decide_eq_false (by omega)
      have dm2 : decide (4 < l.length) = false := decide_eq_false hm
      have HL4 : Hid (l.length ≤ 4) := by unfold Hid; omega
      have hl4 := HL4.out
      clear hm
      have hfr2 := hfr
      unfold fairB at hfr2
      simp only [Bool.and_eq_true, decide_eq_true_eq] at hfr2
      obtain ⟨f1, f2, f3, f4, f5, f6⟩ := hfr2
      have hnb : ∃ n : Nat, nb = n := by
        unfold possB at f3
        simp only [Bool.and_eq_true, decide_eq_true_eq] at f3
        exact ⟨nb.toNat, by omega⟩
      obtain ⟨n, rfl⟩ := hnb
      have HS : Hid (Small g n []) := ⟨(validG_iff g).1 f1, f3, by simp, fun f hf => absurd hf (by simp), rfl⟩
      have HAL : Hid (acts.length ≤ 80) := f4
      have HSZ120 : Hid (szN g ≤ 120) := f2
      clear hfr f1 f2 f3 f4 f5 f6
      have HS0 : Hid (Calls Tryz.prog 23 #[.agg #[.int .i64 g.random, .int .i64 g.bands, .int .i64 g.tracks, .int .i64 g.sectors, .int .i64 g.overlap, .int .i64 (n : Int), .slice none 0 0, .slice A1 acts.length c1]] w3 fun e w' => (∃ r q pw, e = .returned (.tuple #[.pointer (some ⟨r, 0, none⟩), .int .i64 0]) ∧ RigM w' w3.heap.size r q pw g [] n (R0 g [] n)) ∧ Below w3.heap.size w3 w') := fine_start HS.out RunF.nil none A1 0 c1 acts.length w3 (Rd.nil_ _ _ _)
      have HLN : Hid (w.heap.size < w3.heap.size) := lt_of_block HO3.out
      go_wp2_with fail
      refine HS0.out.mono ?_
      rintro e w4 ⟨⟨r, q, pw, rfl, p, hha, hc4, fa, fc, hs, hr0⟩, hb4⟩
      have HB4 : Hid (Below w.heap.size w w4) := HB3.out.trans (hb4.mono (Nat.le_of_lt HLN.out))
      have HO4 := Lib.hid (belObj hb4 HO3.out HLN.out)
      have HSZ : Hid (w3.heap.size ≤ w4.heap.size) := hb4.size
      have HR0 : Hid (RigM w4 w3.heap.size r q pw g [] n (R0 g [] n)) := ⟨p, hha, hc4, fa, fc, hs, hr0⟩
      have HI0 : Hid (Fine g n 0 (R0 g [] n) ∧ 1 ≤ V.freeN (R0 g [] n).S.v.bs) := (fine0 HS.out RunF.nil).2
      obtain ⟨z0, z1, z2, z3, z4, z5, z6⟩ := hr0.cells
      clear hr0 hb4 HS0 x0 x1 x2 x3 x4 x5 x6 x7
      have HRI0 : Hid (Rise (R0 g [] n).hist (R0 g [] n).next) := rise0 g [] n
      generalize R0 g [] n = RI at *
      go_wp2
      clear z0 z1 z2 z3 z4 z5 z6
      have HLN2 : Hid (w.heap.size < w3.heap.size) := HLN.out
      generalize w3.heap.size = N at *
      go_loopw [7] (fun s7 wr => ∃ (i : Nat) (R : RG), i ≤ l.length ∧ s7 = .int .i64 i ∧ Hid (RigM wr N r q pw g [] n R) ∧ Hid (Fine g n (80 * i) R ∧ Rise R.hist R.next) ∧ Hid (Below N w4 wr)) (fun s7 _ => l.length - (intOf s7).toNat)
      case atStart => exact ⟨0, RI, Nat.zero_le _, rfl, HR0, ⟨HI0.out.1, HRI0.out⟩, Below.refl _ _⟩
      case round =>
        obtain ⟨i, R, hi, rfl, HRX, HIX, HBX⟩ := hrel
        by_cases hlt : i < l.length
        · have hx0 := List.getElem?_eq_getElem hlt
          have hxo := HP.out.ok l[i] (List.getElem_mem hlt)
          generalize l[i] = x at hx0 hxo
          obtain ⟨xa, xb⟩ := x
          simp only at hxo
          have HBW : Hid (Below w.heap.size w wr) := HB4.out.trans (HBX.out.mono (Nat.le_of_lt HLN.out))
          obtain ⟨ga, oa, hA, hga, a0, a1⟩ := pairs_at (HP.out.rd.below HBW.out (Nat.le_refl _)) hx0
          subst hA
          have HGA : Hid (ga < N) := Nat.lt_trans hga HLN.out
          have d1 : decide ((i : Int) < (l.length : Int)) = true := decide_eq_true (by omega)
          have d2 : decide (i < l.length) = true := decide_eq_true hlt
          have hji : (i : Int) < (l.length : Int) := by omega
          have wa : IntKind.i64.wrap xa = xa := by rw [IntKind.wrap_i64]; omega
          have wb : IntKind.i64.wrap xb = xb := by rw [IntKind.wrap_i64]; omega
          have HOX := Lib.hid (belObj HBX.out HO4.out HLN.out)
          obtain ⟨⟨x0, x1, x2, x3, x4, x5, x6, x7⟩, _⟩ := cells8q HOX.out
          have HZX : Hid (N ≤ wr.heap.size) := Nat.le_trans HSZ.out HBX.out.size
          have HRD : Hid (RigM wr.drew N r q pw g [] n R) := by
            obtain ⟨p, ha, hc', fa, fc, hs, hh⟩ := HRX.out
            exact ⟨p, ha, hc', fa, fc, hs, hh.below0 ((Below.refl _ _).drew)⟩
          have HRA : Hid (Rd wr.drew N A1 (flatA20 acts)) := (((HC.out.a.rd.below HBW.out (Nat.le_refl _)).more (Nat.le_of_lt HLN.out)).below ((Below.refl N wr).drew) (Nat.le_refl _))
          have HCT := Lib.hid (cut_any (c1 := c1) HS.out RunF.nil HSZ120.out xa xb (by have := HAL.out; have := HL4.out; omega) HIX.out.1 HIX.out.2 HRA.out HC.out.a.ok HRD.out)
          obtain ⟨C, hC⟩ : ∃ C : List Value → World → Prop, C = fun h W => match h with
            | [] => W = wr.drew
            | [v] => CutQ20 wr.drew N r q pw g [] n (80 * i + acts.length) (.returned v) W
            | _ => False := ⟨_, rfl⟩
          have hall : ∀ t : HeldC C, Below N wr t.w := fun t => by
            obtain ⟨s, W, h⟩ := t
            simp only
            subst hC
            match s, h with
            | [], h => have h' : W = wr.drew := h; rw [h']; exact (Below.refl _ _).drew
            | [v], h => exact ((Below.refl N wr).drew).trans ((h : CutQ20 _ _ _ _ _ _ _ _ _ _ _).2.2.below HZX.out)
          have HC0 : Hid (C [] wr.drew) := by subst hC; exact rfl
          have HK1 : Hid (∀ W, C [] W → Calls Tryz.prog 35 #[.pointer (some ⟨r, 0, none⟩), .slice A1 acts.length c1, .int .i64 xa, .int .i64 xb] W fun e w' => ∃ x, e = .returned x ∧ C ([] ++ [x]) w') := by
            subst hC
            intro W hW
            have hW' : W = wr.drew := hW
            subst hW'
            refine HCT.out.mono ?_
            rintro e w' ⟨rfl, h2⟩
            exact ⟨_, rfl, ⟨rfl, h2⟩⟩
          have HV1 : Hid (∀ v W, C [v] W → CutQ20 wr.drew N r q pw g [] n (80 * i + acts.length) (.returned v) W) := by subst hC; exact fun _ _ h => h
          have f7 : ∀ t : HeldC C, t.w.cell? ⟨w.heap.size, 7, none⟩ = some (.slice A1 acts.length c1) := fun t => ((hall t).cell (p := ⟨w.heap.size, 7, none⟩) HLN2.out).trans x7
          have fa0 : ∀ t : HeldC C, t.w.cell? ⟨ga, oa + i * 2, none⟩ = some (.int .u8 xa) := fun t => ((hall t).cell (p := ⟨ga, oa + i * 2, none⟩) HGA.out).trans a0
          have fa1 : ∀ t : HeldC C, t.w.cell? ⟨ga, oa + i * 2 + 1, none⟩ = some (.int .u8 xb) := fun t => ((hall t).cell (p := ⟨ga, oa + i * 2 + 1, none⟩) HGA.out).trans a1
          have hne : Nonempty (HeldC C) := ⟨⟨[], _, HC0.out⟩⟩
          clear hC hall HCT x0 x1 x2 x3 x4 x5 x6 x7 hx0 hxo hga a0 a1
          go_wp2_with fail
          refine wp_region_chain C [15] [15] (by kernel_rfl) (by kernel_rfl) (by kernel_rfl) (by kernel_rfl) HC0.out ?_
          repeat (refine wpCh_n (by rfl) (by rfl) ?_; go_big_quiet_step (fail); refine wpQuiet_nil ?_)
          refine wpCh_l (f := 35) (args := #[.pointer (some ⟨r, 0, none⟩), .slice A1 acts.length c1, .int .i64 xa, .int .i64 xb]) (by rfl) (by rfl) (fun W => by simp [go_sem]) (fun W hW => HK1.out W hW) (fun v W hW => ?_)
          obtain ⟨hv, _⟩ := HV1.out v W hW
          injection hv with hv
          subst hv
          go_big_quiet_step (fail)
          refine wpQuiet_nil ?_
          repeat (refine wpCh_n (by rfl) (by rfl) ?_; go_big_quiet_step (fail); refine wpQuiet_nil ?_)
          refine wpCh_nil ?_
          intro w5 hw5
          obtain ⟨_, ⟨R5, hr5, hf5, hri5, hO5⟩, hk5⟩ := HV1.out _ _ hw5
          have HB5 : Hid (Below N w4 w5) := HBX.out.trans (((Below.refl N wr).drew).trans (hk5.below HZX.out))
          have HR5 := Lib.hid hr5
          have HF5 := Lib.hid (hf5.mono (show 80 * i + acts.length ≤ 80 * (i + 1) by have := HAL.out; omega))
          have HRI := Lib.hid hri5
          have HO5 := Lib.hid hO5
          have HNO := Lib.hid (note_any HS.out.nn.1.2 hO5 hf5.hon.hl hf5.hon.fl hr5)
          have HZ5 : Hid (N ≤ w5.heap.size) := Nat.le_trans HSZ.out HB5.out.size
          clear hw5 hr5 hf5 hri5 hO5 hk5 HK1 HV1 HC0 f7 fa0 fa1 hne HRX HIX HBX
          go_wp2_with fail
          refine HNO.out.mono ?_
          rintro e w6 ⟨rfl, hr6, hk6⟩
          have HR6 := Lib.hid hr6
          have HF6 := Lib.hid (HF5.out.note HO5.out)
          have HB6 : Hid (Below N w4 w6) := HB5.out.trans (hk6.below HZ5.out)
          clear hr6 hk6 HNO
          go_wp2
          go_roundw
          case rel => exact ⟨i + 1, _, hlt, by go_num, HR6, ⟨HF6.out, HRI.out⟩, HB6⟩
          case measure => simp [intOf]; omega
        · obtain rfl : i = l.length := by omega
          have d1 : decide ((l.length : Int) < (l.length : Int)) = false := decide_eq_false (by omega)
          have d2 : decide (l.length < l.length) = false := decide_eq_false (by omega)
          have HF5 := Lib.hid (HIX.out.1.mono (show 80 * l.length ≤ 320 by have := HL4.out; omega))
          have HR5 := HRX
          have HB5 := HBX
          clear HRX HBX HIX
          go_wp2
          obtain ⟨KA, hKA⟩ : ∃ KA, 320 = KA := ⟨_, rfl⟩
          have HKA0 : Hid (KA ≤ 320) := by unfold Hid; have := HAL.out; omega
          rw [hKA] at HF5
          clear hKA
          go_loopw [8] (fun s9 wr => ∃ (j : Nat) (R : RG), j ≤ n ∧ s9 = .int .i64 j ∧ Hid (RigM wr N r q pw g [] n R) ∧ Hid (Fine g n (KA + j) R) ∧ Hid (Below N w4 wr)) (fun s9 _ => n - (intOf s9).toNat)
          case atStart => exact ⟨0, _, Nat.zero_le _, rfl, HR5.out, HF5.out, HB5.out⟩
          case round =>
            obtain ⟨j, R, hj, rfl, HRX, HIX, HBX⟩ := hrel
            obtain ⟨p, hq⟩ := HRX.out
            obtain ⟨z0, z1, z2, z3, _⟩ := RigQ.c hq
            have hn120 := small_n HS.out HSZ120.out
            have HN120 := Lib.hid hn120
            have HZX : Hid (N ≤ wr.heap.size) := Nat.le_trans HSZ.out HBX.out.size
            clear hq
            by_cases hlt : j < n
            · have d1 : decide ((j : Int) < (n : Int)) = true := decide_eq_true (by omega)
              have d2 : decide (j < n) = true := decide_eq_true hlt
              have HDO := Lib.hid (do_any (kind := 0) (blk := (j : Int)) (data := 9) (by decide) (by decide) (HIX.out.inS HS.out (by have := HKA0.out; omega) HSZ120.out) HRX.out)
              go_wp2_with fail
              refine HDO.out.mono ?_
              rintro e w6 ⟨R6, er6, hact, rfl, hr6, hk6⟩
              obtain ⟨he0, hf6, _⟩ := HIX.out.act HS.out RunF.nil (by have := HKA0.out; have := HN120.out; omega) (by simp) hact
              subst he0
              have HR6 := Lib.hid hr6
              have HF6 : Hid (Fine g n (KA + (j + 1)) R6) := hf6
              have HB6 : Hid (Below N w4 w6) := HBX.out.trans (hk6.below HZX.out)
              clear hact hr6 hk6 hf6 HDO HRX HIX HBX z0 z1 z2 z3
              go_wp2
              go_roundw
              case rel => exact ⟨j + 1, R6, hlt, by go_num, HR6, HF6, HB6⟩
              case measure => simp [intOf]; omega
            · obtain rfl : j = n := by omega
              have d1 : decide ((j : Int) < (j : Int)) = false := decide_eq_false (by omega)
              have d2 : decide (j < j) = false := decide_eq_false (by omega)
              have HAA := Lib.hid (fine_all HS.out RunF.nil HIX.out (by have := HKA0.out; have := HN120.out; omega) HRX.out)
              go_wp2_with fail
              refine HAA.out.mono ?_
              rintro e w6 ⟨rfl, _, hk6⟩
              have HB6 : Hid (Below w.heap.size w w6) := HB4.out.trans ((HBX.out.trans (hk6.below HZX.out)).mono (Nat.le_of_lt HLN.out))
              clear hk6
              go_wp2
              go_ret
              exact ⟨rfl, HB6.out⟩

set_option maxRecDepth 100000 in
theorem driveCuts_lifted (os : Os) (started : os.Started) (H : Type) (enc : TypeId × Value → H) :
    ReturnsInHanded {} Tryz.checked os 12 .any (Rows.driveCutsSpec.pre6 enc Tryz.prog Tryz.f12 Rows.driveCutsRow.domain false) (Rows.driveCutsSpec.post enc Tryz.prog Tryz.f12 false true false false) := by
  refine returnsInHanded_of_change (C := Tryz.checked) own started (by kernel_rfl) Tryz.func12
    (ChangeSpec.witness6 (enc := enc) (C := Tryz.checked) false ⟨#[], #[.agg #[.int .i64 0, .int .i64 0, .int .i64 0, .int .i64 0, .int .i64 0, .int .i64 0, .slice none 0 0, .slice none 0 0], .slice none 0 0], []⟩ 8 (by kernel_rfl) (by kernel_rfl) (by kernel_rfl) (by kernel_rfl)) ?_
  intro W base args ds gs before hval0 hW hcnd _
  have hval : ∀ (j : Nat) t v, Tryz.f12.params[j]? = some t → args[j]? = some v → Value.okWide Tryz.prog W .any base t v := hval0
  have hW' := hW
  obtain ⟨p, q, hA0, hV, rfl, hfz, hnd⟩ := hW
  have hA : DataW.TrodAll enc Tryz.prog W 0 (fun _ => true) true Tryz.f12.params.toList args.toList ds p := hA0
  rw [Tryz.params12] at hA hval
  obtain ⟨v0, vs0, d0, ds0, p0, q0, hargs, rfl, rfl, h0, r0⟩ := trodAll_cons hA
  obtain ⟨v1, vs1, d1, ds1, p1, q1, rfl, rfl, rfl, h1, r1⟩ := trodAll_cons r0
  obtain ⟨rfl, rfl, rfl⟩ := trodAll_nil r1
  obtain rfl : args = #[v0, v1] := by cases args; simp_all
  obtain ⟨rfl, rfl⟩ := trodVars_none hV
  have k0 := h0
  have lt0 : ∀ x ∈ p0, x.block < W.heap.size := by obtain ⟨m, hm⟩ := k0; exact DataW.trod_lt m _ _ _ hm
  have k1 := h1
  have lt1 : ∀ x ∈ p1, x.block < W.heap.size := by obtain ⟨m, hm⟩ := k1; exact DataW.trod_lt m _ _ _ hm
  obtain ⟨g, nb, A0, A1, F, acts, c0, c1, rfl, hc⟩ := open_case20 (hval 0 _ _ rfl rfl) h0
  obtain ⟨a2, n2, k2, rfl⟩ := Go.WideShapes.okWide_slice Tryz.underlying80 (hval 1 _ _ rfl rfl)
  obtain ⟨A2, xs, c2, hv2, hx⟩ : ∃ A l c, Value.slice a2 n2 k2 = .slice A l.length c ∧ PairsIn W A l := by obtain ⟨fuel, hf⟩ := h1; exact open_pairs hf
  injection hv2 with e1 e2 e3
  subst e1 e2 e3
  clear hA0 hval0
  refine (driveCuts_walk g nb A0 A1 _ F acts xs c0 c1 _ W hc hx).mono fun e W' ⟨he, bel⟩ => ?_
  subst he
  exact ⟨_, rfl, _, _, _, [], _, [], hW', trodAll_mk1 (shut_bool Tryz.underlying4 _), (trodAll_cons_mk (Below.trod laidOut (by kernel_rfl) (of_decide_eq_true (by kernel_rfl)) k0 bel lt0) (trodAll_cons_mk (Below.trod laidOut (by kernel_rfl) (of_decide_eq_true (by kernel_rfl)) k1 bel lt1) trodAll_mk0)), rfl, bel.frame _, fun h => by cases h⟩

/-- The statement. -/
theorem driveCuts_holds : Rows.DriveCutsSaid :=
  OpenClaim.holds_of_wide 12 Tryz.f12 rfl rfl rfl rfl rfl rfl rfl ⟨rfl, rfl, rfl, rfl, rfl⟩ rfl rfl rfl rfl rfl (by kernel_rfl) Tryz.func12 (by kernel_rfl)
    (of_decide_eq_true (by kernel_rfl)) (by unfold Func.isWrapper; first | (rw [if_pos (by decide +kernel)]; kernel_rfl) | (rw [if_neg (by decide +kernel)]; exact ⟨rfl, rfl⟩))
    (fun os started H enc _ => driveCuts_lifted os started H enc)
#print axioms driveCuts_holds
end Go.Proofs.YtggkengmlkhdiaaGreat
