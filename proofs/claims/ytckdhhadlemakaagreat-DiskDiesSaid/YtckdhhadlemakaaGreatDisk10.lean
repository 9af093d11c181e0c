/-
  WHAT IS SHOWN: what awake of tegulalaw14 returns. No condition.
-/
import Derived.Test.YtckdhhadlemakaaGreatDisk8
import Derived.Test.YtckdhhadlemakaaGreatDisk9
import Derived.Lib.SmallJoins
namespace Go.Proofs.YtckdhhadlemakaaGreat
set_option linter.unusedVariables false
open Go.RowKit

theorem rdt_one (w : World) (x : Int) (fr : Nat × Nat) : RdT (w.alloc (.cells #[.int .u8 x] 5 fr)) 5 (some ⟨w.heap.size, 0, none⟩) ([x].map (Value.int .u8)) := by
  intro j u hu
  cases j with
  | zero =>
    simp at hu
    subst hu
    exact ⟨w.heap.size, 0, _, _, rfl, heap_alloc_new w _, rfl⟩
  | succ j => simp at hu
theorem rdf_one (w : World) (f : Flt) (fr : Nat × Nat) : Rd (w.alloc (.cells #[.int .i64 f.at_, .int .i64 f.kind, .int .i64 f.to_] 64 fr)) (w.heap.size + 1) (some ⟨w.heap.size, 0, none⟩) (flatF [f]) := by
  intro j u hu
  refine ⟨w.heap.size, 0, rfl, by omega, ?_⟩
  rw [cell_of_row _ _ _ _ _ _ (heap_alloc_new w _)]
  simpa [flatF, Flt.cells] using hu
def gD : Geo := ⟨2, 1, 1, 1, 0⟩
def fD : List Flt := [⟨1, 1, 0⟩]
def P0 : Pow := ⟨false, false, 0, 0⟩
def s0 : DS := newS P0
def L0 : List Sec := blankL gD
def P1 : Pow := (begD fD s0 P0 0).P
def s1 : DS := dWrS fD s0 P0 L0 0 0 [120]
def L1 : List Sec := dWrLM gD fD s0 P0 L0 [] 0 0 [120] false
def O1 : List OpV := dWrO gD fD s0 P0 L0 [] 0 0 [120] false
def P2 : Pow := (begD fD s1 P1 0).P
def s2 : DS := dWrS fD s1 P1 L1 0 0 [121]
def L2 : List Sec := dWrLM gD fD s1 P1 L1 O1 0 0 [121] false
def O2 : List OpV := dWrO gD fD s1 P1 L1 O1 0 0 [121] false
def X2 : List Sec := playL gD L2 O2
def P3 : Pow := (begD fD s2 P2 0).P
def s3 : DS := dRdS fD s2 P2 L2 X2 0 0
def P4 : Pow := armP P3 1
def P5 : Pow := (begD fD s3 P4 0).P
def s5 : DS := dRdS fD s3 P4 L2 X2 0 0
def P6 : Pow := (begD fD s5 P5 0).P
theorem eD0 : validG gD = true ∧ validF fD = true := by decide +kernel
theorem eD1 : dWrE fD s0 P0 L0 0 0 [120] = 0 ∧ (begD fD s0 P0 0).f.to_ = 0 := by decide +kernel
theorem eD2 : dWrE fD s1 P1 L1 0 0 [121] = 0 ∧ (begD fD s1 P1 0).f.to_ = 0 ∧ O1.length = 1 := by decide +kernel
theorem eD3 : dRdE fD s2 P2 L2 X2 0 0 = 0 ∧ dRdB fD s2 P2 L2 X2 0 0 = [120] := by decide +kernel
theorem eD4 : dRdE fD s3 P4 L2 X2 0 0 = 0 := by decide +kernel
theorem eD5 : dRdE fD s5 P5 L2 X2 0 0 = 13 ∧ P6.off = true := by decide +kernel
/-- A disk as awake makes and uses it. -/
def DW (w : World) (B : Bd) (q pw : Nat) (s : DS) (P : Pow) (L : List Sec) (O : List OpV) : Prop := DPm w B q pw gD fD s P L O
theorem DW.below0 {w w' : World} {B : Bd} {q pw : Nat} {s : DS} {P : Pow} {L : List Sec} {O : List OpV} (h : DW w B q pw s P L O) (hk : Below w.heap.size w w') : DW w' B q pw s P L O := DPm.below0 h hk
theorem newD (w1 : World) (B : Bd) (pw : Nat) (hp : PowM w1 B pw P0) (hB : B.top ≤ w1.heap.size) :
    Calls Tryz.prog 17 #[.agg #[.int .i64 2, .int .i64 1, .int .i64 1, .int .i64 1, .int .i64 0], .slice (some ⟨w1.heap.size + 1, 0, none⟩) 1 1, .pointer (some ⟨pw, 0, none⟩)] ((w1.alloc (.cells #[.int .i64 2, .int .i64 1, .int .i64 1, .int .i64 1, .int .i64 0] 23)).alloc (.cells #[.int .i64 1, .int .i64 1, .int .i64 0] 64))
      (fun e w' => ∃ q, e = .returned (.tuple #[.pointer (some ⟨q, 0, none⟩), .int .i64 0]) ∧ DW w' B q pw s0 P0 L0 [] ∧ Below w1.heap.size w1 w') := by
  have hbA : Below w1.heap.size w1 ((w1.alloc (.cells #[.int .i64 gD.random, .int .i64 gD.bands, .int .i64 gD.tracks, .int .i64 gD.sectors, .int .i64 gD.overlap] 23)).alloc (.cells #[.int .i64 1, .int .i64 1, .int .i64 0] 64)) := ((Below.refl _ _).alloc (Nat.le_refl _) _).alloc (by simp) _
  have hr := rdf_one (w1.alloc (.cells #[.int .i64 gD.random, .int .i64 gD.bands, .int .i64 gD.tracks, .int .i64 gD.sectors, .int .i64 gD.overlap] 23)) ⟨1, 1, 0⟩ (0, 0)
  have hr2 : Rd ((w1.alloc (.cells #[.int .i64 gD.random, .int .i64 gD.bands, .int .i64 gD.tracks, .int .i64 gD.sectors, .int .i64 gD.overlap] 23)).alloc (.cells #[.int .i64 1, .int .i64 1, .int .i64 0] 64)) ((w1.alloc (.cells #[.int .i64 gD.random, .int .i64 gD.bands, .int .i64 gD.tracks, .int .i64 gD.sectors, .int .i64 gD.overlap] 23)).alloc (.cells #[.int .i64 1, .int .i64 1, .int .i64 0] 64)).heap.size (some ⟨w1.heap.size + 1, 0, none⟩) (flatF fD) := by
    have := hr.more (B' := ((w1.alloc (.cells #[.int .i64 gD.random, .int .i64 gD.bands, .int .i64 gD.tracks, .int .i64 gD.sectors, .int .i64 gD.overlap] 23)).alloc (.cells #[.int .i64 1, .int .i64 1, .int .i64 0] 64)).heap.size) (by simp)
    rw [World.size_alloc w1] at this
    exact this
  have hN := dnew_yes (g := gD) fD (some ⟨w1.heap.size + 1, 0, none⟩) 1 eD0.1 eD0.2 hr2 (by decide) (hp.below0 hbA) (Nat.le_trans hB hbA.size)
  refine Calls.mono hN ?_
  rintro e w' ⟨q, rfl, hd, hb⟩
  exact ⟨q, rfl, hd, hbA.trans (hb.mono hbA.size)⟩
theorem writeD (w : World) (B : Bd) (q pw : Nat) (s : DS) (P : Pow) (L : List Sec) (O : List OpV) (x : Int) (fr : Nat × Nat) (h : DW w B q pw s P L O) (ho : O.length ≤ 10) (he : dWrE fD s P L 0 0 [x] = 0) (hf : (begD fD s P 0).f.to_ = 0) :
    Calls Tryz.prog 18 #[.pointer (some ⟨q, 0, none⟩), .int .u64 0, .int .i64 0, .slice (some ⟨w.heap.size, 0, none⟩) 1 1, .bool false] (w.alloc (.cells #[.int .u8 x] 5 fr))
      (fun e w' => e = .returned (.int .i64 0) ∧ DW w' B q pw (dWrS fD s P L 0 0 [x]) (begD fD s P 0).P (dWrLM gD fD s P L O 0 0 [x] false) (dWrO gD fD s P L O 0 0 [x] false) ∧ Below B.n w w') := by
  have hb0 : Below w.heap.size w (w.alloc (.cells #[.int .u8 x] 5 fr)) := (Below.refl _ _).alloc (Nat.le_refl _) _
  have hB := h.B
  refine (dwrite_any (F := fD) 0 0 [x] false (some ⟨w.heap.size, 0, none⟩) 1 (DPm.below0 h hb0) (by decide) (by omega) ⟨by omega, by omega⟩ (by rw [hf]; exact ⟨by omega, by omega⟩) (fun W hW => ((rdt_one w x fr).kept hW (KeptT.free (by unfold DPT; decide))).rd) (by simp) (by simp)).mono ?_
  rintro e w' ⟨rfl, hd, hk⟩
  rw [he]
  exact ⟨rfl, hd, (hb0.mono (Nat.le_trans B.le hB)).trans (hk.below (Nat.le_trans (Nat.le_trans B.le hB) hb0.size))⟩
theorem readD (w : World) (B : Bd) (q pw : Nat) (s : DS) (P : Pow) (L : List Sec) (O : List OpV) (X : List Sec) (hX : playL gD L O = X) (E : Int) (xs : List Int) (h : DW w B q pw s P L O) (he : dRdE fD s P L X 0 0 = E) (hx : dRdB fD s P L X 0 0 = xs) :
    Calls Tryz.prog 19 #[.pointer (some ⟨q, 0, none⟩), .int .u64 0, .int .i64 0] w
      (fun e w' => ∃ v, e = .returned (.tuple #[v, .int .i64 E]) ∧ Byt 5 w' v xs ∧ DW w' B q pw (dRdS fD s P L X 0 0) (begD fD s P 0).P L O ∧ KeptT DAT B w w') := by
  refine (dread_any (F := fD) 0 0 h (by decide)).mono ?_
  rintro e w' ⟨v, rfl, hv, hd, hk⟩
  rw [hX] at hv hd ⊢
  rw [he]; rw [hx] at hv
  exact ⟨v, rfl, hv, hd, hk⟩
theorem armD (w : World) (B : Bd) (q pw : Nat) (s : DS) (P : Pow) (L : List Sec) (O : List OpV) (h : DW w B q pw s P L O) :
    Calls Tryz.prog 20 #[.pointer (some ⟨pw, 0, none⟩), .int .i64 1] w (fun e w' => e = .returned (.tuple #[]) ∧ DW w' B q pw s (armP P 1) L O ∧ KeptT [83] B w w') := by
  obtain ⟨⟨p, FA, fc, hd⟩, hp, hf, hs, hB⟩ := h
  refine (arm_any 1 hp).mono ?_
  rintro e w' ⟨rfl, hp', hk⟩
  exact ⟨rfl, ⟨⟨p, FA, fc, hd.keptP hk⟩, hp', hf, hs, Nat.le_trans hB hk.size⟩, hk⟩
set_option maxRecDepth 100000 in
set_option maxHeartbeats 2000000 in
theorem awake14_any (w : World) : Calls Tryz.prog 4 #[] w fun e w' => e = .returned (.bool true) ∧ Below w.heap.size w w' := by
  have kc := fun (w : World) (C : Array Value) (n c : Nat) => Lib.run_convert_bytes_const (P := Tryz.prog) w 53 5 C n c Tryz.underlying53 Tryz.underlying5
  have HNW := Lib.hid newD
  have HW1 : Hid (∀ W q pw fr, DW W (Bd.of w.heap.size) q pw s0 P0 L0 [] → Calls Tryz.prog 18 #[.pointer (some ⟨q, 0, none⟩), .int .u64 0, .int .i64 0, .slice (some ⟨W.heap.size, 0, none⟩) 1 1, .bool false] (W.alloc (.cells #[.int .u8 120] 5 fr))
      (fun e w' => e = .returned (.int .i64 0) ∧ DW w' (Bd.of w.heap.size) q pw s1 P1 L1 O1 ∧ Below w.heap.size W w')) := by
    unfold Hid; intro W q pw fr h; exact writeD W (Bd.of w.heap.size) q pw s0 P0 L0 [] 120 fr h (by simp) eD1.1 eD1.2
  have HW2 : Hid (∀ W q pw fr, DW W (Bd.of w.heap.size) q pw s1 P1 L1 O1 → Calls Tryz.prog 18 #[.pointer (some ⟨q, 0, none⟩), .int .u64 0, .int .i64 0, .slice (some ⟨W.heap.size, 0, none⟩) 1 1, .bool false] (W.alloc (.cells #[.int .u8 121] 5 fr))
      (fun e w' => e = .returned (.int .i64 0) ∧ DW w' (Bd.of w.heap.size) q pw s2 P2 L2 O2 ∧ Below w.heap.size W w')) := by
    unfold Hid; intro W q pw fr h; exact writeD W (Bd.of w.heap.size) q pw s1 P1 L1 O1 121 fr h (by rw [eD2.2.2]; decide) eD2.1 eD2.2.1
  have HR3 : Hid (∀ W q pw, DW W (Bd.of w.heap.size) q pw s2 P2 L2 O2 → Calls Tryz.prog 19 #[.pointer (some ⟨q, 0, none⟩), .int .u64 0, .int .i64 0] W
      (fun e w' => ∃ v, e = .returned (.tuple #[v, .int .i64 0]) ∧ Byt 5 w' v [120] ∧ DW w' (Bd.of w.heap.size) q pw s3 P3 L2 O2 ∧ KeptT DAT (Bd.of w.heap.size) W w')) := by
    unfold Hid; intro W q pw h; exact readD W (Bd.of w.heap.size) q pw s2 P2 L2 O2 X2 rfl 0 [120] h eD3.1 eD3.2
  have HA4 : Hid (∀ W q pw, DW W (Bd.of w.heap.size) q pw s3 P3 L2 O2 → Calls Tryz.prog 20 #[.pointer (some ⟨pw, 0, none⟩), .int .i64 1] W (fun e w' => e = .returned (.tuple #[]) ∧ DW w' (Bd.of w.heap.size) q pw s3 P4 L2 O2 ∧ KeptT [83] (Bd.of w.heap.size) W w')) := by
    unfold Hid; intro W q pw h; exact armD W (Bd.of w.heap.size) q pw s3 P3 L2 O2 h
  have HR5 : Hid (∀ W q pw, DW W (Bd.of w.heap.size) q pw s3 P4 L2 O2 → Calls Tryz.prog 19 #[.pointer (some ⟨q, 0, none⟩), .int .u64 0, .int .i64 0] W
      (fun e w' => ∃ v, e = .returned (.tuple #[v, .int .i64 0]) ∧ Byt 5 w' v (dRdB fD s3 P4 L2 X2 0 0) ∧ DW w' (Bd.of w.heap.size) q pw s5 P5 L2 O2 ∧ KeptT DAT (Bd.of w.heap.size) W w')) := by
    unfold Hid; intro W q pw h; exact readD W (Bd.of w.heap.size) q pw s3 P4 L2 O2 X2 rfl 0 _ h eD4 rfl
  have HR6 : Hid (∀ W q pw, DW W (Bd.of w.heap.size) q pw s5 P5 L2 O2 → Calls Tryz.prog 19 #[.pointer (some ⟨q, 0, none⟩), .int .u64 0, .int .i64 0] W
      (fun e w' => ∃ v, e = .returned (.tuple #[v, .int .i64 13]) ∧ Byt 5 w' v (dRdB fD s5 P5 L2 X2 0 0) ∧ DW w' (Bd.of w.heap.size) q pw (dRdS fD s5 P5 L2 X2 0 0) P6 L2 O2 ∧ KeptT DAT (Bd.of w.heap.size) W w')) := by
    unfold Hid; intro W q pw h; exact readD W (Bd.of w.heap.size) q pw s5 P5 L2 O2 X2 rfl 13 _ h eD5.1 rfl
  have HOF : Hid (∀ W q pw s, DW W (Bd.of w.heap.size) q pw s P6 L2 O2 → Calls Tryz.prog 21 #[.pointer (some ⟨pw, 0, none⟩)] W fun e w' => e = .returned (.bool true) ∧ W = w') := by
    unfold Hid; intro W q pw s h; have := off_any h.p; rw [eD5.2] at this; exact this
  go_enter Tryz.func4, Tryz.ntmps4
  go_wp2_with fail
  refine (newpower_any _).mono ?_
  rintro e w1 ⟨pw, rfl, hp1, hb1⟩
  have HN := Lib.hid (HNW.out w1 (Bd.of w.heap.size) pw hp1 hb1.size)
  clear hp1
  go_wp2_with fail
  refine HN.out.mono ?_
  rintro e w2 ⟨q, rfl, hd2, hb2⟩
  have hbl2 : Below w.heap.size w w2 := hb1.trans (hb2.mono hb1.size)
  have HC := Lib.hid (fun fr => HW1.out w2 q pw fr hd2)
  clear hd2 HN HNW HW1
  go_wp2_with fail
  refine (HC.out _).mono ?_
  rintro e w3 ⟨rfl, hd3, hb3⟩
  have hbl3 := hbl2.trans hb3
  have HC3 := Lib.hid (fun fr => HW2.out w3 q pw fr hd3)
  clear hd3 HC HW2
  go_wp2_with fail
  refine (HC3.out _).mono ?_
  rintro e w4 ⟨rfl, hd4, hb4⟩
  have hbl4 := hbl3.trans hb4
  have HC4 := Lib.hid (HR3.out w4 q pw hd4)
  clear hd4 HC3 HR3 kc
  go_wp2_with fail
  refine HC4.out.mono ?_
  rintro e w5 ⟨v5, rfl, hv5, hd5, hk5⟩
  have HV5 := Lib.hid hv5
  have hbl5 := hbl4.trans (hk5.below hbl4.size)
  have HC5 := Lib.hid (HA4.out w5 q pw hd5)
  clear hd5 hv5 hk5 HC4 HA4
  go_wp2_with fail
  refine HC5.out.mono ?_
  rintro e w6 ⟨rfl, hd6, hk6⟩
  have HV6 := Lib.hid (HV5.out.kept hk6 (KeptT.free (by decide)))
  have hbl6 := hbl5.trans (hk6.below hbl5.size)
  have HC6 := Lib.hid (HR5.out w6 q pw hd6)
  clear hd6 hk6 HC5 HR5 HV5
  go_wp2_with fail
  refine HC6.out.mono ?_
  rintro e w7 ⟨v7, rfl, _, hd7, hk7⟩
  have HV7 := Lib.hid (HV6.out.kept hk7 (KeptT.free (by unfold DAT; decide)))
  have hbl7 := hbl6.trans (hk7.below hbl6.size)
  have HC7 := Lib.hid (HR6.out w7 q pw hd7)
  clear hd7 hk7 HC6 HR6 HV6
  go_wp2_with fail
  refine HC7.out.mono ?_
  rintro e w8 ⟨v8, rfl, _, hd8, hk8⟩
  obtain ⟨A8, c8, rfl, hr8, _⟩ := HV7.out.kept hk8 (KeptT.free (by unfold DAT; decide))
  have hbl8 := hbl7.trans (hk8.below hbl7.size)
  have HC8 := Lib.hid (HOF.out w8 q pw _ hd8)
  have k8 : (convert 53 9 (.slice A8 1 c8)).run Tryz.prog w8 = .ok (.string ⟨#[120]⟩) w8 := conv_bytes c8 hr8.rd
  clear hd8 hk8 HC7 HOF HV7 hr8
  go_wp2_with fail
  refine HC8.out.mono ?_
  rintro e w9 ⟨rfl, rfl⟩
  clear k8
  go_wp2
  go_ret
  exact ⟨by first | rfl | simp, hbl8⟩
end Go.Proofs.YtckdhhadlemakaaGreat
