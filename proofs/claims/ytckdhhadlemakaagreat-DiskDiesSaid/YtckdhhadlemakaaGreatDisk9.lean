/-
  WHAT IS SHOWN: what NewPower, Arm, Off and New of disk return and leave, and the methods that only read. Conditions: disk and power supply lie in memory.
-/
import Derived.Test.YtckdhhadlemakaaGreatDisk7
import Derived.Test.YtckdhhadlemakaaGreatCac7
namespace Go.Proofs.YtckdhhadlemakaaGreat
set_option linter.unusedVariables false
open Go.RowKit

section
variable {w w' : World} {B : Bd} {q pw : Nat} {g : Geo} {F : List Flt} {s : DS} {P : Pow} {LM : List Sec} {O : List OpV}
theorem newpower_any (w : World) : Calls Tryz.prog 16 #[] w fun e w' => ∃ pw, e = .returned (.pointer (some ⟨pw, 0, none⟩)) ∧ PowM w' (Bd.of w.heap.size) pw ⟨false, false, 0, 0⟩ ∧ Below w.heap.size w w' := by
  have hr := World.ownsRow_lit (base := w.heap.size) (e := 83) (size := 4) w #[.bool false, .bool false, .int .i64 0, .int .i64 0] 1 (Nat.le_refl _) (by decide) rfl
  have HR := Lib.hid hr
  clear hr
  go_enter Tryz.func16, Tryz.ntmps16
  go_wp2
  go_ret
  exact ⟨_, rfl, ⟨HR.out, fun h => h⟩, (Below.refl _ _).alloc (Nat.le_refl _) _⟩
def armP (P : Pow) (n : Int) : Pow := if P.off then P else ⟨P.off, decide (0 ≤ n), n, P.fails⟩
set_option maxHeartbeats 1000000 in
theorem arm_any (n : Int) (hp : PowM w B pw P) : Calls Tryz.prog 20 #[.pointer (some ⟨pw, 0, none⟩), .int .i64 n] w fun e w' => e = .returned (.tuple #[]) ∧ PowM w' B pw (armP P n) ∧ KeptT [83] B w w' := by
  obtain ⟨p0, p1, p2, p3⟩ := hp.cells
  have f0 := hp.obj.frozenAt 0
  have f1 := hp.obj.frozenAt 1
  have f2 := hp.obj.frozenAt 2
  obtain ⟨off, armed, left, fails⟩ := P
  simp only at p0 p1 p2 p3
  cases off
  · obtain ⟨hp1, hk1⟩ := hp.store 1 (.bool (decide (0 ≤ n))) ⟨false, decide (0 ≤ n), left, fails⟩ rfl
    obtain ⟨hp2, hk2⟩ := hp1.store 2 (.int .i64 n) ⟨false, decide (0 ≤ n), n, fails⟩ rfl
    have HP := Lib.hid hp2
    have HK := Lib.hid (hk1.trans hk2)
    clear hp hp1 hp2 hk1 hk2
    go_enter Tryz.func20, Tryz.ntmps20
    go_wp2
    go_end0
    exact ⟨rfl, HP.out, HK.out⟩
  · have HP := Lib.hid hp
    clear hp
    go_enter Tryz.func20, Tryz.ntmps20
    go_wp2
    first | go_end0 | refine bodyPost_ret (results_none rfl _ _ _) rfl ?_
    exact ⟨rfl, HP.out, KeptT.refl _ _ _⟩
theorem off_any (hp : PowM w B pw P) : Calls Tryz.prog 21 #[.pointer (some ⟨pw, 0, none⟩)] w fun e w' => e = .returned (.bool P.off) ∧ w = w' := by
  obtain ⟨p0, _, _, _⟩ := hp.cells
  clear hp
  go_enter Tryz.func21, Tryz.ntmps21
  go_wp2
  go_ret
  exact ⟨rfl, rfl⟩
theorem info_flt : (Tryz.prog.info? 64).map (fun i => (i.zero, i.size, i.bytes)) = some (some (.agg #[.int .i64 0, .int .i64 0, .int .i64 0]), 3, 24) := by kernel_rfl
theorem flatF_one (l : List Flt) : ∀ u ∈ flatF l, u.oneCell' = true := by
  intro u hu
  obtain ⟨o, _, hu⟩ := List.mem_flatMap.1 hu
  simp [Flt.cells] at hu
  rcases hu with rfl | rfl | rfl <;> rfl
theorem flatF_len (l : List Flt) : (flatF l).length = l.length * 3 := flat_len Flt.cells 3 fltcells_len l
set_option maxRecDepth 100000 in
set_option maxHeartbeats 400000 in
theorem clonefl_any (l : List Flt) (A : Option Addr) (c : Nat) (w : World) (hr : Rd w w.heap.size A (flatF l)) (hn : l.length * 24 ≤ 140737488355328) :
    Calls Tryz.prog 50 #[.slice A l.length c] w fun e w' => ∃ A' c', e = .returned (.slice A' l.length c') ∧ RdT w' 64 A' (flatF l) ∧ Below w.heap.size w w' := by
  obtain ⟨i0, hi, hz0, hz1, hz2⟩ := info_parts info_flt
  have hnil := fun (w : World) a n c => Lib.run_eql_slice_nil (P := Tryz.prog) w 24 64 a n c 0 0 Tryz.underlying24
  cases A with
  | none =>
    have hx := hr.at_none
    obtain rfl : l = [] := by cases l; rfl; simp [flatF, Flt.cells] at hx
    go_enter Tryz.func50, Tryz.ntmps50
    go_wp2
    go_ret
    exact ⟨none, 0, rfl, RdT.nil _ _ _, Below.refl _ _⟩
  | some a =>
    have hro := World.ownsRow_lit (base := w.heap.size) (e := 64) (size := 3) w #[] 0 (Nat.le_refl _) (by decide) rfl
    have hla := hr.alloc (Nat.le_refl _) (.cells #[] 64)
    go_enter Tryz.func50, Tryz.ntmps50
    go_wp2_with (at_builtin; refine wpList_append_own _ rfl _ _ 24 rfl w.heap.size 64 i0 _ 3 24 Tryz.underlying24 hi hz0 hz1 hz2 rfl (by decide) _ 0 [] rfl hro a l.length c (flatF l) rfl (flatF_len l) hla.at_add (flatF_one l) (by unfold maxLen; omega) (by omega) (by simp) ?_)
    intro v' w' hown hgrow hiff
    try simp only [Nat.zero_add, List.nil_append] at hown
    obtain ⟨A', c', hv⟩ := own_form hown
    subst hv
    go_wp2
    go_ret
    exact ⟨A', c', rfl, RdT.of_own hown, ((Below.refl _ _).alloc (Nat.le_refl _) _).grown hgrow (by simp) (fun k hk => by simp [Value.ownBlock] at hk; omega)⟩
def newS (P : Pow) : DS := ⟨0, 0, 0, 0, 0, P.fails, 0, false⟩
/-- What New returns. -/
def DNewPost (w : World) (B : Bd) (pw : Nat) (g : Geo) (F : List Flt) (P : Pow) (e : Ending) (w' : World) : Prop :=
  ∃ q, e = .returned (.tuple #[.pointer (some ⟨q, 0, none⟩), .int .i64 0]) ∧ DPm w' B q pw g F (newS P) P (blankL g) [] ∧ Below w.heap.size w w'
set_option maxRecDepth 100000 in
set_option maxHeartbeats 2000000 in
theorem dnew_yes (l : List Flt) (A : Option Addr) (c : Nat) (hv : validG g = true) (hvl : validF l = true) (hr : Rd w w.heap.size A (flatF l)) (hn : l.length * 24 ≤ 140737488355328) (hp : PowM w B pw P) (hB : B.top ≤ w.heap.size) :
    Calls Tryz.prog 17 #[.agg #[.int .i64 g.random, .int .i64 g.bands, .int .i64 g.tracks, .int .i64 g.sectors, .int .i64 g.overlap], .slice A l.length c, .pointer (some ⟨pw, 0, none⟩)] w (DNewPost w B pw g l P) := by
  have HF := Lib.hid (blank_fit ((validG_iff g).1 hv))
  have HN := Lib.hid (fun W => new_yes g hv W)
  have hb0 : Below w.heap.size w (w.alloc (.cells #[.int .i64 g.random, .int .i64 g.bands, .int .i64 g.tracks, .int .i64 g.sectors, .int .i64 g.overlap] 23)) := (Below.refl _ _).alloc (Nat.le_refl _) _
  have HFV : Hid (∀ W, Below w.heap.size w W → Calls Tryz.prog 48 #[.slice A l.length c] W fun e w' => e = .returned (.bool true) ∧ Below W.heap.size W w') := by
    unfold Hid; intro W hW; have := fvalid_any l A c W ((hr.below hW (Nat.le_refl _)).more hW.size) (by omega); rw [hvl] at this; exact this
  have HCL : Hid (∀ W, Below w.heap.size w W → Calls Tryz.prog 50 #[.slice A l.length c] W fun e w' => ∃ A' c', e = .returned (.slice A' l.length c') ∧ RdT w' 64 A' (flatF l) ∧ Below W.heap.size W w') := by
    unfold Hid; intro W hW; exact clonefl_any l A c W ((hr.below hW (Nat.le_refl _)).more hW.size) hn
  have HPW : Hid (∀ W, Below w.heap.size w W → PowM W B pw P ∧ W.cell? ⟨pw, 3, none⟩ = some (.int .i64 P.fails)) := by
    unfold Hid; intro W hW; exact ⟨hp.below0 hW, (hp.below0 hW).cells.2.2.2⟩
  have hlp := (IsT.own hp.obj).lt
  have pw0 := hp.cells.2.2.2
  clear hv hvl hr hp
  go_enter Tryz.func17, Tryz.ntmps17
  go_wp2_with fail
  refine (HN.out _).mono ?_
  rintro e w1 ⟨m, bs, rfl, hm, hmb, hbb, hb1⟩
  have HM := Lib.hid hm
  have PG := (Cells5.new w 23 (.int .i64 g.random) (.int .i64 g.bands) (.int .i64 g.tracks) (.int .i64 g.sectors) (.int .i64 g.overlap)).below hb1 (by simp)
  have hbl1 := hb0.trans (hb1.mono hb0.size)
  clear hm
  go_wp2_with fail
  refine (HFV.out _ hbl1).mono ?_
  rintro e w2 ⟨rfl, hb2⟩
  have hbl2 := hbl1.trans (hb2.mono hbl1.size)
  have hz1 : w.heap.size < w1.heap.size := by have := hb1.size; simp at this; omega
  have PG2 := PG.below hb2 hz1
  have hz2 : w.heap.size < w2.heap.size := Nat.lt_of_lt_of_le hz1 hb2.size
  have HM2 := Lib.hid (HM.out.below0 hb2)
  have p0 := PG2.c0; have p1 := PG2.c1; have p2 := PG2.c2; have p3 := PG2.c3; have p4 := PG2.c4
  have r3 := (HPW.out w2 hbl2).2
  have hlp2 : pw < w2.heap.size := Nat.lt_of_lt_of_le hlp hbl2.size
  have HCN : Hid (∀ W, Below w2.heap.size w2 W → Calls Tryz.prog 49 #[.pointer (some ⟨m, 0, none⟩)] W (CNewPost W g (blankL g) [])) := by
    unfold Hid; intro W hW; exact cnew_any (HM2.out.below0 hW) HF.out
  clear PG PG2 pw0
  go_wp2
  go_region_held3 (fun W => W.cell? ⟨w.heap.size, 0, none⟩ = some (.int .i64 g.random) ∧ W.cell? ⟨w.heap.size, 1, none⟩ = some (.int .i64 g.bands) ∧ W.cell? ⟨w.heap.size, 2, none⟩ = some (.int .i64 g.tracks) ∧ W.cell? ⟨w.heap.size, 3, none⟩ = some (.int .i64 g.sectors) ∧ W.cell? ⟨w.heap.size, 4, none⟩ = some (.int .i64 g.overlap) ∧ W.cell? ⟨pw, 3, none⟩ = some (.int .i64 P.fails))
    (first | (refine ⟨?_, ?_, ?_, ?_, ?_, ?_⟩ <;> assumption) | (simp (maxDischargeDepth := 20) [World.cell?_alloc_some, *]; done))
    ((first
      | (go_at_call 49
         refine (HCN.out _ ((Below.refl w2.heap.size w2).drew)).mono ?_
         rintro e w3 ⟨p, rfl, hp3, hb3⟩
         have hw3 : Below w2.heap.size w2 w3 := ((Below.refl w2.heap.size w2).drew).trans hb3
         have HP3 := Lib.hid hp3
         have q0 := (hw3.cell (p := ⟨w.heap.size, 0, none⟩) hz2).trans p0
         have q1 := (hw3.cell (p := ⟨w.heap.size, 1, none⟩) hz2).trans p1
         have q2 := (hw3.cell (p := ⟨w.heap.size, 2, none⟩) hz2).trans p2
         have q3 := (hw3.cell (p := ⟨w.heap.size, 3, none⟩) hz2).trans p3
         have q4 := (hw3.cell (p := ⟨w.heap.size, 4, none⟩) hz2).trans p4
         have q5 := (hw3.cell (p := ⟨pw, 3, none⟩) hlp2).trans r3)
      | (go_at_call 50
         refine (HCL.out _ (hbl2.trans (hw3.mono hbl2.size))).mono ?_
         rintro e w4 ⟨A4, c4, rfl, hr4, hb4⟩
         have hw4 : Below w2.heap.size w2 w4 := hw3.trans (hb4.mono hw3.size)
         have HR4 := Lib.hid hr4
         have q0' := (hw4.cell (p := ⟨w.heap.size, 0, none⟩) hz2).trans p0
         have q1' := (hw4.cell (p := ⟨w.heap.size, 1, none⟩) hz2).trans p1
         have q2' := (hw4.cell (p := ⟨w.heap.size, 2, none⟩) hz2).trans p2
         have q3' := (hw4.cell (p := ⟨w.heap.size, 3, none⟩) hz2).trans p3
         have q4' := (hw4.cell (p := ⟨w.heap.size, 4, none⟩) hz2).trans p4
         have q5' := (hw4.cell (p := ⟨pw, 3, none⟩) hlp2).trans r3
         clear hr4)))
  have hw24 : Below w.heap.size w w4 := hbl2.trans (hw4.mono hbl2.size)
  have HD : Hid (DPm (w4.alloc (.cells #[.int .i64 0, .int .i64 0, .int .i64 0, .int .i64 0, .int .i64 0, .int .i64 g.random, .int .i64 g.bands, .int .i64 g.tracks, .int .i64 g.sectors, .int .i64 g.overlap, .pointer (some ⟨p, 0, none⟩), .slice A4 l.length c4, .pointer (some ⟨pw, 0, none⟩), .int .i64 P.fails, .int .u64 0, .bool false] 79)) B w4.heap.size pw g l (newS P) P (blankL g) []) := by
    unfold Hid
    have hb9 : Below w4.heap.size w4 (w4.alloc (.cells #[.int .i64 0, .int .i64 0, .int .i64 0, .int .i64 0, .int .i64 0, .int .i64 g.random, .int .i64 g.bands, .int .i64 g.tracks, .int .i64 g.sectors, .int .i64 g.overlap, .pointer (some ⟨p, 0, none⟩), .slice A4 l.length c4, .pointer (some ⟨pw, 0, none⟩), .int .i64 P.fails, .int .u64 0, .bool false] 79)) := (Below.refl _ _).alloc (Nat.le_refl _) _
    refine ⟨⟨p, A4, c4, ⟨?_, Bd.nx (Nat.le_trans hB hw24.size), ?_, HR4.out.below0 hb9⟩⟩, (HPW.out w4 hw24).1.below0 hb9, HF.out, short_blank _, Nat.le_trans hB (hw24.trans (hb9.mono hw24.size)).size⟩
    · exact World.ownsRow_lit (base := B.n) (e := 79) (size := 16) w4 _ 1 (Nat.le_trans B.le (Nat.le_trans hB hw24.size)) (by decide) rfl
    · exact ((HP3.out.below0 hb4).below0 hb9).mono (Bd.subOf (Nat.le_trans hB hbl2.size))
  rename_i hheld
  clear hheld q0 q1 q2 q3 q4 q5 q0' q1' q2' q3' q4' q5' p0 p1 p2 p3 p4 r3
  go_wp2
  go_ret2
  exact ⟨_, rfl, HD.out, hw24.alloc hw24.size _⟩
end
end Go.Proofs.YtckdhhadlemakaaGreat
