/-
  WHAT IS SHOWN: awake of the laws of the drive returns true. what the methods of a nil drive return. the program's laying out, as the laws of the drive need it. Conditions: as each theorem names them.
-/
import Derived.Test.YtggkengmlkhdiaaGreatM23
import Derived.Test.YtggkengmlkhdiaaGreatRows
import Derived.ProofKit
import Derived.OpenShut
import Derived.ChangeOld
import Derived.Deep.Slices
import Derived.Deep.Fields
import Derived.Lib.SmallJoins
namespace Go.Proofs.YtggkengmlkhdiaaGreat
set_option linter.unusedVariables false
open Go.RowKit

set_option maxRecDepth 100000 in
set_option maxHeartbeats 8000000 in
theorem awake20_any (w : World) : Calls Tryz.prog 16 #[] w fun e w' => e = .returned (.bool true) ∧ Below w.heap.size w w' := by
  have hbe := fun W : World => blk_eql W 7 0 0 0 0 0 0 0 7 0 0 0 0 0 0 0
  go_enter Tryz.func16, Tryz.ntmps16
  go_wp2_with fail
  refine (newpower_any _).mono ?_
  rintro e w1 ⟨pw, rfl, hp1, hb1⟩
  have HB1 := Lib.hid hb1
  have HN := Lib.hid (dnew_yes (B := Bd.of w.heap.size) (g := exG) [] none 0 (by decide) (by decide) (by intro i v hi; simp [flatF] at hi) (by decide) hp1 hb1.size)
  clear hp1 hb1
  go_wp2_with fail
  refine HN.out.mono ?_
  rintro e w2 ⟨q, rfl, hd2, hb2⟩
  have HB2 : Hid (Below w.heap.size w w2) := HB1.out.trans (hb2.mono HB1.out.size)
  have HC := Lib.hid (exnew hd2)
  clear hd2 hb2 HN
  go_wp2_with fail
  refine HC.out.mono ?_
  rintro e w3 ⟨p, ea, ec, BA, bc, rfl, hd3, hk3⟩
  have HB3 : Hid (Below w.heap.size w w3) := HB2.out.trans (hk3.below HB2.out.size)
  have HW1 := Lib.hid (exw1 hd3)
  clear hd3 hk3 HC
  go_wp2_with fail
  refine HW1.out.mono ?_
  rintro e w4 ⟨rfl, BA4, bc4, hd4, hk4⟩
  have HB4 : Hid (Below w.heap.size w w4) := HB3.out.trans (hk4.below HB3.out.size)
  have HR := Lib.hid (exr1 hd4)
  clear hd4 hk4 HW1
  go_wp2_with fail
  refine HR.out.mono ?_
  rintro e w5 ⟨rfl, BA5, bc5, hd5, hk5⟩
  have HB5 : Hid (Below w.heap.size w w5) := HB4.out.trans (hk5.below HB4.out.size)
  have hbl6 : Below w5.heap.size w5 (w5.alloc (.cells #[.int .u8 7, .int .u8 0, .int .u8 0, .int .u8 0, .int .u8 0, .int .u8 0, .int .u8 0, .int .u8 0] 27)) := (Below.refl _ _).alloc (Nat.le_refl _) _
  have HB6 : Hid (Below w.heap.size w (w5.alloc (.cells #[.int .u8 7, .int .u8 0, .int .u8 0, .int .u8 0, .int .u8 0, .int .u8 0, .int .u8 0, .int .u8 0] 27))) := HB5.out.alloc HB5.out.size _
  have HX6 : Hid ((w5.alloc (.cells #[.int .u8 7, .int .u8 0, .int .u8 0, .int .u8 0, .int .u8 0, .int .u8 0, .int .u8 0, .int .u8 0] 27)).heap[w5.heap.size]? = some (.cells #[.int .u8 7, .int .u8 0, .int .u8 0, .int .u8 0, .int .u8 0, .int .u8 0, .int .u8 0, .int .u8 0] 27 (0, 0))) := heap_alloc_new _ _
  have HW2 := Lib.hid (exw2 (hd5.below0 hbl6))
  clear hd5 hk5 HR hbl6
  go_upto_region 10 with fail
  generalize (w5.alloc (.cells #[.int .u8 7, .int .u8 0, .int .u8 0, .int .u8 0, .int .u8 0, .int .u8 0, .int .u8 0, .int .u8 0] 27)) = w6 at *
  go_wp2_with fail
  refine HW2.out.mono ?_
  rintro e w7 ⟨rfl, BA7, bc7, hd7, hk7⟩
  have HB7 : Hid (Below w.heap.size w w7) := HB6.out.trans (hk7.below HB6.out.size)
  have HX7 := Lib.hid (Kept.obj hk7 HX6.out (KeptT.no (IsT.of HX6.out) (by unfold DRT; decide)))
  have HT := Lib.hid (ext4 hd7)
  clear hd7 hk7 HW2 HX6
  go_wp2_with fail
  refine HT.out.mono ?_
  rintro e w8 ⟨rfl, BA8, bc8, hd8, hk8⟩
  have HB8 : Hid (Below w.heap.size w w8) := HB7.out.trans (hk8.below HB7.out.size)
  have HX8 := Lib.hid (Kept.obj hk8 HX7.out (KeptT.no (IsT.of HX7.out) (by unfold DRT; decide)))
  have HR5 := Lib.hid (exr5 hd8)
  clear hd8 hk8 HT HX7
  go_wp2_with fail
  refine HR5.out.mono ?_
  rintro e w9 ⟨rfl, BA9, bc9, hd9, hk9⟩
  have HB9 : Hid (Below w.heap.size w w9) := HB8.out.trans (hk9.below HB8.out.size)
  have HX9 := Lib.hid (Kept.obj hk9 HX8.out (KeptT.no (IsT.of HX8.out) (by unfold DRT; decide)))
  clear hd9 hk9 HR5 HX8
  have hbl10 : Below w9.heap.size w9 (w9.alloc (.cells #[.int .u8 0, .int .u8 0, .int .u8 0, .int .u8 0, .int .u8 0, .int .u8 0, .int .u8 0, .int .u8 0] 27)) := (Below.refl _ _).alloc (Nat.le_refl _) _
  have HB10 : Hid (Below w.heap.size w (w9.alloc (.cells #[.int .u8 0, .int .u8 0, .int .u8 0, .int .u8 0, .int .u8 0, .int .u8 0, .int .u8 0, .int .u8 0] 27))) := HB9.out.alloc HB9.out.size _
  have HX10 := Lib.hid (belObj hbl10 HX9.out (lt_of_block HX9.out))
  clear HX9 hbl10
  go_upto_region 13 with fail
  generalize (w9.alloc (.cells #[.int .u8 0, .int .u8 0, .int .u8 0, .int .u8 0, .int .u8 0, .int .u8 0, .int .u8 0, .int .u8 0] 27)) = w10 at *
  obtain ⟨⟨p0, p1, p2, p3, p4, p5, p6, p7⟩, _⟩ := cells8q HX10.out
  go_wp2
  go_ret
  exact ⟨rfl, HB10.out⟩
end Go.Proofs.YtggkengmlkhdiaaGreat
namespace Go.Proofs.YtggkengmlkhdiaaGreat
set_option linter.unusedVariables false
open Go.RowKit

section
variable {w : World}
set_option maxRecDepth 100000
set_option maxHeartbeats 2000000
theorem nstate20_any : Calls Tryz.prog 38 #[.pointer none] w fun e w' => e = .returned (.int .i64 8) ∧ w' = w := by
  go_enter Tryz.func38, Tryz.ntmps38
  go_wp2
  go_ret
  exact ⟨rfl, rfl⟩
theorem nversion20_any (b : Int) : Calls Tryz.prog 13 #[.pointer none, .int .i64 b] w fun e w' => e = .returned (.tuple #[.int .u64 0, .bool false]) ∧ Below w.heap.size w w' := by
  go_enter Tryz.func13, Tryz.ntmps13
  go_wp2
  go_ret2
  exact ⟨rfl, Below.refl _ _⟩
theorem nblocks20_any : Calls Tryz.prog 17 #[.pointer none] w fun e w' => e = .returned (.int .i64 0) ∧ w' = w := by
  go_enter Tryz.func17, Tryz.ntmps17
  go_wp2
  go_ret
  exact ⟨rfl, rfl⟩
theorem ninfo20_any : Calls Tryz.prog 18 #[.pointer none] w fun e w' => e = .returned (.slice none 0 0) ∧ w' = w := by
  go_enter Tryz.func18, Tryz.ntmps18
  go_wp2
  go_ret
  exact ⟨rfl, rfl⟩
theorem nclean20_any : Calls Tryz.prog 15 #[.pointer none] w fun e w' => e = .returned (.tuple #[.int .i64 0, .int .i64 8]) ∧ Below w.heap.size w w' := by
  go_enter Tryz.func15, Tryz.ntmps15
  go_wp2_with fail
  refine nstate20_any.mono ?_
  rintro e w1 ⟨rfl, rfl⟩
  go_wp2
  go_ret2
  exact ⟨rfl, Below.refl _ _⟩
theorem nflush20_any : Calls Tryz.prog 21 #[.pointer none] w fun e w' => e = .returned (.int .i64 8) ∧ Below w.heap.size w w' := by
  have hb : Below w.heap.size w (w.alloc (.cells #[.pointer none] 22)) := (Below.refl _ _).alloc (Nat.le_refl _) _
  go_enter Tryz.func21, Tryz.ntmps21
  go_wp2_with fail
  refine nstate20_any.mono ?_
  rintro e w1 ⟨rfl, rfl⟩
  go_wp2
  go_ret
  exact ⟨rfl, hb⟩
theorem nput20_any (k b v : Int) : Calls Tryz.prog 46 #[.pointer none, .agg #[.int .i64 k, .int .i64 b, .int .u64 v, .int .u8 0, .int .u8 0, .int .u8 0, .int .u8 0, .int .u8 0, .int .u8 0, .int .u8 0, .int .u8 0]] w fun e w' => e = .returned (.int .i64 8) ∧ Below w.heap.size w w' := by
  have hb : Below w.heap.size w (w.alloc (.cells #[.int .i64 k, .int .i64 b, .int .u64 v, .int .u8 0, .int .u8 0, .int .u8 0, .int .u8 0, .int .u8 0, .int .u8 0, .int .u8 0, .int .u8 0] 89)) := (Below.refl _ _).alloc (Nat.le_refl _) _
  go_enter Tryz.func46, Tryz.ntmps46
  go_wp2_with fail
  refine nstate20_any.mono ?_
  rintro e w1 ⟨rfl, rfl⟩
  go_wp2
  go_ret
  exact ⟨rfl, hb⟩
theorem nwrite20_any (b v : Int) : Calls Tryz.prog 19 #[.pointer none, .int .i64 b, .int .u64 v, .agg #[.int .u8 0, .int .u8 0, .int .u8 0, .int .u8 0, .int .u8 0, .int .u8 0, .int .u8 0, .int .u8 0]] w fun e w' => e = .returned (.int .i64 8) ∧ Below w.heap.size w w' := by
  have hb : Below w.heap.size w (w.alloc (.cells #[.int .u8 0, .int .u8 0, .int .u8 0, .int .u8 0, .int .u8 0, .int .u8 0, .int .u8 0, .int .u8 0] 27)) := (Below.refl _ _).alloc (Nat.le_refl _) _
  go_enter Tryz.func19, Tryz.ntmps19
  go_wp2_with fail
  refine (nput20_any 1 b v).mono ?_
  rintro e w1 ⟨rfl, hb1⟩
  have HB := Lib.hid (hb.trans (hb1.mono hb.size))
  clear hb hb1
  go_wp2
  go_ret
  exact ⟨rfl, HB.out⟩
theorem ntrim20_any (b v : Int) : Calls Tryz.prog 20 #[.pointer none, .int .i64 b, .int .u64 v] w fun e w' => e = .returned (.int .i64 8) ∧ Below w.heap.size w w' := by
  go_enter Tryz.func20, Tryz.ntmps20
  go_wp2_with fail
  refine (nput20_any 2 b v).mono ?_
  rintro e w1 ⟨rfl, hb1⟩
  have HB := Lib.hid hb1
  clear hb1
  go_wp2
  go_ret
  exact ⟨rfl, HB.out⟩
set_option maxHeartbeats 4000000 in
theorem nread20_any (b : Int) : Calls Tryz.prog 14 #[.pointer none, .int .i64 b] w fun e w' => e = .returned (.tuple #[.int .u64 0, .agg #[.int .u8 0, .int .u8 0, .int .u8 0, .int .u8 0, .int .u8 0, .int .u8 0, .int .u8 0, .int .u8 0], .int .i64 8]) ∧ Below w.heap.size w w' := by
  have HB0 : Hid (Below w.heap.size w (w.alloc (.cells #[.int .u8 0, .int .u8 0, .int .u8 0, .int .u8 0, .int .u8 0, .int .u8 0, .int .u8 0, .int .u8 0] 27))) := (Below.refl _ _).alloc (Nat.le_refl _) _
  have HO : Hid ((w.alloc (.cells #[.int .u8 0, .int .u8 0, .int .u8 0, .int .u8 0, .int .u8 0, .int .u8 0, .int .u8 0, .int .u8 0] 27)).heap[w.heap.size]? = some (.cells #[.int .u8 0, .int .u8 0, .int .u8 0, .int .u8 0, .int .u8 0, .int .u8 0, .int .u8 0, .int .u8 0] 27 (0, 0))) := heap_alloc_new _ _
  go_enter Tryz.func14, Tryz.ntmps14
  go_wp2_with fail
  generalize (w.alloc (.cells #[.int .u8 0, .int .u8 0, .int .u8 0, .int .u8 0, .int .u8 0, .int .u8 0, .int .u8 0, .int .u8 0] 27)) = w0 at *
  refine nstate20_any.mono ?_
  rintro e w1 ⟨rfl, rfl⟩
  have HFN : Hid (∀ W, Kept (fun k => k = w.heap.size) w1 W → Below w.heap.size w W) := fun W hk => HB0.out.trans (hk.below (fun i h => by have h' : i = w.heap.size := h; omega) HB0.out.size)
  obtain ⟨⟨p0, p1, p2, p3, p4, p5, p6, p7⟩, ⟨q0, q1, q2, q3, q4, q5, q6, q7⟩⟩ := cells8q HO.out
  have hS := set8q (l := [_, _, _, _, _, _, _, _]) HO.out rfl (.int .u8 0) (.int .u8 0) (.int .u8 0) (.int .u8 0) (.int .u8 0) (.int .u8 0) (.int .u8 0) (.int .u8 0)
  have HS := Lib.hid hS.1
  have HF2 := Lib.hid (HFN.out _ hS.2)
  clear hS
  go_wp2
  obtain ⟨⟨r0, r1, r2, r3, r4, r5, r6, r7⟩, _⟩ := cells8q HS.out
  generalize ((((((((w1.setCell ⟨w.heap.size, 0, none⟩ (.int .u8 0)).setCell ⟨w.heap.size, 1, none⟩ (.int .u8 0)).setCell ⟨w.heap.size, 2, none⟩ (.int .u8 0)).setCell ⟨w.heap.size, 3, none⟩ (.int .u8 0)).setCell ⟨w.heap.size, 4, none⟩ (.int .u8 0)).setCell ⟨w.heap.size, 5, none⟩ (.int .u8 0)).setCell ⟨w.heap.size, 6, none⟩ (.int .u8 0)).setCell ⟨w.heap.size, 7, none⟩ (.int .u8 0)) = w30 at *
  clear p0 p1 p2 p3 p4 p5 p6 p7 q0 q1 q2 q3 q4 q5 q6 q7
  refine bodyPost_ret (by simp [results, Tryz.results14, go_sem, *]; rfl) rfl ?_
  exact ⟨rfl, HF2.out⟩
end
end Go.Proofs.YtggkengmlkhdiaaGreat
namespace Go.Proofs.YtggkengmlkhdiaaGreat
set_option linter.unusedVariables false
open Go.ChangeShapes Go.WideShapes Go.ChangeAt Go.RowKit Go.Deep

theorem own : ownKnob Tryz.prog.godebug = none := by kernel_rfl
theorem laidOut : laidOutB Tryz.prog = true := by kernel_rfl
end Go.Proofs.YtggkengmlkhdiaaGreat
