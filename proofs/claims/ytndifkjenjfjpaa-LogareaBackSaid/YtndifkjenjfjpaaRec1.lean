/-
  WHAT IS SHOWN: what Sum of crc64 and of tegularef08 return: the same number. Conditions: the bytes can be read.
-/
import Derived.Test.YtndifkjenjfjpaaRec0
namespace Go.Proofs.Ytndifkjenjfjpaa
set_option linter.unusedVariables false
open Go.RowKit

/-- A step of the sum; some steps; the register behind bytes. -/
def stepC (x : Int) : Int := if (bits BinOp.and IntKind.u64 x 1 == 1) = true then bits BinOp.xor IntKind.u64 (x / 2) 14514072000185962306 else x / 2
def stepsC : Nat → Int → Int
  | 0, x => x
  | k + 1, x => stepC (stepsC k x)
def crcX (x : Int) (xs : List Int) : Int := xs.foldl (fun x c => stepsC 8 (bits BinOp.xor IntKind.u64 x (IntKind.u64.wrap c))) x
theorem crcX_take (x : Int) (xs : List Int) (k : Nat) (h : k < xs.length) : crcX x (xs.take (k + 1)) = stepsC 8 (bits BinOp.xor IntKind.u64 (crcX x (xs.take k)) (IntKind.u64.wrap xs[k])) := by
  unfold crcX; rw [List.take_succ_eq_append_getElem h, List.foldl_append]; rfl
set_option maxHeartbeats 400000 in
theorem step_any (x : Int) (w : World) : Calls Try.prog 94 #[.int .u64 x] w fun e w' => e = .returned (.int .u64 (stepC x)) ∧ Below w.heap.size w w' := by
  cases hb : (bits BinOp.and IntKind.u64 x 1 == 1)
  · have HS : Hid (stepC x = x / 2) := by unfold Hid stepC; rw [hb]; rfl
    go_enter Try.func94, Try.ntmps94
    go_wp2
    go_ret
    exact ⟨by rw [HS.out]; rfl, Below.refl _ _⟩
  · have HS : Hid (stepC x = bits BinOp.xor IntKind.u64 (x / 2) 14514072000185962306) := by unfold Hid stepC; rw [hb]; rfl
    go_enter Try.func94, Try.ntmps94
    go_wp2
    go_ret
    exact ⟨by rw [HS.out]; rfl, Below.refl _ _⟩
set_option maxHeartbeats 1000000 in
theorem steps_any (x : Int) (w : World) : Calls Try.prog 93 #[.int .u64 x, .int .i64 8] w fun e w' => e = .returned (.int .u64 (stepsC 8 x)) ∧ Below w.heap.size w w' := by
  go_enter Try.func93, Try.ntmps93
  go_wp2
  go_loop [0, 5, 6] (fun s0 s5 s6 => ∃ k : Nat, k ≤ 8 ∧ s5 = .int .i64 k ∧ s0 = .int .u64 (stepsC k x)) (fun _ v _ => 8 - (intOf v).toNat)
  case atStart => exact ⟨0, by omega, rfl, rfl⟩
  case round =>
    obtain ⟨k, hk, rfl, rfl⟩ := hrel
    by_cases hlt : k < 8
    · have k1 : (k : Int) < 8 := by omega
      have HT : Hid (stepsC (k + 1) x = stepC (stepsC k x)) := rfl
      generalize stepsC k x = y at *
      cases hb : (bits BinOp.and IntKind.u64 y 1 == 1)
      · have HS : Hid (stepC y = y / 2) := by unfold Hid stepC; rw [hb]; rfl
        go_wp2
        go_round
        case rel => exact ⟨k + 1, by omega, by go_num, by rw [HT.out, HS.out]⟩
        case measure => simp [intOf]; omega
      · have HS : Hid (stepC y = bits BinOp.xor IntKind.u64 (y / 2) 14514072000185962306) := by unfold Hid stepC; rw [hb]; rfl
        go_wp2
        go_round
        case rel => exact ⟨k + 1, by omega, by go_num, by rw [HT.out, HS.out]⟩
        case measure => simp [intOf]; omega
    · obtain rfl : k = 8 := by omega
      go_wp2
      go_ret
      exact ⟨rfl, Below.refl _ _⟩
def notC (x : Int) : Int := bits BinOp.xor IntKind.u64 IntKind.u64.max x
/-- The sum of bytes. -/
def sumC (xs : List Int) : Int := notC (crcX (notC 0) xs)
set_option maxHeartbeats 1000000 in
theorem update_any (s : Int) (xs : List Int) (A : Option Addr) (c : Nat) (w : World) (hr : Rd w w.heap.size A (xs.map (Value.int .u8))) (hn : xs.length ≤ 1000000) :
    Calls Try.prog 92 #[.int .u64 s, .slice A xs.length c] w fun e w' => e = .returned (.int .u64 (notC (crcX (notC s) xs))) ∧ Below w.heap.size w w' := by
  have HR := Lib.hid hr
  have HS := Lib.hid step_any
  clear hr
  go_enter Try.func92, Try.ntmps92
  go_wp2
  go_loopw [5, 12] (fun s5 s12 wr => ∃ k : Nat, k ≤ xs.length ∧ s12 = .int .i64 k ∧ s5 = .int .u64 (crcX (notC s) (xs.take k)) ∧ Below w.heap.size w wr) (fun _ v _ => xs.length - (intOf v).toNat)
  case atStart => exact ⟨0, Nat.zero_le _, rfl, rfl, Below.refl _ _⟩
  case round =>
    obtain ⟨k, hk, rfl, rfl, hbr⟩ := hrel
    by_cases hlt : k < xs.length
    · obtain ⟨g, o, rfl, hg, hc⟩ := byte_at (HR.out.below hbr (Nat.le_refl _)) hlt
      have HT := Lib.hid (crcX_take (notC s) xs k hlt)
      have k0 : (0 : Int) ≤ k := by omega
      have k1 : (k : Int) < xs.length := by omega
      generalize crcX (notC s) (xs.take k) = y at *
      generalize xs[k] = b at *
      go_wp2
      go_loopw [5, 20] (fun s5 s20 wx => ∃ j : Nat, j ≤ 8 ∧ s20 = .int .i64 j ∧ s5 = .int .u64 (stepsC j (bits BinOp.xor IntKind.u64 y (IntKind.u64.wrap b))) ∧ Below w.heap.size w wx) (fun _ v _ => 8 - (intOf v).toNat)
      case atStart => exact ⟨0, by omega, rfl, rfl, hbr⟩
      case round =>
        obtain ⟨j, hj, rfl, rfl, hbx⟩ := hrel
        by_cases hl8 : j < 8
        · have j1 : (j : Int) < 8 := by omega
          have HJ : Hid (stepsC (j + 1) (bits BinOp.xor IntKind.u64 y (IntKind.u64.wrap b)) = stepC (stepsC j (bits BinOp.xor IntKind.u64 y (IntKind.u64.wrap b)))) := rfl
          generalize stepsC j (bits BinOp.xor IntKind.u64 y (IntKind.u64.wrap b)) = z at *
          go_wp2_with fail
          refine (HS.out z _).mono ?_
          rintro e w2 ⟨rfl, hb2⟩
          have hbl2 := hbx.trans (hb2.mono hbx.size)
          go_wp2
          go_roundw
          case rel => exact ⟨j + 1, by omega, by go_num, by rw [HJ.out], hbl2⟩
          case measure => simp [intOf]; omega
        · obtain rfl : j = 8 := by omega
          generalize stepsC 8 (bits BinOp.xor IntKind.u64 y (IntKind.u64.wrap b)) = z at *
          go_wp2
          go_roundw
          case rel => exact ⟨k + 1, by omega, by go_num, by rw [HT.out], hbx⟩
          case measure => simp [intOf]; omega
    · obtain rfl : k = xs.length := by omega
      rw [List.take_of_length_le (Nat.le_refl _)]
      generalize hy : crcX (notC s) xs = y at *
      have HY := Lib.hid hy
      clear hy
      go_wp2
      go_ret
      exact ⟨by rw [HY.out]; rfl, hbr⟩
set_option maxHeartbeats 1000000 in
theorem rupdate_any (s : Int) (xs : List Int) (A : Option Addr) (c : Nat) (w : World) (hr : Rd w w.heap.size A (xs.map (Value.int .u8))) (hn : xs.length ≤ 1000000) :
    Calls Try.prog 85 #[.int .u64 s, .slice A xs.length c] w fun e w' => e = .returned (.int .u64 (notC (crcX (notC s) xs))) ∧ Below w.heap.size w w' := by
  have HR := Lib.hid hr
  have HS := Lib.hid steps_any
  clear hr
  go_enter Try.func85, Try.ntmps85
  go_wp2
  go_loopw [5, 6] (fun s5 s6 wr => ∃ k : Nat, k ≤ xs.length ∧ s6 = .int .i64 k ∧ s5 = .int .u64 (crcX (notC s) (xs.take k)) ∧ Below w.heap.size w wr) (fun _ v _ => xs.length - (intOf v).toNat)
  case atStart => exact ⟨0, Nat.zero_le _, rfl, rfl, Below.refl _ _⟩
  case round =>
    obtain ⟨k, hk, rfl, rfl, hbr⟩ := hrel
    by_cases hlt : k < xs.length
    · obtain ⟨g, o, rfl, hg, hc⟩ := byte_at (HR.out.below hbr (Nat.le_refl _)) hlt
      have HT := Lib.hid (crcX_take (notC s) xs k hlt)
      have k0 : (0 : Int) ≤ k := by omega
      have k1 : (k : Int) < xs.length := by omega
      generalize crcX (notC s) (xs.take k) = y at *
      generalize xs[k] = b at *
      go_wp2_with fail
      refine (HS.out _ _).mono ?_
      rintro e w2 ⟨rfl, hb2⟩
      have hbl2 := hbr.trans (hb2.mono hbr.size)
      go_wp2
      go_roundw
      case rel => exact ⟨k + 1, by omega, by go_num, by rw [HT.out], hbl2⟩
      case measure => simp [intOf]; omega
    · obtain rfl : k = xs.length := by omega
      rw [List.take_of_length_le (Nat.le_refl _)]
      generalize hy : crcX (notC s) xs = y at *
      have HY := Lib.hid hy
      clear hy
      go_wp2
      go_ret
      exact ⟨by rw [HY.out]; rfl, hbr⟩
theorem sum_any (xs : List Int) (A : Option Addr) (c : Nat) (w : World) (hr : Rd w w.heap.size A (xs.map (Value.int .u8))) (hn : xs.length ≤ 1000000) :
    Calls Try.prog 81 #[.slice A xs.length c] w fun e w' => e = .returned (.int .u64 (sumC xs)) ∧ Below w.heap.size w w' := by
  have H := Lib.hid (update_any 0 xs A c w hr hn)
  have HN : Hid (sumC xs = notC (crcX (notC 0) xs)) := rfl
  clear hr
  generalize notC (crcX (notC 0) xs) = y at *
  go_enter Try.func81, Try.ntmps81
  go_wp2_with fail
  refine H.out.mono ?_
  rintro e w1 ⟨rfl, hb1⟩
  go_wp2
  go_ret
  exact ⟨by rw [HN.out]; rfl, hb1⟩
theorem rsum_any (xs : List Int) (A : Option Addr) (c : Nat) (w : World) (hr : Rd w w.heap.size A (xs.map (Value.int .u8))) (hn : xs.length ≤ 1000000) :
    Calls Try.prog 67 #[.slice A xs.length c] w fun e w' => e = .returned (.int .u64 (sumC xs)) ∧ Below w.heap.size w w' := by
  have H := Lib.hid (rupdate_any 0 xs A c w hr hn)
  have HN : Hid (sumC xs = notC (crcX (notC 0) xs)) := rfl
  clear hr
  generalize notC (crcX (notC 0) xs) = y at *
  go_enter Try.func67, Try.ntmps67
  go_wp2_with fail
  refine H.out.mono ?_
  rintro e w1 ⟨rfl, hb1⟩
  go_wp2
  go_ret
  exact ⟨by rw [HN.out]; rfl, hb1⟩
end Go.Proofs.Ytndifkjenjfjpaa
