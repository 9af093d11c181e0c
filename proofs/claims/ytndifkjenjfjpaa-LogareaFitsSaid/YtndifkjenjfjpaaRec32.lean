/-
  WHAT IS SHOWN: what Short of tegularef27 and long of tegulalaw27 return. Conditions: none, and that the sectors can be read.
-/
import Derived.Test.YtndifkjenjfjpaaRec28
namespace Go.Proofs.Ytndifkjenjfjpaa
set_option linter.unusedVariables false
open Go.RowKit

def shortR (r : Rec) : Bool := decide (r.ws.length ≤ 70) && decide (r.ms.length ≤ 70) && decide (r.note.length ≤ 300)
set_option maxHeartbeats 1000000 in
theorem short_any (r : Rec) (A D N : Option Addr) (c d n : Nat) (w : World) :
    Calls Try.prog 17 #[.agg #[.int .u64 r.gen, .int .u64 r.seq, .slice A r.ws.length c, .slice D r.ms.length d, .slice N r.note.length n]] w fun e w' => e = .returned (.bool (shortR r)) ∧ Below w.heap.size w w' := by
  have hb0 : Below w.heap.size w (w.alloc (.cells #[.int .u64 r.gen, .int .u64 r.seq, .slice A r.ws.length c, .slice D r.ms.length d, .slice N r.note.length n] 27)) := (Below.refl _ _).alloc (Nat.le_refl _) _
  have HB0 := Lib.hid hb0
  have hp := Cells5.new w 27 (.int .u64 r.gen) (.int .u64 r.seq) (.slice A r.ws.length c) (.slice D r.ms.length d) (.slice N r.note.length n)
  have p2 := hp.c2; have p3 := hp.c3; have p4 := hp.c4
  clear hp hb0
  by_cases h1 : r.ws.length ≤ 70
  · by_cases h2 : r.ms.length ≤ 70
    · by_cases h3 : r.note.length ≤ 300
      · have HS : Hid (shortR r = true) := by unfold Hid shortR; simp [h1, h2, h3]
        go_enter Try.func17, Try.ntmps17
        go_wp2
        go_ret
        exact ⟨by rw [HS.out]; first | rfl | (simp; omega), HB0.out⟩
      · have HS : Hid (shortR r = false) := by unfold Hid shortR; simp [h3]
        go_enter Try.func17, Try.ntmps17
        go_wp2
        go_ret
        exact ⟨by rw [HS.out]; first | rfl | (simp; omega), HB0.out⟩
    · have HS : Hid (shortR r = false) := by unfold Hid shortR; simp [h2]
      go_enter Try.func17, Try.ntmps17
      go_wp2
      go_ret
      exact ⟨by rw [HS.out]; first | rfl | (simp; omega), HB0.out⟩
  · have HS : Hid (shortR r = false) := by unfold Hid shortR; simp [h1]
    go_enter Try.func17, Try.ntmps17
    go_wp2
    go_ret
    exact ⟨by rw [HS.out]; first | rfl | (simp; omega), HB0.out⟩
def longL (ls : List (List Int)) : Bool := ls.any (fun b => decide (200 < b.length)) || decide (100 < ls.length)
set_option maxHeartbeats 1000000 in
theorem long_any (ss : List Sl) (A : Option Addr) (c : Nat) (w : World) (h : SlsR w w.heap.size A ss) (hl : ss.length ≤ 9223372036854775807) (hx : ∀ s ∈ ss, s.xs.length ≤ 9223372036854775807) :
    Calls Try.prog 26 #[.slice A ss.length c] w fun e w' => e = .returned (.bool (longL (ss.map Sl.xs))) ∧ Below w.heap.size w w' := by
  have HH := Lib.hid h
  have HX := Lib.hid hx
  clear h hx
  go_enter Try.func26, Try.ntmps26
  go_wp2
  go_loopw [6] (fun i wr => ∃ k : Nat, k ≤ ss.length ∧ i = .int .i64 k ∧ Hid (((ss.map Sl.xs).take k).any (fun b => decide (200 < b.length)) = false) ∧ wr = w) (fun i _ => ss.length - (intOf i).toNat)
  case atStart => exact ⟨0, Nat.zero_le _, rfl, rfl, rfl⟩
  case round =>
    obtain ⟨k, hk, rfl, HT, rfl⟩ := hrel
    by_cases hlt : k < ss.length
    · obtain ⟨g1, o1, rfl, hg1, j1, hr1⟩ := sl_at HH.out hlt
      have hxl : k < (ss.map Sl.xs).length := by simpa using hlt
      have hxe : (ss.map Sl.xs)[k] = ss[k].xs := by simp
      have hxb := HX.out _ (List.getElem_mem hlt)
      by_cases h2 : ss[k].xs.length ≤ 200
      · have HT2 : Hid (((ss.map Sl.xs).take (k + 1)).any (fun b => decide (200 < b.length)) = false) := by
          unfold Hid
          rw [List.take_succ_eq_append_getElem hxl, List.any_append, HT.out, hxe]
          simp; omega
        generalize ss[k] = s at *
        clear hxl hxe hr1
        go_wp2
        go_roundw
        case rel => exact ⟨k + 1, hlt, by go_num, HT2, by trivial⟩
        case measure => simp [intOf]; omega
      · have HD : Hid (longL (ss.map Sl.xs) = true) := by
          unfold Hid longL
          rw [Bool.or_eq_true]
          left
          rw [List.any_eq_true]
          exact ⟨_, List.getElem_mem hxl, by rw [hxe]; simp; omega⟩
        generalize ss[k] = s at *
        clear hxl hxe hr1
        go_wp2
        go_ret
        exact ⟨by rw [HD.out]; rfl, Below.refl _ _⟩
    · obtain rfl : k = ss.length := by omega
      have hT := HT.out
      rw [show ss.length = (ss.map Sl.xs).length by simp, List.take_length] at hT
      by_cases h100 : ss.length ≤ 100
      · have HD : Hid (longL (ss.map Sl.xs) = false) := by unfold Hid longL; rw [hT]; simp; omega
        go_wp2
        go_ret
        exact ⟨by rw [HD.out]; first | rfl | (simp; omega), Below.refl _ _⟩
      · have HD : Hid (longL (ss.map Sl.xs) = true) := by unfold Hid longL; rw [hT]; simp; omega
        go_wp2
        go_ret
        exact ⟨by rw [HD.out]; first | rfl | (simp; omega), Below.refl _ _⟩
end Go.Proofs.Ytndifkjenjfjpaa
