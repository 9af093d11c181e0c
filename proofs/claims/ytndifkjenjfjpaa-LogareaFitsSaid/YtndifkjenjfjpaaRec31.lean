/-
  WHAT IS SHOWN: what Same of tegularef27 returns for a record and itself. Conditions: the record can be read at both places.
-/
import Derived.Deep.DeepCutAuto
import Derived.Test.YtndifkjenjfjpaaRecA
namespace Go.Proofs.Ytndifkjenjfjpaa
set_option linter.unusedVariables false
open Go.RowKit

set_option maxRecDepth 100000 in
set_option maxHeartbeats 2000000 in
theorem same_rec (r : Rec) (A D N A' D' N' : Option Addr) (c d n c' d' n' : Nat) (w : World) (h : RecR w w.heap.size r A c D d N n) (h' : RecR w w.heap.size r A' c' D' d' N' n') (hw : r.ws.length ≤ 1000000) (hm : r.ms.length ≤ 1000000) (hn : r.note.length ≤ 1000000) :
    Calls Try.prog 29 #[.agg #[.int .u64 r.gen, .int .u64 r.seq, .slice A r.ws.length c, .slice D r.ms.length d, .slice N r.note.length n], .agg #[.int .u64 r.gen, .int .u64 r.seq, .slice A' r.ws.length c', .slice D' r.ms.length d', .slice N' r.note.length n']] w fun e w' => e = .returned (.bool true) ∧ Below w.heap.size w w' := by
  have HH := Lib.hid h
  have HH' := Lib.hid h'
  clear h h'
  have hb0 : Below w.heap.size w ((w.alloc (.cells #[.int .u64 r.gen, .int .u64 r.seq, .slice A r.ws.length c, .slice D r.ms.length d, .slice N r.note.length n] 27)).alloc (.cells #[.int .u64 r.gen, .int .u64 r.seq, .slice A' r.ws.length c', .slice D' r.ms.length d', .slice N' r.note.length n'] 27)) := ((Below.refl _ _).alloc (Nat.le_refl _) _).alloc (by simp) _
  have hv1 := conv_bytes n (HH.out.note.below hb0 (Nat.le_refl _))
  have hv2 := conv_bytes n' (HH'.out.note.below hb0 (Nat.le_refl _))
  have hp := Cells5.below (Cells5.new w 27 (.int .u64 r.gen) (.int .u64 r.seq) (.slice A r.ws.length c) (.slice D r.ms.length d) (.slice N r.note.length n)) (((Below.refl (w.heap.size + 1) _).alloc (by simp) (.cells #[.int .u64 r.gen, .int .u64 r.seq, .slice A' r.ws.length c', .slice D' r.ms.length d', .slice N' r.note.length n'] 27))) (by omega : w.heap.size < w.heap.size + 1)
  have hp' : Cells5 ((w.alloc (.cells #[.int .u64 r.gen, .int .u64 r.seq, .slice A r.ws.length c, .slice D r.ms.length d, .slice N r.note.length n] 27)).alloc (.cells #[.int .u64 r.gen, .int .u64 r.seq, .slice A' r.ws.length c', .slice D' r.ms.length d', .slice N' r.note.length n'] 27)) (w.heap.size + 1) (.int .u64 r.gen) (.int .u64 r.seq) (.slice A' r.ws.length c') (.slice D' r.ms.length d') (.slice N' r.note.length n') := by
    have := Cells5.new (w.alloc (.cells #[.int .u64 r.gen, .int .u64 r.seq, .slice A r.ws.length c, .slice D r.ms.length d, .slice N r.note.length n] 27)) 27 (.int .u64 r.gen) (.int .u64 r.seq) (.slice A' r.ws.length c') (.slice D' r.ms.length d') (.slice N' r.note.length n')
    rw [World.size_alloc] at this; exact this
  have hz : w.heap.size + 2 = ((w.alloc (.cells #[.int .u64 r.gen, .int .u64 r.seq, .slice A r.ws.length c, .slice D r.ms.length d, .slice N r.note.length n] 27)).alloc (.cells #[.int .u64 r.gen, .int .u64 r.seq, .slice A' r.ws.length c', .slice D' r.ms.length d', .slice N' r.note.length n'] 27)).heap.size := by simp
  have HP := Lib.hid hp
  have HP' := Lib.hid hp'
  have HB0 := Lib.hid hb0
  clear hp hp' hb0
  go_enter Try.func29, Try.ntmps29
  go_wp2
  generalize ((w.alloc (.cells #[.int .u64 r.gen, .int .u64 r.seq, .slice A r.ws.length c, .slice D r.ms.length d, .slice N r.note.length n] 27)).alloc (.cells #[.int .u64 r.gen, .int .u64 r.seq, .slice A' r.ws.length c', .slice D' r.ms.length d', .slice N' r.note.length n'] 27)) = W1 at *
  have HBW : Hid (∀ W, Below (w.heap.size + 2) W1 W → Below w.heap.size w W) := fun W hW => HB0.out.trans (hW.mono (by omega))
  go_loopw [5] (fun i wr => ∃ k : Nat, k ≤ r.ws.length ∧ i = .int .i64 k ∧ Hid (Below (w.heap.size + 2) W1 wr)) (fun i _ => r.ws.length - (intOf i).toNat)
  case atStart => exact ⟨0, Nat.zero_le _, rfl, Below.refl _ _⟩
  case round =>
    obtain ⟨k, hk, rfl, HBR⟩ := hrel
    have PA := HP.out.below HBR.out (by omega)
    have PB := HP'.out.below HBR.out (by omega)
    have q2 := PA.c2; have q3 := PA.c3; have r2 := PB.c2; have r3 := PB.c3
    clear PA PB
    by_cases hlt : k < r.ws.length
    · obtain ⟨g1, o1, rfl, hg1, a0, a1, a2, a3, a4, a5, a6, a7, a8, a9, a10⟩ := (HH.out.ws.below (HBW.out _ HBR.out) (Nat.le_refl _)).pw hlt
      obtain ⟨g2, o2, rfl, hg2, b0, b1, b2, b3, b4, b5, b6, b7, b8, b9, b10⟩ := (HH'.out.ws.below (HBW.out _ HBR.out) (Nat.le_refl _)).pw hlt
      generalize r.ws[k] = x at *
      have hbe := fun W : World => blk_eq W x.d0 x.d1 x.d2 x.d3 x.d4 x.d5 x.d6 x.d7
      go_wp2
      go_quiet (fail)
      have HB2 := Lib.hid (below_drewN HBR.out nq)
      go_wp2
      go_roundw
      case rel => exact ⟨k + 1, hlt, by go_num, HB2⟩
      case measure => simp [intOf]; omega
    · obtain rfl : k = r.ws.length := by omega
      go_wp2
      go_loopw [6] (fun i wr => ∃ k : Nat, k ≤ r.ms.length ∧ i = .int .i64 k ∧ Hid (Below (w.heap.size + 2) W1 wr)) (fun i _ => r.ms.length - (intOf i).toNat)
      case atStart => exact ⟨0, Nat.zero_le _, rfl, HBR⟩
      case round =>
        clear q2 q3 r2 r3
        rename World => wa
        obtain ⟨k, hk, rfl, HBS⟩ := hrel
        have PA := HP.out.below HBS.out (by omega)
        have PB := HP'.out.below HBS.out (by omega)
        have q2 := PA.c2; have q3 := PA.c3; have r2 := PB.c2; have r3 := PB.c3
        clear PA PB
        by_cases hlt : k < r.ms.length
        · obtain ⟨g1, o1, rfl, hg1, a0, a1, a2, a3⟩ := (HH.out.ms.below (HBW.out _ HBS.out) (Nat.le_refl _)).mv hlt
          obtain ⟨g2, o2, rfl, hg2, b0, b1, b2, b3⟩ := (HH'.out.ms.below (HBW.out _ HBS.out) (Nat.le_refl _)).mv hlt
          generalize r.ms[k] = x at *
          go_wp2
          go_quiet (fail)
          have HB2 := Lib.hid (below_drewN HBS.out nq)
          go_wp2
          go_roundw
          case rel => exact ⟨k + 1, hlt, by go_num, HB2⟩
          case measure => simp [intOf]; omega
        · obtain rfl : k = r.ms.length := by omega
          go_wp2
          go_ret
          exact ⟨rfl, HBW.out _ HBS.out⟩
end Go.Proofs.Ytndifkjenjfjpaa
