/-
  WHAT IS SHOWN: more: a block is equal to itself. what Same of tegularef27 returns for a record and itself. plain facts: lists of records in memory. what SameAll of tegularef27 returns for equal lists; what few and large of tegulalaw28, Next of logarea and of tegularef28 return. what Next of logarea and of tegularef28 returns. what Valid of tegularef28 returns. what Sectors of tegularef28 returns. the log of wal in memory; what its numbered, Used, Next and Fits return. what Records and Rewrite of wal return. the log of tegularef49 in memory; what its Numbered returns; what SameErrors returns for equal lists. what Append and Rewrite of the log of tegularef49 return and leave. what New of tegularef49 returns. what a walk is told of the parameters of tegulalaw49: faults, lists of faults, records. plain facts, of no program: a region that draws its order, whose calls stand in a chain and whose other operations only read what no call changes: one walk of the text's order serves every order. Conditions: as each theorem names them.
-/
import Derived.Test.YtaggiceejcegdaaGreatNb00
import Derived.Test.YtaggiceejcegdaaGreatNb01
import Derived.Test.YtaggiceejcegdaaGreatNb02
import Derived.Test.YtaggiceejcegdaaGreatNb03
import Derived.Test.YtaggiceejcegdaaGreatNb04
import Derived.Test.YtaggiceejcegdaaGreatNb05
import Derived.Test.YtaggiceejcegdaaGreatNb06
import Derived.Test.YtaggiceejcegdaaGreatNb07
import Derived.Test.YtaggiceejcegdaaGreatNb08
import Derived.Test.YtaggiceejcegdaaGreatNb09
import Derived.Test.YtaggiceejcegdaaGreatNb10
import Derived.Test.YtaggiceejcegdaaGreatNb11
import Derived.Test.YtaggiceejcegdaaGreatNb12
import Derived.Test.YtaggiceejcegdaaGreatNb13
import Derived.Test.YtaggiceejcegdaaGreatNb14
import Derived.Test.YtaggiceejcegdaaGreatNb15
import Derived.Test.YtaggiceejcegdaaGreatNb16
import Derived.Test.YtaggiceejcegdaaGreatNb17
import Derived.Test.YtaggiceejcegdaaGreatNb18
import Derived.Test.YtaggiceejcegdaaGreatNb19
import Derived.Test.YtaggiceejcegdaaGreatNb20
import Derived.Test.YtaggiceejcegdaaGreatNb21
import Derived.Test.YtaggiceejcegdaaGreatNb22
import Derived.Test.YtaggiceejcegdaaGreatNb23
import Derived.Test.YtaggiceejcegdaaGreatNb24
import Derived.Test.YtaggiceejcegdaaGreatNb25
import Derived.Test.YtaggiceejcegdaaGreatNb26
import Derived.Test.YtaggiceejcegdaaGreatNb27
import Derived.Test.YtaggiceejcegdaaGreatNb28
import Derived.Test.YtaggiceejcegdaaGreatNb29
import Derived.Test.YtaggiceejcegdaaGreatNb30
import Derived.Test.YtaggiceejcegdaaGreatNb31
import Derived.Test.YtaggiceejcegdaaGreatNb32
import Derived.Test.YtaggiceejcegdaaGreatNb33
import Derived.Test.YtaggiceejcegdaaGreatNb34
import Derived.Test.YtaggiceejcegdaaGreatNb35
import Derived.Test.YtaggiceejcegdaaGreatNb36
import Derived.Test.YtaggiceejcegdaaGreatNb37
import Derived.BigQuiet
import Derived.ChangeKeysEq
import Derived.ChangeOld
import Derived.Deep.AppendLies
import Derived.Deep.DeepCutAuto
import Derived.Deep.Draws
import Derived.Deep.Fields
import Derived.Deep.QuietTactic
import Derived.Deep.RegionHeld3
import Derived.Deep.RegionLaw
import Derived.Deep.Slices
import Derived.Handy
import Derived.Laws.AppendOwnNone
import Derived.Laws.BytesArg
import Derived.Laws.Cover3
import Derived.Laws.MakeOwn
import Derived.Laws.OwnMore
import Derived.Laws.Rows
import Derived.Lib.ConvBytes
import Derived.Lib.Hide
import Derived.Lib.SmallJoins
import Derived.Lib.VarintBits
import Derived.Lib.Zigzag
import Derived.LoopIn
import Derived.LoopNIn
import Derived.Maps.AppendAt
import Derived.OpenShut
import Derived.OwnWalkIn
import Derived.ProofKit
import Derived.RangeFuncBox
import Derived.RangeFuncLeaves
import Derived.Shelf.Abstract
import Derived.Sort.QuietIn
import Derived.TacticsInMore
import Derived.WalkKit
import Derived.WalkLawsBesides
import Derived.WalkMore
import Derived.WalkSpells
namespace Go.Proofs.YtaggiceejcegdaaGreat
set_option linter.unusedVariables false
open Go.RowKit

theorem blk_eq (W : World) (d0 d1 d2 d3 d4 d5 d6 d7 : Int) : (Op.equalIn 9999 149 (.agg #[.int .u8 d0, .int .u8 d1, .int .u8 d2, .int .u8 d3, .int .u8 d4, .int .u8 d5, .int .u8 d6, .int .u8 d7]) (.agg #[.int .u8 d0, .int .u8 d1, .int .u8 d2, .int .u8 d3, .int .u8 d4, .int .u8 d5, .int .u8 d6, .int .u8 d7])).run Tryz.prog W = .ok true W := by
  obtain ⟨i0, hi, hz0, hz1, hz2⟩ := info_parts qinfo_u8
  have hc : Tryz.prog.cellsOf 5 = 1 := by kernel_rfl
  have hr : List.range 8 = [0, 1, 2, 3, 4, 5, 6, 7] := rfl
  rw [show (9999 : Nat) = 9998 + 1 from rfl, run_equalIn_array W 9998 _ _ Tryz.underlying149 hi, hc, hr]
  simp [Op.eqItems, part, go_sem, Tryz.underlying5]
end Go.Proofs.YtaggiceejcegdaaGreat
namespace Go.Proofs.YtaggiceejcegdaaGreat
set_option linter.unusedVariables false
open Go.RowKit

set_option maxRecDepth 100000 in
set_option maxHeartbeats 2000000 in
theorem same_rec (r : Rec) (A D N A' D' N' : Option Addr) (c d n c' d' n' : Nat) (w : World) (h : RecR w w.heap.size r A c D d N n) (h' : RecR w w.heap.size r A' c' D' d' N' n') (hw : r.ws.length ≤ 1000000) (hm : r.ms.length ≤ 1000000) (hn : r.note.length ≤ 1000000) :
    Calls Tryz.prog 66 #[.agg #[.int .u64 r.gen, .int .u64 r.seq, .slice A r.ws.length c, .slice D r.ms.length d, .slice N r.note.length n], .agg #[.int .u64 r.gen, .int .u64 r.seq, .slice A' r.ws.length c', .slice D' r.ms.length d', .slice N' r.note.length n']] w fun e w' => e = .returned (.bool true) ∧ Below w.heap.size w w' := by
  have HH := Lib.hid h
  have HH' := Lib.hid h'
  clear h h'
  have hb0 : Below w.heap.size w ((w.alloc (.cells #[.int .u64 r.gen, .int .u64 r.seq, .slice A r.ws.length c, .slice D r.ms.length d, .slice N r.note.length n] 28)).alloc (.cells #[.int .u64 r.gen, .int .u64 r.seq, .slice A' r.ws.length c', .slice D' r.ms.length d', .slice N' r.note.length n'] 28)) := ((Below.refl _ _).alloc (Nat.le_refl _) _).alloc (by simp) _
  have hv1 := qconv_bytes n (HH.out.note.below hb0 (Nat.le_refl _))
  have hv2 := qconv_bytes n' (HH'.out.note.below hb0 (Nat.le_refl _))
  have hp := Cells5.below (Cells5.new w 28 (.int .u64 r.gen) (.int .u64 r.seq) (.slice A r.ws.length c) (.slice D r.ms.length d) (.slice N r.note.length n)) (((Below.refl (w.heap.size + 1) _).alloc (by simp) (.cells #[.int .u64 r.gen, .int .u64 r.seq, .slice A' r.ws.length c', .slice D' r.ms.length d', .slice N' r.note.length n'] 28))) (by omega : w.heap.size < w.heap.size + 1)
  have hp' : Cells5 ((w.alloc (.cells #[.int .u64 r.gen, .int .u64 r.seq, .slice A r.ws.length c, .slice D r.ms.length d, .slice N r.note.length n] 28)).alloc (.cells #[.int .u64 r.gen, .int .u64 r.seq, .slice A' r.ws.length c', .slice D' r.ms.length d', .slice N' r.note.length n'] 28)) (w.heap.size + 1) (.int .u64 r.gen) (.int .u64 r.seq) (.slice A' r.ws.length c') (.slice D' r.ms.length d') (.slice N' r.note.length n') := by
    have := Cells5.new (w.alloc (.cells #[.int .u64 r.gen, .int .u64 r.seq, .slice A r.ws.length c, .slice D r.ms.length d, .slice N r.note.length n] 28)) 28 (.int .u64 r.gen) (.int .u64 r.seq) (.slice A' r.ws.length c') (.slice D' r.ms.length d') (.slice N' r.note.length n')
    rw [World.size_alloc] at this; exact this
  have hz : w.heap.size + 2 = ((w.alloc (.cells #[.int .u64 r.gen, .int .u64 r.seq, .slice A r.ws.length c, .slice D r.ms.length d, .slice N r.note.length n] 28)).alloc (.cells #[.int .u64 r.gen, .int .u64 r.seq, .slice A' r.ws.length c', .slice D' r.ms.length d', .slice N' r.note.length n'] 28)).heap.size := by simp
  have HP := Lib.hid hp
  have HP' := Lib.hid hp'
  have HB0 := Lib.hid hb0
  clear hp hp' hb0
  go_enter Tryz.func66, Tryz.ntmps66
  go_wp2
  generalize ((w.alloc (.cells #[.int .u64 r.gen, .int .u64 r.seq, .slice A r.ws.length c, .slice D r.ms.length d, .slice N r.note.length n] 28)).alloc (.cells #[.int .u64 r.gen, .int .u64 r.seq, .slice A' r.ws.length c', .slice D' r.ms.length d', .slice N' r.note.length n'] 28)) = W1 at *
  have HBW : Hid (∀ W, Below (w.heap.size + 2) W1 W → Below w.heap.size w W) := fun W hW => HB0.out.trans (hW.mono (by omega))
  go_loopw [5] (fun i wr => ∃ k : Nat, k ≤ r.ws.length ∧ i = .int .i64 k ∧ Hid (Below (w.heap.size + 2) W1 wr)) (fun i _ => r.ws.length - (intOf i).toNat)
  case atStart => exact ⟨0, Nat.zero_le _, rfl, Below.refl _ _⟩
  case round =>
    obtain ⟨k, hk, rfl, HBR⟩ := hrel
    have PA := HP.out.below HBR.out (by omega)
    have PB := HP'.out.below HBR.out (by omega)
    have q2 := PA.c2; have q3 := PA.c3; have r2 := PB.c2; have r3 := PB.c3
    clear PA PB
    by_cases hlt : k < r.ws.length
    · obtain ⟨g1, o1, rfl, hg1, a0, a1, a2, a3, a4, a5, a6, a7, a8, a9, a10⟩ := (HH.out.ws.below (HBW.out _ HBR.out) (Nat.le_refl _)).pw hlt
      obtain ⟨g2, o2, rfl, hg2, b0, b1, b2, b3, b4, b5, b6, b7, b8, b9, b10⟩ := (HH'.out.ws.below (HBW.out _ HBR.out) (Nat.le_refl _)).pw hlt
      generalize r.ws[k] = x at *
      have hbe := fun W : World => blk_eq W x.d0 x.d1 x.d2 x.d3 x.d4 x.d5 x.d6 x.d7
      go_wp2
      go_quiet (fail)
      have HB2 := Lib.hid (below_drewN HBR.out nq)
      go_wp2
      go_roundw
      case rel => exact ⟨k + 1, hlt, by go_num, HB2⟩
      case measure => simp [intOf]; omega
    · obtain rfl : k = r.ws.length := by omega
      go_wp2
      go_loopw [6] (fun i wr => ∃ k : Nat, k ≤ r.ms.length ∧ i = .int .i64 k ∧ Hid (Below (w.heap.size + 2) W1 wr)) (fun i _ => r.ms.length - (intOf i).toNat)
      case atStart => exact ⟨0, Nat.zero_le _, rfl, HBR⟩
      case round =>
        clear q2 q3 r2 r3
        rename World => wa
        obtain ⟨k, hk, rfl, HBS⟩ := hrel
        have PA := HP.out.below HBS.out (by omega)
        have PB := HP'.out.below HBS.out (by omega)
        have q2 := PA.c2; have q3 := PA.c3; have r2 := PB.c2; have r3 := PB.c3
        clear PA PB
        by_cases hlt : k < r.ms.length
        · obtain ⟨g1, o1, rfl, hg1, a0, a1, a2, a3⟩ := (HH.out.ms.below (HBW.out _ HBS.out) (Nat.le_refl _)).mv hlt
          obtain ⟨g2, o2, rfl, hg2, b0, b1, b2, b3⟩ := (HH'.out.ms.below (HBW.out _ HBS.out) (Nat.le_refl _)).mv hlt
          generalize r.ms[k] = x at *
          go_wp2
          go_quiet (fail)
          have HB2 := Lib.hid (below_drewN HBS.out nq)
          go_wp2
          go_roundw
          case rel => exact ⟨k + 1, hlt, by go_num, HB2⟩
          case measure => simp [intOf]; omega
        · obtain rfl : k = r.ms.length := by omega
          go_wp2
          go_ret
          exact ⟨rfl, HBW.out _ HBS.out⟩
end Go.Proofs.YtaggiceejcegdaaGreat
namespace Go.Proofs.YtaggiceejcegdaaGreat
set_option linter.unusedVariables false
open Go.RowKit

theorem flatR_one (l : List RS) : ∀ u ∈ flatR l, u.oneCell' = true := fun u hu => by
  unfold flatR at hu
  obtain ⟨x, _, hx⟩ := List.mem_flatMap.1 hu
  exact x.one u hx
section
variable {w w' : World} {B C base : Nat} {A : Option Addr} {c : Nat} {l : List RS}
end
end Go.Proofs.YtaggiceejcegdaaGreat
namespace Go.Proofs.YtaggiceejcegdaaGreat
set_option linter.unusedVariables false
open Go.RowKit

set_option maxRecDepth 100000 in
set_option maxHeartbeats 2000000 in
theorem sameall_any (la lb : List RS) (he : la.map RS.r = lb.map RS.r) (ht : ∀ x ∈ la, Tiny x.r) (A D : Option Addr) (c d : Nat) (w : World) (ha : RcsR w w.heap.size A la) (hb : RcsR w w.heap.size D lb) (hl : la.length ≤ 1000000) :
    Calls Tryz.prog 27 #[.slice A la.length c, .slice D lb.length d] w fun e w' => e = .returned (.bool true) ∧ Below w.heap.size w w' := by
  have HA := Lib.hid ha
  have HB := Lib.hid hb
  have HT := Lib.hid ht
  have hlen : lb.length = la.length := by have := congrArg List.length he; rw [List.length_map, List.length_map] at this; exact this.symm
  have HE := Lib.hid he
  have HL := Lib.hid hlen
  rw [hlen]
  clear ha hb ht he hlen
  go_enter Tryz.func27, Tryz.ntmps27
  go_wp2
  go_loopw [5] (fun i wr => ∃ k : Nat, k ≤ la.length ∧ i = .int .i64 k ∧ Hid (Below w.heap.size w wr)) (fun i _ => la.length - (intOf i).toNat)
  case atStart => exact ⟨0, Nat.zero_le _, rfl, Below.refl _ _⟩
  case round =>
    obtain ⟨k, hk, rfl, HBR⟩ := hrel
    by_cases hlt : k < la.length
    · have hlt2 : k < lb.length := by rw [HL.out]; exact hlt
      have hx := (HA.out.up HBR.out).each _ (List.getElem_mem hlt)
      have hy := (HB.out.up HBR.out).each _ (List.getElem_mem hlt2)
      have hr : lb[k].r = la[k].r := by
        have h1 : (la.map RS.r)[k]? = (lb.map RS.r)[k]? := by rw [HE.out]
        rw [List.getElem?_map, List.getElem?_map, List.getElem?_eq_getElem hlt, List.getElem?_eq_getElem hlt2] at h1
        injection h1 with h1; exact h1.symm
      have htk := HT.out _ (List.getElem_mem hlt)
      obtain ⟨g1, o1, rfl, hg1, a0, a1, a2, a3, a4⟩ := (HA.out.up HBR.out).rd.rs hlt
      obtain ⟨g2, o2, rfl, hg2, b0, b1, b2, b3, b4⟩ := (HB.out.up HBR.out).rd.rs hlt2
      rw [hr] at b0 b1 b2 b3 b4 hy
      generalize la[k] = x at *
      generalize lb[k] = y at *
      have HSA := Lib.hid (fun W (hW : Below wr.heap.size wr W) => same_rec x.r x.A x.D x.N y.A y.D y.N x.c x.d x.n y.c y.d y.n W (hx.up hW) (hy.up hW) htk.ws htk.ms htk.note)
      clear hx hy hr htk hlt2
      have c0 := Held.cell a0 hg1; have c1 := Held.cell a1 hg1; have c2 := Held.cell a2 hg1; have c3 := Held.cell a3 hg1; have c4 := Held.cell a4 hg1
      have d0 := Held.cell b0 hg2; have d1 := Held.cell b1 hg2; have d2 := Held.cell b2 hg2; have d3 := Held.cell b3 hg2; have d4 := Held.cell b4 hg2
      clear a0 a1 a2 a3 a4 b0 b1 b2 b3 b4
      go_wp2_with fail
      have hne : Nonempty (Held (Below wr.heap.size wr)) := ⟨⟨_, (Held.drew_below (Nat.le_refl _))⟩⟩
      refine wp_region_heldq (S := (Below wr.heap.size wr)) (by kernel_rfl) (by kernel_rfl) (Held.drew_below (Nat.le_refl _)) ?_
      repeat (go_big_quiet_step ((go_at_call 66; exact Calls.held_below (Nat.le_refl _) (HSA.out _ (Held.h _)))))
      refine wpQuiet_nil ?_
      intro _ hw'
      obtain ⟨sq, hw''⟩ := hw'
      subst hw''
      clear hne
      have HB2 := Lib.hid (HBR.out.trans (sq.h.mono HBR.out.size))
      clear HSA c0 c1 c2 c3 c4 d0 d1 d2 d3 d4
      go_wp2
      go_roundw
      case rel => exact ⟨k + 1, hlt, by go_num, HB2⟩
      case measure => simp [intOf]; omega
    · obtain rfl : k = la.length := by omega
      go_wp2
      go_ret
      exact ⟨rfl, HBR.out⟩
end Go.Proofs.YtaggiceejcegdaaGreat
namespace Go.Proofs.YtaggiceejcegdaaGreat
set_option linter.unusedVariables false
open Go.RowKit

set_option maxRecDepth 100000 in
theorem rnext_any (n : Nat) (hn : n ≤ 9223372036854775807) (gen : Nat) (hg : gen < 2 ^ 64) (A : Option Addr) (c : Nat) (w : World) :
    Calls Tryz.prog 26 #[.slice A n c, .int .u64 gen] w fun e w' => e = .returned (.int .u64 (nextN n gen : Nat)) ∧ w' = w := by
  have HG : Hid (gen ≤ 18446744073709551615) := by unfold Hid; omega
  clear hg
  by_cases h1 : 4294967296 ≤ gen
  · have HD : Hid (nextN n gen = 0) := by unfold Hid nextN; rw [if_pos (.inl h1)]
    have hd : decide ((4294967296 : Int) ≤ (gen : Int)) = true := by simp; omega
    clear h1
    go_enter Tryz.func26, Tryz.ntmps26
    go_wp2
    go_ret
    exact ⟨by rw [HD.out]; rfl, rfl⟩
  · by_cases h2 : 4294967295 ≤ n
    · have HD : Hid (nextN n gen = 0) := by unfold Hid nextN; rw [if_pos (.inr h2)]
      have hd : decide ((4294967296 : Int) ≤ (gen : Int)) = false := by simp; omega
      have hd2 : decide ((4294967295 : Int) ≤ (n : Int)) = true := by simp; omega
      clear h1 h2
      go_enter Tryz.func26, Tryz.ntmps26
      go_wp2
      go_ret
      exact ⟨by rw [HD.out]; rfl, rfl⟩
    · have HD : Hid (nextN n gen = gen * 4294967296 + n + 1) := by unfold Hid nextN; rw [if_neg (by omega)]
      have hd : decide ((4294967296 : Int) ≤ (gen : Int)) = false := by simp; omega
      have hd2 : decide ((4294967295 : Int) ≤ (n : Int)) = false := by simp; omega
      have b1 : gen < 4294967296 := by omega
      have b2 : n < 4294967295 := by omega
      clear h1 h2
      go_enter Tryz.func26, Tryz.ntmps26
      go_wp2
      go_ret
      exact ⟨by rw [HD.out]; first | rfl | (simp; done), rfl⟩
end Go.Proofs.YtaggiceejcegdaaGreat
namespace Go.Proofs.YtaggiceejcegdaaGreat
set_option linter.unusedVariables false
open Go.RowKit

set_option maxRecDepth 100000 in
set_option maxHeartbeats 4000000 in
theorem rlogv_any (l : List RS) (ht : ∀ x ∈ l, Tiny x.r) (A : Option Addr) (c : Nat) (w : World) (h : RcsR w w.heap.size A l) (hl : l.length ≤ 1000000) :
    Calls Tryz.prog 103 #[.slice A l.length c] w fun e w' => e = .returned (.bool (logV (l.map RS.r))) ∧ Below w.heap.size w w' := by
  have HH := Lib.hid h
  have HT := Lib.hid ht
  clear h ht
  go_enter Tryz.func103, Tryz.ntmps103
  go_wp2
  go_loopw [3] (fun i wr => ∃ k : Nat, k ≤ l.length ∧ i = .int .i64 k ∧ Hid ((List.range k).all (okAt (l.map RS.r)) = true) ∧ Hid (Below w.heap.size w wr)) (fun i _ => l.length - (intOf i).toNat)
  case atStart => exact ⟨0, Nat.zero_le _, rfl, rfl, Below.refl _ _⟩
  case round =>
    obtain ⟨k, hk, rfl, HAL, HBR⟩ := hrel
    by_cases hlt : k < l.length
    · have hxl : k < (l.map RS.r).length := by simpa using hlt
      have h0l : 0 < l.length := by omega
      have h0m : 0 < (l.map RS.r).length := by simpa using h0l
      have hok := okAt_get hxl
      rw [hd_get h0m] at hok
      simp only [List.getElem_map] at hok
      have hrx := (HH.out.up HBR.out).each _ (List.getElem_mem hlt)
      have htx := HT.out _ (List.getElem_mem hlt)
      obtain ⟨g1, o1, rfl, hg1, a0, a1, a2, a3, a4⟩ := (HH.out.up HBR.out).rd.rs hlt
      obtain ⟨g2, o2, he2, hg2, z0, _⟩ := (HH.out.up HBR.out).rd.rs h0l
      injection he2 with he2; injection he2 with he2 he3; subst he2; subst he3
      rw [Nat.zero_mul, Nat.add_zero] at z0
      generalize l[0].r.gen = G at *
      generalize l[k] = x at *
      have hno : okAt (l.map RS.r) k = false → logV (l.map RS.r) = false := logV_no hxl
      have hyes : okAt (l.map RS.r) k = true → (List.range (k + 1)).all (okAt (l.map RS.r)) = true := range_all HAL.out
      have HNO := Lib.hid hno
      have HYE := Lib.hid hyes
      have HOK := Lib.hid hok
      have HBW := HBR
      have HRV := Lib.hid (fun W (hW : Below wr.heap.size wr W) => qvalid_any x.r x.A x.D x.N x.c x.d x.n W (hrx.up hW) (by have := htx.ws; omega) (by have := htx.ms; omega) (by have := htx.note; omega))
      clear hno hyes hok hrx htx hxl h0m
      go_wp2_with fail
      have c0 := Held.cell a0 hg1; have c1 := Held.cell a1 hg1; have c2 := Held.cell a2 hg1; have c3 := Held.cell a3 hg1; have c4 := Held.cell a4 hg1
      have d0 := Held.cell z0 hg1
      clear a0 a1 a2 a3 a4 z0
      have eW0 : IntKind.i64.wrap ((k : Int) + 1) = (k : Int) + 1 := by rw [IntKind.wrap_i64]; omega
      have eW1 : IntKind.u64.wrap ((k : Int) + 1) = (k : Int) + 1 := by rw [IntKind.wrap_u64]; omega
      obtain hv | hv : validR x.r = false ∨ validR x.r = true := by cases validR x.r; exact .inl rfl; exact .inr rfl
      · rw [hv] at HRV HOK
        clear hv
        have HD : Hid (logV (l.map RS.r) = false) := HNO.out (by rw [HOK.out]; rfl)
        have hne : Nonempty (Held (Below wr.heap.size wr)) := ⟨⟨_, (Held.drew_below (Nat.le_refl _))⟩⟩
        refine wp_region_heldq (S := (Below wr.heap.size wr)) (by kernel_rfl) (by kernel_rfl) (Held.drew_below (Nat.le_refl _)) ?_
        repeat (go_big_quiet_step ((go_at_call 67; exact Calls.held_below (Nat.le_refl _) (HRV.out _ (Held.h _)))))
        refine wpQuiet_nil ?_
        intro _ hw'
        obtain ⟨sq, hw''⟩ := hw'
        subst hw''
        clear hne
        go_wp2
        go_ret
        exact ⟨by rw [HD.out]; rfl, HBW.out.trans (sq.h.mono HBW.out.size)⟩
      · rw [hv] at HRV HOK
        clear hv
        by_cases hg : x.r.gen = G
        · have hge : ((x.r.gen : Int) != (G : Int)) = false := by simp; omega
          by_cases hs : x.r.seq = k + 1
          · have hse : ((x.r.seq : Int) != (k : Int) + 1) = false := by simp; omega
            have HT2 : Hid ((List.range (k + 1)).all (okAt (l.map RS.r)) = true) := HYE.out (by rw [HOK.out, decide_eq_true hg, decide_eq_true hs]; rfl)
            clear hg hs
            have hne : Nonempty (Held (Below wr.heap.size wr)) := ⟨⟨_, (Held.drew_below (Nat.le_refl _))⟩⟩
            refine wp_region_heldq (S := (Below wr.heap.size wr)) (by kernel_rfl) (by kernel_rfl) (Held.drew_below (Nat.le_refl _)) ?_
            repeat (go_big_quiet_step ((go_at_call 67; exact Calls.held_below (Nat.le_refl _) (HRV.out _ (Held.h _)))))
            refine wpQuiet_nil ?_
            intro _ hw'
            obtain ⟨sq, hw''⟩ := hw'
            subst hw''
            clear hne
            have HB2 := Lib.hid (HBW.out.trans (sq.h.mono HBW.out.size))
            clear c0 c1 c2 c3 c4 d0 eW0 eW1
            go_wp2
            go_roundw
            case rel => exact ⟨k + 1, hlt, by go_num, HT2, HB2⟩
            case measure => simp [intOf]; omega
          · have hse : ((x.r.seq : Int) != (k : Int) + 1) = true := by simp; omega
            have hf : okAt (l.map RS.r) k = false := by rw [HOK.out, decide_eq_false hs]; simp
            clear hg hs
            have HD : Hid (logV (l.map RS.r) = false) := HNO.out hf
            have hne : Nonempty (Held (Below wr.heap.size wr)) := ⟨⟨_, (Held.drew_below (Nat.le_refl _))⟩⟩
            refine wp_region_heldq (S := (Below wr.heap.size wr)) (by kernel_rfl) (by kernel_rfl) (Held.drew_below (Nat.le_refl _)) ?_
            repeat (go_big_quiet_step ((go_at_call 67; exact Calls.held_below (Nat.le_refl _) (HRV.out _ (Held.h _)))))
            refine wpQuiet_nil ?_
            intro _ hw'
            obtain ⟨sq, hw''⟩ := hw'
            subst hw''
            clear hne
            go_wp2
            go_ret
            exact ⟨by rw [HD.out]; rfl, HBW.out.trans (sq.h.mono HBW.out.size)⟩
        · have hge : ((x.r.gen : Int) != (G : Int)) = true := by simp; omega
          have hf : okAt (l.map RS.r) k = false := by rw [HOK.out, decide_eq_false hg]; simp
          clear hg
          have HD : Hid (logV (l.map RS.r) = false) := HNO.out hf
          have hne : Nonempty (Held (Below wr.heap.size wr)) := ⟨⟨_, (Held.drew_below (Nat.le_refl _))⟩⟩
          refine wp_region_heldq (S := (Below wr.heap.size wr)) (by kernel_rfl) (by kernel_rfl) (Held.drew_below (Nat.le_refl _)) ?_
          repeat (go_big_quiet_step ((go_at_call 67; exact Calls.held_below (Nat.le_refl _) (HRV.out _ (Held.h _)))))
          refine wpQuiet_nil ?_
          intro _ hw'
          obtain ⟨sq, hw''⟩ := hw'
          subst hw''
          clear hne
          go_wp2
          go_ret
          exact ⟨by rw [HD.out]; rfl, HBW.out.trans (sq.h.mono HBW.out.size)⟩
    · obtain rfl : k = l.length := by omega
      have HD : Hid (logV (l.map RS.r) = true) := by unfold Hid logV; rw [List.length_map]; exact HAL.out
      go_wp2
      go_ret
      exact ⟨by rw [HD.out]; rfl, HBR.out⟩
end Go.Proofs.YtaggiceejcegdaaGreat
namespace Go.Proofs.YtaggiceejcegdaaGreat
set_option linter.unusedVariables false
open Go.RowKit

set_option maxRecDepth 100000 in
set_option maxHeartbeats 4000000 in
theorem rsectors_any (l : List RS) (ht : ∀ x ∈ l, Tiny x.r) (hok : ∀ x ∈ l, x.r.Ok) (A : Option Addr) (c : Nat) (w : World) (h : RcsR w w.heap.size A l) (hl : l.length ≤ 1000) :
    Calls Tryz.prog 64 #[.slice A l.length c] w (SecPost w (l.map RS.r)) := by
  have HH := Lib.hid h
  have HT := Lib.hid ht
  have HK := Lib.hid hok
  have HV := Lib.hid (rlogv_any l ht A c w h (by omega))
  obtain ⟨i0, hi0, hz0, hz1, hz2⟩ := info_parts info_sl
  clear h ht hok
  obtain hs | hs : logV (l.map RS.r) = false ∨ logV (l.map RS.r) = true := by cases logV (l.map RS.r); exact .inl rfl; exact .inr rfl
  · have HE : Hid (secE (l.map RS.r) = 1 ∧ secLs (l.map RS.r) = []) := by unfold Hid secE secLs; rw [hs]; exact ⟨rfl, rfl⟩
    rw [hs] at HV
    clear hs
    go_enter Tryz.func64, Tryz.ntmps64
    go_wp2_with fail
    refine HV.out.mono ?_
    rintro e w1 ⟨rfl, hb1⟩
    go_wp2
    go_ret2
    exact ⟨none, 0, [], by rw [HE.out.1]; rfl, by rw [HE.out.2]; rfl, ⟨World.ownsRow_nil _ _ _ _, by simp⟩, hb1⟩
  · have HE : Hid (secE (l.map RS.r) = 0 ∧ secLs (l.map RS.r) = secsL (l.map RS.r)) := by unfold Hid secE secLs; rw [hs]; exact ⟨rfl, rfl⟩
    have HLV := Lib.hid hs
    rw [hs] at HV
    clear hs
    go_enter Tryz.func64, Tryz.ntmps64
    go_wp2_with fail
    refine HV.out.mono ?_
    rintro e w1 ⟨rfl, hb1⟩
    have HB1 := Lib.hid hb1
    clear hb1 HV
    go_wp2
    go_loopw [4, 5] (fun o i wr => ∃ (k : Nat) (ss : List Sl) (DA : Option Addr) (dc : Nat), k ≤ l.length ∧ i = .int .i64 k ∧ o = .slice DA ss.length dc ∧ Hid (ss.map Sl.xs = secsL ((l.map RS.r).take k)) ∧ Hid (SlsO wr w.heap.size DA dc ss) ∧ Hid (Below w.heap.size w wr)) (fun _ i _ => l.length - (intOf i).toNat)
    case atStart => exact ⟨0, [], none, 0, Nat.zero_le _, rfl, rfl, rfl, ⟨World.ownsRow_nil _ _ _ _, by simp⟩, HB1.out⟩
    case round =>
      obtain ⟨k, ss, DA, dc, hk, rfl, rfl, HSE, HSO, HBR⟩ := hrel
      by_cases hlt : k < l.length
      · have hxl : k < (l.map RS.r).length := by simpa using hlt
        have hxe : (l.map RS.r)[k] = l[k].r := by simp
        have htk := HT.out _ (List.getElem_mem hlt)
        have hokk := HK.out _ (List.getElem_mem hlt)
        have hvk := (logV_at HLV.out hxl).1
        have hrx := (HH.out.up HBR.out).each _ (List.getElem_mem hlt)
        have HSN : Hid (secsL ((l.map RS.r).take (k + 1)) = secsL ((l.map RS.r).take k) ++ encR l[k].r) := by unfold Hid; rw [secsL_take hxl, hxe]
        have hsl : ss.length ≤ k * 4096 := by
          have h1 := secsL_len (l := (l.map RS.r).take k) (fun r hr => logV_mem HLV.out r (List.mem_of_mem_take hr))
          rw [← HSE.out, List.length_map, List.length_take] at h1
          have h2 : min k (l.map RS.r).length ≤ k := by omega
          have h3 := Nat.mul_le_mul_right 4096 h2
          omega
        rw [hxe] at hvk
        obtain ⟨g1, o1, rfl, hg1, a0, a1, a2, a3, a4⟩ := (HH.out.up HBR.out).rd.rs hlt
        generalize l[k] = x at *
        have hbx : Below wr.heap.size wr wr := Below.refl _ _
        have HEN := Lib.hid (rencode_any x.r hokk x.A x.D x.N x.c x.d x.n wr (hrx.up hbx) (by have := htk.ws; omega) (by have := htk.ms; omega) (by have := htk.note; omega))
        have HEL : Hid (encL x.r = encR x.r) := by unfold Hid encL; rw [if_pos hvk]
        have HEM : Hid ((encR x.r).length ≤ 4096) := by unfold Hid; rw [encR_len]; exact nCh_le (payR_len (validR_vld hvk))
        have HBX := Lib.hid hbx
        clear hxl hxe htk hokk hvk hrx hbx
        go_wp2_with fail
        refine HEN.out.mono ?_
        rintro e w2 ⟨A2, c2, tt, rfl, htt, ho2, hb2⟩
        rw [HEL.out] at htt
        have htl : tt.length = (encR x.r).length := by rw [← htt, List.length_map]
        have hmx := HEM.out
        have hpos : 0 < tt.length := by rw [htl]; exact encR_pos' x.r
        obtain ⟨g2, rfl, hg2, hg2z⟩ := own_at ho2.own hpos
        have hb2x := HBX.out.trans (hb2.mono HBX.out.size)
        have HB2 := Lib.hid (HBR.out.trans (hb2x.mono HBR.out.size))
        have HO2 := Lib.hid (ho2.mono (HBR.out.trans (HBX.out.mono HBR.out.size)).size)
        have HSO2 := Lib.hid (HSO.out.below hb2x)
        have HTT := Lib.hid htt
        have hbz := HB2.out.size
        rw [← htl] at hmx
        have hkk : k * 4096 ≤ 1000 * 4096 := Nat.mul_le_mul_right _ (by omega)
        clear htt ho2 hb2 hb2x htl HEN a0 a1 a2 a3 a4 HEM
        go_wp2_with (at_builtin; go_loud (refine wpList_append_own _ rfl _ _ 49 rfl w.heap.size 26 i0 _ 1 24 Tryz.underlying49 hi0 hz0 hz1 hz2 rfl (by decide) (.slice DA ss.length dc) ss.length (ss.map Sl.v) rfl HSO2.out.own ⟨g2, 0, none⟩ tt.length c2 (tt.map Sl.v) rfl (by simp) (HO2.out.rd.rd.qat_add) (sls_one tt) ?c1 ?c2 ?c3 ?_))
        case c1 => unfold maxLen; omega
        case c2 => omega
        case c3 => first | omega | (simp; omega)
        intro v' w9 hown hgrow hiff
        obtain ⟨DA', dc', hv⟩ := own_form hown
        subst hv
        have HSO9 : Hid (SlsO w9 w.heap.size DA' dc' (ss ++ tt)) := SlsO.app HSO2.out HO2.out (Nat.le_refl _) hown hgrow
        have HB9 : Hid (Below w.heap.size w w9) := HB2.out.grown hgrow hbz (fun k hk => own_low HSO2.out.own hk)
        clear hown hgrow hiff hkk
        go_wp2
        go_roundw
        case rel => exact ⟨k + 1, ss ++ tt, DA', dc', hlt, by go_num, by rw [List.length_append], by unfold Hid; rw [List.map_append, HSE.out, HTT.out, HSN.out], HSO9, HB9⟩
        case measure => simp [intOf]; omega
      · obtain rfl : k = l.length := by omega
        go_wp2
        go_ret2
        exact ⟨DA, dc, ss, by rw [HE.out.1]; rfl, by rw [HE.out.2, HSE.out, show l.length = (l.map RS.r).length by simp, List.take_length], HSO.out, HBR.out⟩
end Go.Proofs.YtaggiceejcegdaaGreat
namespace Go.Proofs.YtaggiceejcegdaaGreat
set_option linter.unusedVariables false
open Go.RowKit

section
variable {w w' : World} {n b : Nat} {A : Option Addr} {c : Nat} {xs : List RS} {S : LogS} {V : Option Nat}
set_option maxRecDepth 100000 in
set_option maxHeartbeats 1000000 in
theorem wused_any (h : LogM w n b V S) : Calls Tryz.prog 24 #[.pointer (some ⟨b, 0, none⟩)] w fun e w' => e = .returned (.int .i64 S.used) ∧ w' = w := by
  obtain ⟨A, c, xs, h, _⟩ := h
  obtain ⟨_, _, _, _, c4⟩ := h.cells
  clear h
  go_enter Tryz.func24, Tryz.ntmps24
  go_wp2
  go_ret
  exact ⟨rfl, rfl⟩
end
end Go.Proofs.YtaggiceejcegdaaGreat
namespace Go.Proofs.YtaggiceejcegdaaGreat
set_option linter.unusedVariables false
open Go.RowKit

section
variable {w w' : World} {n b : Nat} {A : Option Addr} {c : Nat} {xs : List RS} {S : LogS} {V : Option Nat}
set_option maxRecDepth 100000 in
set_option maxHeartbeats 4000000 in
theorem wrecords_any (h : LogM w n b V S) (hl : S.l.length ≤ 1000) (ht : ∀ r ∈ S.l, Tiny r) : Calls Tryz.prog 28 #[.pointer (some ⟨b, 0, none⟩)] w (RecsPost w S.l) := by
  obtain ⟨i0, hi, hz0, hz1, hz2⟩ := info_parts info_rec
  obtain ⟨A, c, xs, h, _⟩ := h
  obtain ⟨_, _, _, c3, _⟩ := h.cells
  have HX := Lib.hid h.own.rd
  have HL := Lib.hid h.len
  have hxl : xs.length ≤ 1000 := by rw [h.len]; exact hl
  have HR := Lib.hid h.rec_
  have HT := Lib.hid ht
  have H0 : Hid (RcsO w w.heap.size none 0 [] ∧ Below w.heap.size w w ∧ ([] : List RS).map RS.r = (xs.map RS.r).take 0) := ⟨RcsO.nil _ _, Below.refl _ _, rfl⟩
  clear h ht
  go_enter Tryz.func28, Tryz.ntmps28
  go_wp2
  go_loopw [3, 13] (fun o i wr => ∃ (k : Nat) (DA : Option Addr) (dc : Nat) (ys : List RS), k ≤ xs.length ∧ o = .slice DA ys.length dc ∧ i = .int .i64 k ∧ Hid (ys.length = k) ∧ Hid (RcsO wr w.heap.size DA dc ys ∧ Below w.heap.size w wr ∧ ys.map RS.r = (xs.map RS.r).take k)) (fun _ i _ => xs.length - (intOf i).toNat)
  case atStart => exact ⟨0, none, 0, [], Nat.zero_le _, rfl, rfl, rfl, H0⟩
  case round =>
    obtain ⟨k, DA, dc, ys, hk, rfl, rfl, HYL, HW⟩ := hrel
    by_cases hlt : k < xs.length
    · have hXW := (HX.out.up HW.out.2.1)
      obtain ⟨g0, o0, rfl, hg0, j0, j1, j2, j3, j4⟩ := hXW.rd.rs hlt
      have hxr := hXW.each _ (List.getElem_mem hlt)
      have hbx : Below wr.heap.size wr (wr.alloc (.cells #[.int .u64 xs[k].r.gen, .int .u64 xs[k].r.seq, .slice xs[k].A xs[k].r.ws.length xs[k].c, .slice xs[k].D xs[k].r.ms.length xs[k].d, .slice xs[k].N xs[k].r.note.length xs[k].n] 28)) := (Below.refl _ _).alloc (Nat.le_refl _) _
      have htk : Tiny xs[k].r := HT.out _ (by rw [← HR.out]; exact List.mem_map.2 ⟨_, List.getElem_mem hlt, rfl⟩)
      have HC := Lib.hid (copied_any xs[k].r xs[k].A xs[k].D xs[k].N xs[k].c xs[k].d xs[k].n (wr.alloc (.cells #[.int .u64 xs[k].r.gen, .int .u64 xs[k].r.seq, .slice xs[k].A xs[k].r.ws.length xs[k].c, .slice xs[k].D xs[k].r.ms.length xs[k].d, .slice xs[k].N xs[k].r.note.length xs[k].n] 28)) (hxr.up hbx) htk)
      have HE : Hid ((xs.map RS.r).take (k + 1) = (xs.map RS.r).take k ++ [xs[k].r]) := by
        unfold Hid
        rw [List.take_succ_eq_append_getElem (by simpa using hlt)]; simp
      have PB := (Cells5.new wr 28 (.int .u64 xs[k].r.gen) (.int .u64 xs[k].r.seq) (.slice xs[k].A xs[k].r.ws.length xs[k].c) (.slice xs[k].D xs[k].r.ms.length xs[k].d) (.slice xs[k].N xs[k].r.note.length xs[k].n))
      have p0 := PB.c0; have p1 := PB.c1; have p2 := PB.c2; have p3 := PB.c3; have p4 := PB.c4
      have HBX := Lib.hid hbx
      have hys : ys.length ≤ 1000 := by rw [HYL.out]; omega
      generalize xs[k] = x at *
      clear hXW hxr htk PB hbx
      go_wp2_with fail
      refine HC.out.mono ?_
      rintro e w2 ⟨A2, c2, D2, d2, N2, n2, rfl, ho2, hb2⟩
      have HB2 := Lib.hid (HBX.out.trans (hb2.mono HBX.out.size))
      have HO2 := Lib.hid ho2
      have HY2 := Lib.hid (HW.out.1.below HB2.out)
      have hzz : w.heap.size ≤ w2.heap.size := Nat.le_trans HW.out.2.1.size HB2.out.size
      have own := HY2.out
      clear ho2 hb2 HC p0 p1 p2 p3 p4
      go_wp2_with (at_builtin; go_loud (refine wpList_append_own _ rfl _ _ 22 rfl w.heap.size 28 i0 _ 5 88 Tryz.underlying22 hi hz0 hz1 hz2 rfl (by decide) (.slice DA ys.length dc) ys.length (flatR ys) rfl (own.own.alloc _) ⟨w2.heap.size, 0, none⟩ 1 1 [.int .u64 x.r.gen, .int .u64 x.r.seq, .slice A2 x.r.ws.length c2, .slice D2 x.r.ms.length d2, .slice N2 x.r.note.length n2] rfl rfl (World.news_of_block (heap_alloc_new _ _)) (RS.one ⟨x.r, A2, c2, D2, d2, N2, n2⟩) ?c1 ?c2 ?c3 ?_))
      case c1 => unfold maxLen; omega
      case c2 => omega
      case c3 => first | omega | (simp; omega)
      intro v' w9 hown hgrow hiff
      obtain ⟨DA', dc', hv⟩ := own_form hown
      subst hv
      have HW9 : Hid (RcsO w9 w.heap.size DA' dc' (ys ++ [(⟨x.r, A2, c2, D2, d2, N2, n2⟩ : RS)]) ∧ Below w.heap.size w w9 ∧ (ys ++ [(⟨x.r, A2, c2, D2, d2, N2, n2⟩ : RS)]).map RS.r = (xs.map RS.r).take (k + 1)) := by
        refine ⟨own.push HO2.out hown hgrow, (((HW.out.2.1.trans (HB2.out.mono HW.out.2.1.size)).alloc hzz _).grown hgrow (by simp; omega) (fun k hk => own_low own.own hk)), ?_⟩
        rw [HE.out, List.map_append, HW.out.2.2]; rfl
      have HYL2 : Hid ((ys ++ [(⟨x.r, A2, c2, D2, d2, N2, n2⟩ : RS)]).length = k + 1) := by unfold Hid; rw [List.length_append, HYL.out]; rfl
      clear hown hgrow hiff own hzz
      go_wp2
      go_roundw
      case rel => exact ⟨k + 1, DA', dc', ys ++ [(⟨x.r, A2, c2, D2, d2, N2, n2⟩ : RS)], hlt, by rw [List.length_append]; rfl, by go_num, HYL2, HW9⟩
      case measure => simp [intOf]; omega
    · obtain rfl : k = xs.length := by omega
      have HD : Hid (RecsPost w S.l (.returned (.slice DA ys.length dc)) wr) := by
        have h9 := HW.out.2.2
        rw [List.take_of_length_le (by simp)] at h9
        exact ⟨DA, dc, ys, rfl, h9.trans HR.out, HW.out.1, HW.out.2.1⟩
      go_wp2
      go_ret
      exact HD.out
end
end Go.Proofs.YtaggiceejcegdaaGreat
namespace Go.Proofs.YtaggiceejcegdaaGreat
set_option linter.unusedVariables false
open Go.RowKit

def rlogObj (S : LogS) (A : Option Addr) (m c : Nat) : List Value := [.int .u64 S.gen, .int .i64 S.fr, .int .i64 S.sec, .int .i64 S.used, .slice A m c]
/-- The reference's log of block b: its records are those of xs, whose parts lie below n. -/
structure RLogMem (w : World) (n b : Nat) (A : Option Addr) (c : Nat) (xs : List RS) (S : LogS) : Prop where
  obj : w.ownsRow n 68 5 (.slice (some ⟨b, 0, none⟩) 1 1) 1 (rlogObj S A xs.length c)
  rec_ : xs.map RS.r = S.l
  own : w.ownsRow n 28 5 (.slice A xs.length c) xs.length (flatR xs)
  each : ∀ x ∈ xs, RecR w n x.r x.A x.c x.D x.d x.N x.n
def RLogM (w : World) (n b : Nat) (V : Option Nat) (S : LogS) : Prop := ∃ A c xs, RLogMem w n b A c xs S ∧ (Value.slice A xs.length c).ownBlock = V
theorem RecR.keptn {T : Nat → Prop} {w w' : World} {n : Nat} {r : Rec} {A D N : Option Addr} {c d m : Nat} (h : RecR w n r A c D d N m) (hk : Kept T w w') (hn : ∀ k, T k → n ≤ k) : RecR w' n r A c D d N m :=
  ⟨hk.rd h.ws (fun i hi hT => by have := hn i hT; omega), hk.rd h.ms (fun i hi hT => by have := hn i hT; omega), hk.rd h.note (fun i hi hT => by have := hn i hT; omega)⟩
section
variable {w w' : World} {n b : Nat} {A : Option Addr} {c : Nat} {xs : List RS} {S : LogS} {V : Option Nat}
theorem RLogMem.cells (h : RLogMem w n b A c xs S) : w.cell? ⟨b, 0, none⟩ = some (.int .u64 S.gen) ∧ w.cell? ⟨b, 1, none⟩ = some (.int .i64 S.fr) ∧ w.cell? ⟨b, 2, none⟩ = some (.int .i64 S.sec) ∧ w.cell? ⟨b, 3, none⟩ = some (.int .i64 S.used) ∧ w.cell? ⟨b, 4, none⟩ = some (.slice A xs.length c) :=
  ⟨(World.ownsRow.cellAt h.obj 0 (by decide)).trans rfl, (World.ownsRow.cellAt h.obj 1 (by decide)).trans rfl, (World.ownsRow.cellAt h.obj 2 (by decide)).trans rfl, (World.ownsRow.cellAt h.obj 3 (by decide)).trans rfl, (World.ownsRow.cellAt h.obj 4 (by decide)).trans rfl⟩
theorem RLogMem.len (h : RLogMem w n b A c xs S) : xs.length = S.l.length := by rw [← h.rec_, List.length_map]
theorem RLogMem.low (h : RLogMem w n b A c xs S) : n ≤ w.heap.size := by have := row_low h.obj; have := (IsT.own h.obj).lt; omega
theorem RLogMem.kept {T : Nat → Prop} (h : RLogMem w n b A c xs S) (hk : Kept T w w') (hb : ¬ T b) (hv : ∀ k, (Value.slice A xs.length c).ownBlock = some k → ¬ T k) (hn : ∀ k, T k → n ≤ k) : RLogMem w' n b A c xs S :=
  ⟨own_kept h.obj hk (fun k e => by simp [Value.ownBlock] at e; subst e; exact hb), h.rec_, own_kept h.own hk hv, fun x hx => (h.each x hx).keptn hk hn⟩
theorem RLogMem.below0 (h : RLogMem w n b A c xs S) (hb : Below w.heap.size w w') : RLogMem w' n b A c xs S := h.kept (belKept0 (S := fun _ => False) hb) (fun h => h) (fun _ _ h => h) (fun _ h => h.elim)
theorem RLogMem.rd (h : RLogMem w n b A c xs S) : RcsR w w.heap.size A xs := ⟨Rd.of_own h.own, fun x hx => (h.each x hx).more h.low⟩
end
end Go.Proofs.YtaggiceejcegdaaGreat
namespace Go.Proofs.YtaggiceejcegdaaGreat
set_option linter.unusedVariables false
open Go.RowKit

def RLDT : List TypeId := [234, 204, 145, 131, 68]
def RKeptA (n : Nat) (V : Option Nat) (w w' : World) : Prop := Kept (fun k => n ≤ k ∧ (HasT RLDT w k ∨ V = some k)) w w'
def RAppPost (w : World) (n b rp : Nat) (g : Geo) (qs : List Nat) (V : Option Nat) (S' : LogS) (x : MS × List Int) (er : Int) (e : Ending) (w' : World) : Prop :=
  ∃ A c V', e = .returned (.tuple #[.slice A x.2.length c, .int .i64 er]) ∧ w'.ownsRow w.heap.size 41 1 (.slice A x.2.length c) x.2.length (x.2.map (Value.int .i64)) ∧ (V' = V ∨ ∃ k, V' = some k ∧ w.heap.size ≤ k) ∧ RLogM w' n b V' S' ∧ RManyM w' n rp g qs x.1 ∧ RKeptA n V w w'
def RAllPost (w : World) (n rp : Nat) (g : Geo) (qs : List Nat) (x : MS × List Int) (e : Ending) (w' : World) : Prop :=
  ∃ A c, e = .returned (.slice A x.2.length c) ∧ w'.ownsRow w.heap.size 41 1 (.slice A x.2.length c) x.2.length (x.2.map (Value.int .i64)) ∧ RManyM w' n rp g qs x.1 ∧ KeptT RDT (Bd.of n) w w'
/-- What the loop over the disks has come to. -/
def RAllW (w wr : World) (n rp : Nat) (g : Geo) (qs : List Nat) (x : MS × List Int) (A : Option Addr) (c : Nat) (es : List Int) : Prop :=
  es = x.2 ∧ wr.ownsRow w.heap.size 41 1 (.slice A es.length c) es.length (es.map (Value.int .i64)) ∧ RManyM wr n rp g qs x.1 ∧ KeptT RDT (Bd.of n) w wr
section
variable {w w' : World} {n b rp : Nat} {S : LogS} {V : Option Nat} {g : Geo} {qs : List Nat} {m : MS}
end
end Go.Proofs.YtaggiceejcegdaaGreat
namespace Go.Proofs.YtaggiceejcegdaaGreat
set_option linter.unusedVariables false
open Go.RowKit

def RLNewPost (w : World) (n gen : Nat) (fr sec : Int) (l : List Rec) (e : Ending) (w' : World) : Prop :=
  if newB gen fr sec l then ∃ b V, e = .returned (.tuple #[.pointer (some ⟨b, 0, none⟩), .int .i64 0]) ∧ RLogM w' n b V ⟨gen, fr, sec, (secsL l).length, l⟩ ∧ Below w.heap.size w w' ∧ (∀ k, V = some k → w.heap.size ≤ k)
  else e = .returned (.tuple #[.pointer none, .int .i64 1]) ∧ Below w.heap.size w w'
theorem rlnew_no {n gen : Nat} {fr sec : Int} {l : List Rec} {w w' : World} (h : newB gen fr sec l = false) (hb : Below w.heap.size w w') : RLNewPost w n gen fr sec l (.returned (.tuple #[.pointer none, .int .i64 1])) w' := by
  unfold RLNewPost; rw [h]; exact ⟨rfl, hb⟩
theorem rlnew_yes {n gen : Nat} {fr sec : Int} {l : List RS} {w w9 : World} {A9 : Option Addr} {c9 u : Nat} {B : Nat} (hn : n ≤ w.heap.size) (h : newB gen fr sec (l.map RS.r) = true) (hu : u = (secsL (l.map RS.r)).length) (hB : w.heap.size ≤ B)
    (hr : ∀ x ∈ l, RecR w n x.r x.A x.c x.D x.d x.N x.n) (ho : w9.ownsRow B 28 5 (.slice A9 l.length c9) l.length (flatR l)) (hb : Below w.heap.size w w9) :
    RLNewPost w n gen fr sec (l.map RS.r) (.returned (.tuple #[.pointer (some ⟨w9.heap.size, 0, none⟩), .int .i64 0])) (w9.alloc (.cells #[.int .u64 gen, .int .i64 fr, .int .i64 sec, .int .i64 u, .slice A9 l.length c9] 68)) := by
  unfold RLNewPost
  rw [h, if_pos rfl]
  have hz := hb.size
  have hba : Below w.heap.size w (w9.alloc (.cells #[.int .u64 gen, .int .i64 fr, .int .i64 sec, .int .i64 u, .slice A9 l.length c9] 68)) := hb.alloc hz _
  refine ⟨w9.heap.size, (Value.slice A9 l.length c9).ownBlock, rfl, ⟨A9, c9, l, ⟨?_, rfl, (own_mono ho (Nat.le_trans hn hB)).alloc _, fun x hx => (hr x hx).below hba hn⟩, rfl⟩, hba, fun k e => Nat.le_trans hB (own_low ho e)⟩
  subst hu
  exact World.ownsRow_lit (base := n) (e := 68) (size := 5) w9 #[.int .u64 gen, .int .i64 fr, .int .i64 sec, .int .i64 ((secsL (l.map RS.r)).length : Int), .slice A9 l.length c9] 1 (Nat.le_trans hn hz) (by decide) rfl
set_option maxRecDepth 100000 in
set_option maxHeartbeats 8000000 in
theorem rlnew_any (n gen : Nat) (fr sec : Int) (l : List RS) (A : Option Addr) (c : Nat) (w : World) (hn : n ≤ w.heap.size) (h : RcsR w n A l) (hA : A = none → c = 0) (ht : ∀ x ∈ l, Tiny x.r) (hok : ∀ x ∈ l, x.r.Ok) (hl : l.length ≤ 100) :
    Calls Tryz.prog 23 #[.int .u64 gen, .int .i64 fr, .int .i64 sec, .slice A l.length c] w (RLNewPost w n gen fr sec (l.map RS.r)) := by
  obtain ⟨i0, hi, hz0', hz1, hz2⟩ := info_parts info_rec
  have HSC := Lib.hid (rsectors_any l ht hok A c w (h.more hn) (by omega))
  have HH := Lib.hid h
  clear h ht hok
  go_enter Tryz.func23, Tryz.ntmps23
  go_wp2_with fail
  refine HSC.out.mono ?_
  rintro e w1 ⟨A1, c1, ss, rfl, hss, ho1, hb1⟩
  have HB1 := Lib.hid hb1
  have HNO := Lib.hid (fun h => rlnew_no (n := n) (gen := gen) (fr := fr) (sec := sec) (l := l.map RS.r) h hb1)
  have HXS := Lib.hid hss
  have HH1 := Lib.hid (HH.out.below hb1 hn)
  clear ho1 hb1 hss HSC
  by_cases hf : fr < 0
  · have HN : Hid (newB gen fr sec (l.map RS.r) = false) := by unfold Hid newB; rw [decide_eq_false (by omega : ¬ 0 ≤ fr)]; rfl
    go_wp2
    go_ret2
    exact HNO.out HN.out
  · have d1 : decide (fr < 0) = false := decide_eq_false hf
    by_cases hs : sec < 0
    · have HN : Hid (newB gen fr sec (l.map RS.r) = false) := by unfold Hid newB; rw [decide_eq_false (by omega : ¬ 0 ≤ sec), Bool.and_false]; rfl
      go_wp2
      go_ret2
      exact HNO.out HN.out
    · have d2 : decide (sec < 0) = false := decide_eq_false hs
      cases hv : logV (l.map RS.r)
      · have HN : Hid (newB gen fr sec (l.map RS.r) = false) := by unfold Hid newB; rw [hv, Bool.and_false]; rfl
        have HSE : Hid (secE (l.map RS.r) = 1) := by unfold Hid secE; rw [hv]; rfl
        rw [HSE.out]
        clear hv
        go_wp2
        go_ret2
        exact HNO.out HN.out
      · have HSE : Hid (secE (l.map RS.r) = 0) := by unfold Hid secE; rw [hv]; rfl
        have HSL : Hid (ss.length = (secsL (l.map RS.r)).length) := by unfold Hid; have := congrArg List.length HXS.out; rw [List.length_map] at this; rw [this]; unfold secLs; rw [hv]; rfl
        rw [HSE.out]
        by_cases hle : (ss.length : Int) ≤ sec
        · have hN4 : newB gen fr sec (l.map RS.r) = (decide ((l.map RS.r).length = 0) || decide (((l.map RS.r).headD zRec).gen = gen)) := by
            unfold newB
            rw [hv, decide_eq_true (by omega : 0 ≤ fr), decide_eq_true (by omega : 0 ≤ sec), ← HSL.out, decide_eq_true hle]; rfl
          have HN4 := Lib.hid hN4
          have HV := Lib.hid hv
          clear hv hN4
          cases A with
          | none =>
            obtain rfl := hA rfl
            have hx := HH.out.rd.at_none
            obtain rfl : l = [] := by cases l; rfl; simp [flatR, RS.cells] at hx
            have HN : Hid (newB gen fr sec (([] : List RS).map RS.r) = true) := by unfold Hid; rw [HN4.out]; rfl
            have hro := World.ownsRow_lit (base := w1.heap.size) (e := 28) (size := 5) w1 #[] 0 (Nat.le_refl _) (by decide) rfl
            have HD : Hid (RLNewPost w n gen fr sec (([] : List RS).map RS.r) (.returned (.tuple #[.pointer (some ⟨w1.heap.size + 1, 0, none⟩), .int .i64 0])) ((w1.alloc (.cells #[] 28)).alloc (.cells #[.int .u64 gen, .int .i64 fr, .int .i64 sec, .int .i64 (ss.length : Int), .slice (some ⟨w1.heap.size, 0, none⟩) 0 0] 68))) := by
              have h9 := rlnew_yes (n := n) (gen := gen) (fr := fr) (sec := sec) (l := []) hn HN.out HSL.out HB1.out.size (fun x hx => by simp at hx) hro (HB1.out.alloc HB1.out.size _)
              rw [World.size_alloc] at h9
              exact h9
            clear hx
            go_wp2_with (at_builtin; refine wpList_append_own_none rfl _ _ 22 rfl w1.heap.size 28 i0 5 Tryz.underlying22 hi _ 0 [] rfl hro rfl ?_)
            go_wp2
            go_ret2
            exact HD.out
          | some a =>
            have hro := World.ownsRow_lit (base := w1.heap.size) (e := 28) (size := 5) w1 #[] 0 (Nat.le_refl _) (by decide) rfl
            have hla := ((HH1.out.rd.more (Nat.le_trans hn HB1.out.size)).alloc (Nat.le_refl _) (.cells #[] 28)).at_add
            have HD : Hid (∀ W v, newB gen fr sec (l.map RS.r) = true → W.ownsRow w1.heap.size 28 5 v l.length (flatR l) → (w1.alloc (.cells #[] 28)).grownBy W (Value.slice (some ⟨w1.heap.size, 0, none⟩) 0 0).ownBlock →
                ∃ A9 c9, v = .slice A9 l.length c9 ∧ RLNewPost w n gen fr sec (l.map RS.r) (.returned (.tuple #[.pointer (some ⟨W.heap.size, 0, none⟩), .int .i64 0])) (W.alloc (.cells #[.int .u64 gen, .int .i64 fr, .int .i64 sec, .int .i64 (ss.length : Int), .slice A9 l.length c9] 68))) := by
              unfold Hid
              intro W v hnb ho hg
              obtain ⟨A9, c9, rfl⟩ := own_form ho
              exact ⟨A9, c9, rfl, rlnew_yes hn hnb HSL.out HB1.out.size HH.out.each ho ((HB1.out.alloc HB1.out.size _).grown hg (by have := HB1.out.size; simp; omega) (fun k hk => by simp [Value.ownBlock] at hk; have := HB1.out.size; omega))⟩
            by_cases h0 : l.length = 0
            · have HN : Hid (newB gen fr sec (l.map RS.r) = true) := by unfold Hid; rw [HN4.out, List.length_map, decide_eq_true h0]; rfl
              have d3 : decide ((0 : Int) < (l.length : Int)) = false := decide_eq_false (by omega)
              have d4 : decide (0 < l.length) = false := decide_eq_false (by omega)
              clear h0
              go_wp2_with (at_builtin; go_loud (refine wpList_append_own _ rfl _ _ 22 rfl w1.heap.size 28 i0 _ 5 88 Tryz.underlying22 hi hz0' hz1 hz2 rfl (by decide) _ 0 [] rfl hro _ l.length c (flatR l) rfl (flatR_len l) hla (flatR_one l) ?c1 ?c2 ?c3 ?_))
              case c1 => unfold maxLen; omega
              case c2 => omega
              case c3 => first | omega | (simp; done) | (simp; omega)
              intro v' w9 hown hgrow hiff
              try simp only [Nat.zero_add, List.nil_append] at hown
              obtain ⟨A9, c9, hvv, hd9⟩ := HD.out w9 v' HN.out hown hgrow
              subst hvv
              have HD9 := Lib.hid hd9
              clear hown hgrow hiff hd9 hro hla
              go_wp2
              go_ret2
              exact HD9.out
            · have hh2 := HH1.out
              obtain ⟨g0, o0, rA, hg0, j0, _, _, _, _⟩ := hh2.rd.rs (show 0 < l.length by omega)
              injection rA with rA
              subst rA
              simp only [Nat.zero_mul, Nat.add_zero] at j0
              have hhd : (l.map RS.r).headD zRec = l[0].r := by cases l with | nil => simp at h0 | cons x l => rfl
              have d3 : decide ((0 : Int) < (l.length : Int)) = true := decide_eq_true (by omega)
              have d4 : decide (0 < l.length) = true := decide_eq_true (by omega)
              clear hh2
              by_cases hg : l[0].r.gen = gen
              · have HN : Hid (newB gen fr sec (l.map RS.r) = true) := by unfold Hid; rw [HN4.out, hhd, decide_eq_true hg, Bool.or_true]
                rw [hg] at j0
                clear hhd
                go_wp2_with (at_builtin; go_loud (refine wpList_append_own _ rfl _ _ 22 rfl w1.heap.size 28 i0 _ 5 88 Tryz.underlying22 hi hz0' hz1 hz2 rfl (by decide) _ 0 [] rfl hro _ l.length c (flatR l) rfl (flatR_len l) hla (flatR_one l) ?c1 ?c2 ?c3 ?_))
                case c1 => unfold maxLen; omega
                case c2 => omega
                case c3 => first | omega | (simp; done) | (simp; omega)
                intro v' w9 hown hgrow hiff
                try simp only [Nat.zero_add, List.nil_append] at hown
                obtain ⟨A9, c9, hvv, hd9⟩ := HD.out w9 v' HN.out hown hgrow
                subst hvv
                have HD9 := Lib.hid hd9
                clear hown hgrow hiff hd9 hro hla
                go_wp2
                go_ret2
                exact HD9.out
              · have HN : Hid (newB gen fr sec (l.map RS.r) = false) := by unfold Hid; rw [HN4.out, hhd, decide_eq_false hg, List.length_map, decide_eq_false h0]; rfl
                have e9 : (((l[0].r.gen : Nat) : Int) != (gen : Int)) = true := by simpa using fun h => hg (by omega)
                clear hhd hro hla HD
                go_wp2
                go_ret2
                exact HNO.out HN.out
        · have HN : Hid (newB gen fr sec (l.map RS.r) = false) := by unfold Hid newB; rw [← HSL.out, decide_eq_false hle, Bool.and_false]; rfl
          clear hv
          go_wp2
          go_ret2
          exact HNO.out HN.out
end Go.Proofs.YtaggiceejcegdaaGreat
namespace Go.Proofs.YtaggiceejcegdaaGreat
set_option linter.unusedVariables false
open Go.ChangeShapes Go.WideShapes Go.ChangeAt Go.RowKit Go.Deep

structure FlsIn (w : World) (A : Option Addr) (l : List Flt) : Prop where
  rd : Rd w w.heap.size A (flatF l)
  to_ : ∀ f ∈ l, I64 f.to_
  n : l.length ≤ 9223372036854775807
section
variable {H : Type} {enc : TypeId × Value → H} {w : World} {base : Nat} {spare : Nat → Bool} {held : Bool}
/-- What a walk is told of a list of lists of faults. -/
structure FlssIn (w : World) (v : Value) (A : Option Addr) (fs : List FL) (c : Nat) : Prop where
  val : v = .slice A fs.length c
  rd : FlsR w w.heap.size A fs
  each : ∀ x ∈ fs, FlsIn w x.A x.F
  len : fs.length ≤ 9223372036854775807
theorem open_recs0 {fuel : Nat} {v : Value} {y : DataW H × List MemPlace} (h : DataW.trod enc Tryz.prog w base spare held fuel 22 [v] = some y) : ∃ A l c, RcsIn w v A l c ∧ (A = none → c = 0) := by
  rcases open_slice Tryz.underlying22 h with ⟨hcs, _⟩ | ⟨a, len, cap, m, n, D, Pl, hcs, _⟩
  · simp at hcs
    subst hcs
    exact ⟨none, [], 0, ⟨rfl, RcsR.nil _ _ _, fun s hs => by simp at hs, Nat.le_refl _, by omega⟩, fun _ => rfl⟩
  · simp at hcs
    obtain ⟨A, l, c, hr⟩ := open_recs h
    refine ⟨A, l, c, hr, fun e => ?_⟩
    have e2 := hr.val
    rw [hcs] at e2
    injection e2 with e3 _ _
    rw [e] at e3
    cases e3
set_option maxRecDepth 100000 in
theorem open_int2 {r : Reach} {b0 : Nat} {v : Value} {d : DataW H} {p : List MemPlace} (hv : Value.okWide Tryz.prog w r b0 62 v) (h : DataW.Trod enc Tryz.prog w base spare held 62 v d p) : ∃ a b : Int, v = .agg #[.int .i64 a, .int .i64 b] := by
  simp only [Value.okWide, Tryz.underlying62] at hv
  obtain ⟨cs, rfl, hsz, _⟩ := hv
  rw [show Tryz.prog.cellsOf 62 = 2 from by kernel_rfl] at hsz
  obtain ⟨l⟩ := cs
  match l, hsz with
  | [c0, c1], _ =>
    obtain ⟨fuel, hf⟩ := h
    have hf' : DataW.trod enc Tryz.prog w base spare held fuel 62 [c0, c1] = some (d, p) := hf
    obtain ⟨ys, m, _, _, _, hyl, hy⟩ := DataW.trod_array Tryz.underlying62 hf'
    match ys, hyl with
    | [y0, y1], _ =>
      have g0 := hy 0 (by decide)
      have g1 := hy 1 (by decide)
      rw [cellsInt] at g0 g1
      have g0' : DataW.trod enc Tryz.prog w base spare held m 3 [c0] = some y0 := g0
      have g1' : DataW.trod enc Tryz.prog w base spare held m 3 [c1] = some y1 := g1
      obtain ⟨n0, e0, _, _⟩ := DataW.trod_int Tryz.underlying3 g0'
      obtain ⟨n1, e1, _, _⟩ := DataW.trod_int Tryz.underlying3 g1'
      simp at e0 e1
      subst e0; subst e1
      exact ⟨n0, n1, rfl⟩
end
end Go.Proofs.YtaggiceejcegdaaGreat
namespace Go.Proofs.YtaggiceejcegdaaGreat
set_option linter.unusedVariables false
open Go

section
variable {P : Program} {ops : Array Oper} {C : List Value → World → Prop} {ch : Nat → Bool}
/-- The operation hands back v in the world that it got. -/
def holdsUpon (w : World) (v : Value) : Result Next → Prop
  | .ok (.value u) w' => w' = w ∧ u = v
  | .ok .skip w' => w' = w ∧ v = undef
  | _ => False
/-- The operation is a call that hands back some v and leaves a world, as R says. -/
def callUpon (P : Program) (R : Value → World → Prop) (w : World) : Result Next → Prop
  | .ok (.enter f args) w' => w' = w ∧ Calls P f args w (fun e w'' => ∃ v, e = .returned v ∧ R v w'')
  | _ => False
def loudAt (P : Program) (C : List Value → World → Prop) (o : Oper) (a : Act) (h : List Value) : Prop := ∀ w, C h w → callUpon P (fun v w' => C (h ++ [v]) w') w ((execOp a.eval o).run P w)
def stillAt (P : Program) (C : List Value → World → Prop) (o : Oper) (a : Act) (v : Value) : Prop := ∀ h w, C h w → holdsUpon w v ((execOp a.eval o).run P w)
def wantC (ops : Array Oper) (o : Oper) (a : Act) : Bool := Region.wanted o (yielded ops a.tmps)
/-- One operation, what is to follow: a call brings its result into the history. -/
def oneC (P : Program) (ops : Array Oper) (C : List Value → World → Prop) (c : Bool) (o : Oper) (h : List Value) (K : List Value → Act → Prop) (a : Act) : Prop :=
  (wantC ops o a = true ∧ c = true ∧ loudAt P C o a h ∧ ∀ v w', C (h ++ [v]) w' → K (h ++ [v]) (a.put o.dst v)) ∨
  (wantC ops o a = true ∧ c = false ∧ ∃ v, stillAt P C o a v ∧ K h (a.put o.dst v)) ∨
  (wantC ops o a = false ∧ K h (a.put o.dst undef))
def cOp (P : Program) (ops : Array Oper) (C : List Value → World → Prop) (ch : Nat → Bool) (i : Nat) (h : List Value) (K : List Value → Act → Prop) (a : Act) : Prop :=
  match ops[i]? with
  | none => K h a
  | some o => oneC P ops C (ch i) o h K a
def wpAnyC (P : Program) (ops : Array Oper) (C : List Value → World → Prop) (ch : Nat → Bool) (Q : List Value → Act → Prop) : Nat → Array Bool → List Value → Act → Prop
  | 0, listed, h, a => Region.ready .any ops listed = [] ∧ Q h a
  | fuel + 1, listed, h, a => (Region.ready .any ops listed = [] → Q h a) ∧ ∀ i ∈ Region.ready .any ops listed, cOp P ops C ch i h (wpAnyC P ops C ch Q fuel (listed.setIfInBounds i true)) a
/-- The walk of the text's order. -/
def wpCh (P : Program) (ops : Array Oper) (C : List Value → World → Prop) (ch : Nat → Bool) (Q : List Value → Act → Prop) : List Oper → Nat → List Value → Act → Prop
  | [], _, h, a => Q h a
  | o :: rest, k, h, a => oneC P ops C (ch k) o h (wpCh P ops C ch Q rest (k + 1)) a
theorem holds_eq {w : World} {u v : Value} {r : Result Next} (h : holdsUpon w u r) (k : holdsUpon w v r) : u = v := by
  cases r with
  | ok n w' =>
    cases n <;> simp only [holdsUpon] at h k
    case value x => exact h.2.symm.trans k.2
    case skip => rw [h.2, k.2]
  | halt x w' => simp only [holdsUpon] at h
theorem loud_some {o : Oper} {a : Act} {h : List Value} {w : World} (hl : loudAt P C o a h) (hw : C h w) : ∃ v w', C (h ++ [v]) w' := by
  have h3 := hl w hw
  generalize (execOp a.eval o).run P w = r at *
  cases r with
  | ok n w' =>
    cases n <;> simp only [callUpon] at h3
    case enter f args =>
      obtain ⟨_, hc⟩ := h3
      obtain ⟨e, w'', fr, ⟨v, _, hv⟩, _⟩ := hc []
      exact ⟨v, w'', hv⟩
  | halt x w' => simp only [callUpon] at h3
theorem wpOp_of_cOp {i : Nat} {h : List Value} {a : Act} {K : List Value → Act → Prop} {K' : Act → World → Prop} {Q' : Exit → Act → World → Prop} {w : World} (hC : C h w) (hk : ∀ h a w', C h w' → K h a → K' a w') (hh : cOp P ops C ch i h K a) : wpOp P ops Q' i K' a w := by
  unfold cOp at hh
  unfold wpOp
  split
  · rename_i ho; simp only [ho] at hh; exact hk _ _ _ hC hh
  · rename_i o ho
    simp only [ho] at hh
    rcases hh with ⟨h1, _, h3, h4⟩ | ⟨h1, _, v, h3, h4⟩ | ⟨h1, h2⟩
    · unfold wantC at h1
      simp only [h1, if_true]
      left
      unfold Oper.wp
      have h5 := h3 w hC
      generalize (execOp a.eval o).run P w = r at *
      cases r with
      | ok n w' =>
        cases n <;> simp only [callUpon] at h5
        case enter f args =>
          obtain ⟨e1, hc⟩ := h5
          subst e1
          simp only [Oper.upon]
          exact hc.mono fun e w'' ⟨v, he, hw''⟩ => by subst he; exact hk _ _ _ hw'' (h4 v w'' hw'')
      | halt x w' => simp only [callUpon] at h5
    · unfold wantC at h1
      simp only [h1, if_true]
      left
      unfold Oper.wp
      have h5 := h3 h w hC
      generalize (execOp a.eval o).run P w = r at *
      cases r with
      | ok n w' =>
        cases n <;> simp only [holdsUpon] at h5
        case value u =>
          obtain ⟨e1, e2⟩ := h5
          subst e1; subst e2
          simp only [Oper.upon]
          exact hk _ _ _ hC h4
        case skip =>
          obtain ⟨e1, e2⟩ := h5
          subst e1; subst e2
          simp only [Oper.upon]
          exact hk _ _ _ hC h4
      | halt x w' => simp only [holdsUpon] at h5
    · unfold wantC at h1
      simp only [h1, Bool.false_eq_true, if_false]
      exact hk _ _ _ hC h2
theorem wpAny_of_chain {Q : List Value → Act → Prop} {Q' : Exit → Act → World → Prop} (hQ : ∀ h a w, C h w → Q h a → Q' .normal a w) : ∀ (fuel : Nat) (listed : Array Bool) (h : List Value) (a : Act) (w : World), C h w →
    wpAnyC P ops C ch Q fuel listed h a → wpAny P .any ops Q' fuel listed a w
  | 0, _, _, _, _, hw, hh => ⟨hh.1, hQ _ _ _ hw hh.2⟩
  | fuel + 1, _, _, _, _, hw, hh => ⟨fun h0 => hQ _ _ _ hw (hh.1 h0), fun i hi => wpOp_of_cOp hw (fun h' a' w' hw' => wpAny_of_chain hQ fuel _ h' a' w' hw') (hh.2 i hi)⟩
/-- Operation j waits for operation i. -/
inductive Waits (ops : Array Oper) : Nat → Nat → Prop
  | one {j i : Nat} {o : Oper} {e : Edge} : ops[j]? = some o → e ∈ o.after → Region.binds .any e = true → e.on = i → Waits ops j i
  | more {j k i : Nat} {o : Oper} {e : Edge} : ops[j]? = some o → e ∈ o.after → Region.binds .any e = true → e.on = k → Waits ops k i → Waits ops j i
/-- What is listed has all listed that it waits for. -/
def Shut (ops : Array Oper) (listed : Array Bool) : Prop := ∀ (j : Nat) (o : Oper), ops[j]? = some o → listed.getD j false = true → ∀ e ∈ o.after, Region.binds .any e = true → listed.getD e.on false = true
theorem Waits.listed {listed : Array Bool} (hs : Shut ops listed) {j i : Nat} (h : Waits ops j i) (hj : listed.getD j false = true) : listed.getD i false = true := by
  induction h with
  | one ho he hb hi => subst hi; exact hs _ _ ho hj _ he hb
  | more ho he hb hk _ ih => subst hk; exact ih (hs _ _ ho hj _ he hb)
theorem Waits.ready {listed : Array Bool} (hs : Shut ops listed) {j i : Nat} (h : Waits ops j i) (hj : j ∈ Region.ready .any ops listed) : listed.getD i false = true := by
  obtain ⟨_, o, ho, hall⟩ := mem_ready.1 hj
  cases h with
  | one ho' he hb hi =>
    rw [ho] at ho'
    obtain rfl := Option.some.inj ho'
    subst hi
    exact hall _ he hb
  | more ho' he hb hk hw =>
    rw [ho] at ho'
    obtain rfl := Option.some.inj ho'
    subst hk
    exact hw.listed hs (hall _ he hb)
theorem unlisted_ne {listed : Array Bool} {i : Nat} (h : listed.getD i true = false) (h' : listed.getD i false = true) : False := by
  rcases Nat.lt_or_ge i listed.size with hi | hi
  · simp [hi] at h h'; rw [h] at h'; cases h'
  · simp [Array.getElem?_eq_none hi] at h'
theorem Shut.set {listed : Array Bool} (hs : Shut ops listed) {j : Nat} (hj : j ∈ Region.ready .any ops listed) : Shut ops (listed.setIfInBounds j true) := by
  intro k o ho hk e he hb
  by_cases hkj : k = j
  · subst hkj
    obtain ⟨_, o', ho', hall⟩ := mem_ready.1 hj
    rw [ho] at ho'
    obtain rfl := Option.some.inj ho'
    exact getD_set_true (hall e he hb)
  · rw [getD_set_ne false (fun e => hkj e.symm)] at hk
    exact getD_set_true (hs k o ho hk e he hb)
/-- The same operation where another one has yielded. -/
theorem oneC_first {c : Bool} {oi : Oper} {h : List Value} {a : Act} {K : List Value → Act → Prop} {x : Option Tmp} {u : Value} (hs : ∀ cs b, oi.op ≠ .select cs b) (h3 : ∀ d, x = some d → d ∉ oi.looksAt ops) (h2 : ∀ d, oi.dst = some d → x ≠ some d)
    (hh : oneC P ops C c oi h (fun h' a' => K h' (a'.put x u)) a) : oneC P ops C c oi h K (a.put x u) := by
  have ew : wantC ops oi (a.put x u) = wantC ops oi a := wanted_put oi a x u h3
  have ee : execOp (a.put x u).eval oi = execOp a.eval oi := execOp_put oi hs a x u h3
  unfold oneC loudAt stillAt at *
  rw [ew, ee]
  rcases hh with ⟨g1, g2, g3, g4⟩ | ⟨g1, g2, v, g3, g4⟩ | ⟨g1, g4⟩
  · exact .inl ⟨g1, g2, g3, fun v w' hc => by rw [← Act.put_comm a v u h2]; exact g4 v w' hc⟩
  · exact .inr (.inl ⟨g1, g2, v, g3, by rw [← Act.put_comm a v u h2]; exact g4⟩)
  · exact .inr (.inr ⟨g1, by rw [← Act.put_comm a undef u h2]; exact g4⟩)
theorem wpAnyC_first {Q : List Value → Act → Prop} {i : Nat} {oi : Oper} (hi : ops[i]? = some oi) (hsel : ∀ (j : Nat) (o : Oper) cs b, ops[j]? = some o → o.op ≠ .select cs b)
    (hpair : ∀ i j, ch i = true → ch j = true → i ≠ j → Waits ops i j ∨ Waits ops j i) :
    ∀ (fuel : Nat) (listed : Array Bool) (h : List Value) (a : Act), Shut ops listed → (∃ w, C h w) →
      (∀ j oj, ops[j]? = some oj → j ≠ i → listed.getD j true = false → (∀ e ∈ oj.after, Region.binds .any e = true → e.on ≠ i) → oi.apart ops oj = true) →
      i ∈ Region.ready .any ops listed → oneC P ops C (ch i) oi h (wpAnyC P ops C ch Q fuel (listed.setIfInBounds i true)) a → wpAnyC P ops C ch Q (fuel + 1) listed h a := by
  have own : ∀ {K : List Value → Act → Prop} {h : List Value} {a : Act}, oneC P ops C (ch i) oi h K a → cOp P ops C ch i h K a := fun hk => by
    unfold cOp; simp only [hi]; exact hk
  intro fuel
  induction fuel with
  | zero =>
    intro listed h a _ hne _ hr H
    refine ⟨fun h => (by rw [h] at hr; cases hr), fun j hj => ?_⟩
    by_cases hji : j = i
    · subst hji; exact own H
    · exfalso
      have h1 := ready_mono hj hji
      obtain ⟨w, hw⟩ := hne
      rcases H with ⟨_, _, g3, g4⟩ | ⟨_, _, v, _, g4⟩ | ⟨_, g4⟩
      · obtain ⟨v, w', hc⟩ := loud_some g3 hw
        have := (g4 v w' hc).1
        rw [this] at h1; cases h1
      · have := g4.1
        rw [this] at h1; cases h1
      · have := g4.1
        rw [this] at h1; cases h1
  | succ fuel ih =>
    intro listed h a hsh hne hfree hr H
    refine ⟨fun h => (by rw [h] at hr; cases hr), fun j hj => ?_⟩
    by_cases hji : j = i
    · subst hji; exact own H
    · obtain ⟨hjun, oj, hoj, hall⟩ := mem_ready.1 hj
      have hnot : ∀ e ∈ oj.after, Region.binds .any e = true → e.on ≠ i := fun e he hb heq => by
        have h1 := hall e he hb
        rw [heq] at h1
        exact unlisted_ne (mem_ready.1 hr).1 h1
      obtain ⟨a1, a2, a3⟩ := Oper.apart_spec (hfree j oj hoj hji hjun hnot)
      have a2' : ∀ d, oj.dst = some d → oi.dst ≠ some d := fun d hd he => a2 d he hd
      have hnb : ch i = true → ch j = true → False := fun ci cj => by
        rcases hpair i j ci cj (fun e => hji e.symm) with hw | hw
        · exact unlisted_ne hjun (hw.ready hsh hr)
        · exact unlisted_ne (mem_ready.1 hr).1 (hw.ready hsh hj)
      have hji' := ready_mono hj hji
      -- what j does where i has yielded
      have at_ : ∀ {h' : List Value} {v : Value}, (∀ k ∈ Region.ready .any ops (listed.setIfInBounds i true), cOp P ops C ch k h' (wpAnyC P ops C ch Q fuel ((listed.setIfInBounds i true).setIfInBounds k true)) (a.put oi.dst v)) → oneC P ops C (ch j) oj h' (wpAnyC P ops C ch Q fuel ((listed.setIfInBounds i true).setIfInBounds j true)) (a.put oi.dst v) := fun hh => by
        have := hh j hji'
        unfold cOp at this; simp only [hoj] at this; exact this
      have ew : ∀ v, wantC ops oj (a.put oi.dst v) = wantC ops oj a := fun v => wanted_put oj a oi.dst v a1
      have ee : ∀ v, execOp (a.put oi.dst v).eval oj = execOp a.eval oj := fun v => execOp_put oj (fun cs b => hsel j oj cs b hoj) a oi.dst v a1
      have next : ∀ (h' : List Value) (u : Value), (∃ w, C h' w) → oneC P ops C (ch i) oi h' (fun h'' a' => wpAnyC P ops C ch Q fuel ((listed.setIfInBounds j true).setIfInBounds i true) h'' (a'.put oj.dst u)) a → wpAnyC P ops C ch Q (fuel + 1) (listed.setIfInBounds j true) h' (a.put oj.dst u) := fun h' u hne' hh => by
        refine ih (listed.setIfInBounds j true) h' (a.put oj.dst u) (hsh.set hj) hne' (fun k ok hk hki hun hno => ?_) (ready_mono hr (Ne.symm hji)) (oneC_first (fun cs b => hsel i oi cs b hi) a3 a2 hh)
        refine hfree k ok hk hki ?_ hno
        by_cases hjk : j = k
        · subst hjk; exact hjun
        · rw [getD_set_ne true hjk] at hun; exact hun
      have comm : (listed.setIfInBounds i true).setIfInBounds j true = (listed.setIfInBounds j true).setIfInBounds i true := Array.setIfInBounds_comm _ _ (fun e => hji e.symm)
      unfold cOp
      simp only [hoj]
      rcases H with ⟨g1, g2, g3, g4⟩ | ⟨g1, g2, v, g3, g4⟩ | ⟨g1, g4⟩
      · -- i is a call: j is none
        have cj : ch j = false := by cases e : ch j; rfl; exact absurd e (fun e => hnb g2 e)
        obtain ⟨w, hw⟩ := hne
        obtain ⟨v0, w0, hc0⟩ := loud_some g3 hw
        have H0 := at_ ((g4 v0 w0 hc0).2)
        rcases H0 with ⟨_, k2, _⟩ | ⟨k1, _, u, k3, k4⟩ | ⟨k1, k4⟩
        · rw [cj] at k2; cases k2
        · unfold stillAt at k3
          rw [ee] at k3
          rw [ew] at k1
          refine .inr (.inl ⟨k1, cj, u, k3, next h u ⟨w, hw⟩ (.inl ⟨g1, g2, g3, fun v w' hc => ?_⟩)⟩)
          have H1 := at_ ((g4 v w' hc).2)
          rcases H1 with ⟨_, k2, _⟩ | ⟨_, _, u', m3, m4⟩ | ⟨m1, _⟩
          · rw [cj] at k2; cases k2
          · unfold stillAt at m3
            rw [ee] at m3
            have := holds_eq (k3 h w hw) (m3 h w hw)
            subst this
            rw [← comm]; exact m4
          · rw [ew, k1] at m1; cases m1
        · rw [ew] at k1
          refine .inr (.inr ⟨k1, next h undef ⟨w, hw⟩ (.inl ⟨g1, g2, g3, fun v w' hc => ?_⟩)⟩)
          have H1 := at_ ((g4 v w' hc).2)
          rcases H1 with ⟨m1, _⟩ | ⟨m1, _⟩ | ⟨_, m4⟩
          · rw [ew, k1] at m1; cases m1
          · rw [ew, k1] at m1; cases m1
          · rw [← comm]; exact m4
      · have H0 := at_ g4.2
        rcases H0 with ⟨k1, k2, k3, k4⟩ | ⟨k1, k2, u, k3, k4⟩ | ⟨k1, k4⟩
        · rw [ew] at k1
          unfold loudAt at k3
          rw [ee] at k3
          exact .inl ⟨k1, k2, k3, fun u w' hc => next (h ++ [u]) u ⟨w', hc⟩ (.inr (.inl ⟨g1, g2, v, g3, by rw [← comm]; exact k4 u w' hc⟩))⟩
        · rw [ew] at k1
          unfold stillAt at k3
          rw [ee] at k3
          exact .inr (.inl ⟨k1, k2, u, k3, next h u hne (.inr (.inl ⟨g1, g2, v, g3, by rw [← comm]; exact k4⟩))⟩)
        · rw [ew] at k1
          exact .inr (.inr ⟨k1, next h undef hne (.inr (.inl ⟨g1, g2, v, g3, by rw [← comm]; exact k4⟩))⟩)
      · have H0 := at_ g4.2
        rcases H0 with ⟨k1, k2, k3, k4⟩ | ⟨k1, k2, u, k3, k4⟩ | ⟨k1, k4⟩
        · rw [ew] at k1
          unfold loudAt at k3
          rw [ee] at k3
          exact .inl ⟨k1, k2, k3, fun u w' hc => next (h ++ [u]) u ⟨w', hc⟩ (.inr (.inr ⟨g1, by rw [← comm]; exact k4 u w' hc⟩))⟩
        · rw [ew] at k1
          unfold stillAt at k3
          rw [ee] at k3
          exact .inr (.inl ⟨k1, k2, u, k3, next h u hne (.inr (.inr ⟨g1, by rw [← comm]; exact k4⟩))⟩)
        · rw [ew] at k1
          exact .inr (.inr ⟨k1, next h undef hne (.inr (.inr ⟨g1, by rw [← comm]; exact k4⟩))⟩)
theorem wpAnyC_lex {Q : List Value → Act → Prop} (hs : Region.noSelect ops = true) (hpair : ∀ i j, ch i = true → ch j = true → i ≠ j → Waits ops i j ∨ Waits ops j i) : ∀ (l : List Oper) (k : Nat) (listed : Array Bool) (h : List Value) (a : Act), (∀ j, l[j]? = ops[k + j]?) →
    Region.lexFrom .any ops l.length k listed = true → Shut ops listed → (∃ w, C h w) → wpCh P ops C ch Q l k h a → wpAnyC P ops C ch Q l.length listed h a
  | [], _, _, _, _, _, hB, _, _, hh => ⟨by simpa [Region.lexFrom] using hB, hh⟩
  | o :: l, k, listed, h, a, hl, hB, hsh, hne, hh => by
    have h0 : ops[k]? = some o := by simpa using (hl 0).symm
    simp only [List.length_cons, Region.lexFrom, Bool.and_eq_true] at hB
    obtain ⟨⟨hr, hf⟩, hB'⟩ := hB
    have hr' : k ∈ Region.ready .any ops listed := by simpa using hr
    have on : ∀ h' a', (∃ w, C h' w) → wpCh P ops C ch Q l (k + 1) h' a' → wpAnyC P ops C ch Q l.length (listed.setIfInBounds k true) h' a' := fun h' a' hne' hK =>
      wpAnyC_lex hs hpair l (k + 1) _ _ _ (fun j => by have := hl (j + 1); simpa [Nat.add_assoc, Nat.add_comm 1 j] using this) hB' (hsh.set hr') hne' hK
    refine wpAnyC_first h0 (Region.noSelect_spec hs) hpair l.length listed h a hsh hne (Region.free_spec h0 hf) hr' ?_
    rcases hh with ⟨g1, g2, g3, g4⟩ | ⟨g1, g2, v, g3, g4⟩ | ⟨g1, g4⟩
    · exact .inl ⟨g1, g2, g3, fun v w' hc => on _ _ ⟨w', hc⟩ (g4 v w' hc)⟩
    · exact .inr (.inl ⟨g1, g2, v, g3, on _ _ hne g4⟩)
    · exact .inr (.inr ⟨g1, on _ _ hne g4⟩)
/-- A path down the edges. -/
def pathB (ops : Array Oper) : List Nat → Bool
  | [] => true
  | [_] => true
  | j :: k :: rest => (match ops[j]? with | some o => o.after.any (fun e => Region.binds .any e && e.on == k) | none => false) && pathB ops (k :: rest)
theorem path_waits : ∀ (l : List Nat) (j : Nat), pathB ops (j :: l) = true → ∀ i ∈ l, Waits ops j i
  | [], _, _, i, hi => by simp at hi
  | k :: l, j, h, i, hi => by
    simp only [pathB, Bool.and_eq_true] at h
    obtain ⟨h1, h2⟩ := h
    cases ho : ops[j]? with
    | none => rw [ho] at h1; cases h1
    | some o =>
      rw [ho] at h1
      simp only at h1
      rw [Array.any_eq_true] at h1
      obtain ⟨x, hx, hxe⟩ := h1
      simp only [Bool.and_eq_true, beq_iff_eq] at hxe
      rcases List.mem_cons.1 hi with hi | hi
      · subst hi; exact .one ho (Array.getElem_mem hx) hxe.1 hxe.2
      · exact .more ho (Array.getElem_mem hx) hxe.1 hxe.2 (path_waits l k h2 i hi)
theorem path_pair : ∀ (l : List Nat), pathB ops l = true → ∀ i ∈ l, ∀ j ∈ l, i ≠ j → Waits ops i j ∨ Waits ops j i
  | [], _, i, hi, _, _, _ => by simp at hi
  | k :: l, h, i, hi, j, hj, hij => by
    have h2 : pathB ops l = true := by
      cases l with
      | nil => rfl
      | cons m l => simp only [pathB, Bool.and_eq_true] at h; exact h.2
    rcases List.mem_cons.1 hi with i1 | i1
    · subst i1
      rcases List.mem_cons.1 hj with j1 | j1
      · exact absurd j1.symm hij
      · exact .inl (path_waits l i h j j1)
    · rcases List.mem_cons.1 hj with j1 | j1
      · subst j1; exact .inr (path_waits l j h i i1)
      · exact path_pair l h2 i i1 j j1 hij
/-- One walk of the text's order serves every order: the calls cs stand on one path. -/
theorem wp_region_chain {id : Nat} {Q : Exit → Act → World → Prop} {a : Act} {w : World} {l : List Oper} (C : List Value → World → Prop) (cs path : List Nat) (hm : P.follows .mixedOrders = true) (hB : Region.lexB .any l.toArray = true)
    (hp : pathB l.toArray path = true) (hcs : cs.all path.contains = true) (hC : C [] w.drew)
    (hh : wpCh P l.toArray C cs.contains (fun h a' => ∀ w', C h w' → Q .normal a' w') l 0 [] a) : (Code.region id l.toArray true).wp P Q a w := by
  simp only [Region.lexB, Bool.and_eq_true] at hB
  have hmem : ∀ i, cs.contains i = true → i ∈ path := fun i hi => by
    have := List.all_eq_true.1 hcs i (by simpa using hi)
    simpa using this
  refine wp_region_any hm (wpAny_of_chain (C := C) (ch := cs.contains) (Q := fun h a' => ∀ w', C h w' → Q .normal a' w') (fun _ _ w' hw' h => h w' hw') _ _ [] _ _ hC ?_)
  have := wpAnyC_lex (P := P) (C := C) (ch := cs.contains) (Q := fun h a' => ∀ w', C h w' → Q .normal a' w') hB.1 (fun i j hi hj hij => path_pair path hp i (hmem i hi) j (hmem j hj) hij) l 0 (Array.replicate l.toArray.size false) [] a (by simp) (by simpa using hB.2)
    (fun j o _ hj => by simp [Array.getD, Array.getElem_replicate] at hj) ⟨_, hC⟩ hh
  simpa using this
end
/-- A world of some stage. -/
structure HeldC (C : List Value → World → Prop) where
  s : List Value
  w : World
  h : C s w
section
variable {P : Program} {ops : Array Oper} {C : List Value → World → Prop} {ch : Nat → Bool} {Q : List Value → Act → Prop}
/-- Operations that enter no function. -/
def plainOp : Op → Bool
  | .move _ | .assign _ | .pick _ _ _ | .load _ _ | .fieldAddr _ _ _ | .indexAddr _ _ _ | .binOp _ _ _ _ _ | .unOp _ _ _ | .convert _ _ _ | .field _ _ _ | .index _ _ _ | .nilCheck _ => true
  | _ => false
theorem noEnter_bind {α : Type} (s : Sem α) (f : α → Sem Next) (hf : ∀ x w w' g b, (f x).run P w ≠ .ok (.enter g b) w') (w w' : World) (g : FuncId) (b : Array Value) : (s >>= f).run P w ≠ .ok (.enter g b) w' := by
  rw [Sem.run_bind]
  cases s.run P w with
  | ok x w1 => exact hf x w1 w' g b
  | halt x w1 => intro h; cases h
theorem noEnter_pure (n : Next) (hn : ∀ g b, n ≠ .enter g b) (w w' : World) (g : FuncId) (b : Array Value) : (pure n : Sem Next).run P w ≠ .ok (.enter g b) w' := by
  rw [Sem.run_pure]
  intro h
  injection h with h
  exact hn g b h
theorem noEnter_plain {o : Oper} {ρ : Operand → Value} (h : plainOp o.op = true) (w w' : World) (g : FuncId) (b : Array Value) : (execOp ρ o).run P w ≠ .ok (.enter g b) w' := by
  obtain ⟨dst, op, ty, pos, after, guard⟩ := o
  cases op <;> (try (simp [plainOp] at h; done))
  all_goals unfold execOp
  all_goals simp only
  all_goals first
    | exact noEnter_pure _ (fun _ _ e => by cases e) _ _ _ _
    | exact noEnter_bind _ _ (fun x w w' g b => noEnter_pure _ (fun _ _ e => by cases e) _ _ _ _) _ _ _ _
    | skip
  repeat' split
  all_goals first
    | exact noEnter_pure _ (fun _ _ e => by cases e) _ _ _ _
    | (intro e; simp [runtimePanic] at e; done)
    | (intro e; cases e; done)
    | skip
  refine noEnter_bind _ _ (fun x w w' g b => noEnter_bind _ _ (fun y w w' g b => ?_) _ _ _ _) _ _ _ _
  split
  · exact noEnter_bind _ _ (fun x w w' g b => noEnter_pure _ (fun _ _ e => by cases e) _ _ _ _) _ _ _ _
  · exact noEnter_pure _ (fun _ _ e => by cases e) _ _ _ _
/-- The walk ends. -/
theorem wpCh_nil {k : Nat} {h : List Value} {a : Act} (hh : Q h a) : wpCh P ops C ch Q [] k h a := hh
/-- An operation that only reads. -/
theorem wpCh_n {o : Oper} {rest : List Oper} {k : Nat} {h : List Value} {a : Act} (hch : ch k = false) (hp : plainOp o.op = true)
    (hh : wpQuiet P ops (fun w => ∃ t : HeldC C, w = t.w) (fun a' => wpCh P ops C ch Q rest (k + 1) h a') [o] a) : wpCh P ops C ch Q (o :: rest) k h a := by
  unfold wpQuiet at hh
  split at hh
  · rename_i hw
    obtain ⟨v, h1, h2⟩ := hh
    refine .inr (.inl ⟨hw, hch, v, fun h w hC => ?_, h2⟩)
    have h3 := h1 w ⟨⟨h, w, hC⟩, rfl⟩
    have hne := noEnter_plain (P := P) (ρ := a.eval) hp w
    unfold Oper.quietAt at h3
    generalize (execOp a.eval o).run P w = r at *
    cases r with
    | ok n w' =>
      cases n <;> simp only [Oper.quietUpon] at h3
      case value u => exact h3
      case skip => exact h3
      case enter f args => exact absurd rfl (hne w' f args)
    | halt x w' => simp only [Oper.quietUpon] at h3
  · rename_i hw
    exact .inr (.inr ⟨by unfold wantC; simpa using hw, hh⟩)
/-- A call. -/
theorem wpCh_l {dst : Option Tmp} {op : Op} {ty : TypeId} {pos : String} {after : Array Edge} {guard : Option (Nat × Bool)} {rest : List Oper} {k : Nat} {h : List Value} {a : Act} {f : FuncId} {args : Array Value} (hch : ch k = true)
    (hw : Region.wanted ⟨dst, op, ty, pos, after, guard⟩ (yielded ops a.tmps) = true) (hrun : ∀ w, (execOp a.eval ⟨dst, op, ty, pos, after, guard⟩).run P w = .ok (.enter f args) w)
    (hc : ∀ w, C h w → Calls P f args w (fun e w' => ∃ v, e = .returned v ∧ C (h ++ [v]) w'))
    (hh : ∀ v w', C (h ++ [v]) w' → wpQuiet P ([] : List Oper).toArray (fun x => x = w') (fun a' => wpCh P ops C ch Q rest (k + 1) (h ++ [v]) a') [⟨dst, .move (.const v), ty, pos, #[], none⟩] a) : wpCh P ops C ch Q (⟨dst, op, ty, pos, after, guard⟩ :: rest) k h a := by
  refine .inl ⟨hw, hch, fun w hC => ?_, fun v w' hv => ?_⟩
  · rw [hrun w]
    exact ⟨rfl, hc w hC⟩
  · have := hh v w' hv
    unfold wpQuiet at this
    rw [if_pos (by rfl)] at this
    obtain ⟨u, h1, h2⟩ := this
    have h3 := h1 w' rfl
    unfold Oper.quietAt at h3
    have e : (execOp a.eval ⟨dst, .move (.const v), ty, pos, #[], none⟩).run P w' = .ok (.value v) w' := rfl
    rw [e] at h3
    obtain ⟨_, rfl⟩ := h3
    exact h2
end
end Go.Proofs.YtaggiceejcegdaaGreat
