/-
  WHAT IS SHOWN: New of wal returns a log with the records, or ErrArg, as tegularef49 says (WalNew). Conditions: none.
-/
import Derived.Test.YtaggiceejcegdaaGreatNb00
import Derived.Test.YtaggiceejcegdaaGreatNb01
import Derived.Test.YtaggiceejcegdaaGreatNb02
import Derived.Test.YtaggiceejcegdaaGreatNb03
import Derived.Test.YtaggiceejcegdaaGreatNb04
import Derived.Test.YtaggiceejcegdaaGreatNb05
import Derived.Test.YtaggiceejcegdaaGreatNb06
import Derived.Test.YtaggiceejcegdaaGreatNb07
import Derived.Test.YtaggiceejcegdaaGreatNb08
import Derived.Test.YtaggiceejcegdaaGreatNb09
import Derived.Test.YtaggiceejcegdaaGreatNb10
import Derived.Test.YtaggiceejcegdaaGreatNb11
import Derived.Test.YtaggiceejcegdaaGreatNb12
import Derived.Test.YtaggiceejcegdaaGreatNb13
import Derived.Test.YtaggiceejcegdaaGreatNb14
import Derived.Test.YtaggiceejcegdaaGreatNb15
import Derived.Test.YtaggiceejcegdaaGreatNb16
import Derived.Test.YtaggiceejcegdaaGreatNb17
import Derived.Test.YtaggiceejcegdaaGreatNb18
import Derived.Test.YtaggiceejcegdaaGreatNb19
import Derived.Test.YtaggiceejcegdaaGreatNb20
import Derived.Test.YtaggiceejcegdaaGreatNb21
import Derived.Test.YtaggiceejcegdaaGreatNb22
import Derived.Test.YtaggiceejcegdaaGreatNb23
import Derived.Test.YtaggiceejcegdaaGreatNb24
import Derived.Test.YtaggiceejcegdaaGreatNb25
import Derived.Test.YtaggiceejcegdaaGreatNb26
import Derived.Test.YtaggiceejcegdaaGreatNb27
import Derived.Test.YtaggiceejcegdaaGreatNb28
import Derived.Test.YtaggiceejcegdaaGreatNb29
import Derived.Test.YtaggiceejcegdaaGreatNb30
import Derived.Test.YtaggiceejcegdaaGreatNb31
import Derived.Test.YtaggiceejcegdaaGreatNb32
import Derived.Test.YtaggiceejcegdaaGreatNb33
import Derived.Test.YtaggiceejcegdaaGreatNb34
import Derived.Test.YtaggiceejcegdaaGreatNb35
import Derived.Test.YtaggiceejcegdaaGreatNb36
import Derived.Test.YtaggiceejcegdaaGreatNb37
import Derived.BigQuiet
import Derived.ChangeKeysEq
import Derived.ChangeOld
import Derived.Deep.AppendLies
import Derived.Deep.DeepCutAuto
import Derived.Deep.Draws
import Derived.Deep.Fields
import Derived.Deep.QuietTactic
import Derived.Deep.RegionHeld3
import Derived.Deep.RegionLaw
import Derived.Deep.Slices
import Derived.Handy
import Derived.Laws.AppendOwnNone
import Derived.Laws.BytesArg
import Derived.Laws.Cover3
import Derived.Laws.MakeOwn
import Derived.Laws.OwnMore
import Derived.Laws.Rows
import Derived.Lib.ConvBytes
import Derived.Lib.Hide
import Derived.Lib.SmallJoins
import Derived.Lib.VarintBits
import Derived.Lib.Zigzag
import Derived.LoopIn
import Derived.LoopNIn
import Derived.Maps.AppendAt
import Derived.OpenShut
import Derived.OwnWalkIn
import Derived.ProofKit
import Derived.RangeFuncBox
import Derived.RangeFuncLeaves
import Derived.Shelf.Abstract
import Derived.Sort.QuietIn
import Derived.TacticsInMore
import Derived.WalkKit
import Derived.WalkLawsBesides
import Derived.WalkMore
import Derived.WalkSpells
import Derived.Test.YtaggiceejcegdaaGreatOb00
import Derived.Test.YtaggiceejcegdaaGreatRows
namespace Go.Proofs.YtaggiceejcegdaaGreat
set_option linter.unusedVariables false
open Go.ChangeShapes Go.WideShapes Go.ChangeAt Go.RowKit

/-- The worlds of the calls of WalNew's last line. -/
def NewC (I : World → Prop) (v1 v2 : Value) (R : Value → World → Prop) : List Value → World → Prop
  | [], w => I w
  | [v], w => I w ∧ v = v1
  | [_, v], w => I w ∧ v = v2
  | [_, _, v], w => I w ∧ v = v2
  | [_, _, _, v], w => I w ∧ R v w
  | [_, _, _, _, v], w => I w ∧ v = .bool true
  | _, _ => False
set_option maxRecDepth 100000 in
set_option maxHeartbeats 16000000 in
theorem walNew_walk (gen : Nat) (hgen : gen < 2 ^ 64) (a0 a1 : Int) (l : List RS) (A : Option Addr) (c : Nat) (w : World) (hl : RcsIn w (.slice A l.length c) A l c) (hA : A = none → c = 0) :
    Calls Tryz.prog 5 #[.int .u64 gen, .agg #[.int .i64 a0, .int .i64 a1], .slice A l.length c] w fun e w' => e = .returned (.bool true) ∧ Below w.heap.size w w' := by
  have HB : Hid (∀ W, Below (w.heap.size + 1) (w.alloc (.cells #[.int .i64 a0, .int .i64 a1] 62)) W → Below w.heap.size w W) := fun W hW => ((Below.refl w.heap.size w).alloc (Nat.le_refl _) _).trans (hW.mono (by omega))
  have HP0 : Hid (∀ W, Below (w.heap.size + 1) (w.alloc (.cells #[.int .i64 a0, .int .i64 a1] 62)) W → W.cell? ⟨w.heap.size, 0, none⟩ = some (.int .i64 a0) ∧ W.cell? ⟨w.heap.size, 1, none⟩ = some (.int .i64 a1)) := fun W hW =>
    ⟨(hW.cell (p := ⟨w.heap.size, 0, none⟩) (by show w.heap.size < _; omega)).trans (cell_new _ _ _ _ _ _ rfl rfl), (hW.cell (p := ⟨w.heap.size, 1, none⟩) (by show w.heap.size < _; omega)).trans (cell_new _ _ _ _ _ _ rfl rfl)⟩
  have HLR := Lib.hid hl.rd
  have HLE := Lib.hid hl.each
  have HA := Lib.hid hA
  have hz0 : (w.alloc (.cells #[.int .i64 a0, .int .i64 a1] 62)).heap.size = w.heap.size + 1 := by simp
  clear hl hA
  go_enter Tryz.func5, Tryz.ntmps5
  go_wp2_with fail
  refine (awake49_any _).mono ?_
  rintro e w1 ⟨rfl, hb1⟩
  rw [hz0] at hb1
  have HB1 := Lib.hid hb1
  clear hb1
  by_cases h3 : (10 : Int) < (l.length : Int)
  · have d3 : decide ((10 : Int) < (l.length : Int)) = true := decide_eq_true h3
    clear h3
    go_wp2
    go_ret
    exact ⟨rfl, HB.out _ HB1.out⟩
  have d3 : decide ((10 : Int) < (l.length : Int)) = false := decide_eq_false h3
  have hl10 : l.length ≤ 10 := by omega
  clear h3
  go_wp2
  go_loopw [20] (fun i wr => ∃ k : Nat, k ≤ l.length ∧ i = .int .i64 k ∧ Hid (Below (w.heap.size + 1) (w.alloc (.cells #[.int .i64 a0, .int .i64 a1] 62)) wr ∧ ∀ j (hj : j < l.length), j < k → briefR l[j].r = true)) (fun i _ => l.length - (intOf i).toNat)
  case atStart => exact ⟨0, Nat.zero_le _, rfl, HB1.out, fun j hj h => by omega⟩
  case round =>
    obtain ⟨k, hk, rfl, HW⟩ := hrel
    by_cases hlt : k < l.length
    · have hXW := HLR.out.up (HB.out _ HW.out.1)
      obtain ⟨g7, o7, rA, hg7, j0, j1, j2, j3, j4⟩ := hXW.rd.rs hlt
      subst rA
      have PB := (Cells5.new wr 28 (.int .u64 l[k].r.gen) (.int .u64 l[k].r.seq) (.slice l[k].A l[k].r.ws.length l[k].c) (.slice l[k].D l[k].r.ms.length l[k].d) (.slice l[k].N l[k].r.note.length l[k].n))
      have p0 := PB.c0; have p1 := PB.c1; have p2 := PB.c2; have p3 := PB.c3; have p4 := PB.c4
      have hzr : w.heap.size + 1 ≤ wr.heap.size := by have := HW.out.1.size; rw [hz0] at this; exact this
      have HBX : Hid (Below (w.heap.size + 1) (w.alloc (.cells #[.int .i64 a0, .int .i64 a1] 62)) (wr.alloc (.cells #[.int .u64 l[k].r.gen, .int .u64 l[k].r.seq, .slice l[k].A l[k].r.ws.length l[k].c, .slice l[k].D l[k].r.ms.length l[k].d, .slice l[k].N l[k].r.note.length l[k].n] 28))) := HW.out.1.alloc hzr _
      have HKB : Hid (briefR l[k].r = true → ∀ j (hj : j < l.length), j < k + 1 → briefR l[j].r = true) := fun hb j hj h => by
        by_cases e : j = k
        · subst e; exact hb
        · exact HW.out.2 j hj (by omega)
      have hzx : (wr.alloc (.cells #[.int .u64 l[k].r.gen, .int .u64 l[k].r.seq, .slice l[k].A l[k].r.ws.length l[k].c, .slice l[k].D l[k].r.ms.length l[k].d, .slice l[k].N l[k].r.note.length l[k].n] 28)).heap.size = wr.heap.size + 1 := by simp
      clear hXW PB HW
      go_wp2_with fail
      refine (brief_any l[k].r l[k].A l[k].D l[k].N l[k].c l[k].d l[k].n _).mono ?_
      rintro e w6 ⟨rfl, hb6⟩
      have HB6 := Lib.hid (HBX.out.trans (hb6.mono (by rw [hzx]; omega)))
      clear p0 p1 p2 p3 p4 hb6
      obtain hs | hs : briefR l[k].r = false ∨ briefR l[k].r = true := by cases briefR l[k].r; exact .inl rfl; exact .inr rfl
      · rw [hs]
        clear hs HKB
        go_wp2
        go_ret
        exact ⟨rfl, HB.out _ HB6.out⟩
      have HD := Lib.hid (HKB.out hs)
      rw [hs]
      clear hs HKB
      go_wp2
      go_roundw
      case rel => exact ⟨k + 1, hlt, by go_num, HB6.out, HD.out⟩
      case measure => simp [intOf]; omega
    · obtain rfl : k = l.length := by omega
      obtain ⟨q0, q1⟩ := HP0.out _ HW.out.1
      have HBR := Lib.hid HW.out.1
      have HT : Hid (∀ x ∈ l, Tiny x.r) := fun x hx => by
        obtain ⟨i, hi, rfl⟩ := List.mem_iff_getElem.1 hx
        exact brief_tiny (HW.out.2 i hi hi)
      have HOK : Hid (∀ x ∈ l, x.r.Ok) := fun x hx => (HLE.out x hx).ok
      have HN1 := Lib.hid (wnew_any gen a0 a1 l A c wr (HLR.out.up (HB.out _ HBR.out)) HT.out HOK.out (by omega))
      have HN2 : Hid (∀ W, Below (w.heap.size + 1) (w.alloc (.cells #[.int .i64 a0, .int .i64 a1] 62)) W → Calls Tryz.prog 23 #[.int .u64 gen, .int .i64 a0, .int .i64 a1, .slice A l.length c] W (RLNewPost W w.heap.size gen a0 a1 (l.map RS.r))) := fun W hW =>
        rlnew_any w.heap.size gen a0 a1 l A c W (HB.out _ hW).size (HLR.out.below (HB.out _ hW) (Nat.le_refl _)) HA.out HT.out HOK.out (by omega)
      have hzr : w.heap.size + 1 ≤ wr.heap.size := by have := HW.out.1.size; rw [hz0] at this; exact this
      clear HW
      go_wp2_with fail
      refine HN1.out.mono ?_
      intro e w2 hpost
      cases hnb : newB gen a0 a1 (l.map RS.r)
      · unfold NewPostW at hpost
        rw [hnb] at hpost
        obtain ⟨rfl, hb2⟩ := hpost
        have HB2 := Lib.hid (HBR.out.trans (hb2.mono hzr))
        clear q0 q1 hb2
        obtain ⟨q0, q1⟩ := HP0.out _ HB2.out
        go_wp2_with fail
        refine (HN2.out _ HB2.out).mono ?_
        intro e w3 hpost
        unfold RLNewPost at hpost
        rw [hnb] at hpost
        obtain ⟨rfl, hb3⟩ := hpost
        have HB3 := Lib.hid ((HB.out _ HB2.out).trans (hb3.mono (HB.out _ HB2.out).size))
        clear q0 q1 hb3 hnb
        go_wp2
        go_quiet (fail)
        have HB4 : Hid (Below w.heap.size w (w3.drewN nq)) := below_drewN' HB3.out _
        go_wp2
        go_ret
        exact ⟨rfl, HB4.out⟩
      · unfold NewPostW at hpost
        rw [hnb, if_pos rfl] at hpost
        obtain ⟨b, V, rfl, hlm, hb2⟩ := hpost
        have HB2 := Lib.hid (HBR.out.trans (hb2.mono hzr))
        have HLM := Lib.hid hlm
        clear q0 q1 hb2 hlm
        obtain ⟨q0, q1⟩ := HP0.out _ HB2.out
        go_wp2_with fail
        refine (HN2.out _ HB2.out).mono ?_
        intro e w3 hpost
        unfold RLNewPost at hpost
        rw [hnb, if_pos rfl] at hpost
        obtain ⟨b2, V2, rfl, hrm, hb3, _⟩ := hpost
        have HB3 := Lib.hid ((HB.out _ HB2.out).trans (hb3.mono (HB.out _ HB2.out).size))
        have HTS : Hid (∀ r ∈ l.map RS.r, Tiny r) := fun r hr => by obtain ⟨x, hx, rfl⟩ := List.mem_map.1 hr; exact HT.out x hx
        have hsl : (l.map RS.r).length ≤ 10 := by rw [List.length_map]; exact hl10
        have HL3 := Lib.hid (HLM.out.below0 hb3)
        obtain ⟨A3, c3, xs, hrl, _⟩ := hrm
        have HXS := Lib.hid hrl.rec_
        have hxl : xs.length ≤ 10 := by have h9 := hrl.len; have h8 : xs.length = (l.map RS.r).length := h9; omega
        have HR3 := Lib.hid hrl
        clear q0 q1 hb3 hnb hrl
        generalize ((secsL (l.map RS.r)).length : Int) = u at *
        have hbd : Below w3.heap.size w3 w3.drew := (Below.refl _ _).drew
        have HUS := Lib.hid (wused_any (HL3.out.below0 hbd))
        have HNX := Lib.hid (wnext_any (HL3.out.below0 hbd) (by show (l.map RS.r).length ≤ 1000; omega) hgen)
        have HRN : Hid (∀ W, Calls Tryz.prog 26 #[.slice A3 xs.length c3, .int .u64 gen] W fun e w' => e = .returned (.int .u64 (nextN (l.map RS.r).length gen : Nat)) ∧ w' = W) := fun W => by
          have := rnext_any xs.length (by omega) gen hgen A3 c3 W
          rw [HR3.out.len] at this ⊢
          exact this
        have HCE : Hid (∀ W, Below w3.heap.size w3 W → W.cell? ⟨b2, 3, none⟩ = some (.int .i64 u) ∧ W.cell? ⟨b2, 4, none⟩ = some (.slice A3 xs.length c3)) := fun W hW => ⟨(HR3.out.below0 hW).cells.2.2.2.1, (HR3.out.below0 hW).cells.2.2.2.2⟩
        have HBD := Lib.hid hbd
        have hle3 : xs.length = (l.map RS.r).length := HR3.out.len
        have HC0 : Hid (NewC (fun W => Below w3.heap.size w3 W) (.int .i64 u) (.int .u64 (nextN (l.map RS.r).length gen : Nat)) (fun v W => ∃ A c ys, v = .slice A ys.length c ∧ ys.map RS.r = l.map RS.r ∧ RcsO W 0 A c ys) [] w3.drew) := hbd
        generalize hC : NewC (fun W => Below w3.heap.size w3 W) (.int .i64 u) (.int .u64 (nextN (l.map RS.r).length gen : Nat)) (fun v W => ∃ A c ys, v = .slice A ys.length c ∧ ys.map RS.r = l.map RS.r ∧ RcsO W 0 A c ys) = C at HC0
        have hall : ∀ h W, C h W → Below w3.heap.size w3 W := by
          subst hC
          intro h W hW
          match h, hW with
          | [], hW => exact hW
          | [_], hW => exact hW.1
          | [_, _], hW => exact hW.1
          | [_, _, _], hW => exact hW.1
          | [_, _, _, _], hW => exact hW.1
          | [_, _, _, _, _], hW => exact hW.1
        have k3 : ∀ t : HeldC C, t.w.cell? ⟨b2, 3, none⟩ = some (.int .i64 u) := fun t => (HCE.out _ (hall _ _ t.h)).1
        have k4 : ∀ t : HeldC C, t.w.cell? ⟨b2, 4, none⟩ = some (.slice A3 xs.length c3) := fun t => (HCE.out _ (hall _ _ t.h)).2
        have HALL := Lib.hid hall
        have HK1 : Hid (∀ W, C [] W → Calls Tryz.prog 24 #[.pointer (some ⟨b, 0, none⟩)] W fun e w' => ∃ v, e = .returned v ∧ C ([] ++ [v]) w') := by
          subst hC
          unfold Hid; intro W hW
          refine (wused_any (HL3.out.below0 hW)).mono ?_
          rintro e w' ⟨he, rfl⟩
          exact ⟨_, he, hW, rfl⟩
        have HK2 : Hid (∀ v W, C [v] W → Calls Tryz.prog 25 #[.pointer (some ⟨b, 0, none⟩)] W fun e w' => ∃ u, e = .returned u ∧ C ([v] ++ [u]) w') := by
          subst hC
          unfold Hid; intro v W hW
          refine (wnext_any (HL3.out.below0 hW.1) (by show (l.map RS.r).length ≤ 1000; omega) hgen).mono ?_
          rintro e w' ⟨he, hb⟩
          exact ⟨_, he, hW.1.trans (hb.mono hW.1.size), rfl⟩
        have HK3 : Hid (∀ v u W, C [v, u] W → Calls Tryz.prog 26 #[.slice A3 xs.length c3, .int .u64 gen] W fun e w' => ∃ x, e = .returned x ∧ C ([v, u] ++ [x]) w') := by
          subst hC
          unfold Hid; intro v u W hW
          refine (HRN.out W).mono ?_
          rintro e w' ⟨he, rfl⟩
          exact ⟨_, he, hW.1, rfl⟩
        have HK4 : Hid (∀ v u z W, C [v, u, z] W → Calls Tryz.prog 28 #[.pointer (some ⟨b, 0, none⟩)] W fun e w' => ∃ x, e = .returned x ∧ C ([v, u, z] ++ [x]) w') := by
          subst hC
          unfold Hid; intro v u z W hW
          refine (wrecords_any (HL3.out.below0 hW.1) (by show (l.map RS.r).length ≤ 1000; omega) HTS.out).mono ?_
          rintro e w' ⟨A9, c9, ys, he, hy, ho, hb⟩
          exact ⟨_, he, hW.1.trans (hb.mono hW.1.size), A9, c9, ys, rfl, hy, ho.mono (Nat.zero_le _)⟩
        have HK5 : Hid (∀ v u z A9 k9 c9 W, C [v, u, z, .slice A9 k9 c9] W → Calls Tryz.prog 27 #[.slice A9 k9 c9, .slice A3 xs.length c3] W fun e w' => ∃ x, e = .returned x ∧ C ([v, u, z, .slice A9 k9 c9] ++ [x]) w') := by
          subst hC
          unfold Hid; intro v u z A9 k9 c9 W hW
          obtain ⟨hb, A8, c8, ys, e8, hy, ho⟩ := hW
          injection e8 with e1 e2 e3
          subst e1 e2 e3
          refine (sameall_any ys xs (by rw [hy, HXS.out]) (fun y hy2 => HTS.out _ (by rw [← hy]; exact List.mem_map.2 ⟨y, hy2, rfl⟩)) _ A3 _ c3 W ho.rd (HR3.out.below0 hb).rd (by have := congrArg List.length hy; rw [List.length_map] at this; omega)).mono ?_
          rintro e w' ⟨he, hb2⟩
          exact ⟨_, he, hb.trans (hb2.mono hb.size), rfl⟩
        have HV : Hid ((∀ v W, C [v] W → v = .int .i64 u) ∧ (∀ v u W, C [v, u] W → u = .int .u64 (nextN (l.map RS.r).length gen : Nat)) ∧ (∀ v u z W, C [v, u, z] W → z = .int .u64 (nextN (l.map RS.r).length gen : Nat)) ∧ (∀ v u z y W, C [v, u, z, y] W → ∃ A k c, y = .slice A k c) ∧ (∀ v u z y x W, C [v, u, z, y, x] W → x = .bool true)) := by
          subst hC
          exact ⟨fun _ _ h => h.2, fun _ _ _ h => h.2, fun _ _ _ _ h => h.2, fun _ _ _ _ _ h => by obtain ⟨_, A8, c8, ys, e8, _⟩ := h; exact ⟨_, _, _, e8⟩, fun _ _ _ _ _ _ h => h.2⟩
        have hne : Nonempty (HeldC C) := ⟨⟨[], _, HC0.out⟩⟩
        clear hC hall HUS HNX HRN HCE hbd hle3
        go_wp2
        refine wp_region_chain C [4, 12, 18, 23, 28] [28, 23, 21, 18, 12, 10, 4] (by kernel_rfl) (by kernel_rfl) (by kernel_rfl) (by kernel_rfl) HC0.out ?_
        repeat (refine wpCh_n (by rfl) (by rfl) ?_; go_big_quiet_step (fail); refine wpQuiet_nil ?_)
        refine wpCh_l (f := 24) (args := #[.pointer (some ⟨b, 0, none⟩)]) (by rfl) (by rfl) (fun W => by simp [go_sem]) (fun W hW => HK1.out W hW) (fun v W hW => ?_)
        obtain rfl := HV.out.1 v W hW
        go_big_quiet_step (fail)
        refine wpQuiet_nil ?_
        repeat (refine wpCh_n (by rfl) (by rfl) ?_; go_big_quiet_step (fail); refine wpQuiet_nil ?_)
        refine wpCh_l (f := 25) (args := #[.pointer (some ⟨b, 0, none⟩)]) (by rfl) (by rfl) (fun W => by simp [go_sem]) (fun W hW => HK2.out _ W hW) (fun v W hW => ?_)
        obtain rfl := HV.out.2.1 _ v W hW
        go_big_quiet_step (fail)
        refine wpQuiet_nil ?_
        repeat (refine wpCh_n (by rfl) (by rfl) ?_; go_big_quiet_step (fail); refine wpQuiet_nil ?_)
        refine wpCh_l (f := 26) (args := #[.slice A3 xs.length c3, .int .u64 gen]) (by rfl) (by rfl) (fun W => by simp [go_sem]) (fun W hW => HK3.out _ _ W hW) (fun v W hW => ?_)
        obtain rfl := HV.out.2.2.1 _ _ v W hW
        go_big_quiet_step (fail)
        refine wpQuiet_nil ?_
        repeat (refine wpCh_n (by rfl) (by rfl) ?_; go_big_quiet_step (fail); refine wpQuiet_nil ?_)
        refine wpCh_l (f := 28) (args := #[.pointer (some ⟨b, 0, none⟩)]) (by rfl) (by rfl) (fun W => by simp [go_sem]) (fun W hW => HK4.out _ _ _ W hW) (fun v W hW => ?_)
        obtain ⟨A9, k9, c9, rfl⟩ := HV.out.2.2.2.1 _ _ _ v W hW
        go_big_quiet_step (fail)
        refine wpQuiet_nil ?_
        repeat (refine wpCh_n (by rfl) (by rfl) ?_; go_big_quiet_step (fail); refine wpQuiet_nil ?_)
        refine wpCh_l (f := 27) (args := #[.slice A9 k9 c9, .slice A3 xs.length c3]) (by rfl) (by rfl) (fun W => by simp [go_sem]) (fun W hW => HK5.out _ _ _ _ _ _ W hW) (fun v W hW => ?_)
        obtain rfl := HV.out.2.2.2.2 _ _ _ _ v W hW
        go_big_quiet_step (fail)
        refine wpQuiet_nil ?_
        repeat (refine wpCh_n (by rfl) (by rfl) ?_; go_big_quiet_step (fail); refine wpQuiet_nil ?_)
        refine wpCh_nil ?_
        intro wc hcw
        have HBE := Lib.hid (HB3.out.trans ((HALL.out _ _ hcw).mono HB3.out.size))
        clear k3 k4 hne HK1 HK2 HK3 HK4 HK5 HV HC0 hcw hW HALL
        go_wp2
        go_ret
        exact ⟨rfl, HBE.out⟩

set_option maxRecDepth 100000 in
theorem walNew_lifted (os : Os) (started : os.Started) (H : Type) (enc : TypeId × Value → H) :
    ReturnsInHanded {} Tryz.checked os 5 .any (Rows.walNewSpec.pre6 enc Tryz.prog Tryz.f5 Rows.walNewRow.domain false) (Rows.walNewSpec.post enc Tryz.prog Tryz.f5 false true false false) := by
  refine returnsInHanded_of_change (C := Tryz.checked) own started (by kernel_rfl) Tryz.func5
    (ChangeSpec.witness6 (enc := enc) (C := Tryz.checked) false ⟨#[], #[.int .u64 0, .agg #[.int .i64 0, .int .i64 0], .slice none 0 0], []⟩ 8 (by kernel_rfl) (by kernel_rfl) (by kernel_rfl) (by kernel_rfl)) ?_
  intro W base args ds gs before hval0 hW hcnd _
  have hval : ∀ (j : Nat) t v, Tryz.f5.params[j]? = some t → args[j]? = some v → Value.okWide Tryz.prog W .any base t v := hval0
  have hW' := hW
  obtain ⟨p, q, hA0, hV, rfl, hfz, hnd⟩ := hW
  have hA : DataW.TrodAll enc Tryz.prog W 0 (fun _ => true) true Tryz.f5.params.toList args.toList ds p := hA0
  rw [Tryz.params5] at hA hval
  obtain ⟨v0, vs0, d0, ds0, p0, q0, hargs, rfl, rfl, h0, r0⟩ := trodAll_cons hA
  obtain ⟨v1, vs1, d1, ds1, p1, q1, rfl, rfl, rfl, h1, r1⟩ := trodAll_cons r0
  obtain ⟨v2, vs2, d2, ds2, p2, q2, rfl, rfl, rfl, h2, r2⟩ := trodAll_cons r1
  obtain ⟨rfl, rfl, rfl⟩ := trodAll_nil r2
  obtain rfl : args = #[v0, v1, v2] := by cases args; simp_all
  obtain ⟨rfl, rfl⟩ := trodVars_none hV
  have k0 := h0
  have lt0 : ∀ x ∈ p0, x.block < W.heap.size := by obtain ⟨m, hm⟩ := k0; exact DataW.trod_lt m _ _ _ hm
  have k1 := h1
  have lt1 : ∀ x ∈ p1, x.block < W.heap.size := by obtain ⟨m, hm⟩ := k1; exact DataW.trod_lt m _ _ _ hm
  have k2 := h2
  have lt2 : ∀ x ∈ p2, x.block < W.heap.size := by obtain ⟨m, hm⟩ := k2; exact DataW.trod_lt m _ _ _ hm
  obtain ⟨g, rfl, _, _, wg⟩ := open_int Tryz.underlying23 (hval 0 _ _ rfl rfl) h0
  have hg := u64_of wg
  obtain ⟨gn, rfl⟩ := Int.eq_ofNat_of_zero_le hg.1
  obtain ⟨a, b, rfl⟩ := open_int2 (hval 1 _ _ rfl rfl) h1
  obtain ⟨a2, n2, c2, rfl⟩ := Go.WideShapes.okWide_slice Tryz.underlying22 (hval 2 _ _ rfl rfl)
  obtain ⟨A2, l, c2', hl, hA⟩ : ∃ A l c, RcsIn W (.slice a2 n2 c2) A l c ∧ (A = none → c = 0) := by obtain ⟨fuel, hf⟩ := h2; exact open_recs0 hf
  have hlv := hl.val
  injection hlv with e1 e2 e3
  subst e1 e2 e3
  clear hA0 hval0
  refine (walNew_walk gn (by have := hg.2; omega) a b l _ _ W hl hA).mono fun e W' ⟨he, bel⟩ => ?_
  subst he
  exact ⟨_, rfl, _, _, _, [], _, [], hW', trodAll_mk1 (shut_bool Tryz.underlying4 _), (trodAll_cons_mk (Below.trod laidOut (by kernel_rfl) (of_decide_eq_true (by kernel_rfl)) k0 bel lt0) (trodAll_cons_mk (Below.trod laidOut (by kernel_rfl) (of_decide_eq_true (by kernel_rfl)) k1 bel lt1) (trodAll_cons_mk (Below.trod laidOut (by kernel_rfl) (of_decide_eq_true (by kernel_rfl)) k2 bel lt2) trodAll_mk0))), rfl, bel.frame _, fun h => by cases h⟩

/-- The statement. -/
theorem walNew_holds : Rows.WalNewSaid :=
  OpenClaim.holds_of_wide 5 Tryz.f5 rfl rfl rfl rfl rfl rfl rfl ⟨rfl, rfl, rfl, rfl, rfl⟩ rfl rfl rfl rfl rfl (by kernel_rfl) Tryz.func5 (by kernel_rfl)
    (of_decide_eq_true (by kernel_rfl)) (by unfold Func.isWrapper; first | (rw [if_pos (by decide +kernel)]; kernel_rfl) | (rw [if_neg (by decide +kernel)]; exact ⟨rfl, rfl⟩))
    (fun os started H enc _ => walNew_lifted os started H enc)
#print axioms walNew_holds
end Go.Proofs.YtaggiceejcegdaaGreat
