/-
  WHAT IS SHOWN: what Valid and At of fault, and Valid of tegularef13, return. Conditions: the faults can be read.
-/
import Derived.Test.YtckdhhadlemakaaGreatDisk0
namespace Go.Proofs.YtckdhhadlemakaaGreat
set_option linter.unusedVariables false
open Go.RowKit

theorem aims_any (k : Int) (w : World) : Calls Tryz.prog 79 #[.int .i64 k] w fun e w' => e = .returned (.bool (decide (k = 3) || decide (k = 5))) ∧ w = w' := by
  by_cases h3 : k = 3
  · subst h3
    go_enter Tryz.func79, Tryz.ntmps79
    go_wp2
    go_ret
    exact ⟨by first | rfl | simp, rfl⟩
  · by_cases h5 : k = 5
    · subst h5
      go_enter Tryz.func79, Tryz.ntmps79
      go_wp2
      go_ret
      exact ⟨by first | rfl | simp, rfl⟩
    · have e3 : (k == 3) = false := by simpa using h3
      have e5 : (k == 5) = false := by simpa using h5
      go_enter Tryz.func79, Tryz.ntmps79
      go_wp2
      go_ret
      exact ⟨by simp [h3, h5], rfl⟩
set_option maxRecDepth 100000 in
set_option maxHeartbeats 2000000 in
theorem fvalid_any (l : List Flt) (A : Option Addr) (c : Nat) (w : World) (hl : Rd w w.heap.size A (flatF l)) (hn : l.length ≤ 9223372036854775807) :
    Calls Tryz.prog 48 #[.slice A l.length c] w fun e w' => e = .returned (.bool (validF l)) ∧ Below w.heap.size w w' := by
  have HR := Lib.hid hl
  have HAI := Lib.hid (fun k W => aims_any k W)
  clear hl
  go_enter Tryz.func48, Tryz.ntmps48
  go_wp2
  go_loopw [3, 8] (fun s3 s8 wr => ∃ k : Nat, k ≤ l.length ∧ s8 = .int .i64 k ∧ s3 = .int .i64 (lastF l k) ∧ Below w.heap.size w wr ∧ Hid (∀ j (hj : j < l.length), j < k → okF (lastF l j) l[j] = true)) (fun _ v _ => l.length - (intOf v).toNat)
  case atStart => exact ⟨0, Nat.zero_le _, rfl, rfl, Below.refl _ _, by unfold Hid; intro j _ h; omega⟩
  case round =>
    obtain ⟨k, hk, rfl, rfl, hbr, HA⟩ := hrel
    by_cases hlt : k < l.length
    · obtain ⟨go, oo, rfl, hgo, c0, c1, c2⟩ := flt_at (HR.out.below hbr (Nat.le_refl _)) hlt
      have HN : Hid (okF (lastF l k) l[k] = false → validF l = false) := validF_not hlt
      have HY : Hid (okF (lastF l k) l[k] = true → ∀ j (hj : j < l.length), j < k + 1 → okF (lastF l j) l[j] = true) := by
        unfold Hid; intro h j hj hj2
        by_cases e : j = k
        · subst e; exact h
        · exact HA.out j hj (by omega)
      have HL := Lib.hid (lastF_succ l k hlt)
      have hbn : ∀ o, Below w.heap.size w (wr.alloc o) := fun o => hbr.alloc hbr.size o
      have HBN := Lib.hid hbn
      generalize lastF l k = last at *
      generalize l[k] = f at *
      have k0 : (0 : Int) ≤ k := by omega
      have k1 : (k : Int) < l.length := by omega
      clear hbn
      by_cases h1 : f.at_ ≤ last
      · have HF := Lib.hid (HN.out (by unfold okF; simp [h1]))
        go_wp2
        all_goals go_ret
        all_goals exact ⟨by rw [HF.out]; rfl, HBN.out _⟩
      by_cases h2 : f.kind < 1
      · have HF := Lib.hid (HN.out (by unfold okF; simp [h2]))
        go_wp2
        all_goals go_ret
        all_goals exact ⟨by rw [HF.out]; rfl, HBN.out _⟩
      by_cases h3 : 7 < f.kind
      · have HF := Lib.hid (HN.out (by unfold okF; simp [h3]))
        go_wp2
        all_goals go_ret
        all_goals exact ⟨by rw [HF.out]; rfl, HBN.out _⟩
      by_cases h4 : f.to_ < 0
      · have HF := Lib.hid (HN.out (by unfold okF; simp [h4]))
        go_wp2
        all_goals go_ret
        all_goals exact ⟨by rw [HF.out]; rfl, HBN.out _⟩
      by_cases h5 : f.to_ = 0
      · have HF := Lib.hid (HY.out (by unfold okF; simp [h1, h2, h3, h5]))
        have e5 : (f.to_ != 0) = false := by simpa using h5
        clear h5
        go_wp2
        go_roundw
        case rel => exact ⟨k + 1, by omega, by go_num, by rw [HL.out], HBN.out _, HF.out⟩
        case measure => simp [intOf]; omega
      have e5 : (f.to_ != 0) = true := by simpa using h5
      cases ha : (decide (f.kind = 3) || decide (f.kind = 5))
      · have HF := Lib.hid (HN.out (by unfold okF; rw [ha]; simp [h5]))
        have HAJ : Hid (∀ W, Calls Tryz.prog 79 #[.int .i64 f.kind] W fun e w' => e = .returned (.bool false) ∧ W = w') := by
          unfold Hid; intro W; have := HAI.out f.kind W; rw [ha] at this; exact this
        clear h5 ha
        go_wp2_with fail
        refine (HAJ.out _).mono ?_
        rintro e w2 ⟨rfl, rfl⟩
        go_wp2
        go_ret
        exact ⟨by rw [HF.out]; rfl, HBN.out _⟩
      · have HF := Lib.hid (HY.out (by unfold okF; rw [ha]; simp [h1, h2, h3, h4]))
        have HAJ : Hid (∀ W, Calls Tryz.prog 79 #[.int .i64 f.kind] W fun e w' => e = .returned (.bool true) ∧ W = w') := by
          unfold Hid; intro W; have := HAI.out f.kind W; rw [ha] at this; exact this
        clear h5 ha
        go_wp2_with fail
        refine (HAJ.out _).mono ?_
        rintro e w2 ⟨rfl, rfl⟩
        go_wp2
        go_roundw
        case rel => exact ⟨k + 1, by omega, by go_num, by rw [HL.out], HBN.out _, HF.out⟩
        case measure => simp [intOf]; omega
    · have HF : Hid (validF l = true) := validF_of (fun j hj => HA.out j hj (by omega))
      go_wp2
      go_ret
      exact ⟨by rw [HF.out]; rfl, hbr⟩
/-- What At returns. -/
def AtPost (w : World) (f : Flt) (e : Ending) (w' : World) : Prop := ∃ b : Bool, e = .returned (.tuple #[f.val, .bool b]) ∧ Below w.heap.size w w'
set_option maxRecDepth 100000 in
set_option maxHeartbeats 2000000 in
theorem fat_any (l : List Flt) (op : Int) (A : Option Addr) (c : Nat) (w : World) (hl : Rd w w.heap.size A (flatF l)) (hn : l.length ≤ 9223372036854775807) :
    Calls Tryz.prog 81 #[.slice A l.length c, .int .i64 op] w (AtPost w (atF l op)) := by
  have hb0 : Below w.heap.size w (w.alloc (.cells #[.int .i64 0, .int .i64 0, .int .i64 0] 64)) := (Below.refl _ _).alloc (Nat.le_refl _) _
  have o0 := World.ownsRow_lit (base := w.heap.size) (e := 64) (size := 3) w #[.int .i64 0, .int .i64 0, .int .i64 0] 1 (Nat.le_refl _) (by decide) rfl
  have HR := Lib.hid (hl.below hb0 (Nat.le_refl _))
  have HM := Lib.hid (atF_miss l op)
  have HH := Lib.hid (atF_hit l op)
  have HO : Hid (∀ W, Below (w.heap.size + 1) (w.alloc (.cells #[.int .i64 0, .int .i64 0, .int .i64 0] 64)) W → W.ownsRow w.heap.size 64 3 (.slice (some ⟨w.heap.size, 0, none⟩) 1 1) 1 [.int .i64 0, .int .i64 0, .int .i64 0]) := by
    unfold Hid; intro W hW; exact own_kept o0 (belKept hW) (fun k e => by simp [Value.ownBlock] at e; subst e; show ¬ (w.heap.size + 1 ≤ w.heap.size); omega)
  clear hl o0
  go_enter Tryz.func81, Tryz.ntmps81
  go_wp2
  go_loopw [10] (fun v wr => ∃ k : Nat, k ≤ l.length ∧ v = .int .i64 k ∧ Below (w.heap.size + 1) (w.alloc (.cells #[.int .i64 0, .int .i64 0, .int .i64 0] 64)) wr ∧ Hid (∀ j (hj : j < l.length), j < k → l[j].at_ ≠ op)) (fun v _ => l.length - (intOf v).toNat)
  case atStart => exact ⟨0, Nat.zero_le _, rfl, Below.refl _ _, by unfold Hid; intro j _ h; omega⟩
  case round =>
    obtain ⟨k, hk, rfl, hbr, HA⟩ := hrel
    have hbr0 : Below w.heap.size w wr := hb0.trans (hbr.mono (by omega))
    have hsz : w.heap.size + 1 ≤ wr.heap.size := by have := hbr.size; simpa using this
    by_cases hlt : k < l.length
    · obtain ⟨go, oo, rfl, hgo, c0, c1, c2⟩ := flt_at (HR.out.below (hbr.mono (by omega)) (Nat.le_refl _)) hlt
      have k0 : (0 : Int) ≤ k := by omega
      have k1 : (k : Int) < l.length := by omega
      have hbn : ∀ o, Below (w.heap.size + 1) (w.alloc (.cells #[.int .i64 0, .int .i64 0, .int .i64 0] 64)) (wr.alloc o) := fun o => hbr.alloc hsz o
      have HBN := Lib.hid hbn
      by_cases he : l[k].at_ = op
      · have HE : Hid (atF l op = l[k]) := HH.out k hlt (fun j hj => HA.out j (by omega) hj) he
        have e1 : (l[k].at_ == op) = true := by simpa using he
        generalize l[k] = f at *
        clear he hbn
        have q := HO.out _ (HBN.out (.cells #[.int .i64 f.at_, .int .i64 f.kind, .int .i64 f.to_] 64))
        have hbw := hb0.trans ((HBN.out (.cells #[.int .i64 f.at_, .int .i64 f.kind, .int .i64 f.to_] 64)).mono (by omega))
        have r0 := (World.ownsRow.cellAt q 0 (by decide)).trans rfl
        have r1 := (World.ownsRow.cellAt q 1 (by decide)).trans rfl
        have r2 := (World.ownsRow.cellAt q 2 (by decide)).trans rfl
        have f0 := q.frozenAt 0
        have f1 := q.frozenAt 1
        have f2 := q.frozenAt 2
        clear q
        go_wp2
        have hbe := Lib.hid (((hbw.setCell (p := ⟨w.heap.size, 0, none⟩) (Nat.le_refl _) (.int .i64 f.at_)).setCell (p := ⟨w.heap.size, 1, none⟩) (Nat.le_refl _) (.int .i64 f.kind)).setCell (p := ⟨w.heap.size, 2, none⟩) (Nat.le_refl _) (.int .i64 f.to_))
        exact bodyPost_ret (v := .tuple #[.agg #[.int .i64 f.at_, .int .i64 f.kind, .int .i64 f.to_], .bool true]) (by simp [results, Tryz.results81, go_sem, *]) rfl ⟨true, by rw [HE.out]; rfl, hbe.out⟩
      · have e1 : (l[k].at_ == op) = false := by simpa using he
        have HY : Hid (∀ j (hj : j < l.length), j < k + 1 → l[j].at_ ≠ op) := by
          unfold Hid; intro j hj hj2
          by_cases e : j = k
          · subst e; exact he
          · exact HA.out j hj (by omega)
        generalize l[k] = f at *
        clear he hbn
        go_wp2
        go_roundw
        case rel => exact ⟨k + 1, by omega, by go_num, HBN.out _, HY.out⟩
        case measure => simp [intOf]; omega
    · have HE : Hid (atF l op = noF) := HM.out (fun j hj => HA.out j hj (by omega))
      have q := HO.out wr hbr
      have hbw := hbr0
      have r0 := (World.ownsRow.cellAt q 0 (by decide)).trans rfl
      have r1 := (World.ownsRow.cellAt q 1 (by decide)).trans rfl
      have r2 := (World.ownsRow.cellAt q 2 (by decide)).trans rfl
      have f0 := q.frozenAt 0
      have f1 := q.frozenAt 1
      have f2 := q.frozenAt 2
      clear q
      go_wp2
      have hbe := Lib.hid (((hbw.setCell (p := ⟨w.heap.size, 0, none⟩) (Nat.le_refl _) (.int .i64 0)).setCell (p := ⟨w.heap.size, 1, none⟩) (Nat.le_refl _) (.int .i64 0)).setCell (p := ⟨w.heap.size, 2, none⟩) (Nat.le_refl _) (.int .i64 0))
      exact bodyPost_ret (v := .tuple #[.agg #[.int .i64 0, .int .i64 0, .int .i64 0], .bool false]) (by simp [results, Tryz.results81, go_sem, *]) rfl ⟨false, by rw [HE.out]; rfl, hbe.out⟩
end Go.Proofs.YtckdhhadlemakaaGreat
