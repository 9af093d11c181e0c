/-
  WHAT IS SHOWN: what slices.EqualFunc of record and SameSectors of tegularef27 return. Conditions: the sectors can be read.
-/
import Derived.Test.YtndifkjenjfjpaaRec23
namespace Go.Proofs.Ytndifkjenjfjpaa
set_option linter.unusedVariables false
open Go.RowKit

theorem eql_by_take {xs ys : List (List Int)} (hl : xs.length = ys.length) (h : xs.take xs.length = ys.take xs.length) : xs = ys := by
  rw [List.take_length, hl, List.take_length] at h; exact h
theorem takel_next {xs ys : List (List Int)} {k : Nat} (hx : k < xs.length) (hy : k < ys.length) (h : xs.take k = ys.take k) (he : xs[k] = ys[k]) : xs.take (k + 1) = ys.take (k + 1) := by
  rw [List.take_succ_eq_append_getElem hx, List.take_succ_eq_append_getElem hy, h, he]
theorem nel_at {xs ys : List (List Int)} {k : Nat} (hx : k < xs.length) (hy : k < ys.length) (he : ¬ xs[k] = ys[k]) : decide (xs = ys) = false := by
  apply decide_eq_false
  rintro rfl
  exact he rfl
theorem str_inj {xs ys : List Int} (hx : U8s xs) (hy : U8s ys) (h1 : (strOfNums xs).data.toList = (strOfNums ys).data.toList) : xs = ys := by
  rw [strOfNums_data, strOfNums_data] at h1
  have back : ∀ {l : List Int}, U8s l → (l.map fun n => UInt8.ofNat n.toNat).map (fun c => (c.toNat : Int)) = l := fun {l} hu => by
    rw [List.map_map]
    have : ∀ x ∈ l, ((fun c : UInt8 => (c.toNat : Int)) ∘ fun n : Int => UInt8.ofNat n.toNat) x = x := fun x hx => by
      have := hu x hx
      simp only [Function.comp, UInt8.toNat_ofNat']
      omega
    induction l with
    | nil => rfl
    | cons a l ih => rw [List.map_cons, this a (by simp), ih (fun x hx => hu x (by simp [hx])) (fun x hx => this x (by simp [hx]))]
  rw [← back hx, ← back hy, h1]
theorem str_ne {xs ys : List Int} (hx : U8s xs) (hy : U8s ys) (h : ¬ xs = ys) : ((strOfNums xs).toList == (strOfNums ys).toList) = false := by
  rw [beq_eq_false_iff_ne]
  intro e
  rw [ByteArray.toList_eq, ByteArray.toList_eq] at e
  exact h (str_inj hx hy e)
/-- A slice of slices that can be read. -/
theorem sl_at {w : World} {B : Nat} {A : Option Addr} {ss : List Sl} (h : SlsR w B A ss) {k : Nat} (hk : k < ss.length) : ∃ g o, A = some ⟨g, o, none⟩ ∧ g < B ∧ w.cell? ⟨g, o + k, none⟩ = some (.slice ss[k].A ss[k].xs.length ss[k].c) ∧ Rd w B ss[k].A (ss[k].xs.map (Value.int .u8)) := by
  obtain ⟨g, o, e, hg, hc⟩ := h.rd k ss[k].v (by rw [List.getElem?_map, List.getElem?_eq_getElem hk]; rfl)
  exact ⟨g, o, e, hg, hc, h.each _ (List.getElem_mem hk)⟩
theorem decode1_any (xs ys : List Int) (A D : Option Addr) (c d : Nat) (w : World) (hx : Rd w w.heap.size A (xs.map (Value.int .u8))) (hy : Rd w w.heap.size D (ys.map (Value.int .u8))) (hlx : xs.length ≤ 1000000) (hly : ys.length ≤ 1000000) :
    Calls Try.prog 70 #[.slice A xs.length c, .slice D ys.length d] w fun e w' => e = .returned (.bool (decide (xs = ys))) ∧ Below w.heap.size w w' := by
  have HC := Lib.hid (equal_any xs ys A D c d w hx hy hlx hly)
  generalize decide (xs = ys) = v at *
  clear hx hy
  go_enter Try.func70, Try.ntmps70
  go_wp2_with fail
  refine HC.out.mono ?_
  rintro e w1 ⟨rfl, hb⟩
  go_wp2
  go_ret
  exact ⟨rfl, hb⟩
set_option maxRecDepth 100000 in
set_option maxHeartbeats 1000000 in
theorem eqfunc_any (ss tt : List Sl) (A D : Option Addr) (c d : Nat) (w : World) (hx : SlsR w w.heap.size A ss) (hy : SlsR w w.heap.size D tt) (hls : ss.length ≤ 100000) (hlx : ∀ s ∈ ss, s.xs.length ≤ 1000000) (hly : ∀ s ∈ tt, s.xs.length ≤ 1000000) :
    Calls Try.prog 69 #[.slice A ss.length c, .slice D tt.length d, .func (.func 70) #[] #[]] w fun e w' => e = .returned (.bool (decide (ss.map Sl.xs = tt.map Sl.xs))) ∧ Below w.heap.size w w' := by
  have HX := Lib.hid hx
  have HY := Lib.hid hy
  have HLX := Lib.hid hlx
  have HLY := Lib.hid hly
  clear hx hy hlx hly
  by_cases hl : ss.length = tt.length
  · have HL := Lib.hid hl
    rw [← hl]
    clear hl
    go_enter Try.func69, Try.ntmps69
    go_wp2
    go_loopw [17] (fun i wr => ∃ k : Nat, k ≤ ss.length ∧ i = .int .i64 k ∧ Hid ((ss.map Sl.xs).take k = (tt.map Sl.xs).take k) ∧ Hid (Below w.heap.size w wr)) (fun i _ => ss.length - (intOf i).toNat)
    case atStart => exact ⟨0, Nat.zero_le _, rfl, rfl, Below.refl _ _⟩
    case round =>
      obtain ⟨k, hk, rfl, HT, HBR⟩ := hrel
      by_cases hlt : k < ss.length
      · have hly : k < tt.length := by have := HL.out; omega
        have hX := (HX.out.below HBR.out (Nat.le_refl _)).more HBR.out.size
        have hY := (HY.out.below HBR.out (Nat.le_refl _)).more HBR.out.size
        obtain ⟨g1, o1, rfl, hg1, j1, hr1⟩ := sl_at hX hlt
        obtain ⟨g2, o2, rfl, hg2, j2, hr2⟩ := sl_at hY hly
        have HC := Lib.hid (decode1_any ss[k].xs tt[k].xs ss[k].A tt[k].A ss[k].c tt[k].c wr hr1 hr2 (HLX.out _ (List.getElem_mem hlt)) (HLY.out _ (List.getElem_mem hly)))
        have hxl : k < (ss.map Sl.xs).length := by simpa using hlt
        have hyl : k < (tt.map Sl.xs).length := by simpa using hly
        have hxe : (ss.map Sl.xs)[k] = ss[k].xs := by simp
        have hye : (tt.map Sl.xs)[k] = tt[k].xs := by simp
        by_cases he : ss[k].xs = tt[k].xs
        · have HT2 := Lib.hid (takel_next hxl hyl HT.out (by rw [hxe, hye]; exact he))
          rw [decide_eq_true he] at HC
          generalize ss[k] = s1 at *
          generalize tt[k] = s2 at *
          clear hX hY hr1 hr2 hxl hyl hxe hye hly
          have HEE := Lib.hid he
          clear he
          go_wp2_with fail
          refine HC.out.mono ?_
          rintro e w1 ⟨rfl, hb1⟩
          have HB1 := Lib.hid (HBR.out.trans (hb1.mono HBR.out.size))
          clear hb1
          go_wp2
          go_roundw
          case rel => exact ⟨k + 1, hlt, by go_num, HT2, HB1⟩
          case measure => simp [intOf]; omega
        · have HD := Lib.hid (nel_at hxl hyl (by rw [hxe, hye]; exact he))
          rw [decide_eq_false he] at HC
          generalize ss[k] = s1 at *
          generalize tt[k] = s2 at *
          clear hX hY hr1 hr2 hxl hyl hxe hye hly he
          go_wp2_with fail
          refine HC.out.mono ?_
          rintro e w1 ⟨rfl, hb1⟩
          have HB1 := Lib.hid (HBR.out.trans (hb1.mono HBR.out.size))
          clear hb1
          go_wp2
          go_ret
          exact ⟨by rw [HD.out]; rfl, HB1.out⟩
      · obtain rfl : k = ss.length := by omega
        have HD : Hid (decide (ss.map Sl.xs = tt.map Sl.xs) = true) := by unfold Hid; exact decide_eq_true (eql_by_take (by simpa using HL.out) (by rw [List.length_map]; exact HT.out))
        go_wp2
        go_ret
        exact ⟨by rw [HD.out]; rfl, HBR.out⟩
  · have HD : Hid (decide (ss.map Sl.xs = tt.map Sl.xs) = false) := by unfold Hid; apply decide_eq_false; intro h; have := congrArg List.length h; simp at this; exact hl this
    have hl' : ¬ ((ss.length : Int) = (tt.length : Int)) := by omega
    go_enter Try.func69, Try.ntmps69
    go_wp2
    go_ret
    exact ⟨by rw [HD.out]; rfl, Below.refl _ _⟩
set_option maxRecDepth 100000 in
set_option maxHeartbeats 1000000 in
theorem same_any (ss tt : List Sl) (A D : Option Addr) (c d : Nat) (w : World) (hx : SlsR w w.heap.size A ss) (hy : SlsR w w.heap.size D tt) (hls : ss.length ≤ 100000) (hux : ∀ s ∈ ss, U8s s.xs) (huy : ∀ s ∈ tt, U8s s.xs) :
    Calls Try.prog 20 #[.slice A ss.length c, .slice D tt.length d] w fun e w' => e = .returned (.bool (decide (ss.map Sl.xs = tt.map Sl.xs))) ∧ Below w.heap.size w w' := by
  have HX := Lib.hid hx
  have HY := Lib.hid hy
  have HLX := Lib.hid hux
  have HLY := Lib.hid huy
  clear hx hy hux huy
  by_cases hl : ss.length = tt.length
  · have HL := Lib.hid hl
    rw [← hl]
    clear hl
    go_enter Try.func20, Try.ntmps20
    go_wp2
    go_loopw [5] (fun i wr => ∃ k : Nat, k ≤ ss.length ∧ i = .int .i64 k ∧ Hid ((ss.map Sl.xs).take k = (tt.map Sl.xs).take k) ∧ Hid (Below w.heap.size w wr)) (fun i _ => ss.length - (intOf i).toNat)
    case atStart => exact ⟨0, Nat.zero_le _, rfl, rfl, Below.refl _ _⟩
    case round =>
      obtain ⟨k, hk, rfl, HT, HBR⟩ := hrel
      by_cases hlt : k < ss.length
      · have hly : k < tt.length := by have := HL.out; omega
        have hX := (HX.out.below HBR.out (Nat.le_refl _)).more HBR.out.size
        have hY := (HY.out.below HBR.out (Nat.le_refl _)).more HBR.out.size
        obtain ⟨g1, o1, rfl, hg1, j1, hr1⟩ := sl_at hX hlt
        obtain ⟨g2, o2, rfl, hg2, j2, hr2⟩ := sl_at hY hly
        have hv1 : ∀ n, (convert 25 9 (.slice ss[k].A ss[k].xs.length ss[k].c)).run Try.prog (wr.drewN n) = .ok (.string (strOfNums ss[k].xs)) (wr.drewN n) := fun n => conv_bytes ss[k].c (hr1.drewN n)
        have hv2 : ∀ n, (convert 25 9 (.slice tt[k].A tt[k].xs.length tt[k].c)).run Try.prog (wr.drewN n) = .ok (.string (strOfNums tt[k].xs)) (wr.drewN n) := fun n => conv_bytes tt[k].c (hr2.drewN n)
        have hxl : k < (ss.map Sl.xs).length := by simpa using hlt
        have hyl : k < (tt.map Sl.xs).length := by simpa using hly
        have hxe : (ss.map Sl.xs)[k] = ss[k].xs := by simp
        have hye : (tt.map Sl.xs)[k] = tt[k].xs := by simp
        by_cases he : ss[k].xs = tt[k].xs
        · have HT2 := Lib.hid (takel_next hxl hyl HT.out (by rw [hxe, hye]; exact he))
          have hse : strOfNums ss[k].xs = strOfNums tt[k].xs := by rw [he]
          rw [hse] at hv1
          generalize strOfNums tt[k].xs = S1 at *
          generalize ss[k] = s1 at *
          generalize tt[k] = s2 at *
          clear hX hY hr1 hr2 hxl hyl hxe hye hly he hse
          go_wp2
          go_quiet (fail)
          have HB1 := Lib.hid (below_drewN HBR.out nq)
          go_wp2
          go_roundw
          case rel => exact ⟨k + 1, hlt, by go_num, HT2, HB1⟩
          case measure => simp [intOf]; omega
        · have HD := Lib.hid (nel_at hxl hyl (by rw [hxe, hye]; exact he))
          have hse := str_ne (HLX.out _ (List.getElem_mem hlt)) (HLY.out _ (List.getElem_mem hly)) he
          generalize strOfNums tt[k].xs = S1 at *
          generalize strOfNums ss[k].xs = S2 at *
          generalize ss[k] = s1 at *
          generalize tt[k] = s2 at *
          clear hX hY hr1 hr2 hxl hyl hxe hye hly he
          go_wp2
          go_quiet (fail)
          have HB1 := Lib.hid (below_drewN HBR.out nq)
          go_wp2
          go_ret
          exact ⟨by rw [HD.out]; rfl, HB1.out⟩
      · obtain rfl : k = ss.length := by omega
        have HD : Hid (decide (ss.map Sl.xs = tt.map Sl.xs) = true) := by unfold Hid; exact decide_eq_true (eql_by_take (by simpa using HL.out) (by rw [List.length_map]; exact HT.out))
        go_wp2
        go_ret
        exact ⟨by rw [HD.out]; rfl, HBR.out⟩
  · have HD : Hid (decide (ss.map Sl.xs = tt.map Sl.xs) = false) := by unfold Hid; apply decide_eq_false; intro h; have := congrArg List.length h; simp at this; exact hl this
    have hl' : ¬ ((ss.length : Int) = (tt.length : Int)) := by omega
    go_enter Try.func20, Try.ntmps20
    go_wp2
    go_ret
    exact ⟨by rw [HD.out]; rfl, Below.refl _ _⟩
end Go.Proofs.Ytndifkjenjfjpaa
