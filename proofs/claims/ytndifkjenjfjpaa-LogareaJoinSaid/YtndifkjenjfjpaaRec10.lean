/-
  WHAT IS SHOWN: what Block of the reader of tegularef09 returns. Conditions: as each theorem names them.
-/
import Derived.Test.YtndifkjenjfjpaaRec9
namespace Go.Proofs.Ytndifkjenjfjpaa
set_option linter.unusedVariables false
open Go.RowKit

theorem heap_setL {w : World} {q : Nat} {l : List Value} {ty : TypeId} (h : w.heap[q]? = some (.cells l.toArray ty (0, 0))) (i : Nat) (u : Value) : (w.setCell ⟨q, i, none⟩ u).heap[q]? = some (.cells (l.set i u).toArray ty (0, 0)) := by
  simp [World.setCell, Array.getElem?_modify, h]
theorem heap_atL {w : World} {q : Nat} {l : List Value} {ty : TypeId} (h : w.heap[q]? = some (.cells l.toArray ty (0, 0))) {i : Nat} {u : Value} (hi : l[i]? = some u) : w.cell? ⟨q, i, none⟩ = some u ∧ w.frozen? ⟨q, i, none⟩ = false := by
  refine ⟨by simp [World.cell?, h, hi], by simp [World.frozen?, h]⟩
def fill8 (l : List Int) (i : Nat) : List Value := (l.take i ++ List.replicate (8 - i) 0).map (Value.int .u8)
theorem fill8_at {l : List Int} {i : Nat} (hl : 8 ≤ l.length) (hi : i < 8) : (fill8 l i)[i]? = some (.int .u8 0) := by
  unfold fill8
  rw [List.getElem?_map, List.getElem?_append_right (by rw [List.length_take]; omega), List.length_take, Nat.min_eq_left (by omega), Nat.sub_self, List.getElem?_replicate, if_pos (by omega)]
  rfl
theorem fill8_set {l : List Int} {i : Nat} (hl : 8 ≤ l.length) (hi : i < 8) : (fill8 l i).set i (.int .u8 l[i]) = fill8 l (i + 1) := by
  unfold fill8
  rw [← List.map_set, List.take_succ_eq_append_getElem (by omega), List.set_append_right _ _ (by rw [List.length_take]; omega), List.append_assoc]
  have : i - (l.take i).length = 0 := by rw [List.length_take]; omega
  rw [this]
  obtain ⟨k, hk⟩ : ∃ k, 8 - i = k + 1 := ⟨7 - i, by omega⟩
  rw [hk, List.replicate_succ, show 8 - (i + 1) = k by omega]
  rfl
set_option maxRecDepth 100000 in
set_option maxHeartbeats 1000000 in
theorem rblock_no {w : World} {q : Nat} {r : Rdr} (hlt : r.rest.length < 8) (h : RdrM 110 w q r) : Calls Try.prog 90 #[.pointer (some ⟨q, 0, none⟩)] w (BlkPost 110 w q r) := by
  have hb0 : Below w.heap.size w ((w.alloc (.cells #[.int .u8 0, .int .u8 0, .int .u8 0, .int .u8 0, .int .u8 0, .int .u8 0, .int .u8 0, .int .u8 0] 75)).alloc (.cells #[.int .u8 0, .int .u8 0, .int .u8 0, .int .u8 0, .int .u8 0, .int .u8 0, .int .u8 0, .int .u8 0] 75)) := ((Below.refl _ _).alloc (Nat.le_refl _) _).alloc (by simp) _
  have hql := h.lt
  have hbk : r.blk = ([0, 0, 0, 0, 0, 0, 0, 0], 5, Rdr.fail) := by
    unfold Rdr.blk
    have : r.take 8 = ([], 5, Rdr.fail) := by unfold Rdr.take; rw [if_pos (.inr hlt)]
    rw [this]; rfl
  have HBK := Lib.hid hbk
  have HF := Lib.hid (rfail_any (h.below hb0.drew))
  obtain ⟨A, c, hq, hr, hu, hok, hc, hcm, hnn⟩ := h
  obtain ⟨c0, c1, f0, f1⟩ := heap_cells hq
  clear hq hr hu hok hnn hbk
  go_enter Try.func90, Try.ntmps90
  go_wp2_with fail
  have HB0 := Lib.hid hb0
  have hO0 : Hid (((w.alloc (.cells #[.int .u8 0, .int .u8 0, .int .u8 0, .int .u8 0, .int .u8 0, .int .u8 0, .int .u8 0, .int .u8 0] 75)).alloc (.cells #[.int .u8 0, .int .u8 0, .int .u8 0, .int .u8 0, .int .u8 0, .int .u8 0, .int .u8 0, .int .u8 0] 75)).drew.heap[w.heap.size]? = some (.cells #[.int .u8 0, .int .u8 0, .int .u8 0, .int .u8 0, .int .u8 0, .int .u8 0, .int .u8 0, .int .u8 0] 75 (0, 0))) := belObj ((Below.refl (w.heap.size + 1) _).alloc (by simp) _) (heap_alloc_new w (.cells #[.int .u8 0, .int .u8 0, .int .u8 0, .int .u8 0, .int .u8 0, .int .u8 0, .int .u8 0, .int .u8 0] 75)) (by simp)
  have hX0 : Hid (((w.alloc (.cells #[.int .u8 0, .int .u8 0, .int .u8 0, .int .u8 0, .int .u8 0, .int .u8 0, .int .u8 0, .int .u8 0] 75)).alloc (.cells #[.int .u8 0, .int .u8 0, .int .u8 0, .int .u8 0, .int .u8 0, .int .u8 0, .int .u8 0, .int .u8 0] 75)).drew.heap[w.heap.size + 1]? = some (.cells #[.int .u8 0, .int .u8 0, .int .u8 0, .int .u8 0, .int .u8 0, .int .u8 0, .int .u8 0, .int .u8 0] 75 (0, 0))) := by
    have h := heap_alloc_new (w.alloc (.cells #[.int .u8 0, .int .u8 0, .int .u8 0, .int .u8 0, .int .u8 0, .int .u8 0, .int .u8 0, .int .u8 0] 75)) (.cells #[.int .u8 0, .int .u8 0, .int .u8 0, .int .u8 0, .int .u8 0, .int .u8 0, .int .u8 0, .int .u8 0] 75)
    rw [World.size_alloc] at h; exact h
  clear hb0
  go_region_with (
    go_at_call 84
    refine HF.out.mono ?_
    rintro e w1 ⟨rfl, hp⟩
    have hgt : ¬ (w.heap.size = q) := by omega
    have hO := hp.2.obj hO0.out hgt
    obtain ⟨⟨x0, x1, x2, x3, x4, x5, x6, x7⟩, ⟨y0, y1, y2, y3, y4, y5, y6, y7⟩⟩ := cells8 hO
    have hX := hp.2.obj hX0.out (show ¬ (w.heap.size + 1 = q) by omega)
    obtain ⟨⟨z0, z1, z2, z3, z4, z5, z6, z7⟩, _⟩ := cells8 hX
    have HK8 := Lib.hid (kept8 w1 w.heap.size (.int .u8 0) (.int .u8 0) (.int .u8 0) (.int .u8 0) (.int .u8 0) (.int .u8 0) (.int .u8 0) (.int .u8 0))
    have HP := Lib.hid hp
    have HFR : Hid (Free w1 5 (fun k => k = w.heap.size)) := Free.one hO (by decide)
    clear hp hO hX)
  all_goals (
    have hgt : ¬ (w.heap.size = q) := by omega
    have HF2 : Hid (RdrPost 110 w q r.blk.2.2 ((((((((w1.setCell ⟨w.heap.size, 0, none⟩ (.int .u8 0)).setCell ⟨w.heap.size, 1, none⟩ (.int .u8 0)).setCell ⟨w.heap.size, 2, none⟩ (.int .u8 0)).setCell ⟨w.heap.size, 3, none⟩ (.int .u8 0)).setCell ⟨w.heap.size, 4, none⟩ (.int .u8 0)).setCell ⟨w.heap.size, 5, none⟩ (.int .u8 0)).setCell ⟨w.heap.size, 6, none⟩ (.int .u8 0)).setCell ⟨w.heap.size, 7, none⟩ (.int .u8 0))) := by
      unfold Hid; rw [HBK.out]
      exact ⟨HP.out.1.kept HK8.out (fun h => hgt h.symm) HFR.out, ((belKept0 (S := fun k => k = q) HB0.out).drew.trans HP.out.2 (fun _ _ h => h)).trans HK8.out (fun i hi h => by have h' : i = w.heap.size := h; omega)⟩
    go_wp2
    exact bodyPost_ret (by simp [results, Try.results90, go_sem, *]; rfl) rfl ⟨by rw [HBK.out]; rfl, HF2.out⟩)
set_option maxRecDepth 100000 in
set_option maxHeartbeats 1000000 in
theorem rblock_yes {w : World} {q : Nat} {r : Rdr} (hge : 8 ≤ r.rest.length) (h : RdrM 110 w q r) : Calls Try.prog 90 #[.pointer (some ⟨q, 0, none⟩)] w (BlkPost 110 w q r) := by
  have hbad : r.bad = false := by
    obtain ⟨_, _, _, _, _, hok, _⟩ := h
    cases hb : r.bad with
    | false => rfl
    | true => have := hok hb; rw [this] at hge; simp at hge
  have hbk : r.blk = (r.rest.take 8, 0, ⟨r.rest.drop 8, r.bad⟩) := by
    unfold Rdr.blk
    have : r.take 8 = (r.rest.take 8, 0, ⟨r.rest.drop 8, r.bad⟩) := by unfold Rdr.take; rw [if_neg (by rw [hbad]; simp; omega)]
    rw [this]; rfl
  have HBK := Lib.hid hbk
  have hql := h.lt
  have HB0 : Hid (Below w.heap.size w ((w.alloc (.cells #[.int .u8 0, .int .u8 0, .int .u8 0, .int .u8 0, .int .u8 0, .int .u8 0, .int .u8 0, .int .u8 0] 75)).alloc (.cells #[.int .u8 0, .int .u8 0, .int .u8 0, .int .u8 0, .int .u8 0, .int .u8 0, .int .u8 0, .int .u8 0] 75))) := ((Below.refl _ _).alloc (Nat.le_refl _) _).alloc (by simp) _
  have h0 := h.below HB0.out
  obtain ⟨A, c, hq, hr, hu, hok, hc, hcm, hnn⟩ := h0
  obtain ⟨c0, c1, f0, f1⟩ := heap_cells hq
  have HX0 : Hid (((w.alloc (.cells #[.int .u8 0, .int .u8 0, .int .u8 0, .int .u8 0, .int .u8 0, .int .u8 0, .int .u8 0, .int .u8 0] 75)).alloc (.cells #[.int .u8 0, .int .u8 0, .int .u8 0, .int .u8 0, .int .u8 0, .int .u8 0, .int .u8 0, .int .u8 0] 75)).heap[w.heap.size + 1]? = some (.cells #[.int .u8 0, .int .u8 0, .int .u8 0, .int .u8 0, .int .u8 0, .int .u8 0, .int .u8 0, .int .u8 0] 75 (0, 0))) := by
    have h := heap_alloc_new (w.alloc (.cells #[.int .u8 0, .int .u8 0, .int .u8 0, .int .u8 0, .int .u8 0, .int .u8 0, .int .u8 0, .int .u8 0] 75)) (.cells #[.int .u8 0, .int .u8 0, .int .u8 0, .int .u8 0, .int .u8 0, .int .u8 0, .int .u8 0, .int .u8 0] 75)
    rw [World.size_alloc] at h; exact h
  have HH := Lib.hid h
  clear hr hu hok hnn hbk h
  go_enter Try.func90, Try.ntmps90
  go_wp2
  go_loopw [5] (fun s5 wr => ∃ i : Nat, i ≤ 8 ∧ s5 = .int .i64 i ∧ Hid (wr.heap[w.heap.size + 1]? = some (.cells (fill8 r.rest i).toArray 75 (0, 0))) ∧ Hid (Below (w.heap.size + 1) ((w.alloc (.cells #[.int .u8 0, .int .u8 0, .int .u8 0, .int .u8 0, .int .u8 0, .int .u8 0, .int .u8 0, .int .u8 0] 75)).alloc (.cells #[.int .u8 0, .int .u8 0, .int .u8 0, .int .u8 0, .int .u8 0, .int .u8 0, .int .u8 0, .int .u8 0] 75)) wr)) (fun v _ => 8 - (intOf v).toNat)
  case atStart => exact ⟨0, by omega, rfl, HX0, Below.refl _ _⟩
  case round =>
    obtain ⟨i, hi, rfl, HX, HBR⟩ := hrel
    have d0 := (HBR.out.cell (p := ⟨q, 0, none⟩) (by show q < _; omega)).trans c0
    have d1 := (HBR.out.cell (p := ⟨q, 1, none⟩) (by show q < _; omega)).trans c1
    have g0 := (bcell HBR.out).2 q 0 (by omega)
    rw [f0] at g0
    have HRW : Hid (RdrM 110 wr q r) := by
      have hk : Kept (fun k => k = w.heap.size + 1) ((w.alloc (.cells #[.int .u8 0, .int .u8 0, .int .u8 0, .int .u8 0, .int .u8 0, .int .u8 0, .int .u8 0, .int .u8 0] 75)).alloc (.cells #[.int .u8 0, .int .u8 0, .int .u8 0, .int .u8 0, .int .u8 0, .int .u8 0, .int .u8 0, .int .u8 0] 75)) wr := (belKept HBR.out).more (fun i hi h => by simp at hi; omega)
      exact (HH.out.below HB0.out).kept hk (show ¬ q = _ by omega) (Free.one HX0.out (by decide))
    by_cases h8 : i < 8
    · obtain ⟨e0, e1⟩ := heap_atL HX.out (fill8_at hge h8)
      obtain ⟨A', c', hq', hr', _⟩ := HRW.out
      have hAA : A' = A ∧ c' = c := by
        have := (heap_cells hq').1.symm.trans d0
        simpa using this
      obtain ⟨rfl, rfl⟩ := hAA
      obtain ⟨g, o, rfl, _, hcell⟩ := byte_at hr'.rd (show i < r.rest.length by omega)
      have HX2 : Hid ((wr.setCell ⟨w.heap.size + 1, i, none⟩ (.int .u8 r.rest[i])).heap[w.heap.size + 1]? = some (.cells (fill8 r.rest (i + 1)).toArray 75 (0, 0))) := by
        unfold Hid; rw [← fill8_set hge h8]; exact heap_setL HX.out _ _
      have HB2 : Hid (Below (w.heap.size + 1) ((w.alloc (.cells #[.int .u8 0, .int .u8 0, .int .u8 0, .int .u8 0, .int .u8 0, .int .u8 0, .int .u8 0, .int .u8 0] 75)).alloc (.cells #[.int .u8 0, .int .u8 0, .int .u8 0, .int .u8 0, .int .u8 0, .int .u8 0, .int .u8 0, .int .u8 0] 75)) (wr.setCell ⟨w.heap.size + 1, i, none⟩ (.int .u8 r.rest[i]))) := HBR.out.setCell (Nat.le_refl _) _
      clear hq' hr'
      generalize r.rest[i] = b at *
      go_wp2
      go_roundw
      case rel => exact ⟨i + 1, by omega, by go_num, HX2, HB2⟩
      case measure => simp [intOf]; omega
    · obtain rfl : i = 8 := by omega
      have hfl : fill8 r.rest 8 = (r.rest.take 8).map (Value.int .u8) := by unfold fill8; simp
      have hl8 : (r.rest.take 8).length = 8 := by simp; omega
      have HX' : Hid (wr.heap[w.heap.size + 1]? = some (.cells ((r.rest.take 8).map (Value.int .u8)).toArray 75 (0, 0))) := by unfold Hid; rw [← hfl]; exact HX.out
      obtain ⟨b0, b1, b2, b3, b4, b5, b6, b7, hb8⟩ := list8 hl8
      rw [hb8] at HX' HBK
      obtain ⟨⟨x0, x1, x2, x3, x4, x5, x6, x7⟩, _⟩ := cells8 HX'.out
      have hO : wr.heap[w.heap.size]? = some (.cells #[.int .u8 0, .int .u8 0, .int .u8 0, .int .u8 0, .int .u8 0, .int .u8 0, .int .u8 0, .int .u8 0] 75 (0, 0)) := belObj HBR.out (by
        have h1 := heap_alloc_new w (.cells #[.int .u8 0, .int .u8 0, .int .u8 0, .int .u8 0, .int .u8 0, .int .u8 0, .int .u8 0, .int .u8 0] 75)
        have h2 : Below (w.heap.size + 1) (w.alloc (.cells #[.int .u8 0, .int .u8 0, .int .u8 0, .int .u8 0, .int .u8 0, .int .u8 0, .int .u8 0, .int .u8 0] 75)) ((w.alloc (.cells #[.int .u8 0, .int .u8 0, .int .u8 0, .int .u8 0, .int .u8 0, .int .u8 0, .int .u8 0, .int .u8 0] 75)).alloc (.cells #[.int .u8 0, .int .u8 0, .int .u8 0, .int .u8 0, .int .u8 0, .int .u8 0, .int .u8 0, .int .u8 0] 75)) := (Below.refl _ _).alloc (by simp) _
        exact belObj h2 h1 (by simp)) (by simp)
      obtain ⟨_, ⟨y0, y1, y2, y3, y4, y5, y6, y7⟩⟩ := cells8 hO
      have hgt : ¬ (w.heap.size = q) := by omega
      have hgt1 : ¬ (w.heap.size + 1 = q) := by omega
      have hgt2 : ¬ (w.heap.size + 1 = w.heap.size) := by omega
      have HOO := Lib.hid hO
      obtain ⟨A', c', hq', hr', hu', hok', hc', hcm', hnn'⟩ := HRW.out
      have hAA : A' = A ∧ c' = c := by
        have := (heap_cells hq').1.symm.trans d0
        simpa using this
      obtain ⟨rfl, rfl⟩ := hAA
      obtain ⟨g, o, rfl, _, _⟩ := byte_at hr'.rd (show 0 < r.rest.length by omega)
      have HW := Lib.hid (fun D d hD => RdrM.went (D := D) (d := d) (by decide) hq' hr' hu' hok' hc' hcm' hnn' 8 hge hD)
      clear hq' hr' hu' hok' hnn' hO hfl
      have HF : Hid (∀ D d, RdrPost 110 wr q ⟨r.rest.drop 8, r.bad⟩ (wr.setCell ⟨q, 0, none⟩ (.slice D (r.rest.length - 8) d)) → RdrPost 110 w q r.blk.2.2 (((((((((wr.setCell ⟨q, 0, none⟩ (.slice D (r.rest.length - 8) d)).setCell ⟨w.heap.size, 0, none⟩ (.int .u8 b0)).setCell ⟨w.heap.size, 1, none⟩ (.int .u8 b1)).setCell ⟨w.heap.size, 2, none⟩ (.int .u8 b2)).setCell ⟨w.heap.size, 3, none⟩ (.int .u8 b3)).setCell ⟨w.heap.size, 4, none⟩ (.int .u8 b4)).setCell ⟨w.heap.size, 5, none⟩ (.int .u8 b5)).setCell ⟨w.heap.size, 6, none⟩ (.int .u8 b6)).setCell ⟨w.heap.size, 7, none⟩ (.int .u8 b7))) := by
        unfold Hid
        intro D d h1
        rw [HBK.out]
        have hk8 := kept8 (wr.setCell ⟨q, 0, none⟩ (.slice D (r.rest.length - 8) d)) w.heap.size (.int .u8 b0) (.int .u8 b1) (.int .u8 b2) (.int .u8 b3) (.int .u8 b4) (.int .u8 b5) (.int .u8 b6) (.int .u8 b7)
        have hO2 := h1.2.obj HOO.out hgt
        refine ⟨h1.1.kept hk8 (fun h => hgt h.symm) (Free.one hO2 (by decide)), ?_⟩
        have hb := HB0.out.trans (HBR.out.mono (Nat.le_succ _))
        exact ((belKept0 (S := fun k => k = q) hb).trans h1.2 (fun _ _ h => h)).trans hk8 (fun i hi h => by have h' : i = w.heap.size := h; omega)
      by_cases hcn : c' = 8
      · have hww := HW.out (some ⟨g, o, none⟩) 0 (.inl ⟨hcn, rfl, rfl⟩)
        have HF2 := Lib.hid (HF.out _ _ hww)
        have hl0 : r.rest.length - 8 = 0 := by omega
        rw [hl0] at HF2
        subst hcn
        clear HW hww HF
        go_wp2
        exact bodyPost_ret (by simp [results, Try.results90, go_sem, *]; rfl) rfl ⟨by rw [HBK.out]; rfl, HF2.out⟩
      · have HF2 := Lib.hid (HF.out _ _ (HW.out (some ⟨g, o + 8, none⟩) (c' - 8) (.inr ⟨hcn, by rw [Option.map_some, add_off], rfl⟩)))
        clear HW HF
        go_wp2
        exact bodyPost_ret (by simp [results, Try.results90, go_sem, *]; rfl) rfl ⟨by rw [HBK.out]; rfl, HF2.out⟩
end Go.Proofs.Ytndifkjenjfjpaa
