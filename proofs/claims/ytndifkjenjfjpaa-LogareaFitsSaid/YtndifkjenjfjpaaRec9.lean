/-
  WHAT IS SHOWN: what Count and Block of the reader of codec and Block of the reader of tegularef09 return. Conditions: as each theorem names them.
-/
import Derived.Test.YtndifkjenjfjpaaRec8
import Derived.Laws.Cover3
namespace Go.Proofs.Ytndifkjenjfjpaa
set_option linter.unusedVariables false
open Go.RowKit

set_option maxRecDepth 100000 in
set_option maxHeartbeats 1000000 in
theorem count_any {w : World} {q : Nat} {r : Rdr} (m : Nat) (hm : m ≤ 1000000) (h : RdrM 107 w q r) : Calls Try.prog 86 #[.pointer (some ⟨q, 0, none⟩), .int .i64 m] w (fun e w' => e = .returned (.tuple #[.int .i64 (r.count m).1, .int .i64 (r.count m).2.1]) ∧ RdrPost 107 w q (r.count m).2.2 w') := by
  have hc := uint_any h
  unfold UintPost at hc
  obtain ⟨hn64, he⟩ := uint_fst h
  have hcn : r.count m = if r.uint.2.1 = 0 ∧ m < r.uint.1 then (0, 5, Rdr.fail) else (r.uint.1, r.uint.2.1, r.uint.2.2) := rfl
  clear h
  generalize r.uint.2.2 = r2 at *
  generalize r.uint.1 = n at *
  generalize r.uint.2.1 = er at *
  have HC := Lib.hid hc
  clear hc
  rcases he with rfl | ⟨rfl, rfl⟩
  · by_cases hmn : m < n
    · rw [if_pos ⟨rfl, hmn⟩] at hcn
      have HN := Lib.hid hcn
      clear hcn
      go_enter Try.func86, Try.ntmps86
      go_wp2_with fail
      refine HC.out.mono ?_
      rintro e w1 ⟨rfl, hp⟩
      have HP := Lib.hid hp
      clear hp
      go_wp2_with fail
      refine (fail_any HP.out.1).mono ?_
      rintro e w2 ⟨rfl, hp2⟩
      have HP2 := Lib.hid (HP.out.trans hp2)
      clear hp2
      go_wp2
      go_ret2
      exact ⟨by rw [HN.out]; rfl, by rw [HN.out]; exact HP2.out⟩
    · rw [if_neg (fun h => hmn h.2)] at hcn
      have HN := Lib.hid hcn
      clear hcn
      go_enter Try.func86, Try.ntmps86
      go_wp2_with fail
      refine HC.out.mono ?_
      rintro e w1 ⟨rfl, hp⟩
      have HP := Lib.hid hp
      clear hp
      go_wp2
      go_ret2
      exact ⟨by rw [HN.out]; rfl, by rw [HN.out]; exact HP.out⟩
  · rw [if_neg (fun h => by cases h.1)] at hcn
    have HN := Lib.hid hcn
    clear hcn
    go_enter Try.func86, Try.ntmps86
    go_wp2_with fail
    refine HC.out.mono ?_
    rintro e w1 ⟨rfl, hp⟩
    have HP := Lib.hid hp
    clear hp
    go_wp2
    go_ret2
    exact ⟨by rw [HN.out]; rfl, by rw [HN.out]; exact HP.out⟩
theorem cells8 {w : World} {b : Nat} {v0 v1 v2 v3 v4 v5 v6 v7 : Value} {t : TypeId} (h : w.heap[b]? = some (.cells #[v0, v1, v2, v3, v4, v5, v6, v7] t (0, 0))) : (w.cell? ⟨b, 0, none⟩ = some v0 ∧ w.cell? ⟨b, 1, none⟩ = some v1 ∧ w.cell? ⟨b, 2, none⟩ = some v2 ∧ w.cell? ⟨b, 3, none⟩ = some v3 ∧ w.cell? ⟨b, 4, none⟩ = some v4 ∧ w.cell? ⟨b, 5, none⟩ = some v5 ∧ w.cell? ⟨b, 6, none⟩ = some v6 ∧ w.cell? ⟨b, 7, none⟩ = some v7) ∧ (w.frozen? ⟨b, 0, none⟩ = false ∧ w.frozen? ⟨b, 1, none⟩ = false ∧ w.frozen? ⟨b, 2, none⟩ = false ∧ w.frozen? ⟨b, 3, none⟩ = false ∧ w.frozen? ⟨b, 4, none⟩ = false ∧ w.frozen? ⟨b, 5, none⟩ = false ∧ w.frozen? ⟨b, 6, none⟩ = false ∧ w.frozen? ⟨b, 7, none⟩ = false) := by
  refine ⟨⟨?_, ?_, ?_, ?_, ?_, ?_, ?_, ?_⟩, ⟨?_, ?_, ?_, ?_, ?_, ?_, ?_, ?_⟩⟩ <;> first | (simp [World.cell?, h]; done) | simp [World.frozen?, h]
theorem RdrM.kept {ty : TypeId} {S : Nat → Prop} {w w' : World} {q : Nat} {r : Rdr} (h : RdrM ty w q r) (hk : Kept S w w') (hS : ¬ S q) (hf : Free w 5 S) : RdrM ty w' q r := by
  obtain ⟨A, c, hq, hr, h2⟩ := h
  exact ⟨A, c, hk.obj hq hS, hr.kept hk hf, h2⟩
/-- Eight stores into one block. -/
theorem kept8 (w : World) (b : Nat) (v0 v1 v2 v3 v4 v5 v6 v7 : Value) : Kept (fun k => k = b) w ((((((((w.setCell ⟨b, 0, none⟩ v0).setCell ⟨b, 1, none⟩ v1).setCell ⟨b, 2, none⟩ v2).setCell ⟨b, 3, none⟩ v3).setCell ⟨b, 4, none⟩ v4).setCell ⟨b, 5, none⟩ v5).setCell ⟨b, 6, none⟩ v6).setCell ⟨b, 7, none⟩ v7) := by
  repeat' apply Kept.setCell
  all_goals first | exact Kept.refl _ _ | exact fun _ => rfl
/-- The value of a block. -/
def blkV (l : List Int) : Value := .agg (l.map (Value.int .u8)).toArray
theorem list8 {l : List Int} (h : l.length = 8) : ∃ b0 b1 b2 b3 b4 b5 b6 b7, l = [b0, b1, b2, b3, b4, b5, b6, b7] := by
  match l, h with
  | [b0, b1, b2, b3, b4, b5, b6, b7], _ => exact ⟨b0, b1, b2, b3, b4, b5, b6, b7, rfl⟩
/-- What Block returns. -/
def BlkPost (ty : TypeId) (w : World) (q : Nat) (r : Rdr) (e : Ending) (w' : World) : Prop := e = .returned (.tuple #[blkV r.blk.1, .int .i64 r.blk.2.1]) ∧ RdrPost ty w q r.blk.2.2 w'
set_option maxRecDepth 100000 in
set_option maxHeartbeats 1000000 in
theorem block_any {w : World} {q : Nat} {r : Rdr} (h : RdrM 107 w q r) : Calls Try.prog 87 #[.pointer (some ⟨q, 0, none⟩)] w (BlkPost 107 w q r) := by
  have hb0 : Below w.heap.size w (w.alloc (.cells #[.int .u8 0, .int .u8 0, .int .u8 0, .int .u8 0, .int .u8 0, .int .u8 0, .int .u8 0, .int .u8 0] 75)) := (Below.refl _ _).alloc (Nat.le_refl _) _
  have hT := take_any 8 (by decide) (h.below hb0)
  have hql := h.lt
  have hbk : r.blk = (if (r.take 8).2.1 = 0 then (r.take 8).1 else [0, 0, 0, 0, 0, 0, 0, 0], (r.take 8).2.1, (r.take 8).2.2) := rfl
  have hcase : ((r.take 8).2.1 = 0 ∧ (r.take 8).1.length = 8) ∨ (r.take 8).2.1 = 5 := by
    unfold Rdr.take; split
    · exact .inr rfl
    · exact .inl ⟨rfl, by simp; omega⟩
  generalize (r.take 8) = x at *
  obtain ⟨xl, xe, xr⟩ := x
  simp only at hbk hcase
  have HT := Lib.hid hT
  have HB0 := Lib.hid hb0
  clear hT h hb0
  rcases hcase with ⟨rfl, h8⟩ | rfl
  · rw [if_pos rfl] at hbk
    have HBK := Lib.hid hbk
    clear hbk
    obtain ⟨b0, b1, b2, b3, b4, b5, b6, b7, rfl⟩ := list8 h8
    go_enter Try.func87, Try.ntmps87
    go_wp2_with fail
    refine HT.out.mono ?_
    rintro e w1 ⟨D, d, rfl, h1, h2, h3, h4, h5⟩
    obtain ⟨g, o, rfl, _, t0⟩ := byte_at h1.rd (k := 0) (by simp)
    obtain ⟨_, _, e1, _, t1⟩ := byte_at h1.rd (k := 1) (by simp); injection e1 with e1; injection e1 with e1a e1b; subst e1a; subst e1b
    obtain ⟨_, _, e2, _, t2⟩ := byte_at h1.rd (k := 2) (by simp); injection e2 with e2; injection e2 with e2a e2b; subst e2a; subst e2b
    obtain ⟨_, _, e3, _, t3⟩ := byte_at h1.rd (k := 3) (by simp); injection e3 with e3; injection e3 with e3a e3b; subst e3a; subst e3b
    obtain ⟨_, _, e4, _, t4⟩ := byte_at h1.rd (k := 4) (by simp); injection e4 with e4; injection e4 with e4a e4b; subst e4a; subst e4b
    obtain ⟨_, _, e5, _, t5⟩ := byte_at h1.rd (k := 5) (by simp); injection e5 with e5; injection e5 with e5a e5b; subst e5a; subst e5b
    obtain ⟨_, _, e6, _, t6⟩ := byte_at h1.rd (k := 6) (by simp); injection e6 with e6; injection e6 with e6a e6b; subst e6a; subst e6b
    obtain ⟨_, _, e7, _, t7⟩ := byte_at h1.rd (k := 7) (by simp); injection e7 with e7; injection e7 with e7a e7b; subst e7a; subst e7b
    simp only [Nat.add_zero, List.getElem_cons_zero, List.getElem_cons_succ] at t0 t1 t2 t3 t4 t5 t6 t7
    have hra := fun W => run_arrayAt (P := Try.prog) (w := W) 75 5 8 (some ⟨g, o, none⟩) 8 d Try.underlying75 (Nat.le_refl 8)
    have hgt : ¬ (w.heap.size = q) := by omega
    have hO : w1.heap[w.heap.size]? = some (.cells #[.int .u8 0, .int .u8 0, .int .u8 0, .int .u8 0, .int .u8 0, .int .u8 0, .int .u8 0, .int .u8 0] 75 (0, 0)) := h5.2.obj (heap_alloc_new _ _) hgt
    obtain ⟨⟨x0, x1, x2, x3, x4, x5, x6, x7⟩, ⟨y0, y1, y2, y3, y4, y5, y6, y7⟩⟩ := cells8 hO
    have HK8 := Lib.hid (kept8 w1 w.heap.size (.int .u8 b0) (.int .u8 b1) (.int .u8 b2) (.int .u8 b3) (.int .u8 b4) (.int .u8 b5) (.int .u8 b6) (.int .u8 b7))
    have HP := Lib.hid h5
    have HFR : Hid (Free w1 5 (fun k => k = w.heap.size)) := Free.one hO (by decide)
    clear h1 h2 h3 h4 h5 hO
    have HF : Hid (RdrPost 107 w q r.blk.2.2 ((((((((w1.setCell ⟨w.heap.size, 0, none⟩ (.int .u8 b0)).setCell ⟨w.heap.size, 1, none⟩ (.int .u8 b1)).setCell ⟨w.heap.size, 2, none⟩ (.int .u8 b2)).setCell ⟨w.heap.size, 3, none⟩ (.int .u8 b3)).setCell ⟨w.heap.size, 4, none⟩ (.int .u8 b4)).setCell ⟨w.heap.size, 5, none⟩ (.int .u8 b5)).setCell ⟨w.heap.size, 6, none⟩ (.int .u8 b6)).setCell ⟨w.heap.size, 7, none⟩ (.int .u8 b7))) := by
      unfold Hid; rw [HBK.out]
      exact ⟨HP.out.1.kept HK8.out (fun h => hgt h.symm) HFR.out, ((belKept0 (S := fun k => k = q) HB0.out).trans HP.out.2 (fun _ _ h => h)).trans HK8.out (fun i hi h => by have h' : i = w.heap.size := h; omega)⟩
    clear HK8 HFR
    go_wp2
    exact bodyPost_ret (by simp [results, Try.results87, go_sem, *]; rfl) rfl ⟨by rw [HBK.out]; rfl, HF.out⟩
  · rw [if_neg (by decide)] at hbk
    have HBK := Lib.hid hbk
    clear hbk
    go_enter Try.func87, Try.ntmps87
    go_wp2_with fail
    refine HT.out.mono ?_
    rintro e w1 ⟨D, d, rfl, h1, h2, h3, h4, h5⟩
    have hgt : ¬ (w.heap.size = q) := by omega
    have hO : w1.heap[w.heap.size]? = some (.cells #[.int .u8 0, .int .u8 0, .int .u8 0, .int .u8 0, .int .u8 0, .int .u8 0, .int .u8 0, .int .u8 0] 75 (0, 0)) := h5.2.obj (heap_alloc_new _ _) hgt
    obtain ⟨⟨x0, x1, x2, x3, x4, x5, x6, x7⟩, ⟨y0, y1, y2, y3, y4, y5, y6, y7⟩⟩ := cells8 hO
    have HK8 := Lib.hid (kept8 w1 w.heap.size (.int .u8 0) (.int .u8 0) (.int .u8 0) (.int .u8 0) (.int .u8 0) (.int .u8 0) (.int .u8 0) (.int .u8 0))
    have HP := Lib.hid h5
    have HFR : Hid (Free w1 5 (fun k => k = w.heap.size)) := Free.one hO (by decide)
    clear h1 h2 h3 h4 h5 hO
    have HF : Hid (RdrPost 107 w q r.blk.2.2 ((((((((w1.setCell ⟨w.heap.size, 0, none⟩ (.int .u8 0)).setCell ⟨w.heap.size, 1, none⟩ (.int .u8 0)).setCell ⟨w.heap.size, 2, none⟩ (.int .u8 0)).setCell ⟨w.heap.size, 3, none⟩ (.int .u8 0)).setCell ⟨w.heap.size, 4, none⟩ (.int .u8 0)).setCell ⟨w.heap.size, 5, none⟩ (.int .u8 0)).setCell ⟨w.heap.size, 6, none⟩ (.int .u8 0)).setCell ⟨w.heap.size, 7, none⟩ (.int .u8 0))) := by
      unfold Hid; rw [HBK.out]
      exact ⟨HP.out.1.kept HK8.out (fun h => hgt h.symm) HFR.out, ((belKept0 (S := fun k => k = q) HB0.out).trans HP.out.2 (fun _ _ h => h)).trans HK8.out (fun i hi h => by have h' : i = w.heap.size := h; omega)⟩
    clear HK8 HFR
    go_wp2
    exact bodyPost_ret (by simp [results, Try.results87, go_sem, *]; rfl) rfl ⟨by rw [HBK.out]; rfl, HF.out⟩
end Go.Proofs.Ytndifkjenjfjpaa
