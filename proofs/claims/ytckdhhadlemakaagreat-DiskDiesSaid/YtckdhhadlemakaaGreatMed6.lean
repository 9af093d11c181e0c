/-
  WHAT IS SHOWN: what New of media and of tegularef11 return. No condition.
-/
import Derived.Test.YtckdhhadlemakaaGreatMed5
namespace Go.Proofs.YtckdhhadlemakaaGreat
set_option linter.unusedVariables false
open Go.RowKit

def blankL (g : Geo) : List Sec := List.replicate (szN g).toNat blankS
theorem blank_fit {g : Geo} (h : Vg g) : Fit g (blankL g) := by
  refine ⟨h, ?_⟩
  unfold blankL
  rw [List.length_replicate, szN_valid h]
  have := h.sz; have := h.r0; omega
theorem blank_len (g : Geo) : (blankL g).length = (szN g).toNat := by unfold blankL; simp
theorem med_new {w : World} {g : Geo} {n : Nat} (hn : n ≤ 100000) : Med ((w.alloc (.cells (madeCells #[.int .i64 0, .slice none 0 0] (n * 2)) 133)).alloc (.cells (medObj g w.heap.size n n) 126)) (w.heap.size + 1) w.heap.size g (List.replicate n blankS) := by
  have ho := World.ownsRow_lit (base := 0) (e := 133) (size := 2) w (madeCells #[.int .i64 0, .slice none 0 0] (n * 2)) n (Nat.zero_le _) (by unfold maxLen; omega) (size_madeCells _ _)
  refine ⟨n, List.replicate n (0, .slice none 0 0), ?_, ?_, by simp, fun i s hs => ?_⟩
  · have := heap_alloc_new (w.alloc (.cells (madeCells #[.int .i64 0, .slice none 0 0] (n * 2)) 133)) (.cells (medObj g w.heap.size n n) 126)
    rw [World.size_alloc] at this
    simpa using this
  · rw [made_flat secV (.int .i64 0) (.slice none 0 0) (0, .slice none 0 0) rfl n] at ho
    have := ho.alloc (.cells (medObj g w.heap.size n n) 126)
    simpa using this
  · rw [List.getElem?_replicate] at hs
    split at hs
    · rename_i h
      injection hs with hs
      subst hs
      exact ⟨_, by rw [List.getElem?_replicate, if_pos h]; rfl, Byt.nil _ _⟩
    · cases hs
theorem rmed_new {w : World} {g : Geo} {n : Nat} (hn : n ≤ 100000) : RMed ((w.alloc (.cells (madeCells #[.int .i64 0, .string ByteArray.empty] (n * 2)) 123)).alloc (.cells (medObj g w.heap.size n n) 94)) (w.heap.size + 1) w.heap.size g (List.replicate n blankS) := by
  have ho := World.ownsRow_lit (base := 0) (e := 123) (size := 2) w (madeCells #[.int .i64 0, .string ByteArray.empty] (n * 2)) n (Nat.zero_le _) (by unfold maxLen; omega) (size_madeCells _ _)
  refine ⟨n, ?_, ?_⟩
  · have := heap_alloc_new (w.alloc (.cells (madeCells #[.int .i64 0, .string ByteArray.empty] (n * 2)) 123)) (.cells (medObj g w.heap.size n n) 94)
    rw [World.size_alloc] at this
    simpa using this
  · rw [made_flat recV (.int .i64 0) (.string ByteArray.empty) blankS rfl n] at ho
    have := ho.alloc (.cells (medObj g w.heap.size n n) 94)
    simpa using this

/-- What New returns of a valid geometry. -/
def NewPost (w : World) (g : Geo) (L : List Sec) (e : Ending) (w' : World) : Prop :=
  ∃ m bs, e = .returned (.tuple #[.pointer (some ⟨m, 0, none⟩), .int .i64 0]) ∧ Med w' m bs g L ∧ w.heap.size ≤ m ∧ w.heap.size ≤ bs ∧ Below w.heap.size w w'
def RNewPost (w : World) (g : Geo) (L : List Sec) (e : Ending) (w' : World) : Prop :=
  ∃ m bs, e = .returned (.tuple #[.pointer (some ⟨m, 0, none⟩), .int .i64 0]) ∧ RMed w' m bs g L ∧ w.heap.size ≤ m ∧ w.heap.size ≤ bs ∧ Below w.heap.size w w'

set_option maxHeartbeats 400000 in
theorem new_no (g : Geo) (hv : validG g = false) (w : World) : Calls Tryz.prog 47 #[.agg #[.int .i64 g.random, .int .i64 g.bands, .int .i64 g.tracks, .int .i64 g.sectors, .int .i64 g.overlap]] w fun e w' => e = .returned (.tuple #[.pointer none, .int .i64 1]) ∧ Below w.heap.size w w' := by
  go_enter Tryz.func47, Tryz.ntmps47
  go_wp2_with fail
  refine (gvalid_any g _).mono ?_
  rintro e w1 ⟨rfl, hb1⟩
  rw [hv]
  clear hv
  go_wp2
  go_ret2
  exact ⟨rfl, ((Below.refl _ _).alloc (Nat.le_refl _) _).trans (hb1.mono (by simp))⟩
set_option maxHeartbeats 400000 in
theorem rnew_no (g : Geo) (hv : validG g = false) (w : World) : Calls Tryz.prog 59 #[.agg #[.int .i64 g.random, .int .i64 g.bands, .int .i64 g.tracks, .int .i64 g.sectors, .int .i64 g.overlap]] w fun e w' => e = .returned (.tuple #[.pointer none, .int .i64 1]) ∧ Below w.heap.size w w' := by
  go_enter Tryz.func59, Tryz.ntmps59
  go_wp2_with fail
  refine (rgvalid_any g _).mono ?_
  rintro e w1 ⟨rfl, hb1⟩
  rw [hv]
  clear hv
  go_wp2
  go_ret2
  exact ⟨rfl, ((Below.refl _ _).alloc (Nat.le_refl _) _).trans (hb1.mono (by simp))⟩
set_option maxHeartbeats 1000000 in
theorem new_yes (g : Geo) (hv : validG g = true) (w : World) : Calls Tryz.prog 47 #[.agg #[.int .i64 g.random, .int .i64 g.bands, .int .i64 g.tracks, .int .i64 g.sectors, .int .i64 g.overlap]] w (NewPost w g (blankL g)) := by
  obtain ⟨i0, hi, hz0, hz1, hz2⟩ := info_parts info_sec
  have hszb := szN_bound g
  have HS : Hid (∀ W, Calls Tryz.prog 78 #[.agg #[.int .i64 g.random, .int .i64 g.bands, .int .i64 g.tracks, .int .i64 g.sectors, .int .i64 g.overlap]] W fun e w' => e = .returned (.int .i64 ((szN g).toNat : Int)) ∧ Below W.heap.size W w') := by
    unfold Hid; intro W; have := gsz_any g W; rw [show (((szN g).toNat : Nat) : Int) = szN g from by omega]; exact this
  have HN : Hid (blankL g = List.replicate (szN g).toNat blankS) := by unfold Hid; rfl
  have hn : (szN g).toNat ≤ 100000 := by omega
  generalize (szN g).toNat = n at *
  have hmk : ∀ W : World, (Instr.makeSlice 124 (.int .i64 (n : Int)) (.int .i64 (n : Int))).run Tryz.prog W = .ok (.slice (some ⟨W.heap.size, 0, none⟩) n n) (W.alloc (.cells (madeCells _ (n * 2)) 133)) := fun W => by
    have := run_make (P := Tryz.prog) W 124 133 i0 _ Tryz.underlying124 hi hz0 .i64 .i64 (n : Int) (n : Int) (by omega) (Int.le_refl _) (by rw [hz2]; omega) (by omega)
    rw [Int.toNat_natCast, hz1] at this
    exact this
  clear hszb hz0 hz1 hz2 hi
  go_enter Tryz.func47, Tryz.ntmps47
  go_wp2_with fail
  refine (gvalid_any g _).mono ?_
  rintro e w1 ⟨rfl, hb1⟩
  rw [hv]
  clear hv
  have PG := (Cells5.new w 23 _ _ _ _ _).below hb1 (by simp)
  have hbl1 : Below w.heap.size w w1 := ((Below.refl _ _).alloc (Nat.le_refl _) _).trans (hb1.mono (by simp))
  have hzz1 : w.heap.size < w1.heap.size := by have := hb1.size; simp at this; omega
  clear hb1
  have p0 := PG.c0; have p1 := PG.c1; have p2 := PG.c2; have p3 := PG.c3; have p4 := PG.c4
  have hW1 := hbl1.size
  go_wp2
  go_region_held3 (fun W => W.cell? ⟨w.heap.size, 0, none⟩ = some (.int .i64 g.random) ∧ W.cell? ⟨w.heap.size, 1, none⟩ = some (.int .i64 g.bands) ∧ W.cell? ⟨w.heap.size, 2, none⟩ = some (.int .i64 g.tracks) ∧ W.cell? ⟨w.heap.size, 3, none⟩ = some (.int .i64 g.sectors) ∧ W.cell? ⟨w.heap.size, 4, none⟩ = some (.int .i64 g.overlap))
    (first | (refine ⟨?_, ?_, ?_, ?_, ?_⟩ <;> assumption) | (simp (maxDischargeDepth := 20) [World.cell?_alloc_some, *]; done))
    ((go_at_call 78
      refine (HS.out _).mono ?_
      rintro e w2 ⟨rfl, hb2⟩
      have hw2 : Below w1.heap.size w1 w2 := ((Below.refl w1.heap.size w1).drew).trans hb2
      have PG2 := PG.below hw2 hzz1
      have q0 := PG2.c0
      have q1 := PG2.c1
      have q2 := PG2.c2
      have q3 := PG2.c3
      have q4 := PG2.c4))
  go_wp2
  go_ret2
  have hbf : Below w.heap.size w w2 := hbl1.trans (hw2.mono hW1)
  have hbs := hbf.size
  refine ⟨w2.heap.size + 1, w2.heap.size, rfl, ?_, by omega, hbs, ?_⟩
  · rw [HN.out]; exact med_new hn
  · exact (hbf.alloc hbs _).alloc (by simp; omega) _
set_option maxHeartbeats 1000000 in
theorem rnew_yes (g : Geo) (hv : validG g = true) (w : World) : Calls Tryz.prog 59 #[.agg #[.int .i64 g.random, .int .i64 g.bands, .int .i64 g.tracks, .int .i64 g.sectors, .int .i64 g.overlap]] w (RNewPost w g (blankL g)) := by
  obtain ⟨i0, hi, hz0, hz1, hz2⟩ := info_parts info_rsec
  have hszb := szN_bound g
  have HS : Hid (∀ W, Calls Tryz.prog 23 #[.agg #[.int .i64 g.random, .int .i64 g.bands, .int .i64 g.tracks, .int .i64 g.sectors, .int .i64 g.overlap]] W fun e w' => e = .returned (.int .i64 ((szN g).toNat : Int)) ∧ Below W.heap.size W w') := by
    unfold Hid; intro W; have := rsz_any g W; rw [show (((szN g).toNat : Nat) : Int) = szN g from by omega]; exact this
  have HN : Hid (blankL g = List.replicate (szN g).toNat blankS) := by unfold Hid; rfl
  have hn : (szN g).toNat ≤ 100000 := by omega
  generalize (szN g).toNat = n at *
  have hmk : ∀ W : World, (Instr.makeSlice 92 (.int .i64 (n : Int)) (.int .i64 (n : Int))).run Tryz.prog W = .ok (.slice (some ⟨W.heap.size, 0, none⟩) n n) (W.alloc (.cells (madeCells _ (n * 2)) 123)) := fun W => by
    have := run_make (P := Tryz.prog) W 92 123 i0 _ Tryz.underlying92 hi hz0 .i64 .i64 (n : Int) (n : Int) (by omega) (Int.le_refl _) (by rw [hz2]; omega) (by omega)
    rw [Int.toNat_natCast, hz1] at this
    exact this
  clear hszb hz0 hz1 hz2 hi
  go_enter Tryz.func59, Tryz.ntmps59
  go_wp2_with fail
  refine (rgvalid_any g _).mono ?_
  rintro e w1 ⟨rfl, hb1⟩
  rw [hv]
  clear hv
  have PG := (Cells5.new w 23 _ _ _ _ _).below hb1 (by simp)
  have hbl1 : Below w.heap.size w w1 := ((Below.refl _ _).alloc (Nat.le_refl _) _).trans (hb1.mono (by simp))
  have hzz1 : w.heap.size < w1.heap.size := by have := hb1.size; simp at this; omega
  clear hb1
  have p0 := PG.c0; have p1 := PG.c1; have p2 := PG.c2; have p3 := PG.c3; have p4 := PG.c4
  have hW1 := hbl1.size
  go_wp2
  go_region_held3 (fun W => W.cell? ⟨w.heap.size, 0, none⟩ = some (.int .i64 g.random) ∧ W.cell? ⟨w.heap.size, 1, none⟩ = some (.int .i64 g.bands) ∧ W.cell? ⟨w.heap.size, 2, none⟩ = some (.int .i64 g.tracks) ∧ W.cell? ⟨w.heap.size, 3, none⟩ = some (.int .i64 g.sectors) ∧ W.cell? ⟨w.heap.size, 4, none⟩ = some (.int .i64 g.overlap))
    (first | (refine ⟨?_, ?_, ?_, ?_, ?_⟩ <;> assumption) | (simp (maxDischargeDepth := 20) [World.cell?_alloc_some, *]; done))
    ((go_at_call 23
      refine (HS.out _).mono ?_
      rintro e w2 ⟨rfl, hb2⟩
      have hw2 : Below w1.heap.size w1 w2 := ((Below.refl w1.heap.size w1).drew).trans hb2
      have PG2 := PG.below hw2 hzz1
      have q0 := PG2.c0
      have q1 := PG2.c1
      have q2 := PG2.c2
      have q3 := PG2.c3
      have q4 := PG2.c4))
  go_wp2
  go_ret2
  have hbf : Below w.heap.size w w2 := hbl1.trans (hw2.mono hW1)
  have hbs := hbf.size
  refine ⟨w2.heap.size + 1, w2.heap.size, rfl, ?_, by omega, hbs, ?_⟩
  · rw [HN.out]; exact rmed_new hn
  · exact (hbf.alloc hbs _).alloc (by simp; omega) _
end Go.Proofs.YtckdhhadlemakaaGreat
