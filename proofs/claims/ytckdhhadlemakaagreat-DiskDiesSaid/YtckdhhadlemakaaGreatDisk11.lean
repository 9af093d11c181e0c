/-
  WHAT IS SHOWN: what the reading methods of disk return, and New where it returns ErrArg. Conditions: the disk lies in memory.
-/
import Derived.Test.YtckdhhadlemakaaGreatDisk10
namespace Go.Proofs.YtckdhhadlemakaaGreat
set_option linter.unusedVariables false
open Go.RowKit

section
variable {w w' : World} {B : Bd} {q pw : Nat} {g : Geo} {F : List Flt} {s : DS} {P : Pow} {LM : List Sec} {O : List OpV}
theorem ddead_any (h : DPm w B q pw g F s P LM O) : Calls Tryz.prog 12 #[.pointer (some ⟨q, 0, none⟩)] w fun e w' => e = .returned (.bool s.dead) ∧ w = w' := by
  obtain ⟨⟨p, FA, fc, hd⟩, _⟩ := h
  have c := (hd.cell 15 (by decide)).trans (show _ = some (Value.bool s.dead) from rfl)
  clear hd
  go_enter Tryz.func12, Tryz.ntmps12
  go_wp2
  go_ret
  exact ⟨rfl, rfl⟩
theorem dops_any (h : DPm w B q pw g F s P LM O) : Calls Tryz.prog 42 #[.pointer (some ⟨q, 0, none⟩)] w fun e w' => e = .returned (.int .i64 s.ops) ∧ w = w' := by
  obtain ⟨⟨p, FA, fc, hd⟩, _⟩ := h
  have c := (hd.cell 4 (by decide)).trans (show _ = some (Value.int .i64 s.ops) from rfl)
  clear hd
  go_enter Tryz.func42, Tryz.ntmps42
  go_wp2
  go_ret
  exact ⟨rfl, rfl⟩
theorem dpending_any (h : DPm w B q pw g F s P LM O) : Calls Tryz.prog 43 #[.pointer (some ⟨q, 0, none⟩)] w fun e w' => e = .returned (.int .i64 O.length) ∧ w = w' := by
  obtain ⟨⟨p, FA, fc, hd⟩, _⟩ := h
  have c := (hd.cell 10 (by decide)).trans (show _ = some (Value.pointer (some ⟨p, 0, none⟩)) from rfl)
  have HC := Lib.hid (cpending_any hd.c)
  clear hd
  go_enter Tryz.func43, Tryz.ntmps43
  go_wp2_with fail
  refine HC.out.mono ?_
  rintro e w1 ⟨rfl, rfl⟩
  go_wp2
  go_ret
  exact ⟨rfl, rfl⟩
theorem dst_any (a : Int) (h : DPm w B q pw g F s P LM O) : Calls Tryz.prog 45 #[.pointer (some ⟨q, 0, none⟩), .int .i64 a] w fun e w' => e = .returned (.int .i64 (stateN (playL g LM O) a)) ∧ w = w' := by
  obtain ⟨⟨p, FA, fc, hd⟩, _, hf, _⟩ := h
  have c := (hd.cell 10 (by decide)).trans (show _ = some (Value.pointer (some ⟨p, 0, none⟩)) from rfl)
  have HC := Lib.hid (cstate_any a hd.c hf)
  clear hd hf
  go_enter Tryz.func45, Tryz.ntmps45
  go_wp2_with fail
  refine HC.out.mono ?_
  rintro e w1 ⟨rfl, rfl⟩
  go_wp2
  go_ret
  exact ⟨rfl, rfl⟩
theorem dgeo_any (h : DPm w B q pw g F s P LM O) : Calls Tryz.prog 40 #[.pointer (some ⟨q, 0, none⟩)] w fun e w' => e = .returned (.agg #[.int .i64 g.random, .int .i64 g.bands, .int .i64 g.tracks, .int .i64 g.sectors, .int .i64 g.overlap]) ∧ Below w.heap.size w w' := by
  obtain ⟨⟨p, FA, fc, hd⟩, _⟩ := h
  have hb0 : Below w.heap.size w (w.alloc (.cells #[.int .i64 0, .int .i64 0, .int .i64 0, .int .i64 0, .int .i64 0] 23)) := (Below.refl _ _).alloc (Nat.le_refl _) _
  have h' := hd.below0 hb0
  have c5 := (h'.cell 5 (by decide)).trans (show _ = some (Value.int .i64 g.random) from rfl)
  have c6 := (h'.cell 6 (by decide)).trans (show _ = some (Value.int .i64 g.bands) from rfl)
  have c7 := (h'.cell 7 (by decide)).trans (show _ = some (Value.int .i64 g.tracks) from rfl)
  have c8 := (h'.cell 8 (by decide)).trans (show _ = some (Value.int .i64 g.sectors) from rfl)
  have c9 := (h'.cell 9 (by decide)).trans (show _ = some (Value.int .i64 g.overlap) from rfl)
  clear hd h'
  go_enter Tryz.func40, Tryz.ntmps40
  go_wp2
  exact bodyPost_ret (v := .agg #[.int .i64 g.random, .int .i64 g.bands, .int .i64 g.tracks, .int .i64 g.sectors, .int .i64 g.overlap]) (by simp [results, Tryz.results40, go_sem]) rfl ⟨rfl, (Below.refl _ _).alloc (Nat.le_refl _) _⟩
theorem dstats_any (h : DPm w B q pw g F s P LM O) : Calls Tryz.prog 41 #[.pointer (some ⟨q, 0, none⟩)] w fun e w' => e = .returned (.agg #[.int .i64 s.r, .int .i64 s.w, .int .i64 s.e, .int .i64 s.f]) ∧ Below w.heap.size w w' := by
  obtain ⟨⟨p, FA, fc, hd⟩, _⟩ := h
  have hb0 : Below w.heap.size w (w.alloc (.cells #[.int .i64 0, .int .i64 0, .int .i64 0, .int .i64 0] 46)) := (Below.refl _ _).alloc (Nat.le_refl _) _
  have h' := hd.below0 hb0
  have c0 := (h'.cell 0 (by decide)).trans (show _ = some (Value.int .i64 s.r) from rfl)
  have c1 := (h'.cell 1 (by decide)).trans (show _ = some (Value.int .i64 s.w) from rfl)
  have c2 := (h'.cell 2 (by decide)).trans (show _ = some (Value.int .i64 s.e) from rfl)
  have c3 := (h'.cell 3 (by decide)).trans (show _ = some (Value.int .i64 s.f) from rfl)
  clear hd h'
  go_enter Tryz.func41, Tryz.ntmps41
  go_wp2
  exact bodyPost_ret (v := .agg #[.int .i64 s.r, .int .i64 s.w, .int .i64 s.e, .int .i64 s.f]) (by simp [results, Tryz.results41, go_sem]) rfl ⟨rfl, (Below.refl _ _).alloc (Nat.le_refl _) _⟩
set_option maxHeartbeats 1000000 in
theorem dnew_bad1 (l : List Flt) (A : Option Addr) (c : Nat) (a : Option Addr) (hv : validG g = false) (w : World) :
    Calls Tryz.prog 17 #[.agg #[.int .i64 g.random, .int .i64 g.bands, .int .i64 g.tracks, .int .i64 g.sectors, .int .i64 g.overlap], .slice A l.length c, .pointer a] w fun e w' => e = .returned (.tuple #[.pointer none, .int .i64 1]) ∧ Below w.heap.size w w' := by
  have HN := Lib.hid (fun W => new_no g hv W)
  have hb0 : Below w.heap.size w (w.alloc (.cells #[.int .i64 g.random, .int .i64 g.bands, .int .i64 g.tracks, .int .i64 g.sectors, .int .i64 g.overlap] 23)) := (Below.refl _ _).alloc (Nat.le_refl _) _
  clear hv
  go_enter Tryz.func17, Tryz.ntmps17
  go_wp2_with fail
  refine (HN.out _).mono ?_
  rintro e w1 ⟨rfl, hb1⟩
  go_wp2
  go_ret2
  exact ⟨rfl, hb0.trans (hb1.mono hb0.size)⟩
set_option maxHeartbeats 1000000 in
theorem dnew_bad2 (l : List Flt) (A : Option Addr) (c : Nat) (a : Option Addr) (hv : validG g = true) (hvl : validF l = false) (w : World) (hr : Rd w w.heap.size A (flatF l)) (hn : l.length ≤ 9223372036854775807) :
    Calls Tryz.prog 17 #[.agg #[.int .i64 g.random, .int .i64 g.bands, .int .i64 g.tracks, .int .i64 g.sectors, .int .i64 g.overlap], .slice A l.length c, .pointer a] w fun e w' => e = .returned (.tuple #[.pointer none, .int .i64 1]) ∧ Below w.heap.size w w' := by
  have HN := Lib.hid (fun W => new_yes g hv W)
  have hb0 : Below w.heap.size w (w.alloc (.cells #[.int .i64 g.random, .int .i64 g.bands, .int .i64 g.tracks, .int .i64 g.sectors, .int .i64 g.overlap] 23)) := (Below.refl _ _).alloc (Nat.le_refl _) _
  have HFV : Hid (∀ W, Below w.heap.size w W → Calls Tryz.prog 48 #[.slice A l.length c] W fun e w' => e = .returned (.bool false) ∧ Below W.heap.size W w') := by
    unfold Hid; intro W hW; have := fvalid_any l A c W ((hr.below hW (Nat.le_refl _)).more hW.size) hn; rw [hvl] at this; exact this
  clear hv hvl hr
  go_enter Tryz.func17, Tryz.ntmps17
  go_wp2_with fail
  refine (HN.out _).mono ?_
  rintro e w1 ⟨m, bs, rfl, _, _, _, hb1⟩
  have hbl1 := hb0.trans (hb1.mono hb0.size)
  go_wp2_with fail
  refine (HFV.out _ hbl1).mono ?_
  rintro e w2 ⟨rfl, hb2⟩
  go_wp2
  go_ret2
  exact ⟨rfl, hbl1.trans (hb2.mono hbl1.size)⟩
set_option maxHeartbeats 1000000 in
theorem dnew_bad3 (l : List Flt) (A : Option Addr) (c : Nat) (hv : validG g = true) (hvl : validF l = true) (w : World) (hr : Rd w w.heap.size A (flatF l)) (hn : l.length ≤ 9223372036854775807) :
    Calls Tryz.prog 17 #[.agg #[.int .i64 g.random, .int .i64 g.bands, .int .i64 g.tracks, .int .i64 g.sectors, .int .i64 g.overlap], .slice A l.length c, .pointer none] w fun e w' => e = .returned (.tuple #[.pointer none, .int .i64 1]) ∧ Below w.heap.size w w' := by
  have HN := Lib.hid (fun W => new_yes g hv W)
  have hb0 : Below w.heap.size w (w.alloc (.cells #[.int .i64 g.random, .int .i64 g.bands, .int .i64 g.tracks, .int .i64 g.sectors, .int .i64 g.overlap] 23)) := (Below.refl _ _).alloc (Nat.le_refl _) _
  have HFV : Hid (∀ W, Below w.heap.size w W → Calls Tryz.prog 48 #[.slice A l.length c] W fun e w' => e = .returned (.bool true) ∧ Below W.heap.size W w') := by
    unfold Hid; intro W hW; have := fvalid_any l A c W ((hr.below hW (Nat.le_refl _)).more hW.size) hn; rw [hvl] at this; exact this
  clear hv hvl hr
  go_enter Tryz.func17, Tryz.ntmps17
  go_wp2_with fail
  refine (HN.out _).mono ?_
  rintro e w1 ⟨m, bs, rfl, _, _, _, hb1⟩
  have hbl1 := hb0.trans (hb1.mono hb0.size)
  go_wp2_with fail
  refine (HFV.out _ hbl1).mono ?_
  rintro e w2 ⟨rfl, hb2⟩
  go_wp2
  go_ret2
  exact ⟨rfl, hbl1.trans (hb2.mono hbl1.size)⟩
end
end Go.Proofs.YtckdhhadlemakaaGreat
