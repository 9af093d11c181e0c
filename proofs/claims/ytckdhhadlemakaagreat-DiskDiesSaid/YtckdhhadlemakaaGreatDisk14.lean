/-
  WHAT IS SHOWN: what the closures of Flush and Erase of disk return and leave, and perform with them. Conditions: the disk lies in memory.
-/
import Derived.Test.YtckdhhadlemakaaGreatDisk13
namespace Go.Proofs.YtckdhhadlemakaaGreat
set_option linter.unusedVariables false
open Go.RowKit

section
variable {w w' : World} {B : Bd} {q pw p : Nat} {g : Geo} {F : List Flt} {s : DS} {P : Pow} {LM : List Sec} {O : List OpV} {FA : Option Addr} {fc : Nat}
set_option maxRecDepth 100000 in
set_option maxHeartbeats 2000000 in
theorem flushcl_any (f : Flt) (bd : Nat) (fd : Nat × Nat) (h : Dsk w B q pw g F s LM O p FA fc) (hf : Fit g LM) (hB : B.top ≤ w.heap.size) (hn : O.length ≤ 99000) (hd : w.heap[bd]? = some (.cells #[.pointer (some ⟨q, 0, none⟩)] 32 fd)) :
    Calls Tryz.prog 63 #[f.val, .pointer (some ⟨bd, 0, none⟩)] w (WriteCl w B q pw g F p FA fc 0 { s with f := wrap64 (s.f + 1) } (playL g LM (O.take O.length)) []) := by
  have hb0 : Below w.heap.size w (w.alloc (.cells #[.int .i64 f.at_, .int .i64 f.kind, .int .i64 f.to_] 64)) := (Below.refl _ _).alloc (Nat.le_refl _) _
  have ld := lt_of_block hd
  have b0 : (w.alloc (.cells #[.int .i64 f.at_, .int .i64 f.kind, .int .i64 f.to_] 64)).cell? ⟨bd, 0, none⟩ = some (.pointer (some ⟨q, 0, none⟩)) := by rw [cell_of_row _ _ _ _ _ _ (belObj hb0 hd ld)]; rfl
  have h0 := h.below0 hb0
  have c10 := (h0.cell 10 (by decide)).trans (show _ = some (Value.pointer (some ⟨p, 0, none⟩)) from rfl)
  have HC := Lib.hid (cflush_any h0.c hf (Nat.le_trans hB hb0.size) (by omega))
  have HFX : Hid (∀ W, CacheM W B p g (playL g LM (O.take O.length)) [] → KeptT CT B (w.alloc (.cells #[.int .i64 f.at_, .int .i64 f.kind, .int .i64 f.to_] 64)) W → (W.cell? ⟨bd, 0, none⟩ = some (.pointer (some ⟨q, 0, none⟩)) ∧ W.cell? ⟨q, 3, none⟩ = some (.int .i64 s.f) ∧ W.frozen? ⟨q, 3, none⟩ = false) ∧
      Dsk (W.setCell ⟨q, 3, none⟩ (.int .i64 (wrap64 (s.f + 1)))) B q pw g F { s with f := wrap64 (s.f + 1) } (playL g LM (O.take O.length)) [] p FA fc ∧ KeptT DT B w (W.setCell ⟨q, 3, none⟩ (.int .i64 (wrap64 (s.f + 1))))) := by
    unfold Hid; intro W hc hk
    have h1 := h0.withC hk hc
    have h2 := h1.store 3 (.int .i64 (wrap64 (s.f + 1))) { s with f := wrap64 (s.f + 1) } rfl
    have q' := Kept.obj hk (belObj hb0 hd ld) (KeptT.no (IsT.of (belObj hb0 hd ld)) (by unfold CT; decide))
    exact ⟨⟨by rw [cell_of_row _ _ _ _ _ _ q']; rfl, (h1.cell 3 (by decide)).trans rfl, h1.free 3⟩, h2.1, (((KeptT.bel hb0).trans hk).sub ct_dt).trans (h2.2.sub d_dt)⟩
  clear h h0 hf hd
  obtain ⟨fat, fk, fto⟩ := f
  unfold Flt.val
  simp only at *
  go_enter Tryz.func63, Tryz.ntmps63
  go_wp2_with fail
  refine HC.out.mono ?_
  rintro e w1 ⟨rfl, hc1, hk1⟩
  obtain ⟨⟨d0, d3, f3⟩, hfin⟩ := HFX.out w1 hc1 hk1
  have HF := Lib.hid hfin
  clear hc1 hk1 hfin b0 c10
  go_wp2
  go_ret
  exact ⟨rfl, HF.out⟩
def erO (g : Geo) (LM : List Sec) (O : List OpV) (a : Int) : List OpV := if doE g (playL g LM O) ⟨true, a, [], none, 0⟩ = 0 then O ++ [⟨true, a, [], none, 0⟩] else O
def erS (g : Geo) (LM : List Sec) (O : List OpV) (a : Int) (s : DS) : DS := if doE g (playL g LM O) ⟨true, a, [], none, 0⟩ = 0 then { s with e := wrap64 (s.e + 1) } else s
set_option maxRecDepth 100000 in
set_option maxHeartbeats 2000000 in
theorem erasecl_any (f : Flt) (a : Int) (ha : I64 a) (bd ba : Nat) (fd fa : Nat × Nat) (h : Dsk w B q pw g F s LM O p FA fc) (hf : Fit g LM) (hB : B.top ≤ w.heap.size) (hn : O.length ≤ 99000) (hd : w.heap[bd]? = some (.cells #[.pointer (some ⟨q, 0, none⟩)] 32 fd)) (hba : w.heap[ba]? = some (.cells #[.int .i64 a] 3 fa)) :
    Calls Tryz.prog 61 #[f.val, .pointer (some ⟨bd, 0, none⟩), .pointer (some ⟨ba, 0, none⟩)] w (WriteCl w B q pw g F p FA fc (doE g (playL g LM O) ⟨true, a, [], none, 0⟩) (erS g LM O a s) LM (erO g LM O a)) := by
  have hb0 : Below w.heap.size w (w.alloc (.cells #[.int .i64 f.at_, .int .i64 f.kind, .int .i64 f.to_] 64)) := (Below.refl _ _).alloc (Nat.le_refl _) _
  have ld := lt_of_block hd
  have la := lt_of_block hba
  have b0 : (w.alloc (.cells #[.int .i64 f.at_, .int .i64 f.kind, .int .i64 f.to_] 64)).cell? ⟨bd, 0, none⟩ = some (.pointer (some ⟨q, 0, none⟩)) := by rw [cell_of_row _ _ _ _ _ _ (belObj hb0 hd ld)]; rfl
  have b1 : (w.alloc (.cells #[.int .i64 f.at_, .int .i64 f.kind, .int .i64 f.to_] 64)).cell? ⟨ba, 0, none⟩ = some (.int .i64 a) := by rw [cell_of_row _ _ _ _ _ _ (belObj hb0 hba la)]; rfl
  have h0 := h.below0 hb0
  have c10 := (h0.cell 10 (by decide)).trans (show _ = some (Value.pointer (some ⟨p, 0, none⟩)) from rfl)
  have HC : Hid (∀ W, Below w.heap.size w W → Calls Tryz.prog 62 #[.pointer (some ⟨p, 0, none⟩), .int .i64 a] W (DoPost W B p g LM O ⟨true, a, [], none, 0⟩)) := by
    unfold Hid; intro W hW; exact cerase_any a ha [] (by simp) (h.c.below0 hW) hf (Nat.le_trans hB hW.size) (by omega)
  have HFX : Hid (∀ W O', CacheM W B p g LM O' → KeptT CT B w W → (W.cell? ⟨bd, 0, none⟩ = some (.pointer (some ⟨q, 0, none⟩)) ∧ W.cell? ⟨ba, 0, none⟩ = some (.int .i64 a) ∧ W.cell? ⟨q, 2, none⟩ = some (.int .i64 s.e) ∧ W.frozen? ⟨q, 2, none⟩ = false ∧ W.cell? ⟨q, 10, none⟩ = some (.pointer (some ⟨p, 0, none⟩))) ∧
      (Dsk W B q pw g F s LM O' p FA fc ∧ KeptT DT B w W) ∧ Dsk (W.setCell ⟨q, 2, none⟩ (.int .i64 (wrap64 (s.e + 1)))) B q pw g F { s with e := wrap64 (s.e + 1) } LM O' p FA fc ∧ KeptT DT B w (W.setCell ⟨q, 2, none⟩ (.int .i64 (wrap64 (s.e + 1))))) := by
    unfold Hid; intro W O' hc hk
    have h1 := h.withC hk hc
    have h2 := h1.store 2 (.int .i64 (wrap64 (s.e + 1))) { s with e := wrap64 (s.e + 1) } rfl
    exact ⟨⟨by rw [cell_of_row _ _ _ _ _ _ (Kept.obj hk hd (KeptT.no (IsT.of hd) (by unfold CT; decide)))]; rfl, by rw [cell_of_row _ _ _ _ _ _ (Kept.obj hk hba (KeptT.no (IsT.of hba) (by unfold CT; decide)))]; rfl, (h1.cell 2 (by decide)).trans rfl, h1.free 2, (h1.cell 10 (by decide)).trans rfl⟩, ⟨h1, hk.sub ct_dt⟩, h2.1, (hk.sub ct_dt).trans (h2.2.sub d_dt)⟩
  clear h h0 hf hd hba
  obtain ⟨fat, fk, fto⟩ := f
  unfold Flt.val
  simp only at *
  by_cases hE : doE g (playL g LM O) ⟨true, a, [], none, 0⟩ = 0
  · have HS : Hid (erS g LM O a s = { s with e := wrap64 (s.e + 1) }) := by unfold Hid erS; rw [if_pos hE]
    have HO : Hid (erO g LM O a = O ++ [⟨true, a, [], none, 0⟩]) := by unfold Hid erO; rw [if_pos hE]
    have HD0 : Hid (∀ W, Below w.heap.size w W → Calls Tryz.prog 62 #[.pointer (some ⟨p, 0, none⟩), .int .i64 a] W fun e w' => e = .returned (.int .i64 0) ∧ CacheM w' B p g LM (O ++ [⟨true, a, [], none, 0⟩]) ∧ KeptT CT B W w') := by
      unfold Hid; intro W hW; refine (HC.out W hW).mono ?_
      intro e w' hp; unfold DoPost at hp; rw [hE, if_pos rfl] at hp; exact hp
    have HE := Lib.hid hE
    clear hE
    go_enter Tryz.func61, Tryz.ntmps61
    go_wp2
    go_region_held3 (fun W => W.cell? ⟨bd, 0, none⟩ = some (.pointer (some ⟨q, 0, none⟩)) ∧ W.cell? ⟨ba, 0, none⟩ = some (.int .i64 a) ∧ W.cell? ⟨q, 10, none⟩ = some (.pointer (some ⟨p, 0, none⟩)))
      (first | (refine ⟨?_, ?_, ?_⟩ <;> assumption) | (simp [*]; done))
      ((go_at_call 62
        refine (HD0.out _ hb0.drew).mono ?_
        rintro e w1 ⟨rfl, hc1, hk1⟩
        have hkw : KeptT CT B w w1 := (KeptT.bel hb0.drew).trans hk1
        obtain ⟨⟨d0, d1, d2, f2, d10⟩, _, hfin⟩ := HFX.out w1 _ hc1 hkw
        have HF := Lib.hid hfin
        clear hfin hc1))
    clear b0 b1 c10
    go_wp2
    go_ret
    rw [HE.out, HS.out, HO.out]
    exact ⟨rfl, HF.out⟩
  · have HS : Hid (erS g LM O a s = s) := by unfold Hid erS; rw [if_neg hE]
    have HO : Hid (erO g LM O a = O) := by unfold Hid erO; rw [if_neg hE]
    have HD0 : Hid (∀ W, Below w.heap.size w W → Calls Tryz.prog 62 #[.pointer (some ⟨p, 0, none⟩), .int .i64 a] W fun e w' => e = .returned (.int .i64 (doE g (playL g LM O) ⟨true, a, [], none, 0⟩)) ∧ CacheM w' B p g LM O ∧ KeptT CT B W w') := by
      unfold Hid; intro W hW; refine (HC.out W hW).mono ?_
      intro e w' hp; unfold DoPost at hp; rw [if_neg hE] at hp; exact hp
    have hE2 : (doE g (playL g LM O) ⟨true, a, [], none, 0⟩ == 0) = false := by simpa using hE
    generalize doE g (playL g LM O) ⟨true, a, [], none, 0⟩ = E at *
    clear hE
    go_enter Tryz.func61, Tryz.ntmps61
    go_wp2
    go_region_held3 (fun W => W.cell? ⟨bd, 0, none⟩ = some (.pointer (some ⟨q, 0, none⟩)) ∧ W.cell? ⟨ba, 0, none⟩ = some (.int .i64 a) ∧ W.cell? ⟨q, 10, none⟩ = some (.pointer (some ⟨p, 0, none⟩)))
      (first | (refine ⟨?_, ?_, ?_⟩ <;> assumption) | (simp [*]; done))
      ((go_at_call 62
        refine (HD0.out _ hb0.drew).mono ?_
        rintro e w1 ⟨rfl, hc1, hk1⟩
        have hkw : KeptT CT B w w1 := (KeptT.bel hb0.drew).trans hk1
        obtain ⟨⟨d0, d1, d2, f2, d10⟩, hfin, _⟩ := HFX.out w1 _ hc1 hkw
        have HF := Lib.hid hfin
        clear hfin hc1))
    clear b0 b1 c10
    go_wp2
    go_ret
    rw [HS.out, HO.out]
    exact ⟨rfl, HF.out⟩
end
end Go.Proofs.YtckdhhadlemakaaGreat
