/-
  WHAT IS SHOWN: what Acquire, Restart, Kill, Dead and On of disk return and leave. Conditions: the disk lies in memory.
-/
import Derived.Test.YtckdhhadlemakaaGreatDisk11
namespace Go.Proofs.YtckdhhadlemakaaGreat
set_option linter.unusedVariables false
open Go.RowKit

section
variable {w w' : World} {B : Bd} {q pw : Nat} {g : Geo} {F : List Flt} {s : DS} {P : Pow} {LM : List Sec} {O : List OpV}
def acqS (s : DS) (P : Pow) (key : Int) : DS := if stE s P = 0 then { s with key := key } else s
set_option maxHeartbeats 1000000 in
theorem dacquire_any (key : Int) (h : DPm w B q pw g F s P LM O) : Calls Tryz.prog 13 #[.pointer (some ⟨q, 0, none⟩), .int .u64 key] w fun e w' => e = .returned (.int .i64 (stE s P)) ∧ DPm w' B q pw g F (acqS s P key) P LM O ∧ KeptT DAT B w w' := by
  obtain ⟨⟨p, FA, fc, hd⟩, hp, hf, hs, hB⟩ := h
  have HST := Lib.hid (dstate_any hd hp)
  have HNO : Hid (∀ W, Below w.heap.size w W → DPm W B q pw g F s P LM O ∧ KeptT DAT B w W) := by
    unfold Hid; intro W hW; exact ⟨⟨⟨p, FA, fc, hd.below0 hW⟩, hp.below0 hW, hf, hs, Nat.le_trans hB hW.size⟩, KeptT.bel hW⟩
  have HYE : Hid (∀ W, Below w.heap.size w W → DPm (W.setCell ⟨q, 14, none⟩ (.int .u64 key)) B q pw g F { s with key := key } P LM O ∧ KeptT DAT B w (W.setCell ⟨q, 14, none⟩ (.int .u64 key))) := by
    unfold Hid; intro W hW
    have h' := (hd.below0 hW).store 14 (.int .u64 key) { s with key := key } rfl
    exact ⟨⟨⟨p, FA, fc, h'.1⟩, (hp.below0 hW).keptT h'.2 (by decide), hf, hs, Nat.le_trans hB (Nat.le_trans hW.size h'.2.size)⟩, (KeptT.bel hW).trans (h'.2.sub (by unfold DAT; decide))⟩
  have HCE : Hid (∀ W, Below w.heap.size w W → W.cell? ⟨q, 14, none⟩ = some (.int .u64 s.key) ∧ W.frozen? ⟨q, 14, none⟩ = false) := by
    unfold Hid; intro W hW; exact ⟨((hd.below0 hW).cell 14 (by decide)).trans rfl, (hd.below0 hW).free 14⟩
  clear hd hp hf hs
  by_cases h1 : stE s P = 0
  · have HS : Hid (acqS s P key = { s with key := key }) := by unfold Hid acqS; rw [if_pos h1]
    have HE := Lib.hid h1
    rw [h1] at HST
    clear h1
    go_enter Tryz.func13, Tryz.ntmps13
    go_wp2_with fail
    refine HST.out.mono ?_
    rintro e w1 ⟨rfl, hb1⟩
    obtain ⟨c14, f14⟩ := HCE.out w1 hb1
    have HF := Lib.hid (HYE.out w1 hb1)
    go_wp2
    go_ret
    rw [HE.out, HS.out]
    exact ⟨rfl, HF.out⟩
  · have HS : Hid (acqS s P key = s) := by unfold Hid acqS; rw [if_neg h1]
    have h2 : (stE s P != 0) = true := by simpa using h1
    generalize stE s P = E at *
    clear h1
    go_enter Tryz.func13, Tryz.ntmps13
    go_wp2_with fail
    refine HST.out.mono ?_
    rintro e w1 ⟨rfl, hb1⟩
    have HF := Lib.hid (HNO.out w1 hb1)
    go_wp2
    go_ret
    rw [HS.out]
    exact ⟨rfl, HF.out⟩
theorem dkill_any (h : DPm w B q pw g F s P LM O) : Calls Tryz.prog 8 #[.pointer (some ⟨q, 0, none⟩)] w fun e w' => e = .returned (.tuple #[]) ∧ DPm w' B q pw g F { s with dead := true } P LM O ∧ KeptT DAT B w w' := by
  obtain ⟨⟨p, FA, fc, hd⟩, hp, hf, hs, hB⟩ := h
  have c15 := (hd.cell 15 (by decide)).trans (show _ = some (Value.bool s.dead) from rfl)
  have f15 := hd.free 15
  have h' := hd.store 15 (.bool true) { s with dead := true } rfl
  have HF : Hid (DPm (w.setCell ⟨q, 15, none⟩ (.bool true)) B q pw g F { s with dead := true } P LM O ∧ KeptT DAT B w (w.setCell ⟨q, 15, none⟩ (.bool true))) :=
    ⟨⟨⟨p, FA, fc, h'.1⟩, hp.keptT h'.2 (by decide), hf, hs, Nat.le_trans hB h'.2.size⟩, h'.2.sub (by unfold DAT; decide)⟩
  clear hd hp hf hs h'
  go_enter Tryz.func8, Tryz.ntmps8
  go_wp2
  go_end0
  exact ⟨rfl, HF.out⟩
theorem don_any (hp : PowM w B pw P) : Calls Tryz.prog 29 #[.pointer (some ⟨pw, 0, none⟩)] w fun e w' => e = .returned (.tuple #[]) ∧ PowM w' B pw { P with off := false } ∧ KeptT [83] B w w' := by
  obtain ⟨p0, _, _, _⟩ := hp.cells
  have f0 := hp.obj.frozenAt 0
  have h' := hp.store 0 (.bool false) { P with off := false } rfl
  have HF := Lib.hid h'
  clear hp h'
  go_enter Tryz.func29, Tryz.ntmps29
  go_wp2
  go_end0
  exact ⟨rfl, HF.out⟩
/-- What a restart returns and leaves. -/
def rstE (s : DS) (P : Pow) : Int := if s.dead then 14 else if P.off then 0 else 8
def rstS (s : DS) (P : Pow) : DS := if rstE s P = 0 then { s with seen := P.fails } else s
def rstLM (g : Geo) (s : DS) (P : Pow) (LM : List Sec) (O : List OpV) (keep : Int) : List Sec := if rstE s P = 0 then playL g LM (O.take (cutN keep O.length)) else LM
def rstO (s : DS) (P : Pow) (O : List OpV) : List OpV := if rstE s P = 0 then [] else O
set_option maxHeartbeats 1000000 in
theorem drestart_any (keep : Int) (h : DPm w B q pw g F s P LM O) (hn : O.length ≤ 100000) : Calls Tryz.prog 14 #[.pointer (some ⟨q, 0, none⟩), .int .i64 keep] w fun e w' => e = .returned (.int .i64 (rstE s P)) ∧ DPm w' B q pw g F (rstS s P) P (rstLM g s P LM O keep) (rstO s P O) ∧ KeptT DAT B w w' := by
  have H0 := Lib.hid h
  obtain ⟨⟨p, FA, fc, hd⟩, hp, hf, hs, hB⟩ := h
  have c10 := (hd.cell 10 (by decide)).trans (show _ = some (Value.pointer (some ⟨p, 0, none⟩)) from rfl)
  have c12 := (hd.cell 12 (by decide)).trans (show _ = some (Value.pointer (some ⟨pw, 0, none⟩)) from rfl)
  have c15 := (hd.cell 15 (by decide)).trans (show _ = some (Value.bool s.dead) from rfl)
  obtain ⟨p0, _, _, p3⟩ := hp.cells
  have HC := Lib.hid (ccut_any keep hd.c hf hB hn)
  have HFX : Hid (∀ W, CacheM W B p g (playL g LM (O.take (cutN keep O.length))) [] → KeptT CT B w W → (W.cell? ⟨q, 12, none⟩ = some (.pointer (some ⟨pw, 0, none⟩)) ∧ W.cell? ⟨q, 13, none⟩ = some (.int .i64 s.seen) ∧ W.frozen? ⟨q, 13, none⟩ = false ∧ W.cell? ⟨pw, 3, none⟩ = some (.int .i64 P.fails)) ∧
      DPm (W.setCell ⟨q, 13, none⟩ (.int .i64 P.fails)) B q pw g F { s with seen := P.fails } P (playL g LM (O.take (cutN keep O.length))) [] ∧ KeptT DAT B w (W.setCell ⟨q, 13, none⟩ (.int .i64 P.fails))) := by
    unfold Hid; intro W hc hk
    have h1 := hd.withC hk hc
    have hp1 := hp.keptT hk (by unfold CT; decide)
    have h2 := h1.store 13 (.int .i64 P.fails) { s with seen := P.fails } rfl
    exact ⟨⟨(h1.cell 12 (by decide)).trans rfl, (h1.cell 13 (by decide)).trans rfl, h1.free 13, hp1.cells.2.2.2⟩, ⟨⟨p, FA, fc, h2.1⟩, hp1.keptT h2.2 (by decide), hf.len (playL_len _ _ _), short_play _ hs, Nat.le_trans hB (Nat.le_trans hk.size h2.2.size)⟩, (hk.sub (by unfold CT DAT; decide)).trans (h2.2.sub (by unfold DAT; decide))⟩
  clear hd hp hf hs
  cases hdd : s.dead
  · rw [hdd] at c15
    cases ho : P.off
    · have HE : Hid (rstE s P = 8) := by unfold Hid rstE; simp [hdd, ho]
      rw [ho] at p0
      clear hdd ho
      go_enter Tryz.func14, Tryz.ntmps14
      go_wp2
      go_ret
      unfold rstS rstLM rstO
      rw [HE.out]
      exact ⟨rfl, H0.out, KeptT.refl _ _ _⟩
    · have HE : Hid (rstE s P = 0) := by unfold Hid rstE; simp [hdd, ho]
      rw [ho] at p0
      clear hdd ho
      go_enter Tryz.func14, Tryz.ntmps14
      go_wp2_with fail
      refine HC.out.mono ?_
      rintro e w1 ⟨rfl, hc1, hk1⟩
      obtain ⟨⟨d12, d13, f13, e3⟩, hfin⟩ := HFX.out w1 hc1 hk1
      have HF := Lib.hid hfin
      clear hc1 hk1 c10 c12 c15 p0 p3 hfin
      go_wp2
      go_ret
      unfold rstS rstLM rstO
      rw [HE.out]
      exact ⟨rfl, HF.out⟩
  · have HE : Hid (rstE s P = 14) := by unfold Hid rstE; simp [hdd]
    rw [hdd] at c15
    clear hdd
    go_enter Tryz.func14, Tryz.ntmps14
    go_wp2
    go_ret
    unfold rstS rstLM rstO
    rw [HE.out]
    exact ⟨rfl, H0.out, KeptT.refl _ _ _⟩
end
end Go.Proofs.YtckdhhadlemakaaGreat
