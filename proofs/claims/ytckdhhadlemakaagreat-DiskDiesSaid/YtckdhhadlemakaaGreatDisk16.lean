/-
  WHAT IS SHOWN: what Flush and Erase of disk return and leave. Conditions: the disk lies in memory.
-/
import Derived.Test.YtckdhhadlemakaaGreatDisk15
namespace Go.Proofs.YtckdhhadlemakaaGreat
set_option linter.unusedVariables false
open Go.RowKit

section
variable {w w' : World} {B : Bd} {q pw : Nat} {g : Geo} {F : List Flt} {s : DS} {P : Pow} {LM : List Sec} {O : List OpV}
def dFlS (F : List Flt) (s : DS) (P : Pow) (key : Int) : DS := if (begD F s P key).er = 0 then { (begD F s P key).s with f := wrap64 ((begD F s P key).s.f + 1) } else (begD F s P key).s
def dFlLM (g : Geo) (F : List Flt) (s : DS) (P : Pow) (LM : List Sec) (O : List OpV) (key : Int) : List Sec := if (begD F s P key).er = 0 then playL g LM (O.take O.length) else LM
def dFlO (F : List Flt) (s : DS) (P : Pow) (O : List OpV) (key : Int) : List OpV := if (begD F s P key).er = 0 then [] else O
def DFlushPost (w : World) (B : Bd) (q pw : Nat) (g : Geo) (F : List Flt) (s : DS) (P : Pow) (LM : List Sec) (O : List OpV) (key : Int) (e : Ending) (w' : World) : Prop :=
  e = .returned (.int .i64 (begD F s P key).er) ∧ DPm w' B q pw g F (dFlS F s P key) (begD F s P key).P (dFlLM g F s P LM O key) (dFlO F s P O key) ∧ KeptT DAT B w w'
set_option maxRecDepth 100000 in
set_option maxHeartbeats 2000000 in
theorem dflush_any (key : Int) (h : DPm w B q pw g F s P LM O) (hn : F.length ≤ 9223372036854775807) (hon : O.length ≤ 99000) :
    Calls Tryz.prog 28 #[.pointer (some ⟨q, 0, none⟩), .int .u64 key] w (DFlushPost w B q pw g F s P LM O key) := by
  obtain ⟨⟨p, FA, fc, hd⟩, hp, hf, hs, hB⟩ := h
  have hb0 : Below w.heap.size w (w.alloc (.cells #[.pointer (some ⟨q, 0, none⟩)] 32)) := (Below.refl _ _).alloc (Nat.le_refl _) _
  have o0 := heap_alloc_new w (.cells #[.pointer (some ⟨q, 0, none⟩)] 32)
  have hd3 := hd.below0 hb0
  have hp3 := hp.below0 hb0
  have HPF := flushperf_any (LM := LM) (O := O) (FA := FA) (fc := fc) key w.heap.size
    (fun er w' => er = 0 ∧ Dsk w' B q pw g F { (begD F s P key).s with f := wrap64 ((begD F s P key).s.f + 1) } (playL g LM (O.take O.length)) [] p FA fc ∧ PowM w' B pw (begD F s P key).P ∧ KeptT DAT B w w')
    hd3.obj hd3.px hp3 (KeptT.bel hb0) hd.c hd.fl hn (Nat.le_trans hB hb0.size) (fun W hm hk he => by
      refine (flushcl_any (begD F s P key).f w.heap.size _ (Dsk.of hm.o hm.x hd.c hd.fl hm.k) hf (Nat.le_trans hB hm.k.size) hon (Kept.obj hk o0 (KeptT.no (IsT.of o0) (by unfold DPT; decide)))).mono ?_
      rintro e w' ⟨rfl, hdd, hkw⟩
      exact ⟨_, rfl, rfl, hdd, hm.p.keptT hkw (by unfold DT; decide), (hm.k.sub dpt_dat).trans (hkw.sub dt_dat)⟩)
  have HMD : Hid (∀ W s' P', Mid w W B q pw g F.length fc p FA s' P' → DPm W B q pw g F s' P' LM O ∧ KeptT DAT B w W) := by
    unfold Hid; intro W s' P' hm
    exact ⟨⟨⟨p, FA, fc, Dsk.of hm.o hm.x hd.c hd.fl hm.k⟩, hm.p, hf, hs, Nat.le_trans hB hm.k.size⟩, hm.k.sub dpt_dat⟩
  have HF2 := Lib.hid hf
  have HS2 := Lib.hid hs
  have HP := Lib.hid HPF
  clear HPF hd hp hf hs hd3 hp3 o0
  by_cases he : (begD F s P key).er = 0
  · have HDS : Hid (dFlS F s P key = { (begD F s P key).s with f := wrap64 ((begD F s P key).s.f + 1) }) := by unfold Hid dFlS; rw [if_pos he]
    have HDL : Hid (dFlLM g F s P LM O key = playL g LM (O.take O.length)) := by unfold Hid dFlLM; rw [if_pos he]
    have HDO : Hid (dFlO F s P O key = []) := by unfold Hid dFlO; rw [if_pos he]
    have HE0 := Lib.hid he
    clear he
    go_enter Tryz.func28, Tryz.ntmps28
    go_wp2_with fail
    refine HP.out.mono ?_
    intro e w1 hpp
    unfold PerfPost at hpp
    rw [if_pos HE0.out] at hpp
    obtain ⟨er, rfl, rfl, hdd, hpw, hk'⟩ := hpp
    have HMM := Lib.hid (show DPm w1 B q pw g F { (begD F s P key).s with f := wrap64 ((begD F s P key).s.f + 1) } (begD F s P key).P (playL g LM (O.take O.length)) [] from ⟨⟨p, FA, fc, hdd⟩, hpw, HF2.out.len (playL_len _ _ _), short_play _ HS2.out, Nat.le_trans hB hk'.size⟩)
    clear hdd hpw
    go_wp2
    go_ret
    unfold DFlushPost
    rw [HE0.out, HDS.out, HDL.out, HDO.out]
    exact ⟨rfl, HMM.out, hk'⟩
  · have HDS : Hid (dFlS F s P key = (begD F s P key).s) := by unfold Hid dFlS; rw [if_neg he]
    have HDL : Hid (dFlLM g F s P LM O key = LM) := by unfold Hid dFlLM; rw [if_neg he]
    have HDO : Hid (dFlO F s P O key = O) := by unfold Hid dFlO; rw [if_neg he]
    have HE0 := Lib.hid he
    clear he
    go_enter Tryz.func28, Tryz.ntmps28
    go_wp2_with fail
    refine HP.out.mono ?_
    intro e w1 hpp
    unfold PerfPost at hpp
    rw [if_neg HE0.out] at hpp
    obtain ⟨rfl, hm, hkw⟩ := hpp
    have HMM := Lib.hid (HMD.out w1 _ _ hm)
    clear hm hkw
    go_wp2
    go_ret
    unfold DFlushPost
    rw [HDS.out, HDL.out, HDO.out]
    exact ⟨rfl, HMM.out.1, HMM.out.2⟩
def dErE (g : Geo) (F : List Flt) (s : DS) (P : Pow) (LM : List Sec) (O : List OpV) (key a : Int) : Int := if (begD F s P key).er = 0 then doE g (playL g LM O) ⟨true, a, [], none, 0⟩ else (begD F s P key).er
def dErS (g : Geo) (F : List Flt) (s : DS) (P : Pow) (LM : List Sec) (O : List OpV) (key a : Int) : DS := if (begD F s P key).er = 0 then erS g LM O a (begD F s P key).s else (begD F s P key).s
def dErO (g : Geo) (F : List Flt) (s : DS) (P : Pow) (LM : List Sec) (O : List OpV) (key a : Int) : List OpV := if (begD F s P key).er = 0 then erO g LM O a else O
def DErasePost (w : World) (B : Bd) (q pw : Nat) (g : Geo) (F : List Flt) (s : DS) (P : Pow) (LM : List Sec) (O : List OpV) (key a : Int) (e : Ending) (w' : World) : Prop :=
  e = .returned (.int .i64 (dErE g F s P LM O key a)) ∧ DPm w' B q pw g F (dErS g F s P LM O key a) (begD F s P key).P LM (dErO g F s P LM O key a) ∧ KeptT DAT B w w'
set_option maxRecDepth 100000 in
set_option maxHeartbeats 2000000 in
theorem derase_any (key a : Int) (ha : I64 a) (h : DPm w B q pw g F s P LM O) (hn : F.length ≤ 9223372036854775807) (hon : O.length ≤ 99000) :
    Calls Tryz.prog 27 #[.pointer (some ⟨q, 0, none⟩), .int .u64 key, .int .i64 a] w (DErasePost w B q pw g F s P LM O key a) := by
  obtain ⟨⟨p, FA, fc, hd⟩, hp, hf, hs, hB⟩ := h
  have hb0 : Below w.heap.size w ((w.alloc (.cells #[.pointer (some ⟨q, 0, none⟩)] 32)).alloc (.cells #[.int .i64 a] 3)) := ((Below.refl _ _).alloc (Nat.le_refl _) _).alloc (by simp) _
  have o0 : ((w.alloc (.cells #[.pointer (some ⟨q, 0, none⟩)] 32)).alloc (.cells #[.int .i64 a] 3)).heap[w.heap.size]? = some (.cells #[.pointer (some ⟨q, 0, none⟩)] 32 (0, 0)) := by
    rw [belObj (B := w.heap.size + 1) (w := w.alloc (.cells #[.pointer (some ⟨q, 0, none⟩)] 32)) ((Below.refl _ _).alloc (by simp) _) (heap_alloc_new w _) (by omega)]
  have o1 : ((w.alloc (.cells #[.pointer (some ⟨q, 0, none⟩)] 32)).alloc (.cells #[.int .i64 a] 3)).heap[w.heap.size + 1]? = some (.cells #[.int .i64 a] 3 (0, 0)) := by
    have := heap_alloc_new (w.alloc (.cells #[.pointer (some ⟨q, 0, none⟩)] 32)) (.cells #[.int .i64 a] 3)
    rw [World.size_alloc] at this
    exact this
  have hd3 := hd.below0 hb0
  have hp3 := hp.below0 hb0
  have HPF := eraseperf_any (LM := LM) (O := O) (FA := FA) (fc := fc) key w.heap.size (w.heap.size + 1)
    (fun er w' => er = doE g (playL g LM O) ⟨true, a, [], none, 0⟩ ∧ Dsk w' B q pw g F (erS g LM O a (begD F s P key).s) LM (erO g LM O a) p FA fc ∧ PowM w' B pw (begD F s P key).P ∧ KeptT DAT B w w')
    hd3.obj hd3.px hp3 (KeptT.bel hb0) hd.c hd.fl hn (Nat.le_trans hB hb0.size) (fun W hm hk he => by
      refine (erasecl_any (begD F s P key).f a ha w.heap.size (w.heap.size + 1) _ _ (Dsk.of hm.o hm.x hd.c hd.fl hm.k) hf (Nat.le_trans hB hm.k.size) hon (Kept.obj hk o0 (KeptT.no (IsT.of o0) (by unfold DPT; decide))) (Kept.obj hk o1 (KeptT.no (IsT.of o1) (by unfold DPT; decide)))).mono ?_
      rintro e w' ⟨rfl, hdd, hkw⟩
      exact ⟨_, rfl, rfl, hdd, hm.p.keptT hkw (by unfold DT; decide), (hm.k.sub dpt_dat).trans (hkw.sub dt_dat)⟩)
  have HMD : Hid (∀ W s' P', Mid w W B q pw g F.length fc p FA s' P' → DPm W B q pw g F s' P' LM O ∧ KeptT DAT B w W) := by
    unfold Hid; intro W s' P' hm
    exact ⟨⟨⟨p, FA, fc, Dsk.of hm.o hm.x hd.c hd.fl hm.k⟩, hm.p, hf, hs, Nat.le_trans hB hm.k.size⟩, hm.k.sub dpt_dat⟩
  have HF2 := Lib.hid hf
  have HS2 := Lib.hid hs
  have HP := Lib.hid HPF
  clear HPF hd hp hf hs hd3 hp3 o0 o1
  by_cases he : (begD F s P key).er = 0
  · have HE : Hid (dErE g F s P LM O key a = doE g (playL g LM O) ⟨true, a, [], none, 0⟩) := by unfold Hid dErE; rw [if_pos he]
    have HDS : Hid (dErS g F s P LM O key a = erS g LM O a (begD F s P key).s) := by unfold Hid dErS; rw [if_pos he]
    have HDO : Hid (dErO g F s P LM O key a = erO g LM O a) := by unfold Hid dErO; rw [if_pos he]
    have HE0 := Lib.hid he
    clear he
    go_enter Tryz.func27, Tryz.ntmps27
    go_wp2_with fail
    refine HP.out.mono ?_
    intro e w1 hpp
    unfold PerfPost at hpp
    rw [if_pos HE0.out] at hpp
    obtain ⟨er, rfl, rfl, hdd, hpw, hk'⟩ := hpp
    have HMM := Lib.hid (show DPm w1 B q pw g F (erS g LM O a (begD F s P key).s) (begD F s P key).P LM (erO g LM O a) from ⟨⟨p, FA, fc, hdd⟩, hpw, HF2.out, HS2.out, Nat.le_trans hB hk'.size⟩)
    clear hdd hpw
    go_wp2
    go_ret
    unfold DErasePost
    rw [HE.out, HDS.out, HDO.out]
    exact ⟨rfl, HMM.out, hk'⟩
  · have HE : Hid (dErE g F s P LM O key a = (begD F s P key).er) := by unfold Hid dErE; rw [if_neg he]
    have HDS : Hid (dErS g F s P LM O key a = (begD F s P key).s) := by unfold Hid dErS; rw [if_neg he]
    have HDO : Hid (dErO g F s P LM O key a = O) := by unfold Hid dErO; rw [if_neg he]
    have HE0 := Lib.hid he
    clear he
    go_enter Tryz.func27, Tryz.ntmps27
    go_wp2_with fail
    refine HP.out.mono ?_
    intro e w1 hpp
    unfold PerfPost at hpp
    rw [if_neg HE0.out] at hpp
    obtain ⟨rfl, hm, hkw⟩ := hpp
    have HMM := Lib.hid (HMD.out w1 _ _ hm)
    clear hm hkw
    go_wp2
    go_ret
    unfold DErasePost
    rw [HE.out, HDS.out, HDO.out]
    exact ⟨rfl, HMM.out.1, HMM.out.2⟩
end
end Go.Proofs.YtckdhhadlemakaaGreat
