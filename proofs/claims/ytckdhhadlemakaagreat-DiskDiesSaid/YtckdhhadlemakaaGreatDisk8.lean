/-
  WHAT IS SHOWN: what Write of disk returns and leaves. Conditions: the disk lies in memory; the bytes can be read.
-/
import Derived.Test.YtckdhhadlemakaaGreatDisk7
namespace Go.Proofs.YtckdhhadlemakaaGreat
set_option linter.unusedVariables false
open Go.RowKit

section
variable {w w' : World} {B : Bd} {q pw : Nat} {g : Geo} {F : List Flt} {s : DS} {P : Pow} {LM : List Sec} {O : List OpV}
def dWrE (F : List Flt) (s : DS) (P : Pow) (LM : List Sec) (key a : Int) (xs : List Int) : Int := if (begD F s P key).er = 0 then wrE LM a xs else (begD F s P key).er
def dWrS (F : List Flt) (s : DS) (P : Pow) (LM : List Sec) (key a : Int) (xs : List Int) : DS := if (begD F s P key).er = 0 then wrS LM a xs (begD F s P key).s else (begD F s P key).s
def dWrLM (g : Geo) (F : List Flt) (s : DS) (P : Pow) (LM : List Sec) (O : List OpV) (key a : Int) (xs : List Int) (force : Bool) : List Sec := if (begD F s P key).er = 0 then wrLM g LM O a xs force (begD F s P key).f else LM
def dWrO (g : Geo) (F : List Flt) (s : DS) (P : Pow) (LM : List Sec) (O : List OpV) (key a : Int) (xs : List Int) (force : Bool) : List OpV := if (begD F s P key).er = 0 then wrO g LM O a xs force (begD F s P key).f else O
def DWritePost (w : World) (B : Bd) (q pw : Nat) (g : Geo) (F : List Flt) (s : DS) (P : Pow) (LM : List Sec) (O : List OpV) (key a : Int) (xs : List Int) (force : Bool) (e : Ending) (w' : World) : Prop :=
  e = .returned (.int .i64 (dWrE F s P LM key a xs)) ∧ DPm w' B q pw g F (dWrS F s P LM key a xs) (begD F s P key).P (dWrLM g F s P LM O key a xs force) (dWrO g F s P LM O key a xs force) ∧ KeptT DAT B w w'
theorem wrLM_len (g : Geo) (LM : List Sec) (O : List OpV) (a : Int) (xs : List Int) (force : Bool) (f : Flt) : (wrLM g LM O a xs force f).length = LM.length := by
  unfold wrLM; split
  · exact playL_len _ _ _
  · rfl
theorem wrLM_short {g : Geo} {LM : List Sec} (O : List OpV) (a : Int) (xs : List Int) (force : Bool) (f : Flt) (h : ShortB LM) : ShortB (wrLM g LM O a xs force f) := by
  unfold wrLM; split
  · exact short_play _ h
  · exact h
set_option maxRecDepth 100000 in
set_option maxHeartbeats 2000000 in
theorem dwrite_any (key a : Int) (xs : List Int) (force : Bool) (A : Option Addr) (c : Nat) (h : DPm w B q pw g F s P LM O) (hn : F.length ≤ 9223372036854775807) (hon : O.length ≤ 99000) (hai : I64 a) (hfi : I64 (begD F s P key).f.to_) (hr : ∀ W, KeptT DPT B w W → Rd W W.heap.size A (xs.map (Value.int .u8))) (hx : xs.length ≤ 100000) (hc : xs.length ≤ c) :
    Calls Tryz.prog 18 #[.pointer (some ⟨q, 0, none⟩), .int .u64 key, .int .i64 a, .slice A xs.length c, .bool force] w (DWritePost w B q pw g F s P LM O key a xs force) := by
  obtain ⟨⟨p, FA, fc, hd⟩, hp, hf, hs, hB⟩ := h
  have hb0 : Below w.heap.size w ((((w.alloc (.cells #[.pointer (some ⟨q, 0, none⟩)] 32)).alloc (.cells #[.int .i64 a] 3)).alloc (.cells #[.slice A xs.length c] 53)).alloc (.cells #[.bool force] 4)) := ((((Below.refl _ _).alloc (Nat.le_refl _) _).alloc (by simp) _).alloc (by first | (simp; done) | (simp; omega)) _).alloc (by first | (simp; done) | (simp; omega)) _
  have o0 : ((((w.alloc (.cells #[.pointer (some ⟨q, 0, none⟩)] 32)).alloc (.cells #[.int .i64 a] 3)).alloc (.cells #[.slice A xs.length c] 53)).alloc (.cells #[.bool force] 4)).heap[w.heap.size]? = some (.cells #[.pointer (some ⟨q, 0, none⟩)] 32 (0, 0)) := by
    rw [belObj (B := w.heap.size + 1) (w := w.alloc (.cells #[.pointer (some ⟨q, 0, none⟩)] 32)) ((((Below.refl _ _).alloc (by simp) _).alloc (by simp) _).alloc (by first | (simp; done) | (simp; omega)) _) (heap_alloc_new w _) (by omega)]
  have o1 : ((((w.alloc (.cells #[.pointer (some ⟨q, 0, none⟩)] 32)).alloc (.cells #[.int .i64 a] 3)).alloc (.cells #[.slice A xs.length c] 53)).alloc (.cells #[.bool force] 4)).heap[w.heap.size + 1]? = some (.cells #[.int .i64 a] 3 (0, 0)) := by
    have := heap_alloc_new (w.alloc (.cells #[.pointer (some ⟨q, 0, none⟩)] 32)) (.cells #[.int .i64 a] 3)
    rw [World.size_alloc] at this
    rw [belObj (B := w.heap.size + 2) (w := (w.alloc (.cells #[.pointer (some ⟨q, 0, none⟩)] 32)).alloc (.cells #[.int .i64 a] 3)) (((Below.refl _ _).alloc (by simp) _).alloc (by simp) _) this (by omega)]
  have o2 : ((((w.alloc (.cells #[.pointer (some ⟨q, 0, none⟩)] 32)).alloc (.cells #[.int .i64 a] 3)).alloc (.cells #[.slice A xs.length c] 53)).alloc (.cells #[.bool force] 4)).heap[w.heap.size + 1 + 1]? = some (.cells #[.slice A xs.length c] 53 (0, 0)) := by
    have := heap_alloc_new ((w.alloc (.cells #[.pointer (some ⟨q, 0, none⟩)] 32)).alloc (.cells #[.int .i64 a] 3)) (.cells #[.slice A xs.length c] 53)
    rw [World.size_alloc, World.size_alloc] at this
    rw [belObj (B := w.heap.size + 3) (w := ((w.alloc (.cells #[.pointer (some ⟨q, 0, none⟩)] 32)).alloc (.cells #[.int .i64 a] 3)).alloc (.cells #[.slice A xs.length c] 53)) ((Below.refl _ _).alloc (by simp) _) this (by omega)]
  have o3 : ((((w.alloc (.cells #[.pointer (some ⟨q, 0, none⟩)] 32)).alloc (.cells #[.int .i64 a] 3)).alloc (.cells #[.slice A xs.length c] 53)).alloc (.cells #[.bool force] 4)).heap[w.heap.size + 1 + 1 + 1]? = some (.cells #[.bool force] 4 (0, 0)) := by
    have := heap_alloc_new (((w.alloc (.cells #[.pointer (some ⟨q, 0, none⟩)] 32)).alloc (.cells #[.int .i64 a] 3)).alloc (.cells #[.slice A xs.length c] 53)) (.cells #[.bool force] 4)
    rw [World.size_alloc, World.size_alloc, World.size_alloc] at this
    exact this
  generalize hw3 : ((((w.alloc (.cells #[.pointer (some ⟨q, 0, none⟩)] 32)).alloc (.cells #[.int .i64 a] 3)).alloc (.cells #[.slice A xs.length c] 53)).alloc (.cells #[.bool force] 4)) = w3 at *
  have hd3 := hd.below0 hb0
  have hp3 := hp.below0 hb0
  have HPF := writeperf_any (LM := LM) (O := O) (FA := FA) (fc := fc) key w.heap.size (w.heap.size + 1) (w.heap.size + 1 + 1) (w.heap.size + 1 + 1 + 1)
    (fun er w' => er = wrE LM a xs ∧ Dsk w' B q pw g F (wrS LM a xs (begD F s P key).s) (wrLM g LM O a xs force (begD F s P key).f) (wrO g LM O a xs force (begD F s P key).f) p FA fc ∧ PowM w' B pw (begD F s P key).P ∧ KeptT DAT B w w')
    hd3.obj hd3.px hp3 (KeptT.bel hb0) hd.c hd.fl hn (Nat.le_trans hB hb0.size) (fun W hm hk he => by
      have hrW : Rd W W.heap.size A (xs.map (Value.int .u8)) := by
        exact hr W ((KeptT.bel hb0).trans hk)
      refine (writecl_any (begD F s P key).f a xs force A c w.heap.size (w.heap.size + 1) (w.heap.size + 1 + 1) (w.heap.size + 1 + 1 + 1) _ _ _ _ (Dsk.of hm.o hm.x hd.c hd.fl hm.k) hf (Nat.le_trans hB hm.k.size) hon hai hfi hrW hx hc (Kept.obj hk o0 (KeptT.no (IsT.of o0) (by unfold DPT; decide))) (Kept.obj hk o1 (KeptT.no (IsT.of o1) (by unfold DPT; decide))) (Kept.obj hk o2 (KeptT.no (IsT.of o2) (by unfold DPT; decide))) (Kept.obj hk o3 (KeptT.no (IsT.of o3) (by unfold DPT; decide)))).mono ?_
      rintro e w' ⟨rfl, hdd, hkw⟩
      exact ⟨_, rfl, rfl, hdd, hm.p.keptT hkw (by unfold DT; decide), (hm.k.sub dpt_dat).trans (hkw.sub dt_dat)⟩)
  have HMD : Hid (∀ W s' P', Mid w W B q pw g F.length fc p FA s' P' → DPm W B q pw g F s' P' LM O ∧ KeptT DAT B w W) := by
    unfold Hid; intro W s' P' hm
    exact ⟨⟨⟨p, FA, fc, Dsk.of hm.o hm.x hd.c hd.fl hm.k⟩, hm.p, hf, hs, Nat.le_trans hB hm.k.size⟩, hm.k.sub dpt_dat⟩
  have HF2 := Lib.hid hf
  have HS2 := Lib.hid hs
  have HP := Lib.hid HPF
  subst hw3
  clear HPF hd hp hf hs hd3 hp3 o0 o1 o2 o3 hr
  by_cases he : (begD F s P key).er = 0
  · have HE : Hid (dWrE F s P LM key a xs = wrE LM a xs) := by unfold Hid dWrE; rw [if_pos he]
    have HDS : Hid (dWrS F s P LM key a xs = wrS LM a xs (begD F s P key).s) := by unfold Hid dWrS; rw [if_pos he]
    have HDL : Hid (dWrLM g F s P LM O key a xs force = wrLM g LM O a xs force (begD F s P key).f) := by unfold Hid dWrLM; rw [if_pos he]
    have HDO : Hid (dWrO g F s P LM O key a xs force = wrO g LM O a xs force (begD F s P key).f) := by unfold Hid dWrO; rw [if_pos he]
    have HE0 := Lib.hid he
    clear he
    go_enter Tryz.func18, Tryz.ntmps18
    go_wp2_with fail
    refine HP.out.mono ?_
    intro e w1 hpp
    unfold PerfPost at hpp
    rw [if_pos HE0.out] at hpp
    obtain ⟨er, rfl, rfl, hdd, hpw, hk'⟩ := hpp
    have HMM := Lib.hid (show DPm w1 B q pw g F (wrS LM a xs (begD F s P key).s) (begD F s P key).P (wrLM g LM O a xs force (begD F s P key).f) (wrO g LM O a xs force (begD F s P key).f) from ⟨⟨p, FA, fc, hdd⟩, hpw, HF2.out.len (wrLM_len _ _ _ _ _ _ _), wrLM_short _ _ _ _ _ HS2.out, Nat.le_trans hB hk'.size⟩)
    clear hdd hpw
    go_wp2
    go_ret
    exact ⟨by rw [HE.out]; rfl, by rw [HDS.out, HDL.out, HDO.out]; exact HMM.out, hk'⟩
  · have HE : Hid (dWrE F s P LM key a xs = (begD F s P key).er) := by unfold Hid dWrE; rw [if_neg he]
    have HDS : Hid (dWrS F s P LM key a xs = (begD F s P key).s) := by unfold Hid dWrS; rw [if_neg he]
    have HDL : Hid (dWrLM g F s P LM O key a xs force = LM) := by unfold Hid dWrLM; rw [if_neg he]
    have HDO : Hid (dWrO g F s P LM O key a xs force = O) := by unfold Hid dWrO; rw [if_neg he]
    have HE0 := Lib.hid he
    clear he
    go_enter Tryz.func18, Tryz.ntmps18
    go_wp2_with fail
    refine HP.out.mono ?_
    intro e w1 hpp
    unfold PerfPost at hpp
    rw [if_neg HE0.out] at hpp
    obtain ⟨rfl, hm, hkw⟩ := hpp
    have HMM := Lib.hid (HMD.out w1 _ _ hm)
    clear hm hkw
    go_wp2
    go_ret
    exact ⟨by rw [HE.out]; rfl, by rw [HDS.out, HDL.out, HDO.out]; exact HMM.out.1, HMM.out.2⟩
end
end Go.Proofs.YtckdhhadlemakaaGreat
