/-
  WHAT IS SHOWN: what Read and Write of disk return and leave. Conditions: the disk lies in memory.
-/
import Derived.Test.YtckdhhadlemakaaGreatDisk5
import Derived.Test.YtckdhhadlemakaaGreatDisk6
namespace Go.Proofs.YtckdhhadlemakaaGreat
set_option linter.unusedVariables false
open Go.RowKit

def DAT : List TypeId := [133, 118, 120, 79, 83]
theorem dpt_dat : ∀ t, t ∈ DPT → t ∈ DAT := by unfold DPT DAT; decide
theorem dt_dat : ∀ t, t ∈ DT → t ∈ DAT := by unfold DT DAT; decide
/-- A disk and its power supply. -/
structure DPm (w : World) (B : Bd) (q pw : Nat) (g : Geo) (F : List Flt) (s : DS) (P : Pow) (LM : List Sec) (O : List OpV) : Prop where
  d : DiskM w B q pw g F s LM O
  p : PowM w B pw P
  f : Fit g LM
  s : ShortB LM
  B : B.top ≤ w.heap.size
section
variable {w w' : World} {B : Bd} {q pw : Nat} {g : Geo} {F : List Flt} {s : DS} {P : Pow} {LM : List Sec} {O : List OpV}
theorem DPm.below0 (h : DPm w B q pw g F s P LM O) (hk : Below w.heap.size w w') : DPm w' B q pw g F s P LM O := by
  obtain ⟨⟨p, FA, fc, hd⟩, hp, hf, hs, hB⟩ := h
  exact ⟨⟨p, FA, fc, hd.below0 hk⟩, hp.below0 hk, hf, hs, Nat.le_trans hB hk.size⟩
/-- What a read returns. -/
def dRdE (F : List Flt) (s : DS) (P : Pow) (LM : List Sec) (X : List Sec) (key a : Int) : Int := if (begD F s P key).er = 0 then rdE LM X a (begD F s P key).f else (begD F s P key).er
def dRdB (F : List Flt) (s : DS) (P : Pow) (LM : List Sec) (X : List Sec) (key a : Int) : List Int := if (begD F s P key).er = 0 then rdB LM X a (begD F s P key).f else []
def dRdS (F : List Flt) (s : DS) (P : Pow) (LM : List Sec) (X : List Sec) (key a : Int) : DS := if (begD F s P key).er = 0 then rdS LM X a (begD F s P key).f (begD F s P key).s else (begD F s P key).s
def DReadPost (w : World) (B : Bd) (q pw : Nat) (g : Geo) (F : List Flt) (s : DS) (P : Pow) (LM : List Sec) (O : List OpV) (key a : Int) (e : Ending) (w' : World) : Prop :=
  ∃ v, e = .returned (.tuple #[v, .int .i64 (dRdE F s P LM (playL g LM O) key a)]) ∧ Byt 5 w' v (dRdB F s P LM (playL g LM O) key a) ∧ DPm w' B q pw g F (dRdS F s P LM (playL g LM O) key a) (begD F s P key).P LM O ∧ KeptT DAT B w w'
theorem noI64 : I64 noF.to_ := ⟨by decide, by decide⟩
set_option maxRecDepth 100000 in
set_option maxHeartbeats 2000000 in
theorem dread_any (key a : Int) (h : DPm w B q pw g F s P LM O) (hn : F.length ≤ 9223372036854775807) : Calls Tryz.prog 19 #[.pointer (some ⟨q, 0, none⟩), .int .u64 key, .int .i64 a] w (DReadPost w B q pw g F s P LM O key a) := by
  obtain ⟨⟨p, FA, fc, hd⟩, hp, hf, hs, hB⟩ := h
  have hb0 : Below w.heap.size w (((w.alloc (.cells #[.pointer (some ⟨q, 0, none⟩)] 32)).alloc (.cells #[.int .i64 a] 3)).alloc (.cells #[.slice none 0 0] 53)) := (((Below.refl _ _).alloc (Nat.le_refl _) _).alloc (by simp) _).alloc (by simp; omega) _
  have o0 : (((w.alloc (.cells #[.pointer (some ⟨q, 0, none⟩)] 32)).alloc (.cells #[.int .i64 a] 3)).alloc (.cells #[.slice none 0 0] 53)).heap[w.heap.size]? = some (.cells #[.pointer (some ⟨q, 0, none⟩)] 32 (0, 0)) := by
    rw [belObj (B := w.heap.size + 1) (w := w.alloc (.cells #[.pointer (some ⟨q, 0, none⟩)] 32)) (((Below.refl _ _).alloc (by simp) _).alloc (by simp) _) (heap_alloc_new w _) (by omega)]
  have o1 : (((w.alloc (.cells #[.pointer (some ⟨q, 0, none⟩)] 32)).alloc (.cells #[.int .i64 a] 3)).alloc (.cells #[.slice none 0 0] 53)).heap[w.heap.size + 1]? = some (.cells #[.int .i64 a] 3 (0, 0)) := by
    have := heap_alloc_new (w.alloc (.cells #[.pointer (some ⟨q, 0, none⟩)] 32)) (.cells #[.int .i64 a] 3)
    rw [World.size_alloc] at this
    rw [belObj (B := w.heap.size + 2) (w := (w.alloc (.cells #[.pointer (some ⟨q, 0, none⟩)] 32)).alloc (.cells #[.int .i64 a] 3)) ((Below.refl _ _).alloc (by simp) _) this (by omega)]
  have o2 : (((w.alloc (.cells #[.pointer (some ⟨q, 0, none⟩)] 32)).alloc (.cells #[.int .i64 a] 3)).alloc (.cells #[.slice none 0 0] 53)).heap[w.heap.size + 1 + 1]? = some (.cells #[.slice none 0 0] 53 (0, 0)) := by
    have := heap_alloc_new ((w.alloc (.cells #[.pointer (some ⟨q, 0, none⟩)] 32)).alloc (.cells #[.int .i64 a] 3)) (.cells #[.slice none 0 0] 53)
    rw [World.size_alloc, World.size_alloc] at this
    exact this
  generalize hw3 : (((w.alloc (.cells #[.pointer (some ⟨q, 0, none⟩)] 32)).alloc (.cells #[.int .i64 a] 3)).alloc (.cells #[.slice none 0 0] 53)) = w3 at *
  have hd3 := hd.below0 hb0
  have hp3 := hp.below0 hb0
  have hz : w3.heap.size = w.heap.size + 3 := by rw [← hw3]; simp
  have HPF := readperf_any (LM := LM) (O := O) (FA := FA) (fc := fc) key w.heap.size (w.heap.size + 1) (w.heap.size + 1 + 1)
    (fun er w' => ReadCl w w' B q pw g F.length fc p (w.heap.size + 1 + 1) FA er (rdB LM (playL g LM O) a (begD F s P key).f) (rdS LM (playL g LM O) a (begD F s P key).f (begD F s P key).s) (.returned (.int .i64 er)) w' ∧ er = rdE LM (playL g LM O) a (begD F s P key).f ∧ PowM w' B pw (begD F s P key).P)
    hd3.obj hd3.px hp3 (KeptT.bel hb0) hd.c hd.fl hn (Nat.le_trans hB hb0.size) (fun W hm hk he => by
      have hk0 : w3.heap[w.heap.size + 1 + 1]? = some (.cells #[.slice none 0 0] 53 (0, 0)) := o2
      refine (readcl_any (begD F s P key).f a w.heap.size (w.heap.size + 1) (w.heap.size + 1 + 1) _ _ hm.o hm.x hd.c hd.fl hm.k hf hs (Kept.obj hk o0 (KeptT.no (IsT.of o0) (by unfold DPT; decide))) (Kept.obj hk o1 (KeptT.no (IsT.of o1) (by unfold DPT; decide))) (Kept.obj hk o2 (KeptT.no (IsT.of o2) (by unfold DPT; decide))) (by omega)).mono ?_
      rintro e w' ⟨rfl, hv, ho, hk', hkw⟩
      exact ⟨_, rfl, ⟨rfl, hv, ho, hk', KeptT.refl _ _ _⟩, rfl, hm.p.keptT hkw (by decide)⟩)
  have HOB : Hid (∀ W, KeptT DPT B w3 W → W.heap[w.heap.size + 1 + 1]? = some (.cells #[.slice none 0 0] 53 (0, 0))) := by
    unfold Hid; intro W hW; exact Kept.obj hW o2 (KeptT.no (IsT.of o2) (by unfold DPT; decide))
  have HPX : Hid (¬ B.X q) := hd.px
  have HMD : Hid (∀ W s' P', Mid w W B q pw g F.length fc p FA s' P' → DPm W B q pw g F s' P' LM O ∧ KeptT DAT B w W) := by
    unfold Hid; intro W s' P' hm
    exact ⟨⟨⟨p, FA, fc, Dsk.of hm.o hm.x hd.c hd.fl hm.k⟩, hm.p, hf, hs, Nat.le_trans hB hm.k.size⟩, hm.k.sub dpt_dat⟩
  have HP := Lib.hid HPF
  subst hw3
  clear HPF hd hp hf hs hd3 hp3 o0 o1 o2
  by_cases he : (begD F s P key).er = 0
  · have HE : Hid (dRdE F s P LM (playL g LM O) key a = rdE LM (playL g LM O) a (begD F s P key).f) := by unfold Hid dRdE; rw [if_pos he]
    have HBY : Hid (dRdB F s P LM (playL g LM O) key a = rdB LM (playL g LM O) a (begD F s P key).f) := by unfold Hid dRdB; rw [if_pos he]
    have HDS : Hid (dRdS F s P LM (playL g LM O) key a = rdS LM (playL g LM O) a (begD F s P key).f (begD F s P key).s) := by unfold Hid dRdS; rw [if_pos he]
    have HE0 := Lib.hid he
    clear he
    go_enter Tryz.func19, Tryz.ntmps19
    go_wp2_with fail
    refine HP.out.mono ?_
    intro e w1 hpp
    unfold PerfPost at hpp
    rw [if_pos HE0.out] at hpp
    obtain ⟨er, rfl, ⟨_, ⟨v, hv, hby⟩, ho, hk', _⟩, rfl, hpw⟩ := hpp
    have x0 := cell_of_one hv
    have HMM := Lib.hid (HMD.out w1 _ _ ⟨ho, hpw, hk', HPX.out⟩)
    have HV := Lib.hid hby
    clear hv ho hby hpw hk'
    go_wp2
    go_ret2
    exact ⟨v, by rw [HE.out]; rfl, by rw [HBY.out]; exact HV.out, by rw [HDS.out]; exact HMM.out.1, HMM.out.2⟩
  · have HE : Hid (dRdE F s P LM (playL g LM O) key a = (begD F s P key).er) := by unfold Hid dRdE; rw [if_neg he]
    have HBY : Hid (dRdB F s P LM (playL g LM O) key a = []) := by unfold Hid dRdB; rw [if_neg he]
    have HDS : Hid (dRdS F s P LM (playL g LM O) key a = (begD F s P key).s) := by unfold Hid dRdS; rw [if_neg he]
    have HE0 := Lib.hid he
    clear he
    go_enter Tryz.func19, Tryz.ntmps19
    go_wp2_with fail
    refine HP.out.mono ?_
    intro e w1 hpp
    unfold PerfPost at hpp
    rw [if_neg HE0.out] at hpp
    obtain ⟨rfl, hm, hkw⟩ := hpp
    have x0 := cell_of_one (HOB.out w1 hkw)
    have HMM := Lib.hid (HMD.out w1 _ _ hm)
    clear hm hkw
    go_wp2
    go_ret2
    exact ⟨_, by rw [HE.out]; rfl, by rw [HBY.out]; exact Byt.nil _ _, by rw [HDS.out]; exact HMM.out.1, HMM.out.2⟩
end
end Go.Proofs.YtckdhhadlemakaaGreat
