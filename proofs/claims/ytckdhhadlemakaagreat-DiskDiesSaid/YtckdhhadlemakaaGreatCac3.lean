/-
  WHAT IS SHOWN: what Cut and Flush of a cache leave. Conditions: the cache lies in memory.
-/
import Derived.Test.YtckdhhadlemakaaGreatCac2
import Derived.BigQuiet
namespace Go.Proofs.YtckdhhadlemakaaGreat
set_option linter.unusedVariables false
open Go.RowKit

section
variable {w w' : World} {S : Nat → Prop} {B : Bd} {p : Nat} {g : Geo} {LM : List Sec} {ops : List OpV}
/-- What a cut leaves. -/
def CutPost (w : World) (B : Bd) (p : Nat) (g : Geo) (LM : List Sec) (ops : List OpV) (n : Nat) (e : Ending) (w' : World) : Prop :=
  e = .returned (.tuple #[]) ∧ CacheM w' B p g (playL g LM (ops.take n)) [] ∧ KeptT CT B w w'
section
variable {m1 b1 m2 b2 : Nat} {A : Option Addr} {c : Nat} {F : List Value}
theorem cac_cut {w1 : World} {L' : List Sec} (h : Cac w B p g LM ops m1 b1 m2 b2 A c F) (hm : Med w1 m1 b1 g L') (hk : Kept (fun k => k = b1) w w1) :
    (w1.setCell ⟨p, 2, none⟩ (.slice none 0 0)).ownsRow B.n 118 3 (.slice (some ⟨p, 0, none⟩) 1 1) 1 [.pointer (some ⟨m1, 0, none⟩), .pointer (some ⟨m2, 0, none⟩), .slice none 0 0] ∧
    Med (w1.setCell ⟨p, 2, none⟩ (.slice none 0 0)) m1 b1 g L' ∧ Med (w1.setCell ⟨p, 2, none⟩ (.slice none 0 0)) m2 b2 g (playL g LM ops) ∧ KeptT CT B w (w1.setCell ⟨p, 2, none⟩ (.slice none 0 0)) := by
  have t1 := h.med1.types
  have t2 := h.med2.types
  have tp := h.typ
  have hlow := h.low
  have hpb : ¬ (p = b1) := tp.ne t1.2 (by decide)
  have hobj := own_kept h.obj hk (fun k e => by simp [Value.ownBlock] at e; subst e; exact hpb)
  have tp1 : IsT 118 w1 p := IsT.own hobj
  have hk2 : Kept (fun k => k = b1 ∨ k = p) w (w1.setCell ⟨p, 2, none⟩ (.slice none 0 0)) :=
    (hk.more (T := fun k => k = b1 ∨ k = p) (fun _ _ h => .inl h)).setCell (p := ⟨p, 2, none⟩) (fun _ => .inr rfl) _
  have hk1 : Kept (fun k => k = p) w1 (w1.setCell ⟨p, 2, none⟩ (.slice none 0 0)) := (Kept.refl (fun k => k = p) _).setCell (p := ⟨p, 2, none⟩) (fun _ => rfl) _
  refine ⟨?_, ?_, ?_, ?_⟩
  · have := (World.ownsRow.stored hobj 2 (.slice none 0 0)).1
    simpa using this
  · exact hm.kept hk1 (hm.types.1.ne tp1 (by decide)) (hm.types.2.ne tp1 (by decide)) (FreeF.one tp1 (by decide) (by decide) (by decide)).2.2
  · exact h.med2.kept hk2 (fun e => e.elim (t2.1.ne t1.2 (by decide)) (t2.1.ne tp (by decide))) (fun e => e.elim (fun e => h.ne e.symm) (t2.2.ne tp (by decide)))
      ((FreeF.one t1.2 (by decide) (by decide) (by decide)).or (FreeF.one tp (by decide) (by decide) (by decide))).2.2
  · refine KeptT.of hk2 (fun k _ hs => ?_)
    rcases hs with e | e
    · subst e; exact ⟨h.lb1, HasT.mem t1.2 (by simp [CT])⟩
    · subst e; exact ⟨hlow, HasT.mem tp (by simp [CT])⟩
theorem own_nil (w : World) (B : Nat) (t : TypeId) : w.ownsRow B t 1 (.slice none 0 0) 0 [] := ⟨rfl, .inl ⟨rfl, rfl⟩⟩
theorem cac_lost {w2 w3 : World} {L' : List Sec} {m b : Nat} (hB : B.top ≤ w2.heap.size) (h1 : B.has b1) (hr : w2.ownsRow B.n 118 3 (.slice (some ⟨p, 0, none⟩) 1 1) 1 [.pointer (some ⟨m1, 0, none⟩), .pointer (some ⟨m2, 0, none⟩), .slice none 0 0])
    (hm : Med w2 m1 b1 g L') (hbl : Below w2.heap.size w2 w3) (hm' : Med w3 m b g L') (hb : w2.heap.size ≤ b) (hlow : B.has p) :
    CacheM (w3.setCell ⟨p, 1, none⟩ (.pointer (some ⟨m, 0, none⟩))) B p g L' [] ∧ KeptT CT B w2 (w3.setCell ⟨p, 1, none⟩ (.pointer (some ⟨m, 0, none⟩))) := by
  have hr3 := own_kept hr (belKept0 (S := fun _ => False) hbl) (fun _ _ h => h)
  have tp := IsT.own hr3
  have hm3 := hm.below0 hbl
  have hk1 : Kept (fun k => k = p) w3 (w3.setCell ⟨p, 1, none⟩ (.pointer (some ⟨m, 0, none⟩))) := (Kept.refl (fun k => k = p) _).setCell (p := ⟨p, 1, none⟩) (fun _ => rfl) _
  have hf := (FreeF.one tp (by decide) (by decide) (by decide)).2.2
  have hlt := hm.lt
  refine ⟨⟨m1, b1, m, b, none, 0, [], ?_, hlow.2, fun k e => by simp [Value.ownBlock] at e, h1, Bd.fresh (Nat.le_trans hB hb), by omega, hm3.kept hk1 (hm3.types.1.ne tp (by decide)) (hm3.types.2.ne tp (by decide)) hf, hm'.kept hk1 (hm'.types.1.ne tp (by decide)) (hm'.types.2.ne tp (by decide)) hf, own_nil _ _ _, fun i o ho => by simp at ho⟩, ?_⟩
  · have := (World.ownsRow.stored hr3 1 (.pointer (some ⟨m, 0, none⟩))).1
    simpa using this
  · exact (KeptT.bel hbl).trans (KeptT.of hk1 (fun k _ hs => by have e : k = p := hs; subst e; exact ⟨hlow, HasT.mem tp (by simp [CT])⟩))
end
set_option maxRecDepth 100000 in
set_option maxHeartbeats 1000000 in
theorem ccut_any (keep : Int) (h : CacheM w B p g LM ops) (hf : Fit g LM) (hB : B.top ≤ w.heap.size) (hn : ops.length ≤ 100000) :
    Calls Tryz.prog 39 #[.pointer (some ⟨p, 0, none⟩), .int .i64 keep] w (CutPost w B p g LM ops (cutN keep ops.length)) := by
  obtain ⟨m1, b1, m2, b2, A, c, F, h⟩ := h
  obtain ⟨c0, c1, c2⟩ := h.cells
  have hcc : ops.length ≤ c := by
    rcases h.own.2 with ⟨h2, h3⟩ | ⟨g', cap, cur, e1, _, _, e4, _⟩
    · omega
    · injection e1 with _ _ e1; subst e1; exact e4
  have hNL : Hid (decide (keep < (ops.length : Int)) = false → cutN keep ops.length = ops.length) := by
    unfold Hid; intro h; exact cutN_all (of_decide_eq_false h)
  obtain ⟨K, e1⟩ : ∃ K, (if keep < 0 then (0 : Int) else keep) = K := ⟨_, rfl⟩
  have e2 : (if (ops.length : Int) < K then (ops.length : Int) else K) = (cutN keep ops.length : Nat) := by
    unfold cutN; subst e1; split <;> split <;> omega
  have hnl := cutN_le keep ops.length
  generalize cutN keep ops.length = n at *
  have n0 : (0 : Int) ≤ n := by omega
  have n1 : (n : Int) ≤ c := by omega
  have hpb : ¬ (p = b1) := h.typ.ne h.med1.types.2 (by decide)
  have hlow := h.low
  have HF := Lib.hid hf
  have H := Lib.hid h
  have hm1 := h.med1
  have hlb1 := h.lb1
  clear hf h
  go_enter Tryz.func39, Tryz.ntmps39
  go_wp2
  go_quiet (fail)
  have hkq : Kept (fun k => k = b1) w (w.drewN nq) := (Kept.refl (fun k => k = b1) w).drewN nq
  have hmq : Med (w.drewN nq) m1 b1 g LM := hm1.kept ((Kept.refl (fun _ => False) w).drewN nq) (fun h => h) (fun h => h) (Free.none _ _)
  generalize w.drewN nq = wq at *
  generalize decide (keep < (ops.length : Int)) = lo at *
  clear e1 e2 hm1
  go_wp2
  go_loopw [6, 30] (fun x v wr => ∃ k : Nat, k ≤ n ∧ v = .int .i64 k ∧ Med wr m1 b1 g (playL g LM (ops.take k)) ∧ Kept (fun k => k = b1) w wr) (fun _ v _ => n - (intOf v).toNat)
  case atStart => exact ⟨0, Nat.zero_le _, rfl, hmq, hkq⟩
  case round =>
    obtain ⟨k, hk, rfl, hmr, hkr⟩ := hrel
    by_cases hlt : k < n
    · have hop : k < ops.length := by omega
      obtain ⟨v, hv, hF⟩ := H.out.fn k _ (List.getElem?_eq_getElem hop)
      obtain ⟨q, rfl, hq, _⟩ := own_at H.out.own (by omega)
      have tq := H.out.typA q rfl
      have hqb : ¬ (q = b1) := tq.1.ne H.out.med1.types.2 (by decide)
      have hcq : w.cell? ⟨q, k, none⟩ = some v := by
        rw [World.ownsRow.cellAt H.out.own k (by omega)]; exact hv
      have hcr := hkr.cell hcq hqb
      have hT := Lib.hid (playL_take g LM ops k hop)
      have hFr := hF.kept hkr (FreeF.one H.out.med1.types.2 (by decide) (by decide) (by decide))
      have hfn := fn_any hFr hmr (HF.out.len (playL_len _ _ _))
      have d0 := (hkr.cell c0 hpb)
      have k0 : (0 : Int) ≤ k := by omega
      have k1 : (k : Int) < n := by omega
      generalize playL g LM (ops.take k) = X at *
      generalize ops[k] = o at *
      clear hF hFr hv hmr hcq
      rcases hfn with ⟨pa, rfl, hc⟩ | ⟨pa, pb, rfl, hc⟩
      · have HC := Lib.hid hc
        clear hc
        go_wp2_with fail
        refine HC.out.mono ?_
        rintro e w1 ⟨rfl, hm1, hk1⟩
        have hk2 := hkr.trans hk1 (fun _ _ h => h)
        have HM1 := Lib.hid hm1
        clear hm1 hk1 hcr d0
        go_wp2
        go_roundw
        case rel => exact ⟨k + 1, by omega, by go_num, by rw [hT.out]; exact HM1.out, hk2⟩
        case measure => simp [intOf]; omega
      · have HC := Lib.hid hc
        clear hc
        go_wp2_with fail
        refine HC.out.mono ?_
        rintro e w1 ⟨rfl, hm1, hk1⟩
        have hk2 := hkr.trans hk1 (fun _ _ h => h)
        have HM1 := Lib.hid hm1
        clear hm1 hk1 hcr d0
        go_wp2
        go_roundw
        case rel => exact ⟨k + 1, by omega, by go_num, by rw [hT.out]; exact HM1.out, hk2⟩
        case measure => simp [intOf]; omega
    · obtain rfl : k = n := by omega
      obtain ⟨hr2, hm2, hm2', hk2⟩ := cac_cut H.out hmr hkr
      have hobj := own_kept H.out.obj hkr (fun k e => by simp [Value.ownBlock] at e; subst e; exact hpb)
      have d2 : wr.cell? ⟨p, 2, none⟩ = some (.slice A ops.length c) := (World.ownsRow.cellAt hobj 2 (by decide)).trans rfl
      have f2 := hobj.frozenAt 2
      have hsz : w.heap.size ≤ (wr.setCell ⟨p, 2, none⟩ (.slice none 0 0)).heap.size := hk2.size
      cases lo
      · have hn' := hNL.out rfl
        have HC : Hid (CacheM (wr.setCell ⟨p, 2, none⟩ (.slice none 0 0)) B p g (playL g LM (ops.take k)) []) := by
          unfold Hid
          refine ⟨m1, b1, m2, b2, none, 0, [], hr2, hlow.2, fun k e => by simp [Value.ownBlock] at e, hlb1, H.out.lb2, H.out.ne, hm2, ?_, own_nil _ _ _, fun i o ho => by simp at ho⟩
          rw [hn', List.take_of_length_le (Nat.le_refl _)]; exact hm2'
        clear hmr hkr hr2 hm2 hm2' hmq hkq hobj hn'
        go_wp2
        go_end0
        exact ⟨rfl, HC.out, hk2⟩
      · have HLST := Lib.hid (fun w3 m b hbl hm' hb => cac_lost (w3 := w3) (m := m) (b := b) (Nat.le_trans hB hsz) hlb1 hr2 hm2 hbl hm' hb hlow)
        have HCL := Lib.hid (clone_any hm2 (HF.out.len (playL_len _ _ _)))
        have s0 : (wr.setCell ⟨p, 2, none⟩ (.slice none 0 0)).cell? ⟨p, 0, none⟩ = some (.pointer (some ⟨m1, 0, none⟩)) := (World.ownsRow.cellAt hr2 0 (by decide)).trans rfl
        have HRO := Lib.hid hr2
        have hk2' := hk2
        clear hmr hkr hr2 hm2 hm2' hmq hkq hobj
        go_wp2_with fail
        refine HCL.out.mono ?_
        rintro e w3 ⟨m3, b3, rfl, hm3, hmm3, hbb3, hb3⟩
        have hr3 := own_kept HRO.out (belKept0 (S := fun _ => False) hb3) (fun _ _ h => h)
        have r1 : w3.cell? ⟨p, 1, none⟩ = some (.pointer (some ⟨m2, 0, none⟩)) := (World.ownsRow.cellAt hr3 1 (by decide)).trans rfl
        have r2 := hr3.frozenAt 1
        have HL := Lib.hid (HLST.out w3 m3 b3 hb3 hm3 hbb3)
        clear hm3 hb3 hr3 s0
        go_wp2
        go_end0
        exact ⟨rfl, HL.out.1, hk2.trans HL.out.2⟩
set_option maxHeartbeats 400000 in
theorem cflush_any (h : CacheM w B p g LM ops) (hf : Fit g LM) (hB : B.top ≤ w.heap.size) (hn : ops.length ≤ 100000) :
    Calls Tryz.prog 55 #[.pointer (some ⟨p, 0, none⟩)] w (CutPost w B p g LM ops ops.length) := by
  have HC := Lib.hid (ccut_any (ops.length : Int) h hf hB hn)
  have hnn : cutN (ops.length : Int) ops.length = ops.length := cutN_all (by omega)
  rw [hnn] at HC
  obtain ⟨m1, b1, m2, b2, A, c, F, h⟩ := h
  obtain ⟨c0, c1, c2⟩ := h.cells
  clear h hf hnn
  go_enter Tryz.func55, Tryz.ntmps55
  go_wp2_with fail
  refine HC.out.mono ?_
  rintro e w1 ⟨rfl, h1, hk1⟩
  go_wp2
  go_end0
  exact ⟨rfl, h1, hk1⟩
end
end Go.Proofs.YtckdhhadlemakaaGreat
