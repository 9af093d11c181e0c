/-
  WHAT IS SHOWN: what Contents, New, Clone, Cut and Flush of the reference's cache return and leave. Conditions: the cache lies in memory.
-/
import Derived.Test.YtckdhhadlemakaaGreatCac4
namespace Go.Proofs.YtckdhhadlemakaaGreat
set_option linter.unusedVariables false
open Go.RowKit

section
variable {w w' : World} {S : Nat → Prop} {B : Bd} {p : Nat} {g : Geo} {LM : List Sec} {ops : List OpV}
theorem RCac.opok {l : List OpV} {m b : Nat} {A : Option Addr} {c : Nat} (h : RCac w B p g LM l m b A c) (hk : Below w.heap.size w w') {o : OpV} (ho : o ∈ l) : OpOk w' w.heap.size o := by
  obtain ⟨h1, h2, h3⟩ := h.op o ho
  exact ⟨h1, h3.rd.below hk (Nat.le_refl _), h2⟩
set_option maxRecDepth 100000 in
set_option maxHeartbeats 1000000 in
theorem rcontents_any (h : RCacheM w B p g LM ops) (hf : Fit g LM) (hn : ops.length ≤ 100000) : Calls Tryz.prog 44 #[.pointer (some ⟨p, 0, none⟩)] w (RClonePost w g (playL g LM ops)) := by
  obtain ⟨l, m, b, A, c, rfl, h⟩ := h
  rw [playL_bare]
  rw [List.length_map] at hn
  obtain ⟨c0, c1⟩ := h.cells
  have hlp := h.lt
  have HC := Lib.hid (rclone_any h.med hf)
  have HRD := Lib.hid h.rd.rd
  have HOK : Hid (∀ W, Below w.heap.size w W → ∀ o ∈ l, OpOk W w.heap.size o) := by
    unfold Hid; intro W hW o ho; exact h.opok hW ho
  have HF := Lib.hid hf
  clear h hf
  go_enter Tryz.func44, Tryz.ntmps44
  go_wp2_with fail
  refine HC.out.mono ?_
  rintro e w1 ⟨m1, b1, rfl, hm1, hmm1, hbb1, hb1⟩
  go_wp2
  go_loopw [4] (fun v wr => ∃ k : Nat, k ≤ l.length ∧ v = .int .i64 k ∧ RMed wr m1 b1 g (playL g LM (l.take k)) ∧ Kept (fun k => k = b1) w1 wr) (fun v _ => l.length - (intOf v).toNat)
  case atStart => exact ⟨0, Nat.zero_le _, rfl, hm1, Kept.refl _ _⟩
  case round =>
    obtain ⟨k, hk, rfl, hmr, hkr⟩ := hrel
    have hblr : Below w.heap.size w wr := hb1.trans (hkr.below (B := w.heap.size) (fun i hi => by have e : i = b1 := hi; omega) hb1.size)
    have d0 := (hblr.cell (p := ⟨p, 0, none⟩) hlp).trans c0
    have d1 := (hblr.cell (p := ⟨p, 1, none⟩) hlp).trans c1
    by_cases hlt : k < l.length
    · obtain ⟨go, oo, rfl, hgo, q0, q1, q2⟩ := ops_at (HRD.out.below hblr (Nat.le_refl _)) hlt
      have hT := Lib.hid (playL_take g LM l k hlt)
      have HD := Lib.hid (rdo_any l[k] hmr (HF.out.len (playL_len _ _ _)) (HOK.out wr hblr _ (List.getElem_mem hlt)) hblr.size)
      generalize playL g LM (l.take k) = X at *
      generalize l[k] = o at *
      have k0 : (0 : Int) ≤ k := by omega
      have k1 : (k : Int) < l.length := by omega
      clear hm1 hmr
      go_wp2_with fail
      refine HD.out.mono ?_
      rintro e w2 ⟨rfl, hm2, hk2⟩
      have hk3 := hkr.trans hk2 (fun _ _ h => h)
      have HM2 := Lib.hid hm2
      clear hm2 hk2 d0 d1 q0 q1 q2
      go_wp2
      go_roundw
      case rel => exact ⟨k + 1, by omega, by go_num, by rw [hT.out]; exact HM2.out, hk3⟩
      case measure => simp [intOf]; omega
    · obtain rfl : k = l.length := by omega
      rw [List.take_of_length_le (Nat.le_refl _)] at hmr
      have HM := Lib.hid hmr
      clear hm1 hmr
      go_wp2
      go_ret
      exact ⟨m1, b1, rfl, HM.out, hmm1, hbb1, hblr⟩
/-- What makes a new cache of the reference. -/
def RCNewPost (w : World) (g : Geo) (LM : List Sec) (ops : List OpV) (e : Ending) (w' : World) : Prop :=
  ∃ p, e = .returned (.pointer (some ⟨p, 0, none⟩)) ∧ RCacheM w' (Bd.of w.heap.size) p g LM ops ∧ Below w.heap.size w w'
theorem rcac_new {w2 : World} {l : List OpV} {m b : Nat} {A : Option Addr} {c : Nat} (hb : w.heap.size ≤ w2.heap.size) (h1 : w.heap.size ≤ b) (hm : RMed w2 m b g LM) (hr : RdT w2 115 A (flatOps l))
    (ho : ∀ o ∈ l, I64 o.at_ ∧ o.xs.length ≤ 100000 ∧ RdT w2 5 o.A (o.xs.map (Value.int .u8))) (hnil : l = [] → A = none ∧ c = 0) :
    RCacheM (w2.alloc (.cells #[.pointer (some ⟨m, 0, none⟩), .slice A l.length c] 90)) (Bd.of w.heap.size) w2.heap.size g LM (l.map OpV.bare) := by
  have hb2 : Below w2.heap.size w2 (w2.alloc (.cells #[.pointer (some ⟨m, 0, none⟩), .slice A l.length c] 90)) := (Below.refl _ _).alloc (Nat.le_refl _) _
  refine ⟨l, m, b, A, c, rfl, ?_, fun h => h, ⟨h1, fun h => h⟩, hm.below0 hb2, hr.below0 hb2, fun o h => ?_, ?_⟩
  · exact World.ownsRow_lit (base := w.heap.size) (e := 90) (size := 2) w2 #[.pointer (some ⟨m, 0, none⟩), .slice A l.length c] 1 hb (by decide) rfl
  · obtain ⟨a1, a2, a3⟩ := ho o h
    exact ⟨a1, a2, a3.below0 hb2⟩
  · exact hnil
set_option maxHeartbeats 400000 in
theorem rcnew_any {m bs : Nat} {L : List Sec} (hm : RMed w m bs g L) (hf : Fit g L) : Calls Tryz.prog 60 #[.pointer (some ⟨m, 0, none⟩)] w (RCNewPost w g L []) := by
  have HC := Lib.hid (rclone_any hm hf)
  clear hm hf
  go_enter Tryz.func60, Tryz.ntmps60
  go_wp2_with fail
  refine HC.out.mono ?_
  rintro e w1 ⟨m1, b1, rfl, hm1, hmm1, hbb1, hb1⟩
  have HN := Lib.hid (rcac_new (w := w) (l := []) (A := none) (c := 0) hb1.size hbb1 hm1 (RdT.nil _ _ _) (fun o h => by simp at h) (fun _ => ⟨rfl, rfl⟩))
  clear hm1
  go_wp2
  go_ret
  exact ⟨_, rfl, HN.out, hb1.alloc hb1.size _⟩
/-- What a cut of the reference leaves. -/
def RCutPost (w : World) (B : Bd) (p : Nat) (g : Geo) (LM : List Sec) (ops : List OpV) (n : Nat) (e : Ending) (w' : World) : Prop :=
  e = .returned (.tuple #[]) ∧ RCacheM w' B p g (playL g LM (ops.take n)) [] ∧ KeptT RT B w w'
theorem rcac_cut {l : List OpV} {m b : Nat} {A : Option Addr} {c : Nat} {w1 : World} {L' : List Sec} (h : RCac w B p g LM l m b A c) (hm : RMed w1 m b g L') (hk : Kept (fun k => k = b) w w1) :
    RCacheM (w1.setCell ⟨p, 1, none⟩ (.slice none 0 0)) B p g L' [] ∧ KeptT RT B w (w1.setCell ⟨p, 1, none⟩ (.slice none 0 0)) := by
  have t1 := h.med.types
  have tp := h.typ
  have hlow := h.low
  have hpb : ¬ (p = b) := tp.ne t1.2 (by decide)
  have hobj := own_kept h.obj hk (fun k e => by simp [Value.ownBlock] at e; subst e; exact hpb)
  have tp1 : IsT 90 w1 p := IsT.own hobj
  have hk1 : Kept (fun k => k = p) w1 (w1.setCell ⟨p, 1, none⟩ (.slice none 0 0)) := (Kept.refl (fun k => k = p) _).setCell (p := ⟨p, 1, none⟩) (fun _ => rfl) _
  have hk2 : Kept (fun k => k = b ∨ k = p) w (w1.setCell ⟨p, 1, none⟩ (.slice none 0 0)) :=
    (hk.more (T := fun k => k = b ∨ k = p) (fun _ _ h => .inl h)).setCell (p := ⟨p, 1, none⟩) (fun _ => .inr rfl) _
  refine ⟨⟨[], m, b, none, 0, rfl, ?_, h.px, h.lb, hm.kept hk1 (hm.types.1.ne tp1 (by decide)) (hm.types.2.ne tp1 (by decide)), RdT.nil _ _ _, fun o h => by simp at h, fun _ => ⟨rfl, rfl⟩⟩, KeptT.of hk2 (fun k _ hs => ?_)⟩
  · have := (World.ownsRow.stored hobj 1 (.slice none 0 0)).1
    simpa using this
  · rcases hs with e | e
    · subst e; exact ⟨h.lb, HasT.mem t1.2 (by simp [RT])⟩
    · subst e; exact ⟨hlow, HasT.mem tp (by simp [RT])⟩
set_option maxRecDepth 100000 in
set_option maxHeartbeats 1000000 in
theorem rccut_any (keep : Int) (h : RCacheM w B p g LM ops) (hf : Fit g LM) (hB : B.top ≤ w.heap.size) (hn : ops.length ≤ 100000) :
    Calls Tryz.prog 70 #[.pointer (some ⟨p, 0, none⟩), .int .i64 keep] w (RCutPost w B p g LM ops (cutN keep ops.length)) := by
  obtain ⟨l, m, b, A, c, rfl, h⟩ := h
  rw [List.length_map] at hn ⊢
  obtain ⟨c0, c1⟩ := h.cells
  have hlp := h.lt
  have hnl := cutN_le keep l.length
  have hn1 : Hid (∀ k : Nat, k < cutN keep l.length → (k : Int) < keep) := by unfold Hid cutN; intro k hk; omega
  have hn2 : Hid (cutN keep l.length < l.length → keep ≤ (cutN keep l.length : Nat)) := by unfold Hid cutN; intro hk; omega
  have hTK : (l.map OpV.bare).take (cutN keep l.length) = (l.take (cutN keep l.length)).map OpV.bare := List.map_take.symm
  have HTK : Hid (playL g LM ((l.map OpV.bare).take (cutN keep l.length)) = playL g LM (l.take (cutN keep l.length))) := by unfold Hid; rw [hTK, playL_bare]
  generalize cutN keep l.length = n at *
  have hpb : ¬ (p = b) := h.typ.ne h.med.types.2 (by decide)
  have H := Lib.hid h
  have HF := Lib.hid hf
  have hmed := h.med
  clear hf h hTK
  go_enter Tryz.func70, Tryz.ntmps70
  go_wp2
  go_loopw [4] (fun v wr => ∃ k : Nat, k ≤ n ∧ v = .int .i64 k ∧ RMed wr m b g (playL g LM (l.take k)) ∧ Kept (fun k => k = b) w wr) (fun v _ => n - (intOf v).toNat)
  case atStart => exact ⟨0, Nat.zero_le _, rfl, hmed, Kept.refl _ _⟩
  case round =>
    obtain ⟨k, hk, rfl, hmr, hkr⟩ := hrel
    have d0 := hkr.cell c0 hpb
    have d1 := hkr.cell c1 hpb
    by_cases hlt : k < n
    · have hop : k < l.length := by omega
      have hkk := hn1.out k hlt
      have hfo : Free w 115 (fun k => k = b) := by obtain ⟨cur, fr, hh⟩ := H.out.med.types.2; exact Free.one hh (by decide)
      have hfb : Free w 5 (fun k => k = b) := by obtain ⟨cur, fr, hh⟩ := H.out.med.types.2; exact Free.one hh (by decide)
      obtain ⟨go, oo, rfl, hgo, q0, q1, q2⟩ := ops_at (H.out.rd.kept hkr hfo).rd hop
      have hgb : ¬ (go = b) := fun e => by
        have := H.out.rd (k * 3 + 0) (.bool l[k].er) (by unfold flatOps; rw [flat_get _ 3 opcells_len l k 0 (by decide), List.getElem?_eq_getElem hop]; rfl)
        obtain ⟨g1, o1, cur, fr, e1, h1, _⟩ := this
        injection e1 with e1; injection e1 with e1; subst e1; subst e
        exact absurd ((IsT.of h1).same H.out.med.types.2) (by decide)
      have hT := Lib.hid (playL_take g LM l k hop)
      obtain ⟨a1, a2, a3⟩ := H.out.op _ (List.getElem_mem hop)
      have HD : Hid (∀ W, Below wr.heap.size wr W → Calls Tryz.prog 74 #[.pointer (some ⟨m, 0, none⟩), .agg #[.bool l[k].er, .int .i64 l[k].at_, .slice l[k].A l[k].xs.length l[k].c]] W (RWritePost W m b g (doE g (playL g LM (l.take k)) l[k]) (doL g (playL g LM (l.take k)) l[k]))) := by
        unfold Hid; intro W hW
        exact rdo_any l[k] (hmr.below0 hW) (HF.out.len (playL_len _ _ _)) ⟨a1, (a3.kept hkr hfb).rd.below hW (Nat.le_refl _), a2⟩ hW.size
      generalize playL g LM (l.take k) = X at *
      generalize l[k] = o at *
      have k0 : (0 : Int) ≤ k := by omega
      have k1 : (k : Int) < l.length := by omega
      clear hmr a1 a2 a3 hmed hfo hfb
      go_wp2
      go_region_held3 (fun W => W.cell? ⟨p, 0, none⟩ = some (.pointer (some ⟨m, 0, none⟩)) ∧ W.cell? ⟨p, 1, none⟩ = some (.slice (some ⟨go, oo, none⟩) l.length c) ∧ W.cell? ⟨go, oo + k * 3, none⟩ = some (.bool o.er) ∧ W.cell? ⟨go, oo + k * 3 + 1, none⟩ = some (.int .i64 o.at_) ∧ W.cell? ⟨go, oo + k * 3 + 2, none⟩ = some (.slice o.A o.xs.length o.c))
        (first | (refine ⟨?_, ?_, ?_, ?_, ?_⟩ <;> assumption) | (simp [*]; done))
        ((go_at_call 74
          refine (HD.out _ ((Below.refl wr.heap.size wr).drew)).mono ?_
          rintro e w2 ⟨rfl, hm2, hk2⟩
          have hw2 : Kept (fun k => k = b) wr w2 := ((Kept.refl (fun k => k = b) wr).drew).trans hk2 (fun _ _ h => h)
          have r0 := hw2.cell d0 hpb
          have r1 := hw2.cell d1 hpb
          have r2 := hw2.cell q0 hgb
          have r3 := hw2.cell q1 hgb
          have r4 := hw2.cell q2 hgb))
      have hk3 := hkr.trans hw2 (fun _ _ h => h)
      have HM2 := Lib.hid hm2
      clear hm2 d0 d1 q0 q1 q2 r0 r1 r2 r3 r4
      go_wp2
      go_roundw
      case rel => exact ⟨k + 1, by omega, by go_num, by rw [hT.out]; exact HM2.out, hk3⟩
      case measure => simp [intOf]; omega
    · obtain rfl : k = n := by omega
      have hobj := own_kept H.out.obj hkr (fun k e => by simp [Value.ownBlock] at e; subst e; exact hpb)
      have f1 := hobj.frozenAt 1
      have hC := rcac_cut H.out hmr hkr
      have HC := Lib.hid hC
      by_cases hl : k < l.length
      · have hkk := hn2.out hl
        clear hmr hmed hC hobj
        go_wp2
        go_end0
        unfold RCutPost
        rw [HTK.out]
        exact ⟨rfl, HC.out⟩
      · have hkk : (l.length : Int) ≤ k := by omega
        clear hmr hmed hC hobj
        go_wp2
        go_end0
        unfold RCutPost
        rw [HTK.out]
        exact ⟨rfl, HC.out⟩
set_option maxHeartbeats 400000 in
theorem rcflush_any (h : RCacheM w B p g LM ops) (hf : Fit g LM) (hB : B.top ≤ w.heap.size) (hn : ops.length ≤ 100000) :
    Calls Tryz.prog 68 #[.pointer (some ⟨p, 0, none⟩)] w (RCutPost w B p g LM ops ops.length) := by
  have HC := Lib.hid (rccut_any (ops.length : Int) h hf hB hn)
  have hnn : cutN (ops.length : Int) ops.length = ops.length := cutN_all (by omega)
  rw [hnn] at HC
  obtain ⟨l, m, b, A, c, rfl, h⟩ := h
  rw [List.length_map] at *
  obtain ⟨c0, c1⟩ := h.cells
  clear h hf hnn
  go_enter Tryz.func68, Tryz.ntmps68
  go_wp2_with fail
  refine HC.out.mono ?_
  rintro e w1 ⟨rfl, h1, hk1⟩
  go_wp2
  go_end0
  exact ⟨rfl, h1, hk1⟩
end
end Go.Proofs.YtckdhhadlemakaaGreat
