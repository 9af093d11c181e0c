/-
  WHAT IS SHOWN: what the pending operations of a cache do, and what do, Write and Erase of a cache return and leave. Conditions: the cache lies in memory.
-/
import Derived.Test.YtckdhhadlemakaaGreatCac0
import Derived.Deep.AppendLies
namespace Go.Proofs.YtckdhhadlemakaaGreat
set_option linter.unusedVariables false
open Go.RowKit

theorem info_fn : (Tryz.prog.info? 120).map (fun i => (i.zero, i.size, i.bytes)) = some (some .nilFunc, 1, 8) := by kernel_rfl
section
variable {w w' : World} {S : Nat → Prop} {B : Bd} {p : Nat} {g : Geo} {LM : List Sec} {ops : List OpV}
set_option maxHeartbeats 400000 in
theorem efn_any {m bs : Nat} {L : List Sec} (a : Int) (pa : Nat) (hm : Med w m bs g L) (hf : Fit g L) (ha : w.cell? ⟨pa, 0, none⟩ = some (.int .i64 a)) :
    Calls Tryz.prog 87 #[.pointer (some ⟨m, 0, none⟩), .pointer (some ⟨pa, 0, none⟩)] w (WritePost w m bs g (eraseE g a) (eraseL g L a)) := by
  have HE := Lib.hid (erase_any (band := a) hm hf)
  clear hm hf
  go_enter Tryz.func87, Tryz.ntmps87
  go_wp2_with fail
  refine HE.out.mono ?_
  rintro e w1 ⟨rfl, hm1, hk1⟩
  go_wp2
  go_ret
  exact ⟨rfl, hm1, hk1⟩
set_option maxHeartbeats 400000 in
theorem wfn_any {m bs : Nat} {L : List Sec} (a : Int) (ha : I64 a) (xs : List Int) (A : Option Addr) (c : Nat) (pa pb : Nat) (hm : Med w m bs g L) (hf : Fit g L) (h0 : w.cell? ⟨pa, 0, none⟩ = some (.int .i64 a)) (h1 : w.cell? ⟨pb, 0, none⟩ = some (.slice A xs.length c))
    (hr : Rd w w.heap.size A (xs.map (Value.int .u8))) (hn : xs.length ≤ 100000) :
    Calls Tryz.prog 84 #[.pointer (some ⟨m, 0, none⟩), .pointer (some ⟨pa, 0, none⟩), .pointer (some ⟨pb, 0, none⟩)] w (WritePost w m bs g (writeE L a xs) (writeL g L a xs)) := by
  have HE := Lib.hid (write_any a ha hm hf xs A c hr hn)
  clear hm hf hr ha
  go_enter Tryz.func84, Tryz.ntmps84
  go_wp2_with fail
  refine HE.out.mono ?_
  rintro e w1 ⟨rfl, hm1, hk1⟩
  go_wp2
  go_ret
  exact ⟨rfl, hm1, hk1⟩
/-- What the function value of an operation is, and what it does. -/
theorem fn_any {v : Value} {o : OpV} {m bs : Nat} {L : List Sec} (hv : OpFn w v o) (hm : Med w m bs g L) (hf : Fit g L) :
    (∃ pa : Nat, v = .func (.func 87) #[] #[.pointer (some ⟨pa, 0, none⟩)] ∧ Calls Tryz.prog 87 #[.pointer (some ⟨m, 0, none⟩), .pointer (some ⟨pa, 0, none⟩)] w (WritePost w m bs g (doE g L o) (doL g L o))) ∨
    (∃ pa pb : Nat, v = .func (.func 84) #[] #[.pointer (some ⟨pa, 0, none⟩), .pointer (some ⟨pb, 0, none⟩)] ∧ Calls Tryz.prog 84 #[.pointer (some ⟨m, 0, none⟩), .pointer (some ⟨pa, 0, none⟩), .pointer (some ⟨pb, 0, none⟩)] w (WritePost w m bs g (doE g L o) (doL g L o))) := by
  obtain ⟨h1, h2, h3⟩ := hv
  rcases h3 with ⟨e, pa, fr, hv, ha⟩ | ⟨e, pa, pb, A, c, fr, fr', hv, ha, hb, hr⟩
  · refine .inl ⟨pa, hv, ?_⟩
    unfold doE doL; rw [if_pos e, if_pos e]
    exact efn_any o.at_ pa hm hf (by rw [cell_of_row _ _ _ _ _ _ ha]; rfl)
  · refine .inr ⟨pa, pb, hv, ?_⟩
    unfold doE doL; rw [if_neg (by simp [e]), if_neg (by simp [e])]
    exact wfn_any o.at_ h1 o.xs A c pa pb hm hf (by rw [cell_of_row _ _ _ _ _ _ ha]; rfl) (by rw [cell_of_row _ _ _ _ _ _ hb]; rfl) hr.rd h2

variable {m1 b1 m2 b2 : Nat} {A : Option Addr} {c : Nat} {F : List Value}
/-- A pending operation is appended. -/
theorem cac_push {w1 w2 : World} {v : Value} {o : OpV} {q cap : Nat} {fr : Nat × Nat} (h : Cac w B p g LM ops m1 b1 m2 b2 A c F) (hq : ¬ B.X q) (hm : Med w1 m2 b2 g (doL g (playL g LM ops) o)) (hk : Kept (fun k => k = b2) w w1) (hv : OpFn w v o)
    (hown : w2.ownsRow B.n 120 1 (.slice (some ⟨q, 0, none⟩) (ops.length + 1) cap) (ops.length + 1) (F ++ [v])) (hgr : (w1.alloc (.cells #[v] 120 fr)).grownBy w2 (Value.slice A ops.length c).ownBlock) :
    Cac (w2.setCell ⟨p, 2, none⟩ (.slice (some ⟨q, 0, none⟩) (ops.length + 1) cap)) B p g LM (ops ++ [o]) m1 b1 m2 b2 (some ⟨q, 0, none⟩) cap (F ++ [v]) ∧
    KeptT CT B w (w2.setCell ⟨p, 2, none⟩ (.slice (some ⟨q, 0, none⟩) (ops.length + 1) cap)) := by
  have hlow := h.low
  have t1 := h.med1.types
  have t2 := h.med2.types
  have tp := h.typ
  have tA := h.typA
  have hpb : p ≠ b2 := tp.ne t2.2 (by decide)
  have hk2 : Kept (fun k => k = b2 ∨ (Value.slice A ops.length c).ownBlock = some k) w w2 :=
    (hk.alloc (.cells #[v] 120 fr)).more (T := fun k => k = b2 ∨ (Value.slice A ops.length c).ownBlock = some k) (fun _ _ h => .inl h) |>.grown hgr (fun i _ e => .inr e)
  have hpA : ¬ ((Value.slice A ops.length c).ownBlock = some p) := fun e => (tp.ne (tA p e).1 (by decide)) rfl
  have hobj2 : w2.ownsRow B.n 118 3 (.slice (some ⟨p, 0, none⟩) 1 1) 1 [.pointer (some ⟨m1, 0, none⟩), .pointer (some ⟨m2, 0, none⟩), .slice A ops.length c] :=
    own_kept h.obj hk2 (fun k e => by simp [Value.ownBlock] at e; subst e; exact fun hs => hs.elim hpb hpA)
  have hk3 : Kept (fun k => (k = b2 ∨ (Value.slice A ops.length c).ownBlock = some k) ∨ k = p) w (w2.setCell ⟨p, 2, none⟩ (.slice (some ⟨q, 0, none⟩) (ops.length + 1) cap)) :=
    (hk2.more (T := fun k => (k = b2 ∨ (Value.slice A ops.length c).ownBlock = some k) ∨ k = p) (fun _ _ h => .inl h)).setCell (p := ⟨p, 2, none⟩) (fun _ => .inr rfl) _
  have hf : FreeF w (fun k => (k = b2 ∨ (Value.slice A ops.length c).ownBlock = some k) ∨ k = p) := by
    have fA : FreeF w (fun k => (Value.slice A ops.length c).ownBlock = some k) :=
      ⟨fun k hk _ cur fr e => absurd ((tA k hk).1.same (IsT.of e)) (by decide), fun k hk _ cur fr e => absurd ((tA k hk).1.same (IsT.of e)) (by decide), fun k hk _ cur fr e => absurd ((tA k hk).1.same (IsT.of e)) (by decide)⟩
    exact ((FreeF.one t2.2 (by decide) (by decide) (by decide)).or fA).or (FreeF.one tp (by decide) (by decide) (by decide))
  have hqp : q ≠ p := fun e => by
    subst e
    exact absurd ((IsT.own hown).same (IsT.own hobj2)) (by decide)
  -- behind the call
  have hk13 : Kept (fun k => (Value.slice A ops.length c).ownBlock = some k ∨ k = p) w1 (w2.setCell ⟨p, 2, none⟩ (.slice (some ⟨q, 0, none⟩) (ops.length + 1) cap)) :=
    (((Kept.refl (fun k => (Value.slice A ops.length c).ownBlock = some k) w1).alloc (.cells #[v] 120 fr)).grown hgr (fun i _ e => e)).more (T := fun k => (Value.slice A ops.length c).ownBlock = some k ∨ k = p) (fun _ _ h => .inl h) |>.setCell (p := ⟨p, 2, none⟩) (fun _ => .inr rfl) _
  have tA1 : ∀ k, (Value.slice A ops.length c).ownBlock = some k → IsT 120 w1 k := fun k e => by
    obtain ⟨⟨cur, fr, h1⟩, _⟩ := tA k e
    exact ⟨cur, fr, hk.obj h1 (fun e' => (tA k e).1.ne t2.2 (by decide) e')⟩
  have tp1 : IsT 118 w1 p := by
    obtain ⟨cur, fr, h1⟩ := tp
    exact ⟨cur, fr, hk.obj h1 (fun e' => hpb e')⟩
  have s2 := hm.types
  have hm2 : Med (w2.setCell ⟨p, 2, none⟩ (.slice (some ⟨q, 0, none⟩) (ops.length + 1) cap)) m2 b2 g (playL g LM (ops ++ [o])) := by
    rw [playL_snoc]
    exact hm.kept hk13 (fun hs => hs.elim (fun e => absurd ((tA1 _ e).same s2.1) (by decide)) (fun e => absurd (tp1.same (e ▸ s2.1)) (by decide)))
      (fun hs => hs.elim (fun e => absurd ((tA1 _ e).same s2.2) (by decide)) (fun e => absurd (tp1.same (e ▸ s2.2)) (by decide)))
      (fun k hk _ cur fr e => hk.elim (fun e' => absurd ((tA1 _ e').same (IsT.of e)) (by decide)) (fun e' => absurd (tp1.same (e' ▸ IsT.of e)) (by decide)))
  refine ⟨⟨?_, h.px, fun k e => by simp [Value.ownBlock] at e; subst e; exact hq, h.lb1, h.lb2, h.ne, ?_, hm2, ?_, ?_⟩, ?_⟩
  · have := (World.ownsRow.stored hobj2 2 (.slice (some ⟨q, 0, none⟩) (ops.length + 1) cap)).1
    simpa using this
  · exact h.med1.kept hk3 (fun hs => by
      rcases hs with (e | e) | e
      · exact t1.1.ne t2.2 (by decide) e
      · exact absurd ((tA _ e).1.same t1.1) (by decide)
      · exact t1.1.ne tp (by decide) e)
      (fun hs => by
      rcases hs with (e | e) | e
      · exact h.ne e
      · exact absurd ((tA _ e).1.same t1.2) (by decide)
      · exact t1.2.ne tp (by decide) e) hf.2.2
  · have h' := own_kept hown ((Kept.refl (fun k => k = p) w2).setCell (p := ⟨p, 2, none⟩) (fun _ => rfl) (.slice (some ⟨q, 0, none⟩) (ops.length + 1) cap)) (fun k e => by simp [Value.ownBlock] at e; subst e; exact hqp)
    simpa using h'
  · intro i o' ho
    rw [List.getElem?_append] at ho
    have hFl : F.length = ops.length := by have := h.own.1; omega
    by_cases hi : i < ops.length
    · rw [if_pos hi] at ho
      obtain ⟨u, hu, hF⟩ := h.fn i o' ho
      exact ⟨u, by rw [List.getElem?_append, if_pos (by omega)]; exact hu, hF.kept hk3 hf⟩
    · rw [if_neg hi] at ho
      have hi' : i - ops.length = 0 := by
        rcases Nat.eq_zero_or_pos (i - ops.length) with h0 | h0
        · exact h0
        · rw [List.getElem?_eq_none (by simp; omega)] at ho; cases ho
      rw [hi'] at ho
      simp at ho
      subst ho
      exact ⟨v, by rw [List.getElem?_append, if_neg (by omega)]; rw [show i - F.length = 0 by omega]; rfl, hv.kept hk3 hf⟩
  · refine KeptT.of hk3 (fun k _ hs => ?_)
    rcases hs with (e | e) | e
    · subst e; exact ⟨h.lb2, HasT.mem t2.2 (by simp [CT])⟩
    · exact ⟨(tA k e).2, HasT.mem (tA k e).1 (by simp [CT])⟩
    · subst e; exact ⟨hlow, HasT.mem tp (by simp [CT])⟩
/-- An operation with an error. -/
theorem cac_fail {w1 : World} {o : OpV} (h : Cac w B p g LM ops m1 b1 m2 b2 A c F) (hE : doE g (playL g LM ops) o ≠ 0) (hm : Med w1 m2 b2 g (doL g (playL g LM ops) o)) (hk : Kept (fun k => k = b2) w w1) :
    Cac w1 B p g LM ops m1 b1 m2 b2 A c F ∧ KeptT CT B w w1 := by
  have t1 := h.med1.types
  have t2 := h.med2.types
  have tp := h.typ
  have hf := FreeF.one t2.2 (by decide) (by decide) (by decide)
  rw [doL_err hE] at hm
  refine ⟨⟨own_kept h.obj hk (fun k e => by simp [Value.ownBlock] at e; subst e; exact tp.ne t2.2 (by decide)), h.px, h.ax, h.lb1, h.lb2, h.ne, h.med1.kept hk (t1.1.ne t2.2 (by decide)) h.ne hf.2.2, hm, own_kept h.own hk (fun k e => (h.typA k e).1.ne t2.2 (by decide)), fun i o ho => ?_⟩, KeptT.of hk (fun k _ hs => ?_)⟩
  · obtain ⟨v, hv, hF⟩ := h.fn i o ho
    exact ⟨v, hv, hF.kept hk hf⟩
  · have e : k = b2 := hs
    subst e; exact ⟨h.lb2, HasT.mem t2.2 (by simp [CT])⟩

/-- What an operation of a cache returns and leaves. -/
def DoPost (w : World) (B : Bd) (p : Nat) (g : Geo) (LM : List Sec) (ops : List OpV) (o : OpV) (e : Ending) (w' : World) : Prop :=
  e = .returned (.int .i64 (doE g (playL g LM ops) o)) ∧ CacheM w' B p g LM (if doE g (playL g LM ops) o = 0 then ops ++ [o] else ops) ∧ KeptT CT B w w'
set_option maxRecDepth 100000 in
set_option maxHeartbeats 1000000 in
theorem cdo_any {v : Value} {o : OpV} (h : CacheM w B p g LM ops) (hf : Fit g LM) (hv : OpFn w v o) (hB : B.top ≤ w.heap.size) (hn : ops.length ≤ 100000) :
    Calls Tryz.prog 83 #[.pointer (some ⟨p, 0, none⟩), v] w (DoPost w B p g LM ops o) := by
  obtain ⟨m1, b1, m2, b2, A, c, F, h⟩ := h
  obtain ⟨i0, hi, hz0, hz1, hz2⟩ := info_parts info_fn
  have hf2 : Fit g (playL g LM ops) := hf.len (playL_len _ _ _)
  have hfn := fn_any hv h.med2 hf2
  obtain ⟨c0, c1, c2⟩ := h.cells
  have hpb : ¬ (p = b2) := h.typ.ne h.med2.types.2 (by decide)
  have hown0 := h.own
  have hv1 : v.oneCell' = true := by rcases hfn with ⟨pa, rfl, _⟩ | ⟨pa, pb, rfl, _⟩ <;> rfl
  have HOA : Hid (∀ w1, Kept (fun k => k = b2) w w1 → w1.ownsRow B.n 120 1 (.slice A ops.length c) ops.length F) := by
    unfold Hid; intro w1 hk1; exact own_kept h.own hk1 (fun k e => (h.typA k e).1.ne h.med2.types.2 (by decide))
  have hpA : ¬ ((Value.slice A ops.length c).ownBlock = some p) := fun e => (h.typ.ne (h.typA p e).1 (by decide)) rfl
  have HOB : Hid (∀ w1 w2 : World, Kept (fun k => k = b2) w w1 → (w1.alloc (.cells #[v] 120)).grownBy w2 (Value.slice A ops.length c).ownBlock → w2.ownsRow B.n 118 3 (.slice (some ⟨p, 0, none⟩) 1 1) 1 [.pointer (some ⟨m1, 0, none⟩), .pointer (some ⟨m2, 0, none⟩), .slice A ops.length c]) := by
    unfold Hid; intro w1 w2 hk1 hgr
    have hk2 : Kept (fun k => k = b2 ∨ (Value.slice A ops.length c).ownBlock = some k) w w2 :=
      (hk1.alloc (.cells #[v] 120)).more (T := fun k => k = b2 ∨ (Value.slice A ops.length c).ownBlock = some k) (fun _ _ h => .inl h) |>.grown hgr (fun i _ e => .inr e)
    exact own_kept h.obj hk2 (fun k e => by simp [Value.ownBlock] at e; subst e; exact fun hs => hs.elim hpb hpA)
  have HFR : Hid (∀ w1 w2 : World, Kept (fun k => k = b2) w w1 → (w1.alloc (.cells #[v] 120)).grownBy w2 (Value.slice A ops.length c).ownBlock → w2.frozen? ⟨p, 2, none⟩ = false) := by
    unfold Hid; intro w1 w2 hk1 hgr; exact (HOB.out w1 w2 hk1 hgr).frozenAt 2
  have HCE : Hid (∀ w1 w2 : World, Kept (fun k => k = b2) w w1 → (w1.alloc (.cells #[v] 120)).grownBy w2 (Value.slice A ops.length c).ownBlock → w2.cell? ⟨p, 2, none⟩ = some (.slice A ops.length c)) := by
    unfold Hid; intro w1 w2 hk1 hgr; exact (World.ownsRow.cellAt (HOB.out w1 w2 hk1 hgr) 2 (by decide)).trans rfl
  have HAX : Hid (∀ q H, B.top ≤ H → ((Value.slice A ops.length c).ownBlock = some q ∨ q = H) → ¬ B.X q) := by
    unfold Hid; intro q H hH hq; exact hq.elim (h.ax q) (fun e => Bd.nx (by omega))
  by_cases hE : doE g (playL g LM ops) o = 0
  · have HP : Hid (∀ w1 w2 q cap, ¬ B.X q → Med w1 m2 b2 g (doL g (playL g LM ops) o) → Kept (fun k => k = b2) w w1 → w2.ownsRow B.n 120 1 (.slice (some ⟨q, 0, none⟩) (ops.length + 1) cap) (ops.length + 1) (F ++ [v]) → (w1.alloc (.cells #[v] 120)).grownBy w2 (Value.slice A ops.length c).ownBlock → CacheM (w2.setCell ⟨p, 2, none⟩ (.slice (some ⟨q, 0, none⟩) (ops.length + 1) cap)) B p g LM (if doE g (playL g LM ops) o = 0 then ops ++ [o] else ops) ∧ KeptT CT B w (w2.setCell ⟨p, 2, none⟩ (.slice (some ⟨q, 0, none⟩) (ops.length + 1) cap))) := by
      unfold Hid; intro w1 w2 q cap hq hm hk ho hg
      have := cac_push h hq hm hk hv ho hg
      rw [if_pos hE]
      exact ⟨⟨_, _, _, _, _, _, _, this.1⟩, this.2⟩
    have HE := Lib.hid hE
    rw [hE] at hfn
    clear hE h hf hf2 hv hown0
    rcases hfn with ⟨pa, rfl, hc⟩ | ⟨pa, pb, rfl, hc⟩
    · have HC := Lib.hid hc
      clear hc
      go_enter Tryz.func83, Tryz.ntmps83
      go_wp2_with fail
      refine HC.out.mono ?_
      rintro e w1 ⟨rfl, hm1, hk1⟩
      have k2 := hk1.cell c2 hpb
      have hoA := (HOA.out w1 hk1).alloc (.cells #[(.func (.func 87) #[] #[.pointer (some ⟨pa, 0, none⟩)])] 120)
      have hB2 : B.top ≤ w1.heap.size := Nat.le_trans hB hk1.size
      have hB1 : B.n ≤ w1.heap.size := Nat.le_trans B.le hB2
      go_wp2_with (at_builtin; refine wpList_append_lies _ rfl _ _ 116 rfl B.n 120 i0 _ 1 8 Tryz.underlying116 hi hz0 hz1 hz2 rfl (by decide) _ ops.length F rfl hoA ⟨w1.heap.size, 0, none⟩ 1 1 [(.func (.func 87) #[] #[.pointer (some ⟨pa, 0, none⟩)])] rfl rfl (World.news_of_block (heap_alloc_new _ _)) (by intro u hu; simp at hu; subst hu; rfl) (by decide) (by unfold maxLen; omega) (by omega) (by simp; omega) _ rfl ?_)
      intro q cap w2 hown hgrow hloc hlt
      have hF := HP.out w1 w2 q cap (HAX.out _ _ (by first | omega | (simp; omega)) hloc) hm1 hk1 hown hgrow
      have HF := Lib.hid hF
      have hp1 := hk1.size
      have hfr : w2.frozen? ⟨p, 2, none⟩ = false := HFR.out w1 w2 hk1 hgrow
      have hce : w2.cell? ⟨p, 2, none⟩ = some (.slice A ops.length c) := HCE.out w1 w2 hk1 hgrow
      clear hF hown hgrow hloc hoA k2 hm1
      go_wp2
      go_ret
      exact ⟨by rw [HE.out]; rfl, HF.out⟩
    · have HC := Lib.hid hc
      clear hc
      go_enter Tryz.func83, Tryz.ntmps83
      go_wp2_with fail
      refine HC.out.mono ?_
      rintro e w1 ⟨rfl, hm1, hk1⟩
      have k2 := hk1.cell c2 hpb
      have hoA := (HOA.out w1 hk1).alloc (.cells #[(.func (.func 84) #[] #[.pointer (some ⟨pa, 0, none⟩), .pointer (some ⟨pb, 0, none⟩)])] 120)
      have hB2 : B.top ≤ w1.heap.size := Nat.le_trans hB hk1.size
      have hB1 : B.n ≤ w1.heap.size := Nat.le_trans B.le hB2
      go_wp2_with (at_builtin; refine wpList_append_lies _ rfl _ _ 116 rfl B.n 120 i0 _ 1 8 Tryz.underlying116 hi hz0 hz1 hz2 rfl (by decide) _ ops.length F rfl hoA ⟨w1.heap.size, 0, none⟩ 1 1 [(.func (.func 84) #[] #[.pointer (some ⟨pa, 0, none⟩), .pointer (some ⟨pb, 0, none⟩)])] rfl rfl (World.news_of_block (heap_alloc_new _ _)) (by intro u hu; simp at hu; subst hu; rfl) (by decide) (by unfold maxLen; omega) (by omega) (by simp; omega) _ rfl ?_)
      intro q cap w2 hown hgrow hloc hlt
      have hF := HP.out w1 w2 q cap (HAX.out _ _ (by first | omega | (simp; omega)) hloc) hm1 hk1 hown hgrow
      have HF := Lib.hid hF
      have hp1 := hk1.size
      have hfr : w2.frozen? ⟨p, 2, none⟩ = false := HFR.out w1 w2 hk1 hgrow
      have hce : w2.cell? ⟨p, 2, none⟩ = some (.slice A ops.length c) := HCE.out w1 w2 hk1 hgrow
      clear hF hown hgrow hloc hoA k2 hm1
      go_wp2
      go_ret
      exact ⟨by rw [HE.out]; rfl, HF.out⟩
  · have HP : Hid (∀ w1, Med w1 m2 b2 g (doL g (playL g LM ops) o) → Kept (fun k => k = b2) w w1 → CacheM w1 B p g LM (if doE g (playL g LM ops) o = 0 then ops ++ [o] else ops) ∧ KeptT CT B w w1) := by
      unfold Hid; intro w1 hm hk
      have := cac_fail h hE hm hk
      rw [if_neg hE]
      exact ⟨⟨_, _, _, _, _, _, _, this.1⟩, this.2⟩
    have hE2 : (doE g (playL g LM ops) o == 0) = false := by simpa using hE
    generalize hEE : doE g (playL g LM ops) o = E at *
    have HEE := Lib.hid hEE
    clear hE h hf hf2 hv hown0 hEE
    rcases hfn with ⟨pa, rfl, hc⟩ | ⟨pa, pb, rfl, hc⟩
    · have HC := Lib.hid hc
      clear hc
      go_enter Tryz.func83, Tryz.ntmps83
      go_wp2_with fail
      refine HC.out.mono ?_
      rintro e w1 ⟨rfl, hm1, hk1⟩
      go_wp2
      go_ret
      unfold DoPost
      rw [HEE.out]
      exact ⟨rfl, HP.out w1 hm1 hk1⟩
    · have HC := Lib.hid hc
      clear hc
      go_enter Tryz.func83, Tryz.ntmps83
      go_wp2_with fail
      refine HC.out.mono ?_
      rintro e w1 ⟨rfl, hm1, hk1⟩
      go_wp2
      go_ret
      unfold DoPost
      rw [HEE.out]
      exact ⟨rfl, HP.out w1 hm1 hk1⟩
end
end Go.Proofs.YtckdhhadlemakaaGreat
