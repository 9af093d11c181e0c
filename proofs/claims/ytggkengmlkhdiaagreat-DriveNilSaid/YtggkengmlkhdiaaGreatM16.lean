/-
  WHAT IS SHOWN: what sector, fail, state, size, band and has of drive return and leave. what slices.Clone returns of a list of bands: a new list of the same bands; and the stores of band's closures. what unlink of drive leaves. Conditions: as each theorem names them.
-/
import Derived.Test.YtggkengmlkhdiaaGreatM15
import Derived.Test.YtggkengmlkhdiaaGreatRows
import Derived.Test.YtggkengmlkhdiaaGreatM10
import Derived.Deep.QuietTactic
import Derived.BigQuiet
import Derived.Handy
namespace Go.Proofs.YtggkengmlkhdiaaGreat
set_option linter.unusedVariables false
open Go.RowKit

theorem geo_random (g : Geo) (W : World) : (Instr.field 42 (.agg #[.int .i64 g.random, .int .i64 g.bands, .int .i64 g.tracks, .int .i64 g.sectors, .int .i64 g.overlap]) 0).run Tryz.prog W = .ok (.int .i64 g.random) W := by kernel_rfl
section
variable {w w' : World} {B : Bd} {p q pw : Nat} {g : Geo} {F : List Flt} {key : Int} {S : ST} {ea ec : Nat} {BA : Option Addr} {bc : Nat}
/-- What reading a sector leaves. -/
def SecPost20 (w : World) (B : Bd) (p q pw : Nat) (g : Geo) (F : List Flt) (key : Int) (S : ST) (ea ec : Nat) (BA : Option Addr) (bc : Nat) (a : Int) (e : Ending) (w' : World) : Prop :=
  ∃ A c, e = .returned (.tuple #[.slice A (tryD (rOne g F key a) S.d).2.by_.length c, .int .i64 (tryD (rOne g F key a) S.d).2.er]) ∧ Bys 5 w' (.slice A (tryD (rOne g F key a) S.d).2.by_.length c) (tryD (rOne g F key a) S.d).2.by_ ∧ Drv w' B p q pw g F key ⟨S.v, (tryD (rOne g F key a) S.d).1⟩ ea ec BA bc ∧ KeptT DAT B w w'
set_option maxRecDepth 100000 in
set_option maxHeartbeats 4000000 in
theorem sector_any (a : Int) (h : Drv w B p q pw g F key S ea ec BA bc) (hn : F.length ≤ 9223372036854775807) : Calls Tryz.prog 59 #[.pointer (some ⟨p, 0, none⟩), .int .i64 a] w (SecPost20 w B p q pw g F key S ea ec BA bc a) := by
  obtain ⟨⟨pc, FA, fc, hd⟩, hp, hf, hs, hB⟩ := h.dsk
  have hb0 : Below w.heap.size w (((w.alloc (.cells #[.pointer (some ⟨p, 0, none⟩)] 22)).alloc (.cells #[.int .i64 a] 3)).alloc (.cells #[.slice none 0 0] 65)) := (((Below.refl _ _).alloc (Nat.le_refl _) _).alloc (by simp) _).alloc (by simp; omega) _
  have o0 : (((w.alloc (.cells #[.pointer (some ⟨p, 0, none⟩)] 22)).alloc (.cells #[.int .i64 a] 3)).alloc (.cells #[.slice none 0 0] 65)).heap[w.heap.size]? = some (.cells #[.pointer (some ⟨p, 0, none⟩)] 22 (0, 0)) := by
    rw [belObj (B := w.heap.size + 1) (w := w.alloc (.cells #[.pointer (some ⟨p, 0, none⟩)] 22)) (((Below.refl _ _).alloc (by simp) _).alloc (by simp) _) (heap_alloc_new w _) (by omega)]
  have o1 : (((w.alloc (.cells #[.pointer (some ⟨p, 0, none⟩)] 22)).alloc (.cells #[.int .i64 a] 3)).alloc (.cells #[.slice none 0 0] 65)).heap[w.heap.size + 1]? = some (.cells #[.int .i64 a] 3 (0, 0)) := by
    have h1 := heap_alloc_new (w.alloc (.cells #[.pointer (some ⟨p, 0, none⟩)] 22)) (.cells #[.int .i64 a] 3)
    rw [show (w.alloc (.cells #[.pointer (some ⟨p, 0, none⟩)] 22)).heap.size = w.heap.size + 1 by simp] at h1
    exact belObj (B := w.heap.size + 2) ((Below.refl _ _).alloc (by simp) _) h1 (by omega)
  have o2 : (((w.alloc (.cells #[.pointer (some ⟨p, 0, none⟩)] 22)).alloc (.cells #[.int .i64 a] 3)).alloc (.cells #[.slice none 0 0] 65)).heap[w.heap.size + 2]? = some (.cells #[.slice none 0 0] 65 (0, 0)) := by
    have h1 := heap_alloc_new ((w.alloc (.cells #[.pointer (some ⟨p, 0, none⟩)] 22)).alloc (.cells #[.int .i64 a] 3)) (.cells #[.slice none 0 0] 65)
    rw [show ((w.alloc (.cells #[.pointer (some ⟨p, 0, none⟩)] 22)).alloc (.cells #[.int .i64 a] 3)).heap.size = w.heap.size + 2 by simp] at h1
    exact h1
  have hd0 := hd.below0 hb0
  have hm0 : Mid w (((w.alloc (.cells #[.pointer (some ⟨p, 0, none⟩)] 22)).alloc (.cells #[.int .i64 a] 3)).alloc (.cells #[.slice none 0 0] 65)) B q pw g F.length fc pc FA S.d.s S.d.P := ⟨hd0.obj, hp.below0 hb0, KeptT.bel hb0, hd.px⟩
  have HC := Lib.hid (tryrd20_any (key := key) (a := a) (d := S.d) hm0 hd.c hd.fl hf hs hB hn o0 o1 o2 (by omega) (h.dkey.below0 hb0))
  have HFN : Hid (∀ W, Mid w W B q pw g F.length fc pc FA (tryD (rOne g F key a) S.d).1.s (tryD (rOne g F key a) S.d).1.P → Drv W B p q pw g F key ⟨S.v, (tryD (rOne g F key a) S.d).1⟩ ea ec BA bc ∧ KeptT DAT B w W) := by
    intro W hm
    have hk := hm.k.sub dpt_dat
    have e := tryD_r (g := g) (F := F) (key := key) (a := a) (d := S.d)
    refine ⟨h.disk ⟨⟨pc, FA, fc, ?_⟩, hm.p, ?_, ?_, Nat.le_trans hB hm.k.size⟩ hk, hk⟩
    · rw [e.1, e.2]; exact Dsk.of hm.o hm.x hd.c hd.fl hm.k
    · rw [e.1]; exact hf
    · rw [e.1]; exact hs
  clear h hd hp hf hs hB hb0 o0 o1 o2 hd0 hm0
  unfold SecPost20
  generalize hby : (tryD (rOne g F key a) S.d).2.by_ = ys at *
  generalize (tryD (rOne g F key a) S.d).2.er = E at *
  clear hby
  go_enter Tryz.func59, Tryz.ntmps59
  go_wp2_with fail
  refine HC.out.mono ?_
  rintro e w1 ⟨rfl, hm, ⟨v, hv, hby⟩, _⟩
  have HD := Lib.hid (HFN.out _ hm)
  obtain ⟨A, c, rfl, hr, hcp⟩ := hby
  have HB := Lib.hid (show Bys 5 w1 (.slice A ys.length c) ys from ⟨A, c, rfl, hr, hcp⟩)
  have c0 := dcell_one hv
  clear hm hv hr hcp HC HFN
  go_wp2
  go_ret2
  exact ⟨A, c, rfl, HB.out, HD.out⟩
set_option maxHeartbeats 1000000 in
theorem fail_any (er : Int) (h : Drv w B p q pw g F key S ea ec BA bc) : Calls Tryz.prog 40 #[.pointer (some ⟨p, 0, none⟩), .int .i64 er] w fun e w' => e = .returned (.int .i64 er) ∧ Drv w' B p q pw g F key ⟨S.v.fail er, S.d⟩ ea ec BA bc ∧ KeptT DRT B w w' := by
  by_cases h0 : er = 0
  · have HF : Hid (S.v.fail er = S.v) := by unfold Hid DV.fail; rw [if_pos h0]
    have HH := Lib.hid h
    subst h0
    clear h
    go_enter Tryz.func40, Tryz.ntmps40
    go_wp2
    go_ret
    exact ⟨rfl, by rw [HF.out]; exact HH.out, KeptT.refl _ _ _⟩
  · have HF : Hid (S.v.fail er = { S.v with failed := er }) := by unfold Hid DV.fail; rw [if_neg h0]
    have HH := Lib.hid (h.setFailed er)
    have c5 := h.cells.2.2.2.2.2
    have f5 := h.free 5
    have hne : (er != 0) = true := by simpa using h0
    clear h h0
    go_enter Tryz.func40, Tryz.ntmps40
    go_wp2
    go_ret
    exact ⟨rfl, by rw [HF.out]; exact HH.out.1, HH.out.2⟩
theorem state20_any (h : Drv w B p q pw g F key S ea ec BA bc) : Calls Tryz.prog 38 #[.pointer (some ⟨p, 0, none⟩)] w fun e w' => e = .returned (.int .i64 S.v.failed) ∧ w' = w := by
  have c5 := h.cells.2.2.2.2.2
  clear h
  go_enter Tryz.func38, Tryz.ntmps38
  go_wp2
  go_ret
  exact ⟨rfl, rfl⟩
theorem has20_any (b : Int) (h : Drv w B p q pw g F key S ea ec BA bc) : Calls Tryz.prog 37 #[.pointer (some ⟨p, 0, none⟩), .int .i64 b] w fun e w' => e = .returned (.bool (decide (0 ≤ b) && decide (b < S.v.es.length))) ∧ w' = w := by
  have c2 := h.cells.2.2.1
  clear h
  by_cases h0 : 0 ≤ b
  · rw [decide_eq_true h0, Bool.true_and]
    go_enter Tryz.func37, Tryz.ntmps37
    go_wp2
    go_ret
    exact ⟨by simp, rfl⟩
  · rw [decide_eq_false h0, Bool.false_and]
    have d0 : decide (0 ≤ b) = false := decide_eq_false h0
    go_enter Tryz.func37, Tryz.ntmps37
    go_wp2
    go_ret
    exact ⟨rfl, rfl⟩
set_option maxHeartbeats 1000000 in
theorem size20_any (hg : Vg g) (h : Drv w B p q pw g F key S ea ec BA bc) : Calls Tryz.prog 72 #[.pointer (some ⟨p, 0, none⟩)] w fun e w' => e = .returned (.int .i64 (bz g)) ∧ Below w.heap.size w w' := by
  have c0 := h.cells.1
  have HG := Lib.hid (dgeo_any h.dsk)
  have HZ : Hid (bzN g = bz g) := bzN_valid hg
  clear h hg
  go_enter Tryz.func72, Tryz.ntmps72
  go_wp2_with fail
  refine HG.out.mono ?_
  rintro e w1 ⟨rfl, hb1⟩
  go_wp2_with fail
  refine (gbz_any g _).mono ?_
  rintro e w2 ⟨rfl, hb2⟩
  rw [HZ.out]
  go_wp2
  go_ret
  exact ⟨rfl, hb1.trans (hb2.mono hb1.size)⟩
set_option maxRecDepth 100000 in
set_option maxHeartbeats 2000000 in
theorem band20_any (hg : Vg g) (a : Int) (h0 : g.random ≤ a) (h1 : a ≤ 100000) (h : Drv w B p q pw g F key S ea ec BA bc) : Calls Tryz.prog 75 #[.pointer (some ⟨p, 0, none⟩), .int .i64 a] w fun e w' => e = .returned (.int .i64 (bandN g a)) ∧ Below w.heap.size w w' := by
  have c0 := h.cells.1
  have HG := Lib.hid (dgeo_any h.dsk)
  have HS := Lib.hid (fun W (hW : Below w.heap.size w W) => size20_any hg (h.below0 hW))
  have hr := hg.r0
  have hr1 := hg.r1
  have hz := hg.bz
  have hz' : 1 ≤ bz g := hz.1
  have HB : Hid (bandN g a = Int.tdiv (a - g.random) (bz g)) := rfl
  have hw1 : IntKind.i64.wrap (a - g.random) = a - g.random := by rw [IntKind.wrap_i64]; omega
  have hq := quo_pos (n := a - g.random) (s := bz g) (by omega) (by omega) hz'
  have hq2 : Int.tdiv (a - g.random) (bz g) = (a - g.random) / bz g := Int.tdiv_eq_ediv_of_nonneg (by omega)
  generalize bz g = z at *
  have hfd := geo_random g
  clear h hg hz
  go_enter Tryz.func75, Tryz.ntmps75
  go_wp2_with fail
  refine HG.out.mono ?_
  rintro e w1 ⟨rfl, hb1⟩
  go_wp2_with fail
  refine (HS.out _ hb1).mono ?_
  rintro e w2 ⟨rfl, hb2⟩
  go_wp2
  go_ret
  exact ⟨by rw [HB.out, hq2]; rfl, hb1.trans (hb2.mono hb1.size)⟩
end
end Go.Proofs.YtggkengmlkhdiaaGreat
namespace Go.Proofs.YtggkengmlkhdiaaGreat.V
set_option linter.unusedVariables false
open Go.RowKit

theorem info_band : (Tryz.prog.info? 76).map (fun i => (i.zero, i.size, i.bytes)) = some (some (.agg #[.int .i64 0, .int .i64 0, .int .u64 0, .int .u64 0]), 4, 32) := by kernel_rfl
theorem flat_one (l : List BI) : ∀ u ∈ flat l, u.oneCell' = true := by
  intro u hu
  obtain ⟨b, _, hb⟩ := List.mem_flatMap.1 hu
  simp [BI.cells] at hb
  rcases hb with rfl | rfl | rfl | rfl <;> rfl
theorem _root_.Go.Proofs.YtggkengmlkhdiaaGreat.Rd.vat_none {w : World} {B : Nat} {l : List BI} (h : Rd w B none (flat l)) : l = [] := by
  cases l with
  | nil => rfl
  | cons b l => obtain ⟨g, o, e, _⟩ := h 0 (.int .i64 b.used) rfl; cases e
theorem _root_.Go.Proofs.YtggkengmlkhdiaaGreat.Rd.vat_add {w : World} {B : Nat} {a : Addr} {xs : List Value} (h : Rd w B (some a) xs) : ∀ j u, xs[j]? = some u → w.cell? (a.add j) = some u := fun j u hu => by
  obtain ⟨g, o, e, _, hc⟩ := h j u hu
  injection e with e; subst e
  rw [add_off]; exact hc

set_option maxHeartbeats 400000 in
theorem clone_any (l : List BI) (A : Option Addr) (c : Nat) (w : World) (hl : Rd w w.heap.size A (flat l)) (hn : l.length ≤ 100000) :
    Calls Tryz.prog 45 #[.slice A l.length c] w fun e w' => ∃ A' c', e = .returned (.slice A' l.length c') ∧ World.ownsRow w' w.heap.size 76 4 (.slice A' l.length c') l.length (flat l) ∧ Below w.heap.size w w' := by
  obtain ⟨i0, hi, hz0, hz1, hz2⟩ := info_parts info_band
  have hnil := fun (w : World) a n c => Lib.run_eql_slice_nil (P := Tryz.prog) w 35 76 a n c 0 0 Tryz.underlying35
  cases A with
  | none =>
    have := hl.vat_none
    subst this
    go_enter Tryz.func45, Tryz.ntmps45
    go_wp2
    go_ret
    exact ⟨none, 0, rfl, World.ownsRow_nil _ _ _ _, Below.refl _ _⟩
  | some a =>
    have hro := World.ownsRow_lit (base := w.heap.size) (e := 76) (size := 4) w #[] 0 (Nat.le_refl _) (by decide) rfl
    have hla := hl.alloc (Nat.le_refl _) (.cells #[] 76)
    go_enter Tryz.func45, Tryz.ntmps45
    go_wp2_with (at_builtin; refine wpList_append_own _ rfl _ _ 35 rfl w.heap.size 76 i0 _ 4 32 Tryz.underlying35 hi hz0 hz1 hz2 rfl (by decide) _ 0 [] rfl hro a l.length c (flat l) rfl (flat_len4 l) hla.vat_add (flat_one l) ?c1 ?c2 ?c3 ?_)
    case c1 => unfold maxLen; omega
    case c2 => omega
    intro v' w' hown hgrow _
    try simp only [Nat.zero_add, List.nil_append] at hown
    obtain ⟨A', c', hv⟩ := own_form hown
    subst hv
    go_wp2
    go_ret
    exact ⟨A', c', rfl, hown, ((Below.refl _ _).alloc (Nat.le_refl _) _).grown hgrow (by simp) (fun k hk => by simp [Value.ownBlock] at hk; omega)⟩

/-! ### the closures of Append, Unlink and Reset -/
theorem flat_set (l : List BI) (k : Nat) (b b' : BI) (t : Nat) (v : Value) (hb : l[k]? = some b) (ht : t < 4) (h : b'.cells = b.cells.set t v) : flat (l.set k b') = (flat l).set (k * 4 + t) v := by
  have hk : k < l.length := (List.getElem?_eq_some_iff.1 hb).1
  have hlen : ∀ m : List BI, (flat m).length = m.length * 4 := flat_len4
  apply List.ext_getElem?
  intro j
  rcases Nat.lt_or_ge j (l.length * 4) with hj | hj
  · have hj4 : j = j / 4 * 4 + j % 4 := by omega
    have e1 : ∀ m : List BI, (flat m)[j]? = (m[j / 4]?).bind fun a => (a.cells)[j % 4]? := fun m => by
      conv => lhs; rw [hj4]
      exact flat_get _ 4 cells_len m _ _ (by omega)
    rw [e1, List.getElem?_set, List.getElem?_set, e1, hlen]
    by_cases h1 : k = j / 4
    · subst h1
      rw [if_pos rfl, if_pos (by omega), hb]
      simp only [Option.bind_some, h, List.getElem?_set, cells_len]
      by_cases h2 : t = j % 4
      · rw [if_pos h2, if_pos (by omega)]; simp [ht]; omega
      · rw [if_neg h2, if_neg (by omega)]
    · rw [if_neg h1, if_neg (by omega)]
  · rw [List.getElem?_eq_none (by rw [hlen, List.length_set]; exact hj), List.getElem?_eq_none (by rw [List.length_set, hlen]; exact hj)]

theorem flat_app (l : List BI) (k : Nat) (b : BI) (now : Int) (hb : l[k]? = some b) :
    flat (l.set k (appBI now b)) = (((flat l).set (k * 4) (.int .i64 (wrap64 (b.used + 1)))).set (k * 4 + 1) (.int .i64 (wrap64 (b.live + 1)))).set (k * 4 + 2) (.int .u64 now) := by
  have hk : k < l.length := (List.getElem?_eq_some_iff.1 hb).1
  rw [← Nat.add_zero (k * 4), ← flat_set l k b ⟨wrap64 (b.used + 1), b.live, b.age, b.wear⟩ 0 _ hb (by omega) rfl, Nat.add_zero,
    ← flat_set _ k ⟨wrap64 (b.used + 1), b.live, b.age, b.wear⟩ ⟨wrap64 (b.used + 1), wrap64 (b.live + 1), b.age, b.wear⟩ 1 _ (by simp [hk]) (by omega) rfl, List.set_set,
    ← flat_set _ k ⟨wrap64 (b.used + 1), wrap64 (b.live + 1), b.age, b.wear⟩ (appBI now b) 2 (.int .u64 now) (by simp [hk]) (by omega) rfl, List.set_set]
theorem flat_unl (l : List BI) (k : Nat) (b : BI) (hb : l[k]? = some b) : flat (l.set k (unlBI b)) = (flat l).set (k * 4 + 1) (.int .i64 (b.live - 1)) := flat_set l k b _ 1 _ hb (by omega) rfl
/-- What a closure of band.change leaves behind: its answer; the changed element; all else as it was. -/
def DoesPost (W : World) (l : List BI) (k g c : Nat) (E : Int) (b' : BI) (e : Ending) (w' : World) : Prop :=
  e = .returned (.int .i64 E) ∧ (E = 0 → World.ownsRow w' W.heap.size 76 4 (.slice (some ⟨g, 0, none⟩) l.length c) l.length (flat (l.set k b'))) ∧ Below W.heap.size W w'
/-- What a closure of band.change does to the element at k of an owned list. -/
def Does (fid : FuncId) (caps : Array Value) (W : World) (E : BI → Int) (F : BI → BI) : Prop :=
  ∀ (l : List BI) (k : Nat) (b : BI) (w : World) (g c : Nat), l[k]? = some b → b.Ok → Below W.heap.size W w → World.ownsRow w W.heap.size 76 4 (.slice (some ⟨g, 0, none⟩) l.length c) l.length (flat l) →
    Calls Tryz.prog fid (#[.pointer (some ⟨g, k * 4, none⟩)] ++ caps) w (DoesPost W l k g c (E b) (F b))

set_option maxHeartbeats 400000 in
theorem app_does (W : World) (b1 b2 : Nat) (sz now : Int) (h1 : W.cell? ⟨b1, 0, none⟩ = some (.int .i64 sz)) (h2 : W.cell? ⟨b2, 0, none⟩ = some (.int .u64 now)) :
    Does 150 #[.pointer (some ⟨b1, 0, none⟩), .pointer (some ⟨b2, 0, none⟩)] W (fun b => if sz ≤ b.used then 11 else 0) (appBI now) := by
  intro l k b w g c hb hok hbl hown
  have hk : k < l.length := (List.getElem?_eq_some_iff.1 hb).1
  obtain ⟨g', e, hgW, hgw⟩ := own_at hown (by omega)
  simp only [Option.some.injEq, Addr.mk.injEq, and_true] at e
  subst e
  have l1 := block_lt_of_cell h1
  have l2 := block_lt_of_cell h2
  simp only at l1 l2
  have hc1 := (hbl.cell (p := ⟨b1, 0, none⟩) l1).trans h1
  have hc2 := (hbl.cell (p := ⟨b2, 0, none⟩) l2).trans h2
  obtain ⟨g', o, e, _, a0, a1, a2, a3⟩ := (Rd.of_own hown).band hb
  simp only [Option.some.injEq, Addr.mk.injEq, and_true] at e
  obtain ⟨rfl, rfl⟩ := e
  simp only [Nat.zero_add] at a0 a1 a2 a3
  have f0 := fun j => hown.frozenAt j
  show Calls Tryz.prog _ #[_, _, _] _ _
  by_cases hs : sz ≤ b.used
  · go_enter Tryz.func150, Tryz.ntmps150
    go_wp2
    go_quiet (fail)
    go_wp2
    go_ret
    refine ⟨rfl, fun h0 => ?_, below_drewN' hbl _⟩
    simp at h0
  · go_enter Tryz.func150, Tryz.ntmps150
    go_wp2
    go_quiet (fail)
    go_wp2
    go_ret
    refine ⟨rfl, fun _ => ?_, ?_⟩
    · have s1 := (World.ownsRow.stored hown (k * 4) (.int .i64 (wrap64 (b.used + 1)))).1
      have s2 := (World.ownsRow.stored s1 (k * 4 + 1) (.int .i64 (wrap64 (b.live + 1)))).1
      have s3 := (World.ownsRow.stored s2 (k * 4 + 2) (.int .u64 now)).1
      rw [flat_app l k b now hb]
      exact s3
    · exact (((below_drewN' hbl _).setCell (p := ⟨g, k * 4, none⟩) hgW _).setCell (p := ⟨g, k * 4 + 1, none⟩) hgW _).setCell (p := ⟨g, k * 4 + 2, none⟩) hgW _

set_option maxHeartbeats 400000 in
theorem unl_does (W : World) : Does 145 #[] W (fun b => if b.live < 1 then 8 else 0) unlBI := by
  intro l k b w g c hb hok hbl hown
  have hk : k < l.length := (List.getElem?_eq_some_iff.1 hb).1
  obtain ⟨g', e, hgW, hgw⟩ := own_at hown (by omega)
  simp only [Option.some.injEq, Addr.mk.injEq, and_true] at e
  subst e
  obtain ⟨g', o, e, _, a0, a1, a2, a3⟩ := (Rd.of_own hown).band hb
  simp only [Option.some.injEq, Addr.mk.injEq, and_true] at e
  obtain ⟨rfl, rfl⟩ := e
  simp only [Nat.zero_add] at a0 a1 a2 a3
  have f0 := fun j => hown.frozenAt j
  have hb2 := hok.live.2
  show Calls Tryz.prog _ #[_] _ _
  by_cases hs : b.live < 1
  · go_enter Tryz.func145, Tryz.ntmps145
    go_wp2
    go_ret
    refine ⟨rfl, fun h0 => ?_, hbl⟩
    simp at h0
  · go_enter Tryz.func145, Tryz.ntmps145
    go_wp2
    go_ret
    refine ⟨rfl, fun _ => ?_, hbl.setCell (p := ⟨g, k * 4 + 1, none⟩) hgW _⟩
    rw [flat_unl l k b hb]
    exact (World.ownsRow.stored hown (k * 4 + 1) _).1

def chE (l : List BI) (band : Int) (E : BI → Int) : Int := if inL l band then E (at_ l band) else 2
def chL (l : List BI) (band : Int) (E : BI → Int) (F : BI → BI) : List BI := if chE l band E = 0 then l.set band.toNat (F (at_ l band)) else []
/-- What band.change, and the three functions over it, return. -/
def ListPost (W : World) (E : Int) (L : List BI) (e : Ending) (w' : World) : Prop :=
  ∃ A' c', e = .returned (.tuple #[.slice A' L.length c', .int .i64 E]) ∧ World.ownsRow w' W.heap.size 76 4 (.slice A' L.length c') L.length (flat L) ∧ Below W.heap.size W w'

set_option maxHeartbeats 400000 in
theorem change_any (l : List BI) (band : Int) (fid : FuncId) (caps : Array Value) (E : BI → Int) (F : BI → BI) (hok : Oks l) (A : Option Addr) (c : Nat) (w : World) (hl : Rd w w.heap.size A (flat l)) (hn : l.length ≤ 100000) (hd : Does fid caps w E F)
    (hent : ∀ args w, (callFunc fid args).run Tryz.prog w = .ok (.enter fid args) w) :
    Calls Tryz.prog 114 #[.slice A l.length c, .int .i64 band, .func (.func fid) #[] caps] w (ListPost w (chE l band E) (chL l band E F)) := by
  cases hin : inL l band
  · have HE : chE l band E = 2 := by unfold chE; rw [hin]; rfl
    have HL : chL l band E F = [] := by unfold chL; rw [HE]; rfl
    rw [HE, HL]
    clear HE HL
    simp [inL] at hin
    by_cases h0 : 0 ≤ band
    · have h1 := hin h0
      go_enter Tryz.func114, Tryz.ntmps114
      go_wp2
      go_ret2
      exact ⟨none, 0, rfl, World.ownsRow_nil _ _ _ _, Below.refl _ _⟩
    · have h1 : band < 0 := by omega
      clear hin
      go_enter Tryz.func114, Tryz.ntmps114
      go_wp2
      go_ret2
      exact ⟨none, 0, rfl, World.ownsRow_nil _ _ _ _, Below.refl _ _⟩
  · have hin' := hin
    simp [inL] at hin
    obtain ⟨h0, h1⟩ := hin
    obtain ⟨k, rfl⟩ := Int.eq_ofNat_of_zero_le h0
    have hk : k < l.length := by omega
    have hbo := oks_get hok hk
    obtain ⟨b, hb⟩ : ∃ b, b = l[k] := ⟨_, rfl⟩
    rw [← hb] at hbo
    have HB := Lib.hid (show l[k]? = some b by rw [get_some hk, hb])
    have HE : chE l (k : Int) E = E b := by unfold chE; rw [hin', at_eq hk, hb]; rfl
    have HL : chL l (k : Int) E F = if E b = 0 then l.set k (F b) else [] := by unfold chL; rw [HE, at_eq hk, hb]; rfl
    rw [HE]
    have HL1 := Lib.hid HL
    clear hb HE HL hin'
    have hd1 := Lib.hid hd; clear hd
    go_enter Tryz.func114, Tryz.ntmps114
    go_wp2_with fail
    refine (clone_any l A c w hl hn).mono ?_
    rintro e w1 ⟨A1, c1, rfl, hown, hb1⟩
    obtain ⟨g, rfl, hgw, hg1⟩ := own_at hown (by omega)
    go_wp2_with fail
    refine (hd1.out l k b w1 g c1 HB.out hbo hb1 hown).mono ?_
    rintro e w2 ⟨rfl, h2, hb2⟩
    have H2 := Lib.hid h2; clear h2
    cases hE : (E b == 0)
    · have hne : E b ≠ 0 := by simpa using hE
      have HL2 := Lib.hid (HL1.out.trans (if_neg hne))
      clear hne
      go_wp2
      go_ret2
      rw [HL2.out]
      exact ⟨none, 0, rfl, World.ownsRow_nil _ _ _ _, hb2⟩
    · have hne : E b = 0 := by simpa using hE
      have HL2 := Lib.hid (HL1.out.trans (if_pos hne))
      have HN := Lib.hid hne
      rw [hne]
      clear hne hE
      go_wp2
      go_ret2
      rw [HL2.out, HN.out]
      refine ⟨some ⟨g, 0, none⟩, c1, ?_, ?_, hb2⟩
      · rw [List.length_set]; rfl
      · have := H2.out HN.out
        rw [List.length_set]; exact this

/-! ### Append, Unlink, Reset -/
theorem appL_eq (l : List BI) (sz band now : Int) : chE l band (fun b => if sz ≤ b.used then 11 else 0) = appE l sz band ∧ chL l band (fun b => if sz ≤ b.used then 11 else 0) (appBI now) = appL l sz band now := ⟨rfl, rfl⟩
theorem unlL_eq (l : List BI) (band : Int) : chE l band (fun b => if b.live < 1 then 8 else 0) = unlE l band ∧ chL l band (fun b => if b.live < 1 then 8 else 0) unlBI = unlL l band := ⟨rfl, rfl⟩
theorem ListPost.below {W w : World} {E : Int} {L : List BI} {e : Ending} {w' : World} (h : ListPost w E L e w') (hb : Below W.heap.size W w) : ListPost W E L e w' := by
  obtain ⟨A', c', he, ho, hb'⟩ := h
  refine ⟨A', c', he, ⟨ho.1, ?_⟩, hb.trans (hb'.mono hb.size)⟩
  rcases ho.2 with h | ⟨g, cap, cur, h1, h2, h3⟩
  · exact .inl h
  · exact .inr ⟨g, cap, cur, h1, Nat.le_trans hb.size h2, h3⟩

set_option maxHeartbeats 400000 in
set_option maxRecDepth 100000 in
theorem append_any (l : List BI) (sz band now : Int) (hok : Oks l) (A : Option Addr) (c : Nat) (w : World) (hl : Rd w w.heap.size A (flat l)) (hn : l.length ≤ 100000) :
    Calls Tryz.prog 113 #[.slice A l.length c, .int .i64 sz, .int .i64 band, .int .u64 now] w (ListPost w (appE l sz band) (appL l sz band now)) := by
  rw [← (appL_eq l sz band now).1, ← (appL_eq l sz band now).2]
  go_enter Tryz.func113, Tryz.ntmps113
  go_wp2_with fail
  have hl2 : Rd ((w.alloc (.cells #[.int .i64 sz] 3)).alloc (.cells #[.int .u64 now] 23)) _ A (flat l) := ((hl.alloc (Nat.le_refl _) _).alloc (by simp) _).more (B' := w.heap.size + 1 + 1) (by omega)
  refine (change_any l band 150 _ _ (appBI now) hok A c _ (by simpa using hl2) hn (app_does _ w.heap.size (w.heap.size + 1) sz now ?_ ?_) (fun _ _ => rfl)).mono ?_
  · rw [World.cell?_alloc_past _ _ _ (by simp)]; simp
  · simp [World.cell?_alloc_at]
  intro e w1 h
  have hB : Below w.heap.size w ((w.alloc (.cells #[.int .i64 sz] 3)).alloc (.cells #[.int .u64 now] 23)) := ((Below.refl _ _).alloc (Nat.le_refl _) _).alloc (by simp) _
  obtain ⟨A1, c1, rfl, h1, h2⟩ := h.below hB
  go_wp2
  go_ret2
  exact ⟨A1, c1, rfl, h1, h2⟩

set_option maxHeartbeats 400000 in
set_option maxRecDepth 100000 in
theorem unlink_any (l : List BI) (band : Int) (hok : Oks l) (A : Option Addr) (c : Nat) (w : World) (hl : Rd w w.heap.size A (flat l)) (hn : l.length ≤ 100000) :
    Calls Tryz.prog 108 #[.slice A l.length c, .int .i64 band] w (ListPost w (unlE l band) (unlL l band)) := by
  rw [← (unlL_eq l band).1, ← (unlL_eq l band).2]
  go_enter Tryz.func108, Tryz.ntmps108
  go_wp2_with fail
  refine (change_any l band 145 _ _ unlBI hok A c _ hl hn (unl_does _) (fun _ _ => rfl)).mono ?_
  rintro e w1 ⟨A1, c1, rfl, h1, h2⟩
  go_wp2
  go_ret2
  exact ⟨A1, c1, rfl, h1, h2⟩

end Go.Proofs.YtggkengmlkhdiaaGreat.V
namespace Go.Proofs.YtggkengmlkhdiaaGreat
set_option linter.unusedVariables false
open Go.RowKit

section
variable {w w' : World} {B : Bd} {p q pw : Nat} {g : Geo} {F : List Flt} {key : Int} {S : ST} {ea ec : Nat} {BA : Option Addr} {bc : Nat}
/-- What a method that changes the state leaves; the entries stay where they are. -/
def DrvTo (w : World) (B : Bd) (p q pw : Nat) (g : Geo) (F : List Flt) (key : Int) (S : ST) (ea ec : Nat) (w' : World) : Prop := ∃ BA bc, Drv w' B p q pw g F key S ea ec BA bc ∧ KeptT DRT B w w'
theorem VOk.rd {b : V.BI} (h : VOk g S.v) (hd : Drv w B p q pw g F key S ea ec BA bc) : Rd w w.heap.size BA (V.flat S.v.bs) := hd.bs.rd
theorem VOk.adr_le {v : DV} (h : VOk g v) {b : Nat} {n : NE} (hn : v.es[b]? = some n) (h0 : 0 ≤ n.adr) : g.random ≤ n.adr ∧ n.adr ≤ 100000 := by
  rcases h.adr b n hn with h1 | ⟨k, i, h1⟩
  · omega
  · have h2 := h1.nn h
    have h3 := h.gv.sz
    have h4 := h.gv.r1
    have h5 : bz g = g.tracks * g.sectors := rfl
    rw [h5] at h2
    omega
set_option maxRecDepth 100000 in
set_option maxHeartbeats 8000000 in
theorem unlink20_any (b : Nat) (hv : VOk g S.v) (hb : b < S.v.es.length) (h : Drv w B p q pw g F key S ea ec BA bc) : Calls Tryz.prog 78 #[.pointer (some ⟨p, 0, none⟩), .int .i64 b] w fun e w' => e = .returned (.tuple #[]) ∧ DrvTo w B p q pw g F key ⟨unlinkV g S.v b, S.d⟩ ea ec w' := by
  have hn := List.getElem?_eq_getElem hb
  generalize hne : S.v.es[b] = n at hn
  clear hne
  obtain ⟨e0, e1, e2⟩ := h.entry hn
  obtain ⟨c0, c1, c2, c3, c4, c5⟩ := h.cells
  have hlt : (b : Int) < S.v.es.length := by omega
  by_cases h0 : 0 ≤ n.adr
  · have hal := hv.adr_le hn h0
    have HU : Hid (unlinkV g S.v b = ⟨S.v.es.set b noNE, V.unlL S.v.bs (bandN g n.adr), S.v.time, S.v.failed⟩) := by
      unfold Hid unlinkV; rw [getD_of hn, if_pos h0]
    have hbl64 := hv.len64
    have HBD := Lib.hid (fun W (hW : Below w.heap.size w W) => band20_any hv.gv n.adr hal.1 hal.2 (h.below0 hW))
    have HUN := Lib.hid (fun W (hW : Below w.heap.size w W) (k : Int) => V.unlink_any S.v.bs k hv.oks BA bc W ((h.below0 hW).bs.rd) (by omega))
    have HFB : Hid (∀ W A c bs, Below w.heap.size w W → W.ownsRow w.heap.size 76 4 (.slice A bs.length c) bs.length (V.flat bs) →
        Drv (W.setCell ⟨p, 3, none⟩ (.slice A bs.length c)) B p q pw g F key ⟨{ S.v with bs := bs }, S.d⟩ ea ec A c ∧ KeptT DRT B w (W.setCell ⟨p, 3, none⟩ (.slice A bs.length c))) := by
      intro W A c bs hW ho
      have h' := (h.below0 hW).setBands (c := c) (RdT.of_own ho)
      exact ⟨h'.1, (KeptT.bel hW).trans h'.2⟩
    have HSE : Hid (∀ W A c bs, Drv W B p q pw g F key ⟨{ S.v with bs := bs }, S.d⟩ ea ec A c → KeptT DRT B w W →
        (W.cell? ⟨p, 2, none⟩ = some (.slice (some ⟨ea, 0, none⟩) S.v.es.length ec)) ∧ (W.cell? ⟨ea, b * 3, none⟩ = some (.int .i64 n.kind) ∧ W.cell? ⟨ea, b * 3 + 1, none⟩ = some (.int .u64 n.ver) ∧ W.cell? ⟨ea, b * 3 + 2, none⟩ = some (.int .i64 n.adr)) ∧
        (W.frozen? ⟨ea, b * 3, none⟩ = false ∧ W.frozen? ⟨ea, b * 3 + 1, none⟩ = false ∧ W.frozen? ⟨ea, b * 3 + 2, none⟩ = false) ∧
        DrvTo w B p q pw g F key ⟨⟨S.v.es.set b noNE, bs, S.v.time, S.v.failed⟩, S.d⟩ ea ec (((W.setCell ⟨ea, b * 3, none⟩ (.int .i64 0)).setCell ⟨ea, b * 3 + 1, none⟩ (.int .u64 0)).setCell ⟨ea, b * 3 + 2, none⟩ (.int .i64 (-1)))) := by
      intro W A c bs hd hk
      have h' := hd.setEntry (i := b) hb noNE
      exact ⟨hd.cells.2.2.1, hd.entry (i := b) hn, ⟨hd.freeE _, hd.freeE _, hd.freeE _⟩, A, c, h'.1, hk.trans h'.2⟩
    have HCB : Hid (∀ W, Below w.heap.size w W → W.cell? ⟨p, 3, none⟩ = some (.slice BA S.v.bs.length bc) ∧ W.frozen? ⟨p, 3, none⟩ = false) := fun W hW => ⟨(h.below0 hW).cells.2.2.2.1, (h.below0 hW).free 3⟩
    obtain ⟨C, hC⟩ : ∃ C : List Value → World → Prop, C = fun h W => match h with
      | [] => W = w.drew
      | [v] => v = .int .i64 (bandN g n.adr) ∧ Below w.heap.size w W
      | [_, u] => ∃ A c, u = .tuple #[.slice A (V.unlL S.v.bs (bandN g n.adr)).length c, .int .i64 (V.unlE S.v.bs (bandN g n.adr))] ∧ W.ownsRow w.heap.size 76 4 (.slice A (V.unlL S.v.bs (bandN g n.adr)).length c) (V.unlL S.v.bs (bandN g n.adr)).length (V.flat (V.unlL S.v.bs (bandN g n.adr))) ∧ Below w.heap.size w W
      | [_, _, _] => ∃ A c, Drv W B p q pw g F key ⟨{ S.v with bs := V.unlL S.v.bs (bandN g n.adr) }, S.d⟩ ea ec A c ∧ KeptT DRT B w W
      | _ => False := ⟨_, rfl⟩
    have hb0 : Below w.heap.size w w.drew := (Below.refl _ _).drew
    have hall : ∀ t : HeldL C 2, Below w.heap.size w t.w := fun t => by
      obtain ⟨s, W, h, l⟩ := t
      simp only
      subst hC
      match s, h, l with
      | [], h, _ => have h' : W = w.drew := h; rw [h']; exact hb0
      | [v], h, _ => exact h.2
      | [_, u], h, _ => obtain ⟨_, _, _, _, h⟩ := h; exact h
    have HC0 : Hid (C [] w.drew) := by subst hC; exact rfl
    have HK1 : Hid (∀ W, C [] W → Calls Tryz.prog 75 #[.pointer (some ⟨p, 0, none⟩), .int .i64 n.adr] W fun e w' => ∃ x, e = .returned x ∧ C ([] ++ [x]) w') := by
      subst hC
      intro W hW
      have hW' : W = w.drew := hW
      subst hW'
      exact (HBD.out _ hb0).mono fun e w' h => ⟨_, h.1, rfl, hb0.trans h.2⟩
    have HK2 : Hid (∀ v W, C [v] W → Calls Tryz.prog 108 #[.slice BA S.v.bs.length bc, .int .i64 (bandN g n.adr)] W fun e w' => ∃ x, e = .returned x ∧ C ([v] ++ [x]) w') := by
      subst hC
      intro v W hW
      obtain ⟨_, hW⟩ := hW
      refine (HUN.out W hW _).mono ?_
      rintro e w' ⟨A, c, he, ho, hb'⟩
      exact ⟨_, he, A, c, rfl, own_mono ho hW.size, hW.trans (hb'.mono hW.size)⟩
    have HV1 : Hid (∀ v W, C [v] W → v = .int .i64 (bandN g n.adr)) := by subst hC; exact fun _ _ h => h.1
    have HV2 : Hid (∀ v u W, C [v, u] W → ∃ A c, u = .tuple #[.slice A (V.unlL S.v.bs (bandN g n.adr)).length c, .int .i64 (V.unlE S.v.bs (bandN g n.adr))] ∧ Below w.heap.size w W) := by
      subst hC; intro v u W h; obtain ⟨A, c, h1, _, h2⟩ := h; exact ⟨A, c, h1, h2⟩
    have HV3 : Hid (∀ v A c W, C [v, .tuple #[.slice A (V.unlL S.v.bs (bandN g n.adr)).length c, .int .i64 (V.unlE S.v.bs (bandN g n.adr))]] W → C ([v, .tuple #[.slice A (V.unlL S.v.bs (bandN g n.adr)).length c, .int .i64 (V.unlE S.v.bs (bandN g n.adr))]] ++ [undef]) (W.setCell ⟨p, 3, none⟩ (.slice A (V.unlL S.v.bs (bandN g n.adr)).length c))) := by
      subst hC
      intro v A c W h
      obtain ⟨A', c', h1, h2, h3⟩ := h
      injection h1 with h1
      have h1' := congrArg (fun a => a[0]?) h1
      simp only [List.getElem?_toArray, List.getElem?_cons_zero, Option.some.injEq] at h1'
      injection h1' with e1 e2 e3
      subst e1; subst e3
      exact ⟨A, c, HFB.out W A c _ h3 h2⟩
    have HV4 : Hid (∀ v u x W, C [v, u, x] W → ∃ A c, Drv W B p q pw g F key ⟨{ S.v with bs := V.unlL S.v.bs (bandN g n.adr) }, S.d⟩ ea ec A c ∧ KeptT DRT B w W) := by subst hC; exact fun _ _ _ _ h => h
    have f3 : ∀ t : HeldL C 2, t.w.cell? ⟨p, 3, none⟩ = some (.slice BA S.v.bs.length bc) := fun t => (HCB.out _ (hall t)).1
    have hne : Nonempty (HeldL C 2) := ⟨⟨[], _, HC0.out, by simp⟩⟩
    have hne' : Nonempty (HeldC C) := ⟨⟨[], _, HC0.out⟩⟩
    have h00 : decide (0 ≤ n.adr) = true := decide_eq_true h0
    rw [HU.out]
    generalize V.unlL S.v.bs (bandN g n.adr) = bs' at *
    generalize V.unlE S.v.bs (bandN g n.adr) = ub at *
    generalize bandN g n.adr = k at *
    clear hC hall hb0 HBD HUN HFB h hv hal hbl64 HU
    go_enter Tryz.func78, Tryz.ntmps78
    go_wp2_with fail
    refine wp_region_chainL C 14 [7, 8] [14, 10, 9, 8, 7] [4] (by kernel_rfl) (by kernel_rfl) (by kernel_rfl) (by kernel_rfl) (by kernel_rfl) HC0.out ?_
    repeat (first | (refine wpCh_nl 2 (by rfl) (by rfl) (by rfl) ?_; go_big_quiet_step (fail); refine wpQuiet_nil ?_) | (refine wpCh_n (by rfl) (by rfl) ?_; go_big_quiet_step (fail); refine wpQuiet_nil ?_))
    refine wpCh_l (f := 75) (args := #[.pointer (some ⟨p, 0, none⟩), .int .i64 n.adr]) (by rfl) (by rfl) (fun W => by simp [go_sem]) (fun W hW => HK1.out W hW) (fun v W hW => ?_)
    obtain rfl := HV1.out v W hW
    go_big_quiet_step (fail)
    refine wpQuiet_nil ?_
    refine wpCh_l (f := 108) (args := #[.slice BA S.v.bs.length bc, .int .i64 k]) (by rfl) (by rfl) (fun W => by simp [go_sem]) (fun W hW => HK2.out _ W hW) (fun v W hW => ?_)
    obtain ⟨A, c, rfl, _⟩ := HV2.out _ v W hW
    go_big_quiet_step (fail)
    refine wpQuiet_nil ?_
    repeat (first | (refine wpCh_nl 2 (by rfl) (by rfl) (by rfl) ?_; go_big_quiet_step (fail); refine wpQuiet_nil ?_) | (refine wpCh_n (by rfl) (by rfl) ?_; go_big_quiet_step (fail); refine wpQuiet_nil ?_))
    refine wpCh_s (by rfl) (by rfl) rfl (fun W hW => ⟨W.setCell ⟨p, 3, none⟩ (.slice A bs'.length c), ?_, HV3.out _ _ _ W hW⟩) (fun v W hW => ?_)
    · obtain ⟨_, _, _, hbW⟩ := HV2.out _ _ W hW
      obtain ⟨b3, b4⟩ := HCB.out W hbW
      simp [go_sem, *]
    refine wpCh_nil ?_
    intro wc hcw
    obtain ⟨A2, c2, hd, hk⟩ := HV4.out _ _ _ wc hcw
    obtain ⟨g2, ⟨g0, g1, g3⟩, ⟨g4, g5, g6⟩, hfin⟩ := HSE.out wc A2 c2 _ hd hk
    have HFIN := Lib.hid hfin
    clear hd hk hfin hcw HV1 HV2 HV3 HV4 HK1 HK2 HC0 HSE HCB hne hne' f3 e0 e1 e2 c0 c1 c2 c3 c4 c5
    go_wp2
    go_end0
    exact ⟨rfl, HFIN.out⟩
  · have HU : Hid (unlinkV g S.v b = ⟨S.v.es.set b noNE, S.v.bs, S.v.time, S.v.failed⟩) := by
      unfold Hid unlinkV; rw [getD_of hn, if_neg h0]
    have hS := h.setEntry (i := b) hb noNE
    have HFIN : Hid (DrvTo w B p q pw g F key ⟨⟨S.v.es.set b noNE, S.v.bs, S.v.time, S.v.failed⟩, S.d⟩ ea ec (((w.setCell ⟨ea, b * 3, none⟩ (.int .i64 0)).setCell ⟨ea, b * 3 + 1, none⟩ (.int .u64 0)).setCell ⟨ea, b * 3 + 2, none⟩ (.int .i64 (-1)))) := ⟨BA, bc, hS⟩
    have f0 := h.freeE (b * 3)
    have f1 := h.freeE (b * 3 + 1)
    have f2 := h.freeE (b * 3 + 2)
    have h00 : decide (0 ≤ n.adr) = false := decide_eq_false h0
    rw [HU.out]
    clear h hv hS HU
    go_enter Tryz.func78, Tryz.ntmps78
    go_wp2
    go_end0
    exact ⟨rfl, HFIN.out⟩
end
end Go.Proofs.YtggkengmlkhdiaaGreat
