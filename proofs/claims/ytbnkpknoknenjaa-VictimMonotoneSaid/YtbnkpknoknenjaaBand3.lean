/-
  WHAT IS SHOWN: what slices.Clone returns of a list of bands: a new list of the same bands; and the stores of band's closures. Conditions: the slice reads as a list of bands.
-/
import Derived.Test.YtbnkpknoknenjaaRows
import Derived.Test.YtbnkpknoknenjaaBandPlain
import Derived.Deep.QuietTactic
import Derived.BigQuiet
import Derived.Handy
namespace Go.Proofs.Ytbnkpknoknenjaa
set_option linter.unusedVariables false
open Go.RowKit

theorem info_band : (Try.prog.info? 35).map (fun i => (i.zero, i.size, i.bytes)) = some (some (.agg #[.int .i64 0, .int .i64 0, .int .u64 0, .int .u64 0]), 4, 32) := by kernel_rfl
theorem flat_one (l : List BI) : ∀ u ∈ flat l, u.oneCell' = true := by
  intro u hu
  obtain ⟨b, _, hb⟩ := List.mem_flatMap.1 hu
  simp [BI.cells] at hb
  rcases hb with rfl | rfl | rfl | rfl <;> rfl
theorem Rd.at_none {w : World} {B : Nat} {l : List BI} (h : Rd w B none (flat l)) : l = [] := by
  cases l with
  | nil => rfl
  | cons b l => obtain ⟨g, o, e, _⟩ := h 0 (.int .i64 b.used) rfl; cases e
theorem Rd.at_add {w : World} {B : Nat} {a : Addr} {xs : List Value} (h : Rd w B (some a) xs) : ∀ j u, xs[j]? = some u → w.cell? (a.add j) = some u := fun j u hu => by
  obtain ⟨g, o, e, _, hc⟩ := h j u hu
  injection e with e; subst e
  rw [add_off]; exact hc

set_option maxHeartbeats 400000 in
theorem clone_any (l : List BI) (A : Option Addr) (c : Nat) (w : World) (hl : Rd w w.heap.size A (flat l)) (hn : l.length ≤ 100000) :
    Calls Try.prog 53 #[.slice A l.length c] w fun e w' => ∃ A' c', e = .returned (.slice A' l.length c') ∧ World.ownsRow w' w.heap.size 35 4 (.slice A' l.length c') l.length (flat l) ∧ Below w.heap.size w w' := by
  obtain ⟨i0, hi, hz0, hz1, hz2⟩ := info_parts info_band
  have hnil := fun (w : World) a n c => Lib.run_eql_slice_nil (P := Try.prog) w 22 35 a n c 0 0 Try.underlying22
  cases A with
  | none =>
    have := hl.at_none
    subst this
    go_enter Try.func53, Try.ntmps53
    go_wp2
    go_ret
    exact ⟨none, 0, rfl, World.ownsRow_nil _ _ _ _, Below.refl _ _⟩
  | some a =>
    have hro := World.ownsRow_lit (base := w.heap.size) (e := 35) (size := 4) w #[] 0 (Nat.le_refl _) (by decide) rfl
    have hla := hl.alloc (Nat.le_refl _) (.cells #[] 35)
    go_enter Try.func53, Try.ntmps53
    go_wp2_with (at_builtin; refine wpList_append_own _ rfl _ _ 22 rfl w.heap.size 35 i0 _ 4 32 Try.underlying22 hi hz0 hz1 hz2 rfl (by decide) _ 0 [] rfl hro a l.length c (flat l) rfl (flat_len4 l) hla.at_add (flat_one l) ?c1 ?c2 ?c3 ?_)
    case c1 => unfold maxLen; omega
    case c2 => omega
    intro v' w' hown hgrow _
    try simp only [Nat.zero_add, List.nil_append] at hown
    obtain ⟨A', c', hv⟩ := own_form hown
    subst hv
    go_wp2
    go_ret
    exact ⟨A', c', rfl, hown, ((Below.refl _ _).alloc (Nat.le_refl _) _).grown hgrow (by simp) (fun k hk => by simp [Value.ownBlock] at hk; omega)⟩

set_option maxHeartbeats 400000 in
theorem copied_any (l : List BI) (A : Option Addr) (c : Nat) (w : World) (hl : Rd w w.heap.size A (flat l)) (hn : l.length ≤ 100000) :
    Calls Try.prog 22 #[.slice A l.length c] w fun e w' => ∃ A' c', e = .returned (.slice A' l.length c') ∧ World.ownsRow w' w.heap.size 35 4 (.slice A' l.length c') l.length (flat l) ∧ Below w.heap.size w w' := by
  obtain ⟨i0, hi, hz0, hz1, hz2⟩ := info_parts info_band
  have hro := World.ownsRow_lit (base := w.heap.size) (e := 35) (size := 4) w #[] 0 (Nat.le_refl _) (by decide) rfl
  cases A with
  | none =>
    have := hl.at_none
    subst this
    go_enter Try.func22, Try.ntmps22
    go_wp2
    go_ret
    exact ⟨_, _, rfl, hro, (Below.refl _ _).alloc (Nat.le_refl _) _⟩
  | some a =>
    have hla := hl.alloc (Nat.le_refl _) (.cells #[] 35)
    go_enter Try.func22, Try.ntmps22
    go_wp2_with (at_builtin; refine wpList_append_own _ rfl _ _ 22 rfl w.heap.size 35 i0 _ 4 32 Try.underlying22 hi hz0 hz1 hz2 rfl (by decide) _ 0 [] rfl hro a l.length c (flat l) rfl (flat_len4 l) hla.at_add (flat_one l) ?c1 ?c2 ?c3 ?_)
    case c1 => unfold maxLen; omega
    case c2 => omega
    intro v' w' hown hgrow _
    try simp only [Nat.zero_add, List.nil_append] at hown
    obtain ⟨A', c', hv⟩ := own_form hown
    subst hv
    go_wp2
    go_ret
    exact ⟨A', c', rfl, hown, ((Below.refl _ _).alloc (Nat.le_refl _) _).grown hgrow (by simp) (fun k hk => by simp [Value.ownBlock] at hk; omega)⟩

/-! ### the closures of Append, Unlink and Reset -/
theorem flat_set (l : List BI) (k : Nat) (b b' : BI) (t : Nat) (v : Value) (hb : l[k]? = some b) (ht : t < 4) (h : b'.cells = b.cells.set t v) : flat (l.set k b') = (flat l).set (k * 4 + t) v := by
  have hk : k < l.length := (List.getElem?_eq_some_iff.1 hb).1
  have hlen : ∀ m : List BI, (flat m).length = m.length * 4 := flat_len4
  apply List.ext_getElem?
  intro j
  rcases Nat.lt_or_ge j (l.length * 4) with hj | hj
  · have hj4 : j = j / 4 * 4 + j % 4 := by omega
    have e1 : ∀ m : List BI, (flat m)[j]? = (m[j / 4]?).bind fun a => (a.cells)[j % 4]? := fun m => by
      conv => lhs; rw [hj4]
      exact flat_get _ 4 cells_len m _ _ (by omega)
    rw [e1, List.getElem?_set, List.getElem?_set, e1, hlen]
    by_cases h1 : k = j / 4
    · subst h1
      rw [if_pos rfl, if_pos (by omega), hb]
      simp only [Option.bind_some, h, List.getElem?_set, cells_len]
      by_cases h2 : t = j % 4
      · rw [if_pos h2, if_pos (by omega)]; simp [ht]; omega
      · rw [if_neg h2, if_neg (by omega)]
    · rw [if_neg h1, if_neg (by omega)]
  · rw [List.getElem?_eq_none (by rw [hlen, List.length_set]; exact hj), List.getElem?_eq_none (by rw [List.length_set, hlen]; exact hj)]

theorem flat_app (l : List BI) (k : Nat) (b : BI) (now : Int) (hb : l[k]? = some b) :
    flat (l.set k (appBI now b)) = (((flat l).set (k * 4) (.int .i64 (wrap64 (b.used + 1)))).set (k * 4 + 1) (.int .i64 (wrap64 (b.live + 1)))).set (k * 4 + 2) (.int .u64 now) := by
  have hk : k < l.length := (List.getElem?_eq_some_iff.1 hb).1
  rw [← Nat.add_zero (k * 4), ← flat_set l k b ⟨wrap64 (b.used + 1), b.live, b.age, b.wear⟩ 0 _ hb (by omega) rfl, Nat.add_zero,
    ← flat_set _ k ⟨wrap64 (b.used + 1), b.live, b.age, b.wear⟩ ⟨wrap64 (b.used + 1), wrap64 (b.live + 1), b.age, b.wear⟩ 1 _ (by simp [hk]) (by omega) rfl, List.set_set,
    ← flat_set _ k ⟨wrap64 (b.used + 1), wrap64 (b.live + 1), b.age, b.wear⟩ (appBI now b) 2 (.int .u64 now) (by simp [hk]) (by omega) rfl, List.set_set]
theorem flat_unl (l : List BI) (k : Nat) (b : BI) (hb : l[k]? = some b) : flat (l.set k (unlBI b)) = (flat l).set (k * 4 + 1) (.int .i64 (b.live - 1)) := flat_set l k b _ 1 _ hb (by omega) rfl
theorem flat_all (l : List BI) (k : Nat) (b b' : BI) (hb : l[k]? = some b) :
    flat (l.set k b') = ((((flat l).set (k * 4) (.int .i64 b'.used)).set (k * 4 + 1) (.int .i64 b'.live)).set (k * 4 + 2) (.int .u64 b'.age)).set (k * 4 + 3) (.int .u64 b'.wear) := by
  have hk : k < l.length := (List.getElem?_eq_some_iff.1 hb).1
  rw [← Nat.add_zero (k * 4), ← flat_set l k b ⟨b'.used, b.live, b.age, b.wear⟩ 0 _ hb (by omega) rfl, Nat.add_zero,
    ← flat_set _ k ⟨b'.used, b.live, b.age, b.wear⟩ ⟨b'.used, b'.live, b.age, b.wear⟩ 1 _ (by simp [hk]) (by omega) rfl, List.set_set,
    ← flat_set _ k ⟨b'.used, b'.live, b.age, b.wear⟩ ⟨b'.used, b'.live, b'.age, b.wear⟩ 2 _ (by simp [hk]) (by omega) rfl, List.set_set,
    ← flat_set _ k ⟨b'.used, b'.live, b'.age, b.wear⟩ b' 3 _ (by simp [hk]) (by omega) rfl, List.set_set]

/-- What a closure of band.change leaves behind: its answer; the changed element; all else as it was. -/
def DoesPost (W : World) (l : List BI) (k g c : Nat) (E : Int) (b' : BI) (e : Ending) (w' : World) : Prop :=
  e = .returned (.int .i64 E) ∧ (E = 0 → World.ownsRow w' W.heap.size 35 4 (.slice (some ⟨g, 0, none⟩) l.length c) l.length (flat (l.set k b'))) ∧ Below W.heap.size W w'
/-- What a closure of band.change does to the element at k of an owned list. -/
def Does (fid : FuncId) (caps : Array Value) (W : World) (E : BI → Int) (F : BI → BI) : Prop :=
  ∀ (l : List BI) (k : Nat) (b : BI) (w : World) (g c : Nat), l[k]? = some b → b.Ok → Below W.heap.size W w → World.ownsRow w W.heap.size 35 4 (.slice (some ⟨g, 0, none⟩) l.length c) l.length (flat l) →
    Calls Try.prog fid (#[.pointer (some ⟨g, k * 4, none⟩)] ++ caps) w (DoesPost W l k g c (E b) (F b))

set_option maxHeartbeats 400000 in
theorem app_does (W : World) (b1 b2 : Nat) (sz now : Int) (h1 : W.cell? ⟨b1, 0, none⟩ = some (.int .i64 sz)) (h2 : W.cell? ⟨b2, 0, none⟩ = some (.int .u64 now)) :
    Does 41 #[.pointer (some ⟨b1, 0, none⟩), .pointer (some ⟨b2, 0, none⟩)] W (fun b => if sz ≤ b.used then 11 else 0) (appBI now) := by
  intro l k b w g c hb hok hbl hown
  have hk : k < l.length := (List.getElem?_eq_some_iff.1 hb).1
  obtain ⟨g', e, hgW, hgw⟩ := own_at hown (by omega)
  simp only [Option.some.injEq, Addr.mk.injEq, and_true] at e
  subst e
  have l1 := block_lt_of_cell h1
  have l2 := block_lt_of_cell h2
  simp only at l1 l2
  have hc1 := (hbl.cell (p := ⟨b1, 0, none⟩) l1).trans h1
  have hc2 := (hbl.cell (p := ⟨b2, 0, none⟩) l2).trans h2
  obtain ⟨g', o, e, _, a0, a1, a2, a3⟩ := (Rd.of_own hown).band hb
  simp only [Option.some.injEq, Addr.mk.injEq, and_true] at e
  obtain ⟨rfl, rfl⟩ := e
  simp only [Nat.zero_add] at a0 a1 a2 a3
  have f0 := fun j => hown.frozenAt j
  show Calls Try.prog _ #[_, _, _] _ _
  by_cases hs : sz ≤ b.used
  · go_enter Try.func41, Try.ntmps41
    go_wp2
    go_quiet (fail)
    go_wp2
    go_ret
    refine ⟨rfl, fun h0 => ?_, below_drewN' hbl _⟩
    simp at h0
  · go_enter Try.func41, Try.ntmps41
    go_wp2
    go_quiet (fail)
    go_wp2
    go_ret
    refine ⟨rfl, fun _ => ?_, ?_⟩
    · have s1 := (World.ownsRow.stored hown (k * 4) (.int .i64 (wrap64 (b.used + 1)))).1
      have s2 := (World.ownsRow.stored s1 (k * 4 + 1) (.int .i64 (wrap64 (b.live + 1)))).1
      have s3 := (World.ownsRow.stored s2 (k * 4 + 2) (.int .u64 now)).1
      rw [flat_app l k b now hb]
      exact s3
    · exact (((below_drewN' hbl _).setCell (p := ⟨g, k * 4, none⟩) hgW _).setCell (p := ⟨g, k * 4 + 1, none⟩) hgW _).setCell (p := ⟨g, k * 4 + 2, none⟩) hgW _

set_option maxHeartbeats 400000 in
theorem unl_does (W : World) : Does 43 #[] W (fun b => if b.live < 1 then 8 else 0) unlBI := by
  intro l k b w g c hb hok hbl hown
  have hk : k < l.length := (List.getElem?_eq_some_iff.1 hb).1
  obtain ⟨g', e, hgW, hgw⟩ := own_at hown (by omega)
  simp only [Option.some.injEq, Addr.mk.injEq, and_true] at e
  subst e
  obtain ⟨g', o, e, _, a0, a1, a2, a3⟩ := (Rd.of_own hown).band hb
  simp only [Option.some.injEq, Addr.mk.injEq, and_true] at e
  obtain ⟨rfl, rfl⟩ := e
  simp only [Nat.zero_add] at a0 a1 a2 a3
  have f0 := fun j => hown.frozenAt j
  have hb2 := hok.live.2
  show Calls Try.prog _ #[_] _ _
  by_cases hs : b.live < 1
  · go_enter Try.func43, Try.ntmps43
    go_wp2
    go_ret
    refine ⟨rfl, fun h0 => ?_, hbl⟩
    simp at h0
  · go_enter Try.func43, Try.ntmps43
    go_wp2
    go_ret
    refine ⟨rfl, fun _ => ?_, hbl.setCell (p := ⟨g, k * 4 + 1, none⟩) hgW _⟩
    rw [flat_unl l k b hb]
    exact (World.ownsRow.stored hown (k * 4 + 1) _).1

set_option maxHeartbeats 400000 in
theorem res_does (W : World) : Does 44 #[] W (fun _ => 0) resBI := by
  intro l k b w g c hb hok hbl hown
  have hk : k < l.length := (List.getElem?_eq_some_iff.1 hb).1
  obtain ⟨g', e, hgW, hgw⟩ := own_at hown (by omega)
  simp only [Option.some.injEq, Addr.mk.injEq, and_true] at e
  subst e
  obtain ⟨g', o, e, _, a0, a1, a2, a3⟩ := (Rd.of_own hown).band hb
  simp only [Option.some.injEq, Addr.mk.injEq, and_true] at e
  obtain ⟨rfl, rfl⟩ := e
  simp only [Nat.zero_add] at a0 a1 a2 a3
  have f0 := fun j => hown.frozenAt j
  show Calls Try.prog _ #[_] _ _
  go_enter Try.func44, Try.ntmps44
  go_wp2
  go_ret
  refine ⟨rfl, fun _ => ?_, ?_⟩
  · rw [flat_all l k b (resBI b) hb]
    have s1 := (World.ownsRow.stored hown (k * 4) (.int .i64 (resBI b).used)).1
    have s2 := (World.ownsRow.stored s1 (k * 4 + 1) (.int .i64 (resBI b).live)).1
    have s3 := (World.ownsRow.stored s2 (k * 4 + 2) (.int .u64 (resBI b).age)).1
    exact (World.ownsRow.stored s3 (k * 4 + 3) (.int .u64 (resBI b).wear)).1
  · exact (((hbl.setCell (p := ⟨g, k * 4, none⟩) hgW _).setCell (p := ⟨g, k * 4 + 1, none⟩) hgW _).setCell (p := ⟨g, k * 4 + 2, none⟩) hgW _).setCell (p := ⟨g, k * 4 + 3, none⟩) hgW _

def chE (l : List BI) (band : Int) (E : BI → Int) : Int := if inL l band then E (at_ l band) else 2
def chL (l : List BI) (band : Int) (E : BI → Int) (F : BI → BI) : List BI := if chE l band E = 0 then l.set band.toNat (F (at_ l band)) else []
/-- What band.change, and the three functions over it, return. -/
def ListPost (W : World) (E : Int) (L : List BI) (e : Ending) (w' : World) : Prop :=
  ∃ A' c', e = .returned (.tuple #[.slice A' L.length c', .int .i64 E]) ∧ World.ownsRow w' W.heap.size 35 4 (.slice A' L.length c') L.length (flat L) ∧ Below W.heap.size W w'

set_option maxHeartbeats 400000 in
theorem change_any (l : List BI) (band : Int) (fid : FuncId) (caps : Array Value) (E : BI → Int) (F : BI → BI) (hok : Oks l) (A : Option Addr) (c : Nat) (w : World) (hl : Rd w w.heap.size A (flat l)) (hn : l.length ≤ 100000) (hd : Does fid caps w E F)
    (hent : ∀ args w, (callFunc fid args).run Try.prog w = .ok (.enter fid args) w) :
    Calls Try.prog 40 #[.slice A l.length c, .int .i64 band, .func (.func fid) #[] caps] w (ListPost w (chE l band E) (chL l band E F)) := by
  cases hin : inL l band
  · have HE : chE l band E = 2 := by unfold chE; rw [hin]; rfl
    have HL : chL l band E F = [] := by unfold chL; rw [HE]; rfl
    rw [HE, HL]
    clear HE HL
    simp [inL] at hin
    by_cases h0 : 0 ≤ band
    · have h1 := hin h0
      go_enter Try.func40, Try.ntmps40
      go_wp2
      go_ret2
      exact ⟨none, 0, rfl, World.ownsRow_nil _ _ _ _, Below.refl _ _⟩
    · have h1 : band < 0 := by omega
      clear hin
      go_enter Try.func40, Try.ntmps40
      go_wp2
      go_ret2
      exact ⟨none, 0, rfl, World.ownsRow_nil _ _ _ _, Below.refl _ _⟩
  · have hin' := hin
    simp [inL] at hin
    obtain ⟨h0, h1⟩ := hin
    obtain ⟨k, rfl⟩ := Int.eq_ofNat_of_zero_le h0
    have hk : k < l.length := by omega
    have hbo := oks_get hok hk
    obtain ⟨b, hb⟩ : ∃ b, b = l[k] := ⟨_, rfl⟩
    rw [← hb] at hbo
    have HB := Lib.hid (show l[k]? = some b by rw [get_some hk, hb])
    have HE : chE l (k : Int) E = E b := by unfold chE; rw [hin', at_eq hk, hb]; rfl
    have HL : chL l (k : Int) E F = if E b = 0 then l.set k (F b) else [] := by unfold chL; rw [HE, at_eq hk, hb]; rfl
    rw [HE]
    have HL1 := Lib.hid HL
    clear hb HE HL hin'
    have hd1 := Lib.hid hd; clear hd
    go_enter Try.func40, Try.ntmps40
    go_wp2_with fail
    refine (clone_any l A c w hl hn).mono ?_
    rintro e w1 ⟨A1, c1, rfl, hown, hb1⟩
    obtain ⟨g, rfl, hgw, hg1⟩ := own_at hown (by omega)
    go_wp2_with fail
    refine (hd1.out l k b w1 g c1 HB.out hbo hb1 hown).mono ?_
    rintro e w2 ⟨rfl, h2, hb2⟩
    have H2 := Lib.hid h2; clear h2
    cases hE : (E b == 0)
    · have hne : E b ≠ 0 := by simpa using hE
      have HL2 := Lib.hid (HL1.out.trans (if_neg hne))
      clear hne
      go_wp2
      go_ret2
      rw [HL2.out]
      exact ⟨none, 0, rfl, World.ownsRow_nil _ _ _ _, hb2⟩
    · have hne : E b = 0 := by simpa using hE
      have HL2 := Lib.hid (HL1.out.trans (if_pos hne))
      have HN := Lib.hid hne
      rw [hne]
      clear hne hE
      go_wp2
      go_ret2
      rw [HL2.out, HN.out]
      refine ⟨some ⟨g, 0, none⟩, c1, ?_, ?_, hb2⟩
      · rw [List.length_set]; rfl
      · have := H2.out HN.out
        rw [List.length_set]; exact this

/-! ### Append, Unlink, Reset -/
theorem appL_eq (l : List BI) (sz band now : Int) : chE l band (fun b => if sz ≤ b.used then 11 else 0) = appE l sz band ∧ chL l band (fun b => if sz ≤ b.used then 11 else 0) (appBI now) = appL l sz band now := ⟨rfl, rfl⟩
theorem unlL_eq (l : List BI) (band : Int) : chE l band (fun b => if b.live < 1 then 8 else 0) = unlE l band ∧ chL l band (fun b => if b.live < 1 then 8 else 0) unlBI = unlL l band := ⟨rfl, rfl⟩
theorem resL_eq (l : List BI) (band : Int) : chE l band (fun _ => 0) = resE l band ∧ chL l band (fun _ => 0) resBI = resL l band := ⟨rfl, rfl⟩
theorem ListPost.below {W w : World} {E : Int} {L : List BI} {e : Ending} {w' : World} (h : ListPost w E L e w') (hb : Below W.heap.size W w) : ListPost W E L e w' := by
  obtain ⟨A', c', he, ho, hb'⟩ := h
  refine ⟨A', c', he, ⟨ho.1, ?_⟩, hb.trans (hb'.mono hb.size)⟩
  rcases ho.2 with h | ⟨g, cap, cur, h1, h2, h3⟩
  · exact .inl h
  · exact .inr ⟨g, cap, cur, h1, Nat.le_trans hb.size h2, h3⟩

set_option maxHeartbeats 400000 in
theorem append_any (l : List BI) (sz band now : Int) (hok : Oks l) (A : Option Addr) (c : Nat) (w : World) (hl : Rd w w.heap.size A (flat l)) (hn : l.length ≤ 100000) :
    Calls Try.prog 23 #[.slice A l.length c, .int .i64 sz, .int .i64 band, .int .u64 now] w (ListPost w (appE l sz band) (appL l sz band now)) := by
  rw [← (appL_eq l sz band now).1, ← (appL_eq l sz band now).2]
  go_enter Try.func23, Try.ntmps23
  go_wp2_with fail
  have hl2 : Rd ((w.alloc (.cells #[.int .i64 sz] 3)).alloc (.cells #[.int .u64 now] 27)) _ A (flat l) := ((hl.alloc (Nat.le_refl _) _).alloc (by simp) _).more (B' := w.heap.size + 1 + 1) (by omega)
  refine (change_any l band 41 _ _ (appBI now) hok A c _ (by simpa using hl2) hn (app_does _ w.heap.size (w.heap.size + 1) sz now ?_ ?_) (fun _ _ => rfl)).mono ?_
  · rw [World.cell?_alloc_past _ _ _ (by simp)]; simp
  · simp [World.cell?_alloc_at]
  intro e w1 h
  have hB : Below w.heap.size w ((w.alloc (.cells #[.int .i64 sz] 3)).alloc (.cells #[.int .u64 now] 27)) := ((Below.refl _ _).alloc (Nat.le_refl _) _).alloc (by simp) _
  obtain ⟨A1, c1, rfl, h1, h2⟩ := h.below hB
  go_wp2
  go_ret2
  exact ⟨A1, c1, rfl, h1, h2⟩

set_option maxHeartbeats 400000 in
theorem unlink_any (l : List BI) (band : Int) (hok : Oks l) (A : Option Addr) (c : Nat) (w : World) (hl : Rd w w.heap.size A (flat l)) (hn : l.length ≤ 100000) :
    Calls Try.prog 26 #[.slice A l.length c, .int .i64 band] w (ListPost w (unlE l band) (unlL l band)) := by
  rw [← (unlL_eq l band).1, ← (unlL_eq l band).2]
  go_enter Try.func26, Try.ntmps26
  go_wp2_with fail
  refine (change_any l band 43 _ _ unlBI hok A c _ hl hn (unl_does _) (fun _ _ => rfl)).mono ?_
  rintro e w1 ⟨A1, c1, rfl, h1, h2⟩
  go_wp2
  go_ret2
  exact ⟨A1, c1, rfl, h1, h2⟩

set_option maxHeartbeats 400000 in
theorem reset_any (l : List BI) (band : Int) (hok : Oks l) (A : Option Addr) (c : Nat) (w : World) (hl : Rd w w.heap.size A (flat l)) (hn : l.length ≤ 100000) :
    Calls Try.prog 28 #[.slice A l.length c, .int .i64 band] w (ListPost w (resE l band) (resL l band)) := by
  rw [← (resL_eq l band).1, ← (resL_eq l band).2]
  go_enter Try.func28, Try.ntmps28
  go_wp2_with fail
  refine (change_any l band 44 _ _ resBI hok A c _ hl hn (res_does _) (fun _ _ => rfl)).mono ?_
  rintro e w1 ⟨A1, c1, rfl, h1, h2⟩
  go_wp2
  go_ret2
  exact ⟨A1, c1, rfl, h1, h2⟩
end Go.Proofs.Ytbnkpknoknenjaa
