/-
  WHAT IS SHOWN: what New, State, Read, Pending, Durable and Clone of a cache return. Conditions: the cache lies in memory.
-/
import Derived.Test.YtckdhhadlemakaaCac3
import Derived.Deep.RegionHeld3
namespace Go.Proofs.Ytckdhhadlemakaa
set_option linter.unusedVariables false
open Go.RowKit

section
variable {w w' : World} {S : Nat → Prop} {B : Bd} {p : Nat} {g : Geo} {LM : List Sec} {ops : List OpV}
theorem cstate_any (a : Int) (h : CacheM w B p g LM ops) (hf : Fit g LM) :
    Calls Try.prog 69 #[.pointer (some ⟨p, 0, none⟩), .int .i64 a] w fun e w' => e = .returned (.int .i64 (stateN (playL g LM ops) a)) ∧ w = w' := by
  obtain ⟨m1, b1, m2, b2, A, c, F, h⟩ := h
  obtain ⟨c0, c1, c2⟩ := h.cells
  have HC := Lib.hid (state_any a h.med2 (hf.len (playL_len _ _ _)))
  clear h hf
  go_enter Try.func69, Try.ntmps69
  go_wp2_with fail
  refine HC.out.mono ?_
  rintro e w1 ⟨rfl, rfl⟩
  go_wp2
  go_ret
  exact ⟨rfl, rfl⟩
theorem cread_any (a : Int) (h : CacheM w B p g LM ops) (hf : Fit g LM) (hb : ShortB LM) :
    Calls Try.prog 66 #[.pointer (some ⟨p, 0, none⟩), .int .i64 a] w (ReadPost w (readB (playL g LM ops) a) (readE (playL g LM ops) a)) := by
  obtain ⟨m1, b1, m2, b2, A, c, F, h⟩ := h
  obtain ⟨c0, c1, c2⟩ := h.cells
  have HC := Lib.hid (read_any a h.med2 (hf.len (playL_len _ _ _)) (short_play ops hb))
  clear h hf
  go_enter Try.func66, Try.ntmps66
  go_wp2_with fail
  refine HC.out.mono ?_
  rintro e w1 ⟨v, rfl, hv, hb1⟩
  go_wp2
  go_ret2
  exact ⟨_, rfl, hv, hb1⟩
theorem cpending_any (h : CacheM w B p g LM ops) :
    Calls Try.prog 67 #[.pointer (some ⟨p, 0, none⟩)] w fun e w' => e = .returned (.int .i64 ops.length) ∧ w = w' := by
  obtain ⟨m1, b1, m2, b2, A, c, F, h⟩ := h
  obtain ⟨c0, c1, c2⟩ := h.cells
  clear h
  go_enter Try.func67, Try.ntmps67
  go_wp2
  go_ret
  exact ⟨rfl, rfl⟩
theorem cdurable_any (h : CacheM w B p g LM ops) (hf : Fit g LM) :
    Calls Try.prog 78 #[.pointer (some ⟨p, 0, none⟩)] w (ClonePost w g LM) := by
  obtain ⟨m1, b1, m2, b2, A, c, F, h⟩ := h
  obtain ⟨c0, c1, c2⟩ := h.cells
  have HC := Lib.hid (clone_any h.med1 hf)
  clear h hf
  go_enter Try.func78, Try.ntmps78
  go_wp2_with fail
  refine HC.out.mono ?_
  rintro e w1 ⟨m, b, rfl, h1⟩
  go_wp2
  go_ret
  exact ⟨m, b, rfl, h1⟩
/-- What makes a new cache. -/
def CNewPost (w : World) (g : Geo) (LM : List Sec) (ops : List OpV) (e : Ending) (w' : World) : Prop :=
  ∃ p, e = .returned (.pointer (some ⟨p, 0, none⟩)) ∧ CacheM w' (Bd.of w.heap.size) p g LM ops ∧ Below w.heap.size w w'
theorem cac_new {w2 : World} {m1 b1 m2 b2 : Nat} {A : Option Addr} {c : Nat} {F : List Value} (hb : w.heap.size ≤ w2.heap.size) (h1 : w.heap.size ≤ b1) (h2 : w.heap.size ≤ b2) (hne : b1 ≠ b2) (hm1 : Med w2 m1 b1 g LM) (hm2 : Med w2 m2 b2 g (playL g LM ops))
    (ho : w2.ownsRow w.heap.size 150 1 (.slice A ops.length c) ops.length F) (hF : ∀ (i : Nat) (o : OpV), ops[i]? = some o → ∃ v, F[i]? = some v ∧ OpFn w2 v o) :
    CacheM (w2.alloc (.cells #[.pointer (some ⟨m1, 0, none⟩), .pointer (some ⟨m2, 0, none⟩), .slice A ops.length c] 147)) (Bd.of w.heap.size) w2.heap.size g LM ops := by
  have hb2 : Below w2.heap.size w2 (w2.alloc (.cells #[.pointer (some ⟨m1, 0, none⟩), .pointer (some ⟨m2, 0, none⟩), .slice A ops.length c] 147)) := (Below.refl _ _).alloc (Nat.le_refl _) _
  refine ⟨m1, b1, m2, b2, A, c, F, ?_, fun h => h, fun _ _ h => h, ⟨h1, fun h => h⟩, ⟨h2, fun h => h⟩, hne, hm1.below0 hb2, hm2.below0 hb2, ho.alloc _, fun i o h => ?_⟩
  · exact World.ownsRow_lit (base := w.heap.size) (e := 147) (size := 3) w2 #[.pointer (some ⟨m1, 0, none⟩), .pointer (some ⟨m2, 0, none⟩), .slice A ops.length c] 1 hb (by decide) rfl
  · obtain ⟨v, hv, h'⟩ := hF i o h
    exact ⟨v, hv, h'.kept (belKept0 (S := fun _ => False) hb2) (FreeF.none _)⟩
set_option maxHeartbeats 1000000 in
theorem cnew_any {m bs : Nat} {L : List Sec} (hm : Med w m bs g L) (hf : Fit g L) : Calls Try.prog 64 #[.pointer (some ⟨m, 0, none⟩)] w (CNewPost w g L []) := by
  have HC : Hid (∀ W, Below w.heap.size w W → Calls Try.prog 109 #[.pointer (some ⟨m, 0, none⟩)] W (ClonePost W g L)) := by
    unfold Hid; intro W hW; exact clone_any (hm.below0 hW) hf
  clear hm hf
  go_enter Try.func64, Try.ntmps64
  go_wp2_with fail
  refine (HC.out _ (Below.refl _ _)).mono ?_
  rintro e w1 ⟨m1, b1, rfl, hm1, hmm1, hbb1, hb1⟩
  go_wp2_with fail
  refine (HC.out _ hb1).mono ?_
  rintro e w2 ⟨m2, b2, rfl, hm2, hmm2, hbb2, hb2⟩
  have hl1 := hm1.lt
  have hN := cac_new (w := w) (ops := []) (LM := L) (A := none) (c := 0) (F := []) (Nat.le_trans hb1.size hb2.size) hbb1 (Nat.le_trans hb1.size hbb2) (by omega) (hm1.below0 hb2) hm2 (own_nil _ _ _) (fun i o h => by simp at h)
  have HN := Lib.hid hN
  have hbl : Below w.heap.size w w2 := hb1.trans (hb2.mono hb1.size)
  clear hm1 hm2 hN
  go_wp2
  go_ret
  exact ⟨_, rfl, HN.out, hbl.alloc hbl.size _⟩
set_option maxRecDepth 100000 in
set_option maxHeartbeats 400000 in
theorem cloneops_any {A : Option Addr} {n c : Nat} {F : List Value} (ho : w.ownsRow B.n 150 1 (.slice A n c) n F) (h1 : ∀ u ∈ F, u.oneCell' = true) (hn : n ≤ 100000) :
    Calls Try.prog 113 #[.slice A n c] w fun e w' => ∃ A' c', e = .returned (.slice A' n c') ∧ w'.ownsRow w.heap.size 150 1 (.slice A' n c') n F ∧ Below w.heap.size w w' := by
  obtain ⟨i0, hi, hz0, hz1, hz2⟩ := info_parts info_fn
  have hnil := fun (w : World) a n c => Lib.run_eql_slice_nil (P := Try.prog) w 145 150 a n c 0 0 Try.underlying145
  have hFl : F.length = n := by have := ho.1; omega
  rcases ho.2 with ⟨h2, rfl⟩ | ⟨gg, cap, cur, h2, _⟩
  · injection h2 with h2 _ h3
    subst h2; subst h3
    obtain rfl : F = [] := List.eq_nil_of_length_eq_zero hFl
    clear ho
    go_enter Try.func113, Try.ntmps113
    go_wp2
    go_ret
    exact ⟨none, 0, rfl, own_nil _ _ _, Below.refl _ _⟩
  · injection h2 with h2 _ h3
    subst h2; subst h3
    have hla := (Rd.of_own ho).alloc (Nat.le_refl _) (.cells #[] 150)
    have hro := World.ownsRow_lit (base := w.heap.size) (e := 150) (size := 1) w #[] 0 (Nat.le_refl _) (by decide) rfl
    clear ho
    go_enter Try.func113, Try.ntmps113
    go_wp2_with (at_builtin; refine wpList_append_own _ rfl _ _ 145 rfl w.heap.size 150 i0 _ 1 8 Try.underlying145 hi hz0 hz1 hz2 rfl (by decide) _ 0 [] rfl hro ⟨gg, 0, none⟩ n c F rfl (by omega) hla.at_add h1 ?c1 ?c2 ?c3 ?_)
    case c1 => unfold maxLen; omega
    case c2 => omega
    intro v' w' hown hgrow hiff
    try simp only [Nat.zero_add, List.nil_append] at hown
    obtain ⟨A', c', hv⟩ := own_form hown
    subst hv
    go_wp2
    go_ret
    exact ⟨A', c', rfl, hown, ((Below.refl _ _).alloc (Nat.le_refl _) _).grown hgrow (by simp) (fun k hk => by simp [Value.ownBlock] at hk; omega)⟩
set_option maxRecDepth 100000 in
set_option maxHeartbeats 1000000 in
theorem cclone_any (h : CacheM w B p g LM ops) (hf : Fit g LM) (hn : ops.length ≤ 100000) : Calls Try.prog 75 #[.pointer (some ⟨p, 0, none⟩)] w (CNewPost w g LM ops) := by
  obtain ⟨m1, b1, m2, b2, A, c, F, h⟩ := h
  obtain ⟨c0, c1, c2⟩ := h.cells
  have hlp := h.lt
  have hFl : F.length = ops.length := by have := h.own.1; omega
  have hone : ∀ u ∈ F, u.oneCell' = true := by
    intro u hu
    obtain ⟨i, hi, rfl⟩ := List.getElem_of_mem hu
    obtain ⟨v, hv, hF⟩ := h.fn i _ (List.getElem?_eq_getElem (by omega))
    rw [List.getElem?_eq_getElem hi] at hv
    injection hv with hv
    rw [hv]
    obtain ⟨_, _, hF⟩ := hF
    rcases hF with ⟨_, pa, fr, rfl, _⟩ | ⟨_, pa, pb, A, c, fr, fr', rfl, _⟩ <;> rfl
  have HC1 : Hid (∀ W, Below w.heap.size w W → Calls Try.prog 109 #[.pointer (some ⟨m1, 0, none⟩)] W (ClonePost W g LM)) := by
    unfold Hid; intro W hW; exact clone_any (h.med1.below0 hW) hf
  have HC2 : Hid (∀ W, Below w.heap.size w W → Calls Try.prog 109 #[.pointer (some ⟨m2, 0, none⟩)] W (ClonePost W g (playL g LM ops))) := by
    unfold Hid; intro W hW; exact clone_any (h.med2.below0 hW) (hf.len (playL_len _ _ _))
  have HC3 : Hid (∀ W, Below w.heap.size w W → Calls Try.prog 113 #[.slice A ops.length c] W fun e w' => ∃ A' c', e = .returned (.slice A' ops.length c') ∧ w'.ownsRow W.heap.size 150 1 (.slice A' ops.length c') ops.length F ∧ Below W.heap.size W w') := by
    unfold Hid; intro W hW; exact cloneops_any (own_kept h.own (belKept0 (S := fun _ => False) hW) (fun _ _ h => h)) hone hn
  have HFN : Hid (∀ W, Below w.heap.size w W → ∀ (i : Nat) (o : OpV), ops[i]? = some o → ∃ v, F[i]? = some v ∧ OpFn W v o) := by
    unfold Hid; intro W hW i o ho
    obtain ⟨v, hv, h'⟩ := h.fn i o ho
    exact ⟨v, hv, h'.kept (belKept0 (S := fun _ => False) hW) (FreeF.none _)⟩
  have hne : m1 ≠ m2 := fun e => by
    obtain ⟨c1, V1, k1, k2, _, _⟩ := h.med1
    obtain ⟨c2, V2, j1, j2, _, _⟩ := h.med2
    subst e
    rw [k1] at j1
    injection j1 with j1; injection j1 with j1
    have := congrArg (fun a => a[5]?) j1
    simp [medObj] at this
    exact h.ne this.1
  clear h hf hone
  go_enter Try.func75, Try.ntmps75
  go_wp2
  go_region_held3 (fun W => W.cell? ⟨p, 0, none⟩ = some (.pointer (some ⟨m1, 0, none⟩)) ∧ W.cell? ⟨p, 1, none⟩ = some (.pointer (some ⟨m2, 0, none⟩)) ∧ W.cell? ⟨p, 2, none⟩ = some (.slice A ops.length c))
    (first | (refine ⟨?_, ?_, ?_⟩ <;> assumption) | (simp (maxDischargeDepth := 20) [World.cell?_alloc_some, *]; done))
    ((first
      | (go_at_call 113
         refine (HC3.out _ hw3).mono ?_
         rintro e w4 ⟨A4, c4, rfl, ho4, hb4⟩
         have hw4 := hw3.trans (hb4.mono hw3.size)
         have s0 := (hw4.cell (p := ⟨p, 0, none⟩) hlp).trans c0
         have s1 := (hw4.cell (p := ⟨p, 1, none⟩) hlp).trans c1
         have s2 := (hw4.cell (p := ⟨p, 2, none⟩) hlp).trans c2)
      | (go_at_call 109
         refine (HC2.out _ hw2).mono ?_
         rintro e w3 ⟨m4, b4, rfl, hm4, hmm4, hbb4, hb3⟩
         have hw3 := hw2.trans (hb3.mono hw2.size)
         have r0 := (hw3.cell (p := ⟨p, 0, none⟩) hlp).trans c0
         have r1 := (hw3.cell (p := ⟨p, 1, none⟩) hlp).trans c1
         have r2 := (hw3.cell (p := ⟨p, 2, none⟩) hlp).trans c2)
      | (go_at_call 109
         refine (HC1.out _ ((Below.refl w.heap.size w).drew)).mono ?_
         rintro e w2 ⟨m3, b3, rfl, hm3, hmm3, hbb3, hb2⟩
         have hw2 : Below w.heap.size w w2 := ((Below.refl w.heap.size w).drew).trans hb2
         have q0 := (hw2.cell (p := ⟨p, 0, none⟩) hlp).trans c0
         have q1 := (hw2.cell (p := ⟨p, 1, none⟩) hlp).trans c1
         have q2 := (hw2.cell (p := ⟨p, 2, none⟩) hlp).trans c2)))
  have hz3 := hw2.size
  have hz4 := hw3.size
  have hl3 := hm3.lt
  have hN := cac_new (w := w) (ops := ops) (LM := LM) (F := F) hw4.size hbb3 (Nat.le_trans hz3 hbb4) (by omega) ((hm3.below0 hb3).below0 hb4) (hm4.below0 hb4) (own_mono ho4 hz4) (HFN.out _ hw4)
  have HN := Lib.hid hN
  clear hN hm3 hm4 ho4 q0 q1 q2 r0 r1 r2 s0 s1 s2
  go_wp2
  go_ret
  exact ⟨_, rfl, HN.out, hw4.alloc hw4.size _⟩
end
end Go.Proofs.Ytckdhhadlemakaa
