/-
  WHAT IS SHOWN: plain facts on media: what writes and erasures make of the sectors; how a medium lies in memory. Conditions: as each theorem names them.
-/
import Derived.Test.YtckdhhadlemakaaGreatGeo5
import Derived.Deep.QuietTactic
import Derived.BigQuiet
import Derived.Laws.BytesArg
namespace Go.Proofs.YtckdhhadlemakaaGreat
set_option linter.unusedVariables false
open Go.RowKit

structure Sec where
  st : Int
  by_ : List Int
def blankS : Sec := ⟨0, []⟩
def goneS : Sec := ⟨2, []⟩
/-- What a write makes of the sectors it destroys. -/
def destroy (ss : List Int) (L : List Sec) : List Sec := ss.foldl (fun L s => L.set s.toNat goneS) L
def inL (L : List Sec) (a : Int) : Bool := decide (0 ≤ a) && decide (a < L.length)
def writeE (L : List Sec) (a : Int) (b : List Int) : Int := if inL L a then (if b.length ≤ 64 then 0 else 7) else 2
def writeL (g : Geo) (L : List Sec) (a : Int) (b : List Int) : List Sec := if inL L a && decide (b.length ≤ 64) then destroy (shadowL g a) (L.set a.toNat ⟨1, b⟩) else L
def eraseTo (L : List Sec) (from_ : Nat) (k : Nat) : List Sec := (List.range k).foldl (fun L i => L.set (from_ + i) blankS) L
def eraseE (g : Geo) (band : Int) : Int := if inR band 0 (g.bands - 1) then 0 else 2
def eraseL (g : Geo) (L : List Sec) (band : Int) : List Sec := if inR band 0 (g.bands - 1) then eraseTo L (g.random + band * (g.tracks * g.sectors)).toNat (g.tracks * g.sectors).toNat else L
def readE (L : List Sec) (a : Int) : Int := if inL L a then (if (L.getD a.toNat blankS).st = 1 then 0 else 15) else 2
def readB (L : List Sec) (a : Int) : List Int := if readE L a = 0 then (L.getD a.toNat blankS).by_ else []
def stateN (L : List Sec) (a : Int) : Int := if inL L a then (L.getD a.toNat blankS).st else 0
theorem inL_iff (L : List Sec) (a : Int) : inL L a = true ↔ 0 ≤ a ∧ a < L.length := by unfold inL; simp
theorem destroy_len (ss : List Int) : ∀ L, (destroy ss L).length = L.length := by
  induction ss with
  | nil => intro L; rfl
  | cons s ss ih => intro L; unfold destroy at *; rw [List.foldl_cons, ih, List.length_set]
theorem destroy_snoc (ss : List Int) (s : Int) (L : List Sec) : destroy (ss ++ [s]) L = (destroy ss L).set s.toNat goneS := by unfold destroy; rw [List.foldl_append]; rfl
theorem destroy_take (ss : List Int) (k : Nat) (h : k < ss.length) (L : List Sec) : destroy (ss.take (k + 1)) L = (destroy (ss.take k) L).set ss[k].toNat goneS := by rw [List.take_succ_eq_append_getElem h, destroy_snoc]
theorem eraseTo_succ (L : List Sec) (f k : Nat) : eraseTo L f (k + 1) = (eraseTo L f k).set (f + k) blankS := by unfold eraseTo; rw [List.range_succ, List.foldl_append]; rfl
theorem eraseTo_len (L : List Sec) (f : Nat) : ∀ k, (eraseTo L f k).length = L.length
  | 0 => rfl
  | k + 1 => by rw [eraseTo_succ, List.length_set, eraseTo_len L f k]
theorem writeL_len (g : Geo) (L : List Sec) (a : Int) (b : List Int) : (writeL g L a b).length = L.length := by
  unfold writeL; split
  · rw [destroy_len, List.length_set]
  · rfl
theorem eraseL_len (g : Geo) (L : List Sec) (b : Int) : (eraseL g L b).length = L.length := by
  unfold eraseL; split
  · rw [eraseTo_len]
  · rfl
/-- The sectors of a medium of this geometry. -/
structure Fit (g : Geo) (L : List Sec) : Prop where
  v : Vg g
  n : (L.length : Int) = g.random + g.bands * (g.tracks * g.sectors)
theorem Fit.len {g : Geo} {L L' : List Sec} (h : Fit g L) (hl : L'.length = L.length) : Fit g L' := ⟨h.v, by rw [hl]; exact h.n⟩
theorem Fit.le {g : Geo} {L : List Sec} (h : Fit g L) : 1 ≤ L.length ∧ L.length ≤ 81920 := by
  have := h.n; have := h.v.sz; have := h.v.r0; have := h.v.r1; omega
/-- The destroyed sectors are sectors. -/
theorem shadow_range {g : Geo} {L : List Sec} (h : Fit g L) {a s : Int} (hs : s ∈ shadowL g a) : 0 ≤ s ∧ s < L.length := by
  unfold shadowL at hs
  split at hs
  · rename_i he
    obtain ⟨hg, a0, a1, hl⟩ := loc_ok he
    rw [hl] at hs
    simp only [List.mem_map, List.mem_range] at hs
    obtain ⟨i, hi, rfl⟩ := hs
    have hT : (a - g.random) / g.sectors % g.tracks + ((i : Int) + 1) < g.tracks := by unfold shCnt at hi; omega
    obtain ⟨s0, s1, s2, s3, s4, s5, s6⟩ := loc_spec hg a0 a1
    have e := sh_adr_in hg a0 a1 ((i : Int) + 1) (by omega) hT
    have m1 := Int.mul_nonneg (show 0 ≤ (i : Int) + 1 by omega) (show 0 ≤ g.sectors by have := hg.s0; omega)
    rw [adr_in ((validG_iff g).2 hg) ((inR_iff _ _ _).2 ⟨s0, by omega⟩) ((inR_iff _ _ _).2 ⟨by omega, by omega⟩) ((inR_iff _ _ _).2 ⟨s4, by omega⟩)] at e
    injection e with e _
    have hn := h.n
    have m2 : ((a - g.random) / g.sectors / g.tracks * g.tracks + ((a - g.random) / g.sectors % g.tracks + ((i : Int) + 1)) + 1) * g.sectors ≤ (g.bands * g.tracks) * g.sectors := by
      apply Int.mul_le_mul_of_nonneg_right _ (by omega)
      have m3 : ((a - g.random) / g.sectors / g.tracks + 1) * g.tracks ≤ g.bands * g.tracks := Int.mul_le_mul_of_nonneg_right (by omega) (by omega)
      rw [Int.add_mul] at m3
      omega
    rw [Int.add_mul _ 1, Int.one_mul, Int.mul_assoc g.bands] at m2
    have := hg.r0
    omega
  · simp at hs
theorem erase_range {g : Geo} {L : List Sec} (h : Fit g L) {band : Int} (hb : inR band 0 (g.bands - 1) = true) : 0 ≤ g.random + band * (g.tracks * g.sectors) ∧ g.random + band * (g.tracks * g.sectors) + g.tracks * g.sectors ≤ L.length := by
  obtain ⟨b0, b1⟩ := (inR_iff _ _ _).1 hb
  have hz := h.v.bz
  have m1 := Int.mul_nonneg b0 (show 0 ≤ g.tracks * g.sectors by omega)
  have m2 : (band + 1) * (g.tracks * g.sectors) ≤ g.bands * (g.tracks * g.sectors) := Int.mul_le_mul_of_nonneg_right (by omega) (by omega)
  rw [Int.add_mul, Int.one_mul] at m2
  have := h.n; have := h.v.r0
  omega

/-! ### in memory -/
def secV (p : Int × Value) : List Value := [.int .i64 p.1, p.2]
theorem secV_len (p : Int × Value) : (secV p).length = 2 := rfl
def medObj (g : Geo) (bs n c : Nat) : Array Value := #[.int .i64 g.random, .int .i64 g.bands, .int .i64 g.tracks, .int .i64 g.sectors, .int .i64 g.overlap, .slice (some ⟨bs, 0, none⟩) n c]
/-- The medium of block m, whose sectors lie in block bs. -/
def Med (w : World) (m bs : Nat) (g : Geo) (L : List Sec) : Prop :=
  ∃ (c : Nat) (V : List (Int × Value)), w.heap[m]? = some (.cells (medObj g bs L.length c) 126) ∧
    w.ownsRow 0 133 2 (.slice (some ⟨bs, 0, none⟩) L.length c) L.length (V.flatMap secV) ∧ V.length = L.length ∧
    ∀ (i : Nat) (s : Sec), L[i]? = some s → ∃ v, V[i]? = some (s.st, v) ∧ Byt 5 w v s.by_
def recV (s : Sec) : List Value := [.int .i64 s.st, .string (strOfNums s.by_)]
theorem recV_len (s : Sec) : (recV s).length = 2 := rfl
/-- The reference's medium of block m, whose sectors lie in block bs. -/
def RMed (w : World) (m bs : Nat) (g : Geo) (L : List Sec) : Prop :=
  ∃ (c : Nat), w.heap[m]? = some (.cells (medObj g bs L.length c) 94) ∧
    w.ownsRow 0 123 2 (.slice (some ⟨bs, 0, none⟩) L.length c) L.length (L.flatMap recV)

theorem obj_lt {w : World} {b : Nat} {o : Obj} (h : w.heap[b]? = some o) : b < w.heap.size := lt_of_block h
theorem own_type {w : World} {base : Nat} {e : TypeId} {size n c g : Nat} {xs : List Value} (h : w.ownsRow base e size (.slice (some ⟨g, 0, none⟩) n c) n xs) : ∃ cur, w.heap[g]? = some (.cells cur e (0, 0)) := by
  rcases h.2 with ⟨h, _⟩ | ⟨g', cap, cur, h1, _, h3, _⟩
  · cases h
  · injection h1 with h1; injection h1 with h1; injection h1 with h1; subst h1; exact ⟨cur, h3⟩
theorem flat_set2 {α : Type} (f : α → List Value) (hf : ∀ a, (f a).length = 2) (x y : Value) (b : α) (hb : f b = [x, y]) : ∀ (l : List α) (i : Nat), i < l.length → (l.set i b).flatMap f = ((l.flatMap f).set (i * 2) x).set (i * 2 + 1) y
  | [], i, h => by simp at h
  | a :: l, 0, _ => by
    have ha := hf a
    match hfa : f a, ha with
    | [u, v], _ => simp [hfa, hb]
  | a :: l, i + 1, h => by
    have ha := hf a
    have ih := flat_set2 f hf x y b hb l i (by simpa using h)
    match hfa : f a, ha with
    | [u, v], _ =>
      rw [List.set_cons_succ, List.flatMap_cons, List.flatMap_cons, ih, hfa]
      have e1 : (i + 1) * 2 = i * 2 + 1 + 1 := by omega
      rw [e1]
      simp
section
variable {w w' : World} {m bs : Nat} {g : Geo} {L : List Sec} {S : Nat → Prop}
theorem Med.kept (h : Med w m bs g L) (hk : Kept S w w') (hm : ¬ S m) (hb : ¬ S bs) (hf : Free w 5 S) : Med w' m bs g L := by
  obtain ⟨c, V, h1, h2, h3, h4⟩ := h
  refine ⟨c, V, hk.obj h1 hm, own_kept h2 hk (fun k e => by simp [Value.ownBlock] at e; subst e; exact hb), h3, fun i s hs => ?_⟩
  obtain ⟨v, hv, hB⟩ := h4 i s hs
  exact ⟨v, hv, hB.kept hk hf⟩
theorem Med.below0 (h : Med w m bs g L) (hk : Below w.heap.size w w') : Med w' m bs g L := h.kept (belKept0 (S := fun _ => False) hk) (fun h => h) (fun h => h) (Free.none _ _)
theorem RMed.kept (h : RMed w m bs g L) (hk : Kept S w w') (hm : ¬ S m) (hb : ¬ S bs) : RMed w' m bs g L := by
  obtain ⟨c, h1, h2⟩ := h
  exact ⟨c, hk.obj h1 hm, own_kept h2 hk (fun k e => by simp [Value.ownBlock] at e; subst e; exact hb)⟩
theorem RMed.below0 (h : RMed w m bs g L) (hk : Below w.heap.size w w') : RMed w' m bs g L := h.kept (belKept0 (S := fun _ => False) hk) (fun h => h) (fun h => h)
theorem Med.lt (h : Med w m bs g L) : m < w.heap.size ∧ bs < w.heap.size ∧ m ≠ bs := by
  obtain ⟨c, V, h1, h2, h3, h4⟩ := h
  obtain ⟨cur, hc⟩ := own_type h2
  exact ⟨obj_lt h1, obj_lt hc, fun e => by subst e; rw [h1] at hc; injection hc with hc; injection hc with _ hc; revert hc; decide⟩
theorem RMed.lt (h : RMed w m bs g L) : m < w.heap.size ∧ bs < w.heap.size ∧ m ≠ bs := by
  obtain ⟨c, h1, h2⟩ := h
  obtain ⟨cur, hc⟩ := own_type h2
  exact ⟨obj_lt h1, obj_lt hc, fun e => by subst e; rw [h1] at hc; injection hc with hc; injection hc with _ hc; revert hc; decide⟩
/-- The cells that a walk reads. -/
theorem Med.cells (h : Med w m bs g L) : ∃ c, w.cell? ⟨m, 0, none⟩ = some (.int .i64 g.random) ∧ w.cell? ⟨m, 1, none⟩ = some (.int .i64 g.bands) ∧ w.cell? ⟨m, 2, none⟩ = some (.int .i64 g.tracks) ∧ w.cell? ⟨m, 3, none⟩ = some (.int .i64 g.sectors) ∧
    w.cell? ⟨m, 4, none⟩ = some (.int .i64 g.overlap) ∧ w.cell? ⟨m, 5, none⟩ = some (.slice (some ⟨bs, 0, none⟩) L.length c) ∧ L.length ≤ c ∧
    ∀ (i : Nat) (s : Sec), L[i]? = some s → w.cell? ⟨bs, i * 2, none⟩ = some (.int .i64 s.st) ∧ ∃ v, w.cell? ⟨bs, i * 2 + 1, none⟩ = some v ∧ Byt 5 w v s.by_ := by
  obtain ⟨c, V, h1, h2, h3, h4⟩ := h
  refine ⟨c, by rw [cell_of_row _ _ _ _ _ _ h1]; rfl, by rw [cell_of_row _ _ _ _ _ _ h1]; rfl, by rw [cell_of_row _ _ _ _ _ _ h1]; rfl, by rw [cell_of_row _ _ _ _ _ _ h1]; rfl, by rw [cell_of_row _ _ _ _ _ _ h1]; rfl, by rw [cell_of_row _ _ _ _ _ _ h1]; rfl, ?_, fun i s hs => ?_⟩
  · rcases h2.2 with ⟨h, _⟩ | ⟨g', cap, cur, e1, _, _, e4, _⟩
    · cases h
    · injection e1 with _ _ e1; subst e1; exact e4
  · obtain ⟨v, hv, hB⟩ := h4 i s hs
    have hi : i < L.length := (List.getElem?_eq_some_iff.1 hs).1
    have e0 : (V.flatMap secV)[i * 2 + 0]? = some (.int .i64 s.st) := by rw [flat_get _ 2 secV_len V i 0 (by omega), hv]; rfl
    have e1 : (V.flatMap secV)[i * 2 + 1]? = some v := by rw [flat_get _ 2 secV_len V i 1 (by omega), hv]; rfl
    exact ⟨(World.ownsRow.cellAt h2 (i * 2) (by omega)).trans e0, v, (World.ownsRow.cellAt h2 (i * 2 + 1) (by omega)).trans e1, hB⟩
theorem RMed.cells (h : RMed w m bs g L) : ∃ c, w.cell? ⟨m, 0, none⟩ = some (.int .i64 g.random) ∧ w.cell? ⟨m, 1, none⟩ = some (.int .i64 g.bands) ∧ w.cell? ⟨m, 2, none⟩ = some (.int .i64 g.tracks) ∧ w.cell? ⟨m, 3, none⟩ = some (.int .i64 g.sectors) ∧
    w.cell? ⟨m, 4, none⟩ = some (.int .i64 g.overlap) ∧ w.cell? ⟨m, 5, none⟩ = some (.slice (some ⟨bs, 0, none⟩) L.length c) ∧ L.length ≤ c ∧
    ∀ (i : Nat) (s : Sec), L[i]? = some s → w.cell? ⟨bs, i * 2, none⟩ = some (.int .i64 s.st) ∧ w.cell? ⟨bs, i * 2 + 1, none⟩ = some (.string (strOfNums s.by_)) := by
  obtain ⟨c, h1, h2⟩ := h
  refine ⟨c, by rw [cell_of_row _ _ _ _ _ _ h1]; rfl, by rw [cell_of_row _ _ _ _ _ _ h1]; rfl, by rw [cell_of_row _ _ _ _ _ _ h1]; rfl, by rw [cell_of_row _ _ _ _ _ _ h1]; rfl, by rw [cell_of_row _ _ _ _ _ _ h1]; rfl, by rw [cell_of_row _ _ _ _ _ _ h1]; rfl, ?_, fun i s hs => ?_⟩
  · rcases h2.2 with ⟨h, _⟩ | ⟨g', cap, cur, e1, _, _, e4, _⟩
    · cases h
    · injection e1 with _ _ e1; subst e1; exact e4
  · have hi : i < L.length := (List.getElem?_eq_some_iff.1 hs).1
    have e0 : (L.flatMap recV)[i * 2 + 0]? = some (.int .i64 s.st) := by rw [flat_get _ 2 recV_len L i 0 (by omega), hs]; rfl
    have e1 : (L.flatMap recV)[i * 2 + 1]? = some (.string (strOfNums s.by_)) := by rw [flat_get _ 2 recV_len L i 1 (by omega), hs]; rfl
    exact ⟨(World.ownsRow.cellAt h2 (i * 2) (by omega)).trans e0, (World.ownsRow.cellAt h2 (i * 2 + 1) (by omega)).trans e1⟩
theorem Med.free (h : Med w m bs g L) (j : Nat) : w.frozen? ⟨bs, j, none⟩ = false := by
  obtain ⟨c, V, h1, h2, h3, h4⟩ := h
  exact h2.frozenAt j
theorem RMed.free (h : RMed w m bs g L) (j : Nat) : w.frozen? ⟨bs, j, none⟩ = false := by
  obtain ⟨c, h1, h2⟩ := h
  exact h2.frozenAt j
/-- The sectors' block holds no bytes. -/
theorem Med.nobytes (h : Med w m bs g L) : Free w 5 (fun k => k = bs) := by
  obtain ⟨c, V, h1, h2, h3, h4⟩ := h
  obtain ⟨cur, hc⟩ := own_type h2
  exact Free.one hc (by decide)
theorem RMed.nobytes (h : RMed w m bs g L) : Free w 5 (fun k => k = bs) := by
  obtain ⟨c, h1, h2⟩ := h
  obtain ⟨cur, hc⟩ := own_type h2
  exact Free.one hc (by decide)
theorem set2_kept (w : World) (bs i : Nat) (u v : Value) : Kept (fun k => k = bs) w ((w.setCell ⟨bs, i * 2, none⟩ u).setCell ⟨bs, i * 2 + 1, none⟩ v) :=
  ((Kept.refl (fun k => k = bs) w).setCell (p := ⟨bs, i * 2, none⟩) (fun _ => rfl) u).setCell (p := ⟨bs, i * 2 + 1, none⟩) (fun _ => rfl) v
/-- A sector is stored. -/
theorem Med.set (h : Med w m bs g L) {i : Nat} (hi : i < L.length) (s : Sec) (v : Value) (hv : Byt 5 w v s.by_) : Med ((w.setCell ⟨bs, i * 2, none⟩ (.int .i64 s.st)).setCell ⟨bs, i * 2 + 1, none⟩ v) m bs g (L.set i s) := by
  have hne := h.lt.2.2
  have hnb := h.nobytes
  obtain ⟨c, V, h1, h2, h3, h4⟩ := h
  have hk := set2_kept w bs i (.int .i64 s.st) v
  refine ⟨c, V.set i (s.st, v), by rw [List.length_set]; exact hk.obj h1 hne, ?_, by rw [List.length_set, List.length_set, h3], fun j t hj => ?_⟩
  · rw [List.length_set, flat_set2 secV secV_len (.int .i64 s.st) v (s.st, v) rfl V i (by omega)]
    exact (World.ownsRow.stored (World.ownsRow.stored h2 (i * 2) _).1 (i * 2 + 1) _).1
  · rw [List.getElem?_set] at hj
    by_cases e : i = j
    · subst e
      rw [if_pos rfl, if_pos hi] at hj
      injection hj with hj
      subst hj
      exact ⟨v, by rw [List.getElem?_set_self (by omega)], hv.kept hk hnb⟩
    · rw [if_neg e] at hj
      obtain ⟨u, hu, hB⟩ := h4 j t hj
      exact ⟨u, by rw [List.getElem?_set_ne e]; exact hu, hB.kept hk hnb⟩
theorem RMed.set (h : RMed w m bs g L) {i : Nat} (hi : i < L.length) (s : Sec) : RMed ((w.setCell ⟨bs, i * 2, none⟩ (.int .i64 s.st)).setCell ⟨bs, i * 2 + 1, none⟩ (.string (strOfNums s.by_))) m bs g (L.set i s) := by
  have hne := h.lt.2.2
  obtain ⟨c, h1, h2⟩ := h
  have hk := set2_kept w bs i (.int .i64 s.st) (.string (strOfNums s.by_))
  refine ⟨c, by rw [List.length_set]; exact hk.obj h1 hne, ?_⟩
  rw [List.length_set, flat_set2 recV recV_len (.int .i64 s.st) (.string (strOfNums s.by_)) s rfl L i hi]
  exact (World.ownsRow.stored (World.ownsRow.stored h2 (i * 2) _).1 (i * 2 + 1) _).1
end
end Go.Proofs.YtckdhhadlemakaaGreat
