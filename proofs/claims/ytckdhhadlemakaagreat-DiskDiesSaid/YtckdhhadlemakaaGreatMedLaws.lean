/-
  WHAT IS SHOWN: plain facts on media: what writes and erasures leave as it was; bands written in order. Conditions: the list of sectors fits the geometry.
-/
import Derived.Test.YtckdhhadlemakaaGreatMed8
namespace Go.Proofs.YtckdhhadlemakaaGreat
set_option linter.unusedVariables false
open Go.RowKit

/-- Block b holds three cells. -/
structure Cells3 (w : World) (b : Nat) (v0 v1 v2 : Value) : Prop where
  c0 : w.cell? ⟨b, 0, none⟩ = some v0
  c1 : w.cell? ⟨b, 1, none⟩ = some v1
  c2 : w.cell? ⟨b, 2, none⟩ = some v2
theorem Cells3.new_at (w : World) (t : TypeId) (n : Nat) (v0 v1 v2 : Value) (h : n = w.heap.size) : Cells3 (w.alloc (.cells #[v0, v1, v2] t)) n v0 v1 v2 :=
  ⟨cell_new _ _ _ _ _ _ h rfl, cell_new _ _ _ _ _ _ h rfl, cell_new _ _ _ _ _ _ h rfl⟩
theorem Cells3.below {w w' : World} {B b : Nat} {v0 v1 v2 : Value} (h : Cells3 w b v0 v1 v2) (hb : Below B w w') (hB : b < B) : Cells3 w' b v0 v1 v2 :=
  ⟨(hb.cell (p := ⟨b, 0, none⟩) hB).trans h.c0, (hb.cell (p := ⟨b, 1, none⟩) hB).trans h.c1, (hb.cell (p := ⟨b, 2, none⟩) hB).trans h.c2⟩
theorem Cells3.kept {S : Nat → Prop} {w w' : World} {b : Nat} {v0 v1 v2 : Value} (h : Cells3 w b v0 v1 v2) (hk : Kept S w w') (hb : ¬ S b) : Cells3 w' b v0 v1 v2 :=
  ⟨hk.cell h.c0 hb, hk.cell h.c1 hb, hk.cell h.c2 hb⟩
theorem destroy_other : ∀ (ss : List Int) (L : List Sec) (i : Nat), (∀ s ∈ ss, s.toNat ≠ i) → (destroy ss L)[i]? = L[i]?
  | [], L, i, _ => rfl
  | s :: ss, L, i, h => by
    have ih := destroy_other ss (L.set s.toNat goneS) i (fun t ht => h t (List.mem_cons_of_mem _ ht))
    unfold destroy at ih ⊢
    rw [List.foldl_cons, ih, List.getElem?_set_ne (h s (List.mem_cons_self))]
theorem destroy_or : ∀ (ss : List Int) (L : List Sec) (i : Nat) (t : Sec), (destroy ss L)[i]? = some t → t = goneS ∨ L[i]? = some t
  | [], L, i, t, h => .inr h
  | s :: ss, L, i, t, h => by
    unfold destroy at h
    rw [List.foldl_cons] at h
    rcases destroy_or ss (L.set s.toNat goneS) i t h with h1 | h1
    · exact .inl h1
    · rw [List.getElem?_set] at h1
      split at h1
      · split at h1
        · injection h1 with h1; exact .inl h1.symm
        · cases h1
      · exact .inr h1
theorem eraseTo_get (L : List Sec) (f : Nat) : ∀ (k i : Nat), (eraseTo L f k)[i]? = if f ≤ i ∧ i < f + k ∧ i < L.length then some blankS else L[i]?
  | 0, i => by
    rw [if_neg (by omega)]; rfl
  | k + 1, i => by
    rw [eraseTo_succ, List.getElem?_set, eraseTo_get L f k i, eraseTo_len]
    by_cases e : f + k = i
    · rw [if_pos e]
      by_cases hl : i < L.length
      · rw [if_pos (by omega), if_pos (by omega)]
      · rw [if_neg (by omega), if_neg (by omega), List.getElem?_eq_none (by omega)]
    · rw [if_neg e]
      by_cases h : f ≤ i ∧ i < f + k ∧ i < L.length
      · rw [if_pos h, if_pos (by omega)]
      · rw [if_neg h, if_neg (by omega)]
theorem shadow_above {g : Geo} {a s : Int} (hs : s ∈ shadowL g a) : a < s := by
  unfold shadowL at hs
  split at hs
  · rename_i he
    have hg := (loc_ok he).1
    simp only [List.mem_map, List.mem_range] at hs
    obtain ⟨i, _, rfl⟩ := hs
    have := Int.mul_pos (show 0 < (i : Int) + 1 by omega) (show 0 < g.sectors by have := hg.s0; omega)
    omega
  · simp at hs
theorem getD_get {L : List Sec} {a : Int} {t : Sec} (h0 : 0 ≤ a) (h : L[a.toNat]? = some t) : inL L a = true ∧ L.getD a.toNat blankS = t := by
  have hlt := (List.getElem?_eq_some_iff.1 h).1
  exact ⟨(inL_iff L a).2 ⟨h0, by omega⟩, by simp [List.getD, h]⟩
/-- What reading and the state say depends on the sector alone. -/
theorem read_same {L L' : List Sec} (hl : L.length = L'.length) {a : Int} (h : L[a.toNat]? = L'[a.toNat]?) : readE L a = readE L' a ∧ readB L a = readB L' a ∧ stateN L a = stateN L' a := by
  have e1 : inL L a = inL L' a := by unfold inL; rw [hl]
  have e2 : L.getD a.toNat blankS = L'.getD a.toNat blankS := by simp [List.getD, h]
  have e3 : readE L a = readE L' a := by unfold readE; rw [e1, e2]
  exact ⟨e3, by unfold readB; rw [e3, e2], by unfold stateN; rw [e1, e2]⟩

/-! ### a band written in order -/
structure SeqInv (L : List Sec) (f z k : Nat) : Prop where
  len : f + z ≤ L.length
  done : ∀ j, j < k → L[f + j]? = some ⟨1, [(j : Int) % 256]⟩
  free : ∀ j t, k ≤ j → j < z → L[f + j]? = some t → t.st ≠ 1
theorem seq_start (L : List Sec) (f z : Nat) (h : f + z ≤ L.length) : SeqInv (eraseTo L f z) f z 0 := by
  refine ⟨by rw [eraseTo_len]; exact h, fun j hj => by omega, fun j t _ hj ht => ?_⟩
  rw [eraseTo_get, if_pos (by omega)] at ht
  injection ht with ht
  subst ht
  simp [blankS]
theorem seq_step {g : Geo} {L : List Sec} {f z k : Nat} (h : SeqInv L f z k) (hk : k < z) : SeqInv (writeL g L ((f + k : Nat) : Int) [(k : Int) % 256]) f z (k + 1) ∧ writeE L ((f + k : Nat) : Int) [(k : Int) % 256] = 0 ∧ stateN L ((f + k : Nat) : Int) ≠ 1 := by
  have hl := h.len
  have hin : inL L ((f + k : Nat) : Int) = true := (inL_iff _ _).2 ⟨by omega, by omega⟩
  have hw : writeL g L ((f + k : Nat) : Int) [(k : Int) % 256] = destroy (shadowL g ((f + k : Nat) : Int)) (L.set (f + k) ⟨1, [(k : Int) % 256]⟩) := by
    unfold writeL; rw [hin, Int.toNat_natCast, if_pos (by simp)]
  refine ⟨⟨by rw [writeL_len]; exact hl, fun j hj => ?_, fun j t hj hz ht => ?_⟩, ?_, ?_⟩
  · rw [hw, destroy_other _ _ _ (fun s hs => by have := shadow_above hs; omega), List.getElem?_set]
    by_cases e : f + k = f + j
    · have : j = k := by omega
      subst this
      rw [if_pos rfl, if_pos (by omega)]
    · rw [if_neg e]; exact h.done j (by omega)
  · rw [hw] at ht
    rcases destroy_or _ _ _ _ ht with ht | ht
    · subst ht; simp [goneS]
    · rw [List.getElem?_set_ne (by omega)] at ht
      exact h.free j t (by omega) hz ht
  · unfold writeE; rw [hin]; simp
  · unfold stateN
    rw [hin]
    simp only [Int.toNat_natCast]
    have hlt : f + k < L.length := by omega
    have := h.free k L[f + k] (Nat.le_refl _) hk (List.getElem?_eq_getElem hlt)
    simpa [List.getD, hlt] using this
theorem seq_read {L : List Sec} {f z : Nat} (h : SeqInv L f z z) {k : Nat} (hk : k < z) : readE L ((f + k : Nat) : Int) = 0 ∧ readB L ((f + k : Nat) : Int) = [(k : Int) % 256] := by
  have hd := h.done k hk
  obtain ⟨e1, e2⟩ := getD_get (a := ((f + k : Nat) : Int)) (by omega) (by rw [Int.toNat_natCast]; exact hd)
  have : readE L ((f + k : Nat) : Int) = 0 := by unfold readE; rw [e1, e2]; rfl
  exact ⟨this, by unfold readB; rw [this, e2]; rfl⟩

/-! ### what is touched -/
theorem write_local {g : Geo} {L : List Sec} {at_ a : Int} {xs : List Int} (h0 : 0 ≤ a) (hf : Fit g L) (h : writeE L at_ xs ≠ 0 ∨ (a ≠ at_ ∧ ∀ s ∈ shadowL g at_, s ≠ a)) : (writeL g L at_ xs)[a.toNat]? = L[a.toNat]? := by
  unfold writeL
  split
  · rename_i hc
    simp only [Bool.and_eq_true, decide_eq_true_eq] at hc
    rcases h with h | ⟨h1, h2⟩
    · exact absurd (by unfold writeE; rw [hc.1]; simp [hc.2]) h
    · have hi := (inL_iff _ _).1 hc.1
      rw [destroy_other _ _ _ (fun s hs => by have := shadow_range hf hs; have := h2 s hs; omega), List.getElem?_set_ne (by omega)]
  · rfl
theorem band_of {g : Geo} (hg : Vg g) {a band : Int} (h0 : 0 ≤ band) (h1 : g.random + band * (g.tracks * g.sectors) ≤ a) (h2 : a < g.random + band * (g.tracks * g.sectors) + g.tracks * g.sectors) : (a - g.random) / g.sectors / g.tracks = band := by
  have hz := hg.bz
  have hm := Int.mul_nonneg h0 (show 0 ≤ g.tracks * g.sectors by omega)
  rw [← loc_bands hg (by omega)]
  have e : a - g.random = (a - g.random - band * (g.tracks * g.sectors)) + band * (g.tracks * g.sectors) := by omega
  rw [e, Int.add_mul_ediv_right _ _ (by omega), Int.ediv_eq_zero_of_lt (by omega) (by omega)]
  omega
theorem erase_local {g : Geo} {L : List Sec} {band a : Int} (h0 : 0 ≤ a) (hf : Fit g L) (h1 : a < L.length) (h : eraseE g band ≠ 0 ∨ ¬ ((locN g a).e = 0 ∧ (locN g a).band = band)) : (eraseL g L band)[a.toNat]? = L[a.toNat]? := by
  unfold eraseL
  split
  · rename_i hb
    rcases h with h | h
    · exact absurd (by unfold eraseE; rw [hb]; rfl) h
    · obtain ⟨r0, r1⟩ := erase_range hf hb
      have hz := hf.v.bz
      rw [eraseTo_get, if_neg]
      intro hc
      apply h
      have b0 := ((inR_iff _ _ _).1 hb).1
      have hm := Int.mul_nonneg b0 (show 0 ≤ g.tracks * g.sectors by omega)
      have hn := hf.n
      have hl := loc_in ((validG_iff g).2 hf.v) ((inR_iff a g.random (szN g - 1)).2 ⟨by omega, by rw [szN_valid hf.v]; omega⟩)
      rw [hl]
      exact ⟨rfl, band_of hf.v b0 (by omega) (by omega)⟩
  · rfl
end Go.Proofs.YtckdhhadlemakaaGreat
