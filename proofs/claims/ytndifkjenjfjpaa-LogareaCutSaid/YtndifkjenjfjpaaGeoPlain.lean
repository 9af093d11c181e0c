/-
  WHAT IS SHOWN: plain facts on geometries: places, addresses and shadows of sectors. Conditions: as each theorem names them.
-/
import Derived.Test.YtndifkjenjfjpaaKept
namespace Go.Proofs.Ytndifkjenjfjpaa
set_option linter.unusedVariables false
open Go.RowKit

def I64 (n : Int) : Prop := -9223372036854775808 ≤ n ∧ n ≤ 9223372036854775807
theorem w64_id {x : Int} (h0 : -9223372036854775808 ≤ x) (h1 : x ≤ 9223372036854775807) : wrap64 x = x := by unfold wrap64; omega
theorem quo_pos {n s : Int} (h0 : 0 ≤ n) (h1 : n ≤ 1000000000) (hs : 1 ≤ s) : wrap64 (n.tdiv s) = n / s ∧ 0 ≤ n / s ∧ n / s ≤ 1000000000 ∧ n.tmod s = n % s := by
  have h2 : n / s ≤ n := Int.ediv_le_self _ h0
  have h3 : 0 ≤ n / s := Int.ediv_nonneg h0 (by omega)
  rw [Int.tdiv_eq_ediv_of_nonneg h0, Int.tmod_eq_emod_of_nonneg h0, w64_id (by omega) (by omega)]
  exact ⟨rfl, h3, by omega, rfl⟩
structure Geo where
  random : Int
  bands : Int
  tracks : Int
  sectors : Int
  overlap : Int
def inR (n lo hi : Int) : Bool := decide (lo ≤ n) && decide (n ≤ hi)
theorem inR_iff (n lo hi : Int) : inR n lo hi = true ↔ lo ≤ n ∧ n ≤ hi := by unfold inR; simp
theorem inR_no {n lo hi : Int} (h : inR n lo hi = false) : n < lo ∨ hi < n := by
  rcases Int.lt_or_le n lo with h1 | h1
  · exact .inl h1
  · rcases Int.lt_or_le hi n with h2 | h2
    · exact .inr h2
    · rw [(inR_iff n lo hi).2 ⟨h1, h2⟩] at h; cases h
def validG (g : Geo) : Bool := inR g.random 0 16384 && (inR g.bands 1 64 && (inR g.tracks 1 16 && (inR g.sectors 1 64 && inR g.overlap 0 3)))
structure Vg (g : Geo) : Prop where
  r0 : 0 ≤ g.random
  r1 : g.random ≤ 16384
  b0 : 1 ≤ g.bands
  b1 : g.bands ≤ 64
  t0 : 1 ≤ g.tracks
  t1 : g.tracks ≤ 16
  s0 : 1 ≤ g.sectors
  s1 : g.sectors ≤ 64
  o0 : 0 ≤ g.overlap
  o1 : g.overlap ≤ 3
theorem validG_iff (g : Geo) : validG g = true ↔ Vg g := by
  unfold validG
  simp only [Bool.and_eq_true, inR_iff]
  constructor
  · intro h; exact ⟨h.1.1, h.1.2, h.2.1.1, h.2.1.2, h.2.2.1.1, h.2.2.1.2, h.2.2.2.1.1, h.2.2.2.1.2, h.2.2.2.2.1, h.2.2.2.2.2⟩
  · intro h; exact ⟨⟨h.r0, h.r1⟩, ⟨h.b0, h.b1⟩, ⟨h.t0, h.t1⟩, ⟨h.s0, h.s1⟩, h.o0, h.o1⟩
theorem mul_lim {a b A B : Int} (ha : 0 ≤ a) (hb : 0 ≤ b) (hA : a ≤ A) (hB : b ≤ B) : 0 ≤ a * b ∧ a * b ≤ A * B :=
  ⟨Int.mul_nonneg ha hb, Int.mul_le_mul hA hB hb (Int.le_trans ha hA)⟩
/-- The sectors of a band; of a disk. -/
def bz (g : Geo) : Int := g.tracks * g.sectors
def sz (g : Geo) : Int := g.random + g.bands * (g.tracks * g.sectors)
theorem Vg.bz {g : Geo} (h : Vg g) : 1 ≤ g.tracks * g.sectors ∧ g.tracks * g.sectors ≤ 1024 := by
  have h1 := mul_lim (a := g.tracks) (b := g.sectors) (A := 16) (B := 64) (by have := h.t0; omega) (by have := h.s0; omega) h.t1 h.s1
  have h2 := Int.mul_pos (show 0 < g.tracks by have := h.t0; omega) (show 0 < g.sectors by have := h.s0; omega)
  omega
theorem Vg.sz {g : Geo} (h : Vg g) : 1 ≤ g.bands * (g.tracks * g.sectors) ∧ g.bands * (g.tracks * g.sectors) ≤ 65536 := by
  have h0 := h.bz
  have h1 := mul_lim (a := g.bands) (b := g.tracks * g.sectors) (A := 64) (B := 1024) (by have := h.b0; omega) (by omega) h.b1 h0.2
  have h2 := Int.mul_pos (show 0 < g.bands by have := h.b0; omega) (show 0 < g.tracks * g.sectors by omega)
  omega
def bzN (g : Geo) : Int := if validG g then g.tracks * g.sectors else 0
def szN (g : Geo) : Int := if validG g then g.random + g.bands * (g.tracks * g.sectors) else 0
theorem bzN_valid {g : Geo} (h : Vg g) : bzN g = g.tracks * g.sectors := by unfold bzN; rw [if_pos ((validG_iff g).2 h)]
theorem szN_valid {g : Geo} (h : Vg g) : szN g = g.random + g.bands * (g.tracks * g.sectors) := by unfold szN; rw [if_pos ((validG_iff g).2 h)]
theorem szN_bound (g : Geo) : 0 ≤ szN g ∧ szN g ≤ 81920 := by
  unfold szN
  split
  · rename_i h
    have hv := (validG_iff g).1 h
    have := hv.sz; have := hv.r0; have := hv.r1; omega
  · omega
theorem bzN_bound (g : Geo) : 0 ≤ bzN g ∧ bzN g ≤ 1024 := by
  unfold bzN
  split
  · rename_i h
    have hv := (validG_iff g).1 h
    have := hv.bz; omega
  · omega

/-! ### places -/
structure Loc where
  band : Int
  track : Int
  pos : Int
  e : Int
def locN (g : Geo) (a : Int) : Loc :=
  if validG g then (if inR a g.random (szN g - 1) then ⟨(a - g.random) / g.sectors / g.tracks, (a - g.random) / g.sectors % g.tracks, (a - g.random) % g.sectors, 0⟩ else ⟨0, 0, 0, 2⟩) else ⟨0, 0, 0, 1⟩
theorem loc_invalid {g : Geo} (a : Int) (h : validG g = false) : locN g a = ⟨0, 0, 0, 1⟩ := by unfold locN; rw [h]; rfl
theorem loc_out {g : Geo} {a : Int} (h : validG g = true) (ha : inR a g.random (szN g - 1) = false) : locN g a = ⟨0, 0, 0, 2⟩ := by unfold locN; rw [h, ha]; rfl
theorem loc_in {g : Geo} {a : Int} (h : validG g = true) (ha : inR a g.random (szN g - 1) = true) : locN g a = ⟨(a - g.random) / g.sectors / g.tracks, (a - g.random) / g.sectors % g.tracks, (a - g.random) % g.sectors, 0⟩ := by unfold locN; rw [h, ha]; rfl
theorem div_lt_of {n a b : Int} (hb : 0 < b) (h : n < a * b) : n / b < a := Int.ediv_lt_of_lt_mul hb h
/-- What a place comes to. -/
theorem loc_spec {g : Geo} {a : Int} (h : Vg g) (h0 : g.random ≤ a) (h1 : a < g.random + g.bands * (g.tracks * g.sectors)) :
    0 ≤ (a - g.random) / g.sectors / g.tracks ∧ (a - g.random) / g.sectors / g.tracks < g.bands ∧ 0 ≤ (a - g.random) / g.sectors % g.tracks ∧ (a - g.random) / g.sectors % g.tracks < g.tracks ∧
    0 ≤ (a - g.random) % g.sectors ∧ (a - g.random) % g.sectors < g.sectors ∧ g.random + ((a - g.random) / g.sectors / g.tracks * g.tracks + (a - g.random) / g.sectors % g.tracks) * g.sectors + (a - g.random) % g.sectors = a := by
  have ht := h.t0
  have hs := h.s0
  have e1 := Int.mul_ediv_add_emod (a - g.random) g.sectors
  have e2 := Int.mul_ediv_add_emod ((a - g.random) / g.sectors) g.tracks
  have m1 := Int.emod_nonneg (a - g.random) (show g.sectors ≠ 0 by omega)
  have m2 := Int.emod_lt_of_pos (a - g.random) (show 0 < g.sectors by omega)
  have m3 := Int.emod_nonneg ((a - g.random) / g.sectors) (show g.tracks ≠ 0 by omega)
  have m4 := Int.emod_lt_of_pos ((a - g.random) / g.sectors) (show 0 < g.tracks by omega)
  have d1 : 0 ≤ (a - g.random) / g.sectors := Int.ediv_nonneg (by omega) (by omega)
  have d2 : 0 ≤ (a - g.random) / g.sectors / g.tracks := Int.ediv_nonneg d1 (by omega)
  have d3 : (a - g.random) / g.sectors < g.bands * g.tracks := div_lt_of (by omega) (by rw [Int.mul_assoc]; omega)
  have d4 : (a - g.random) / g.sectors / g.tracks < g.bands := div_lt_of (by omega) d3
  refine ⟨d2, d4, m3, m4, m1, m2, ?_⟩
  rw [Int.mul_comm ((a - g.random) / g.sectors / g.tracks) g.tracks, e2, Int.mul_comm ((a - g.random) / g.sectors)]
  omega
theorem loc_bands {g : Geo} {a : Int} (h : Vg g) (h0 : g.random ≤ a) : (a - g.random) / (g.tracks * g.sectors) = (a - g.random) / g.sectors / g.tracks := by
  rw [Int.mul_comm, Int.ediv_ediv_of_nonneg (by have := h.s0; omega)]

/-! ### addresses -/
def adrN (g : Geo) (b t p : Int) : Int × Int :=
  if validG g then (if inR b 0 (g.bands - 1) && (inR t 0 (g.tracks - 1) && inR p 0 (g.sectors - 1)) then (g.random + (b * g.tracks + t) * g.sectors + p, 0) else (0, 2)) else (0, 1)

/-! ### shadows -/
def shCnt (g : Geo) (t : Int) : Nat := (min g.overlap (g.tracks - 1 - t)).toNat
def shadowL (g : Geo) (a : Int) : List Int := if (locN g a).e = 0 then (List.range (shCnt g (locN g a).track)).map fun (i : Nat) => a + ((i : Int) + 1) * g.sectors else []
end Go.Proofs.Ytndifkjenjfjpaa
