/-
  WHAT IS SHOWN: plain facts, of no program, on the encodings of codec: numbers as bytes, and back. Conditions: as each theorem names them.
-/
import Derived.Test.YtndifkjenjfjpaaGeoPlain
namespace Go.Proofs.Ytndifkjenjfjpaa
set_option linter.unusedVariables false

/-! ### numbers as bytes -/
def uintF : Nat → Nat → List Int
  | 0, _ => []
  | k + 1, n => if n < 128 then [(n : Int)] else ((n % 128 + 128 : Nat) : Int) :: uintF k (n / 128)
/-- The bytes of a natural number below 2^64. -/
def uintB (n : Nat) : List Int := uintF 10 n
theorem uintF_small {k n : Nat} (h : n < 128) : uintF (k + 1) n = [(n : Int)] := by unfold uintF; rw [if_pos h]
theorem uintF_big {k n : Nat} (h : ¬ n < 128) : uintF (k + 1) n = ((n % 128 + 128 : Nat) : Int) :: uintF k (n / 128) := by
  conv => lhs; unfold uintF
  rw [if_neg h]
theorem uintF_u8 : ∀ (k n : Nat), ∀ x ∈ uintF k n, 0 ≤ x ∧ x ≤ 255
  | 0, _, x, h => by simp [uintF] at h
  | k + 1, n, x, h => by
    by_cases hn : n < 128
    · rw [uintF_small hn] at h; simp at h; omega
    · rw [uintF_big hn] at h
      rcases List.mem_cons.1 h with h | h
      · subst h; omega
      · exact uintF_u8 k (n / 128) x h
theorem uintF_len : ∀ (k n : Nat), (uintF k n).length ≤ k
  | 0, _ => by simp [uintF]
  | k + 1, n => by
    by_cases hn : n < 128
    · rw [uintF_small hn]; simp
    · rw [uintF_big hn]
      have := uintF_len k (n / 128)
      simp; omega
theorem uintB_len (n : Nat) : (uintB n).length ≤ 10 := uintF_len 10 n
theorem uintB_pos (n : Nat) : 0 < (uintB n).length := by
  unfold uintB
  by_cases h : n < 128
  · rw [uintF_small h]; simp
  · rw [uintF_big h]; simp
theorem uintB_u8 (n : Nat) : ∀ x ∈ uintB n, 0 ≤ x ∧ x ≤ 255 := uintF_u8 10 n
/-- A signed number as a natural one. -/
def zigN (n : Int) : Nat := if 0 ≤ n then (2 * n).toNat else (-2 * n - 1).toNat
/-! ### bytes as numbers -/
def uintGo : Nat → Nat → List Int → Option (Nat × List Int)
  | _, _, [] => none
  | i, n, c :: r =>
    if 9 < i then none
    else if i = 9 ∧ 1 < c then none
    else if c < 128 then (if c = 0 ∧ 0 < i then none else some (n + (c % 128).toNat * 2 ^ (7 * i), r))
    else uintGo (i + 1) (n + (c % 128).toNat * 2 ^ (7 * i)) r
/-- A number at the beginning of bytes. -/
def uintD (xs : List Int) : Option (Nat × List Int) := uintGo 0 0 xs
/-- A reader: the bytes that are left, and whether it failed. -/
structure Rdr where
  rest : List Int
  bad : Bool
def Rdr.ok (r : Rdr) : Prop := r.bad = true → r.rest = []
def Rdr.fail : Rdr := ⟨[], true⟩
/-- What reading a number returns: the number, the error, the reader. -/
def Rdr.uint (r : Rdr) : Nat × Int × Rdr := match uintD r.rest with
  | some (n, l) => (n, 0, ⟨l, r.bad⟩)
  | none => (0, 5, Rdr.fail)
/-- What taking n bytes returns: the bytes, the error, the reader. -/
def Rdr.take (r : Rdr) (n : Nat) : List Int × Int × Rdr := if r.bad = true ∨ r.rest.length < n then ([], 5, Rdr.fail) else (r.rest.take n, 0, ⟨r.rest.drop n, r.bad⟩)
/-- What reading bytes returns. -/
def Rdr.bytes (r : Rdr) : List Int × Int × Rdr := if r.uint.2.1 = 0 then r.uint.2.2.take r.uint.1 else ([], r.uint.2.1, r.uint.2.2)
/-- What Count returns. -/
def Rdr.count (r : Rdr) (m : Nat) : Nat × Int × Rdr := if r.uint.2.1 = 0 ∧ m < r.uint.1 then (0, 5, Rdr.fail) else r.uint
/-- What Block returns. -/
def Rdr.blk (r : Rdr) : List Int × Int × Rdr := (if (r.take 8).2.1 = 0 then (r.take 8).1 else [0, 0, 0, 0, 0, 0, 0, 0], (r.take 8).2)
/-- A natural number as a signed one. -/
def zagN (n : Nat) : Int := if n % 2 = 0 then ((n / 2 : Nat) : Int) else -((n / 2 : Nat) : Int) - 1
theorem zag_zig {n : Int} : zagN (zigN n) = n := by
  unfold zagN zigN
  split <;> split <;> omega
/-- What Done returns. -/
def Rdr.done (r : Rdr) : Int := if r.bad = true ∨ 0 < r.rest.length then 5 else 0
theorem uintGo_lt : ∀ (l : List Int) (i n : Nat) (m : Nat) (r : List Int), (∀ x ∈ l, 0 ≤ x ∧ x ≤ 255) → i ≤ 9 → n < 2 ^ (7 * i) → uintGo i n l = some (m, r) → m < 2 ^ 64 ∧ ∃ p, l = p ++ r
  | [], i, n, m, r, _, _, _, h => by simp [uintGo] at h
  | c :: l, i, n, m, r, hu, hi, hn, h => by
    have hc := hu c (by simp)
    unfold uintGo at h
    rw [if_neg (by omega)] at h
    split at h
    · cases h
    rename_i h9
    have e7 : 2 ^ (7 * (i + 1)) = 2 ^ (7 * i) * 128 := by rw [show 7 * (i + 1) = 7 * i + 7 by omega, Nat.pow_add]
    have hcm : (c % 128).toNat ≤ 127 := by omega
    have hmul : (c % 128).toNat * 2 ^ (7 * i) ≤ 127 * 2 ^ (7 * i) := Nat.mul_le_mul_right _ hcm
    have hlt : n + (c % 128).toNat * 2 ^ (7 * i) < 2 ^ (7 * (i + 1)) := by rw [e7]; omega
    split at h
    · split at h
      · cases h
      · injection h with h; injection h with h1 h2
        subst h1; subst h2
        refine ⟨?_, [c], rfl⟩
        by_cases h9' : i = 9
        · subst h9'
          have : c ≤ 1 := by omega
          have : (c % 128).toNat ≤ 1 := by omega
          have : (c % 128).toNat * 2 ^ (7 * 9) ≤ 1 * 2 ^ (7 * 9) := Nat.mul_le_mul_right _ this
          omega
        · have : 2 ^ (7 * (i + 1)) ≤ 2 ^ 63 := Nat.pow_le_pow_right (by decide) (by omega)
          omega
    · have hi' : i + 1 ≤ 9 := by
        by_cases h9' : i = 9
        · omega
        · omega
      obtain ⟨h1, p, hp⟩ := uintGo_lt l (i + 1) _ m r (fun x hx => hu x (by simp [hx])) hi' hlt h
      exact ⟨h1, c :: p, by rw [hp]; rfl⟩
theorem uintD_lt {l : List Int} {m : Nat} {r : List Int} (hu : ∀ x ∈ l, 0 ≤ x ∧ x ≤ 255) (h : uintD l = some (m, r)) : m < 2 ^ 64 ∧ ∃ p, l = p ++ r := uintGo_lt l 0 0 m r hu (by omega) (by decide) h
/-- What was written is read. -/
theorem uintGo_F : ∀ (k i n m : Nat) (r : List Int), k + i = 10 → n + m * 2 ^ (7 * i) < 2 ^ 64 → (0 < i → 0 < m) → uintGo i n (uintF k m ++ r) = some (n + m * 2 ^ (7 * i), r)
  | 0, i, n, m, r, hk, hm, h0 => by
    obtain rfl : i = 10 := by omega
    have := h0 (by omega)
    have h2 : 1 * 2 ^ (7 * 10) ≤ m * 2 ^ (7 * 10) := Nat.mul_le_mul_right _ (by omega)
    have h3 : (2 : Nat) ^ 64 < 2 ^ (7 * 10) := by decide
    omega
  | k + 1, i, n, m, r, hk, hm, h0 => by
    have h9 : i = 9 → m ≤ 1 := fun e => by
      subst e
      have h3 : (2 : Nat) ^ 64 = 2 * 2 ^ (7 * 9) := by decide
      rw [h3] at hm
      have : m * 2 ^ (7 * 9) < 2 * 2 ^ (7 * 9) := by omega
      have := Nat.lt_of_mul_lt_mul_right this
      omega
    by_cases hn : m < 128
    · rw [uintF_small hn]
      show uintGo i n ((m : Int) :: r) = _
      unfold uintGo
      rw [if_neg (by omega), if_neg (by rintro ⟨h1, h2⟩; have := h9 h1; omega), if_pos (by omega), if_neg (by rintro ⟨h1, h2⟩; have := h0 h2; omega)]
      have : ((m : Int) % 128).toNat = m := by omega
      rw [this]
    · rw [uintF_big hn]
      show uintGo i n (((m % 128 + 128 : Nat) : Int) :: (uintF k (m / 128) ++ r)) = _
      unfold uintGo
      rw [if_neg (by omega), if_neg (by rintro ⟨h1, h2⟩; have := h9 h1; omega), if_neg (by omega)]
      have hc : (((m % 128 + 128 : Nat) : Int) % 128).toNat = m % 128 := by omega
      rw [hc]
      have e7 : 2 ^ (7 * (i + 1)) = 128 * 2 ^ (7 * i) := by rw [show 7 * (i + 1) = 7 * i + 7 by omega, Nat.pow_add, Nat.mul_comm]
      have es : n + m % 128 * 2 ^ (7 * i) + m / 128 * 2 ^ (7 * (i + 1)) = n + m * 2 ^ (7 * i) := by
        rw [e7, ← Nat.mul_assoc, Nat.add_assoc, ← Nat.add_mul]
        congr 2
        omega
      rw [uintGo_F k (i + 1) _ (m / 128) r (by omega) (by rw [es]; exact hm) (fun _ => by omega), es]
theorem uintD_B {m : Nat} (hm : m < 2 ^ 64) (r : List Int) : uintD (uintB m ++ r) = some (m, r) := by
  unfold uintD uintB
  rw [uintGo_F 10 0 0 m r rfl (by simpa using hm) (fun h => by omega)]
  simp
end Go.Proofs.Ytndifkjenjfjpaa
