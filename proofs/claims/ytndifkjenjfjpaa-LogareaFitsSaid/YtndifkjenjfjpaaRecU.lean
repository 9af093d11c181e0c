/-
  WHAT IS SHOWN: plain facts: what is left to be read grows never. Conditions: none.
-/
import Derived.Test.YtndifkjenjfjpaaRecT
namespace Go.Proofs.Ytndifkjenjfjpaa
set_option linter.unusedVariables false

theorem uintGo_len : ∀ (l : List Int) (i n m : Nat) (r : List Int), uintGo i n l = some (m, r) → r.length < l.length
  | [], i, n, m, r, h => by rw [uintGo_nil] at h; cases h
  | c :: l, i, n, m, r, h => by
    unfold uintGo at h
    split at h
    · cases h
    · split at h
      · cases h
      · split at h
        · split at h
          · cases h
          · injection h with h; injection h with _ h; subst h; simp
        · have := uintGo_len l _ _ _ _ h
          simp; omega
theorem uintD_len {l r : List Int} {m : Nat} (h : uintD l = some (m, r)) : r.length < l.length := uintGo_len l 0 0 m r h
theorem uint_len' (r : Rdr) : r.uint.2.2.rest.length ≤ r.rest.length := by
  unfold Rdr.uint
  split
  · rename_i h; exact Nat.le_of_lt (uintD_len h)
  · exact Nat.zero_le _
theorem count_len' (r : Rdr) (m : Nat) : (r.count m).2.2.rest.length ≤ r.rest.length := by
  unfold Rdr.count
  split
  · exact Nat.zero_le _
  · exact uint_len' r
theorem take_len' (r : Rdr) (n : Nat) : (r.take n).2.2.rest.length ≤ r.rest.length ∧ (r.take n).1.length ≤ r.rest.length := by
  unfold Rdr.take
  split
  · exact ⟨Nat.zero_le _, Nat.zero_le _⟩
  · constructor
    · show (List.drop _ _).length ≤ _; rw [List.length_drop]; omega
    · show (List.take _ _).length ≤ _; rw [List.length_take]; omega
theorem blk_len' (r : Rdr) : r.blk.2.2.rest.length ≤ r.rest.length := (take_len' r 8).1
theorem bytes_len' (r : Rdr) : r.bytes.2.2.rest.length ≤ r.rest.length ∧ r.bytes.1.length ≤ r.rest.length := by
  have hu := uint_len' r
  unfold Rdr.bytes
  split
  · have := take_len' r.uint.2.2 r.uint.1
    exact ⟨Nat.le_trans this.1 hu, Nat.le_trans this.2 hu⟩
  · exact ⟨hu, Nat.zero_le _⟩
theorem cN_rest {α : Type} {f : Rdr → α × Rdr} (h : ∀ r, (f r).2.rest.length ≤ r.rest.length) : ∀ (k : Nat) (r : Rdr), (cN f k r).2.rest.length ≤ r.rest.length
  | 0, _ => Nat.le_refl _
  | k + 1, r => Nat.le_trans (h _) (cN_rest h k r)
theorem cW_rest (r : Rdr) : (cW r).2.rest.length ≤ r.rest.length :=
  Nat.le_trans (blk_len' _) (Nat.le_trans (uint_len' _) (Nat.le_trans (count_len' _ _) (count_len' _ _)))
theorem cM_rest (r : Rdr) : (cM r).2.rest.length ≤ r.rest.length :=
  Nat.le_trans (count_len' _ _) (Nat.le_trans (uint_len' _) (Nat.le_trans (count_len' _ _) (count_len' _ _)))
theorem c6_rest (b : List Int) : (c6 b).2.rest.length ≤ b.length :=
  Nat.le_trans (cN_rest cM_rest _ _) (Nat.le_trans (count_len' _ _) (Nat.le_trans (cN_rest cW_rest _ _) (Nat.le_trans (count_len' _ _) (Nat.le_trans (uint_len' _) (uint_len' _)))))
theorem c7_rest (b : List Int) : (c7 b).2.2.rest.length ≤ b.length ∧ (c7 b).1.length ≤ b.length :=
  ⟨Nat.le_trans (bytes_len' _).1 (c6_rest b), Nat.le_trans (bytes_len' _).2 (c6_rest b)⟩
end Go.Proofs.Ytndifkjenjfjpaa
