/-
  WHAT IS SHOWN: what Inspect of record returns. Conditions: the bytes can be read.
-/
import Derived.Test.YtaggiceejcegdaaGreatNc06
namespace Go.Proofs.YtaggiceejcegdaaGreat
set_option linter.unusedVariables false
open Go.RowKit
theorem insD_short {b : List Int} (h : b.length < 8) : insD b = .bad 5:=by unfold insD; rw [if_pos (.inl h)]
theorem insD_mark {b : List Int} (h : ¬ b.head? = some 82) : insD b = .bad 5:=by unfold insD; rw [if_pos (.inr h)]
theorem insD_sum {b : List Int} (h : 8 ≤ b.length) (h1 : b.head? = some 82) (h2 : ¬ sealB (b.take (b.length - 8)) = b) : insD b = .bad 6:=by
 unfold insD; rw [if_neg (by rintro (h' | h'); omega; exact h' h1),if_pos h2]
theorem insD_eight {b : List Int} (h : b.length = 8) (h1 : b.head? = some 82) (h2 : sealB (b.take (b.length - 8)) = b) : insD b = .bad 5:=by
 unfold insD; rw [if_neg (by rintro (h' | h'); omega; exact h' h1),if_neg (by simp [h2]),if_pos (by omega)]
theorem insD_no {b : List Int} (h : 9 ≤ b.length) (h1 : b.head? = some 82) (h2 : sealB (b.take (b.length - 8)) = b) (h3 : insOk b = false) : insD b = .bad 5:=by
 unfold insD; rw [if_neg (by rintro (h' | h'); omega; exact h' h1),if_neg (by simp [h2]),if_neg (by omega),if_neg (by simp [h3])]
theorem insD_yes {b : List Int} (h : 9 ≤ b.length) (h1 : b.head? = some 82) (h2 : sealB (b.take (b.length - 8)) = b) (h3 : insOk b = true) : insD b = ⟨numK b 0,numK b 1,numK b 2,numK b 3,(rdK b 4).bytes.1,0⟩:=by
 unfold insD; rw [if_neg (by rintro (h' | h'); omega; exact h' h1),if_neg (by simp [h2]),if_neg (by omega),if_pos h3]
def arrL (b : List Int) (k : Nat) : List Value:=[.int .u64 (if 0 < k then numK b 0 else 0 : Nat),.int .u64 (if 1 < k then numK b 1 else 0 : Nat),.int .u64 (if 2 < k then numK b 2 else 0 : Nat),.int .u64 (if 3 < k then numK b 3 else 0 : Nat)]
theorem insOk_no {b : List Int} (h : ¬ (rdK b 4).bytes.2.2.done = 0 ∨ numK b 1 < 1 ∨ 4096 < numK b 3 ∨ numK b 3 ≤ numK b 2 ∨ (rdK b 4).bytes.1.length < 1 ∨ 28 < (rdK b 4).bytes.1.length) : insOk b = false:=by
 unfold insOk
 rw [Bool.eq_false_iff]
 intro hc
 simp only [Bool.and_eq_true,beq_iff_eq,decide_eq_true_eq] at hc
 omega
theorem insOk_yes {b : List Int} (h0 : (rdK b 4).bytes.2.2.done = 0) (h1 : 1 ≤ numK b 1) (h2 : numK b 3 ≤ 4096) (h3 : numK b 2 < numK b 3) (h4 : 1 ≤ (rdK b 4).bytes.1.length) (h5 : (rdK b 4).bytes.1.length ≤ 28) : insOk b = true:=by
 unfold insOk
 simp [h0,h1,h2,h3,h4,h5]
end Go.Proofs.YtaggiceejcegdaaGreat
