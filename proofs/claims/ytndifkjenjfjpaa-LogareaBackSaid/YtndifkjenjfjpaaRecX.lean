/-
  WHAT IS SHOWN: plain facts, of no program, on reading records from sectors. Conditions: as each theorem names them.
-/
import Derived.Test.YtndifkjenjfjpaaRecV
import Derived.Test.YtndifkjenjfjpaaRec21
namespace Go.Proofs.Ytndifkjenjfjpaa
set_option linter.unusedVariables false

structure Dec where
  r : Rec
  n : Nat
  er : Int
def zRec : Rec := ⟨0, 0, [], [], []⟩
def Dec.bad (e : Int) : Dec := ⟨zRec, 0, e⟩
def hdD (ls : List (List Int)) : Ins := insD (ls.headD [])
/-- The error at a part. -/
def partE (ls : List (List Int)) (i : Nat) : Int :=
  if h : i < ls.length then
    if ¬ (insD ls[i]).er = 0 then (insD ls[i]).er
    else if (insD ls[i]).gen = (hdD ls).gen ∧ (insD ls[i]).seq = (hdD ls).seq ∧ (insD ls[i]).part = i ∧ (insD ls[i]).parts = (hdD ls).parts then 0 else 5
  else 5
def scanE (ls : List (List Int)) : Nat → Option Int
  | 0 => none
  | k + 1 => match scanE ls k with
    | some e => some e
    | none => if partE ls k = 0 then none else some (partE ls k)
def allB (ls : List (List Int)) : Nat → List Int
  | 0 => []
  | k + 1 => allB ls k ++ (insD (ls.getD k [])).ch
def decEnd (ls : List (List Int)) (m : Nat) : Dec := match recD (allB ls m) with
  | none => .bad 5
  | some r => if encR r = ls.take m then ⟨r, m, 0⟩ else .bad 5
def decD (ls : List (List Int)) : Dec :=
  if ¬ partE ls 0 = 0 then .bad (partE ls 0)
  else match scanE ls (hdD ls).parts with
    | some e => .bad e
    | none => decEnd ls (hdD ls).parts
theorem scan_none {ls : List (List Int)} : ∀ {k : Nat}, (∀ i, i < k → partE ls i = 0) → scanE ls k = none
  | 0, _ => rfl
  | k + 1, h => by
    unfold scanE
    rw [scan_none (fun i hi => h i (by omega))]
    simp only
    rw [if_pos (h k (by omega))]
theorem scan_some {ls : List (List Int)} {k : Nat} (h : ∀ i, i < k → partE ls i = 0) (he : ¬ partE ls k = 0) : ∀ {m : Nat}, k < m → scanE ls m = some (partE ls k)
  | 0, h0 => by omega
  | m + 1, h0 => by
    unfold scanE
    by_cases hm : k < m
    · rw [scan_some h he hm]
    · obtain rfl : k = m := by omega
      rw [scan_none h]
      simp only
      rw [if_neg he]
theorem decD_err {ls : List (List Int)} {k : Nat} (h : ∀ i, i < k → partE ls i = 0) (he : ¬ partE ls k = 0) (hk : k = 0 ∨ k < (hdD ls).parts) : decD ls = .bad (partE ls k) := by
  unfold decD
  by_cases h0 : k = 0
  · subst h0; rw [if_pos he]
  · rw [if_neg (by rw [h 0 (by omega)]; simp), scan_some h he (by omega : k < (hdD ls).parts)]
theorem decD_end {ls : List (List Int)} (h0 : 0 < (hdD ls).parts) (h : ∀ i, i < (hdD ls).parts → partE ls i = 0) : decD ls = decEnd ls (hdD ls).parts := by
  unfold decD
  rw [if_neg (by rw [h 0 h0]; simp), scan_none h]
theorem insD_er {b : List Int} : (insD b).er = 0 ∨ (insD b).er = 5 ∨ (insD b).er = 6 := by
  unfold insD
  split
  · exact .inr (.inl rfl)
  · split
    · exact .inr (.inr rfl)
    · split
      · exact .inr (.inl rfl)
      · split
        · exact .inl rfl
        · exact .inr (.inl rfl)
theorem insD_parts {b : List Int} (h : (insD b).er = 0) : (insD b).part < (insD b).parts ∧ (insD b).parts ≤ 4096 ∧ 1 ≤ (insD b).ch.length ∧ (insD b).ch.length ≤ 28 ∧ 1 ≤ (insD b).seq := by
  unfold insD at h ⊢
  split
  · rename_i h1; rw [if_pos h1] at h; exact absurd h (by decide)
  · rename_i h1; rw [if_neg h1] at h
    split
    · rename_i h2; rw [if_pos h2] at h; exact absurd h (by decide)
    · rename_i h2; rw [if_neg h2] at h
      split
      · rename_i h3; rw [if_pos h3] at h; exact absurd h (by decide)
      · rename_i h3; rw [if_neg h3] at h
        split
        · rename_i h4
          unfold insOk at h4
          simp only [Bool.and_eq_true, beq_iff_eq, decide_eq_true_eq] at h4
          obtain ⟨⟨⟨⟨⟨_, a1⟩, a2⟩, a3⟩, a4⟩, a5⟩ := h4
          exact ⟨a3, a2, a4, a5, a1⟩
        · rename_i h4; rw [if_neg h4] at h; exact absurd h (by decide)
theorem allB_len {ls : List (List Int)} : ∀ {k : Nat}, (∀ i, i < k → partE ls i = 0) → (allB ls k).length ≤ 28 * k
  | 0, _ => by simp [allB]
  | k + 1, h => by
    unfold allB
    rw [List.length_append]
    have h1 := allB_len (k := k) (fun i hi => h i (by omega))
    have h2 := h k (by omega)
    unfold partE at h2
    split at h2
    · rename_i hk
      split at h2
      · rename_i h3; exact absurd h2 h3
      · rename_i h3
        have h3' : (insD ls[k]).er = 0 := by simpa using h3
        have h4 := (insD_parts h3').2.2.2.1
        have : ls.getD k [] = ls[k] := by simp [hk]
        rw [this]; omega
    · omega
end Go.Proofs.Ytndifkjenjfjpaa
