/-
  WHAT IS SHOWN: plain facts, of no program: the first example of the document. Conditions: none.
-/
import Derived.Test.YtndifkjenjfjpaaRecB
namespace Go.Proofs.Ytndifkjenjfjpaa
set_option linter.unusedVariables false

def rA : Rec := ⟨1, 2, [], [], []⟩
def xA : List Int := [82, 1, 2, 0, 1, 5, 1, 2, 0, 0, 0]
theorem rA_ok : rA.Ok where
  gen := by decide
  seq := by decide
  ws := fun x hx => by simp [rA] at hx
  ms := fun x hx => by simp [rA] at hx
  note := fun x hx => by simp [rA] at hx
theorem rA_valid : validR rA = true := rfl
theorem payA : payR rA = [1, 2, 0, 0, 0] := rfl
theorem encA : encR rA = [xA ++ be8 (sumC xA)] := by
  have hX : hdS 1 2 0 1 ++ uintB 5 ++ [1, 2, 0, 0, 0] = xA := rfl
  have hn : nCh ([1, 2, 0, 0, 0] : List Int).length = 1 := rfl
  unfold encR
  rw [payA, hn]
  show [secB 1 2 0 1 [1, 2, 0, 0, 0]] = _
  unfold secB sealB
  rw [show hdS 1 2 0 1 ++ uintB ([1, 2, 0, 0, 0] : List Int).length ++ [1, 2, 0, 0, 0] = xA from hX]
theorem encLA : encL rA = [xA ++ be8 (sumC xA)] := by unfold encL; rw [if_pos rA_valid, encA]
theorem encEA : encE rA = 0 := rfl
theorem decA : decD [xA ++ be8 (sumC xA)] = ⟨rA, 1, 0⟩ := by
  have h := dec_enc rA_valid rA_ok []
  rw [List.append_nil, encA] at h
  exact h
theorem decN : decD [] = .bad 5 := by
  have h : partE [] 0 = 5 := rfl
  unfold decD
  rw [h]; rfl
end Go.Proofs.Ytndifkjenjfjpaa
