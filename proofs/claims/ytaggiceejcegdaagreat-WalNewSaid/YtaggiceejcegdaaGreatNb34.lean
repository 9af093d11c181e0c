/-
  WHAT IS SHOWN: what Write, Read and Flush of tegularef49 return and leave. Conditions: the disk lies in memory; the sectors can be read, whatever the disk does.
-/
import Derived.Test.YtaggiceejcegdaaGreatNb33
namespace Go.Proofs.YtaggiceejcegdaaGreat
set_option linter.unusedVariables false
open Go.RowKit

/-- What a loop of calls has come to: n calls, the last one's error; those before were busy. -/
def Tried (f : DC → DC × Ans) (d : DC) (n : Nat) (er : Int) : Prop := (n = 0 ∧ er = 16) ∨ (0 < n ∧ er = (ansN f d (n - 1)).er ∧ ∀ j, j < n - 1 → (ansN f d j).er = 16)
theorem Tried.done {f : DC → DC × Ans} {d : DC} {n : Nat} {er : Int} (h : Tried f d n er) (he : n = 9 ∨ ¬ er = 16) (hn : n ≤ 9) : 0 < n ∧ tryD f d = (callN f d n, ansN f d (n - 1)) ∧ er = (tryD f d).2.er := by
  rcases h with ⟨h0, h1⟩ | ⟨h0, h1, h2⟩
  · rcases he with he | he
    · omega
    · exact absurd h1 he
  · have h3 : tryD f d = (callN f d (n - 1 + 1), ansN f d (n - 1)) := try_stop h2 (by
      rcases he with he | he
      · exact .inl (by omega)
      · exact .inr ⟨by omega, by rw [← h1]; exact he⟩)
    rw [show n - 1 + 1 = n by omega] at h3
    exact ⟨h0, h3, by rw [h3, h1]⟩
section
variable {w w' : World} {B : Bd} {q pw : Nat} {g : Geo} {F : List Flt} {d : DC}
def RRdsPost (w : World) (B : Bd) (q pw : Nat) (g : Geo) (F : List Flt) (x : DC × List (List Int) × Int) (e : Ending) (w' : World) : Prop :=
  ∃ A c ss, e = .returned (.tuple #[.slice A ss.length c, .int .i64 x.2.2]) ∧ ss.map Sl.xs = x.2.1 ∧ SlsB w' w.heap.size A c ss ∧ RDM w' B q pw g F x.1 ∧ KeptT RDT B w w'
end
end Go.Proofs.YtaggiceejcegdaaGreat
