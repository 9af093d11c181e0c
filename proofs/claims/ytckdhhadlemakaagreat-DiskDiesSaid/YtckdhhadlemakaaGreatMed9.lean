/-
  WHAT IS SHOWN: what play of tegulalaw11 returns and makes of two media: the same. Conditions: the media lie in memory; the operations can be read.
-/
import Derived.Test.YtckdhhadlemakaaGreatMed8
namespace Go.Proofs.YtckdhhadlemakaaGreat
set_option linter.unusedVariables false
open Go.RowKit

theorem ops_at {w : World} {B : Nat} {A : Option Addr} {l : List OpV} (h : Rd w B A (flatOps l)) {k : Nat} (hk : k < l.length) : ∃ g o, A = some ⟨g, o, none⟩ ∧ g < B ∧ w.cell? ⟨g, o + k * 3, none⟩ = some (.bool l[k].er) ∧ w.cell? ⟨g, o + k * 3 + 1, none⟩ = some (.int .i64 l[k].at_) ∧ w.cell? ⟨g, o + k * 3 + 2, none⟩ = some (.slice l[k].A l[k].xs.length l[k].c) := by
  have e : ∀ t, t < 3 → (flatOps l)[k * 3 + t]? = l[k].cells[t]? := fun t ht => by
    unfold flatOps; rw [flat_get _ 3 opcells_len l k t ht, List.getElem?_eq_getElem hk]; rfl
  obtain ⟨g, o, e0, hg, h0⟩ := h (k * 3 + 0) _ (e 0 (by omega))
  obtain ⟨g1, o1, e1, _, h1⟩ := h (k * 3 + 1) _ (e 1 (by omega))
  obtain ⟨g2, o2, e2, _, h2⟩ := h (k * 3 + 2) _ (e 2 (by omega))
  rw [e0] at e1 e2
  injection e1 with e1; injection e1 with e1 e1'; subst e1; subst e1'
  injection e2 with e2; injection e2 with e2 e2'; subst e2; subst e2'
  exact ⟨g, o, e0, hg, h0, h1, h2⟩
theorem OpOk.kept {w w' : World} {B : Nat} {o : OpV} {S : Nat → Prop} (h : OpOk w B o) (hk : Kept S w w') (hS : ∀ i, i < B → ¬ S i) : OpOk w' B o := ⟨h.at_, hk.rd h.rd hS, h.n⟩
/-- A medium and one of the reference lie apart. -/
theorem med_apart {w : World} {m bs n rs : Nat} {g g' : Geo} {L L' : List Sec} (h : Med w m bs g L) (k : RMed w n rs g' L') : m ≠ n ∧ m ≠ rs ∧ bs ≠ n ∧ bs ≠ rs := by
  obtain ⟨c, V, h1, h2, _, _⟩ := h
  obtain ⟨cur, hc⟩ := own_type h2
  obtain ⟨c', k1, k2⟩ := k
  obtain ⟨cur', kc⟩ := own_type k2
  refine ⟨fun e => ?_, fun e => ?_, fun e => ?_, fun e => ?_⟩
  · subst e; rw [h1] at k1; injection k1 with k1; injection k1 with _ k1; revert k1; decide
  · subst e; rw [h1] at kc; injection kc with kc; injection kc with _ kc; revert kc; decide
  · subst e; rw [hc] at k1; injection k1 with k1; injection k1 with _ k1; revert k1; decide
  · subst e; rw [hc] at kc; injection kc with kc; injection kc with _ kc; revert kc; decide

/-- What play leaves. -/
def PlayPost (w : World) (m bs n rs : Nat) (g : Geo) (L : List Sec) (e : Ending) (w' : World) : Prop :=
  e = .returned (.bool true) ∧ Med w' m bs g L ∧ RMed w' n rs g L ∧ Kept (fun k => k = bs ∨ k = rs) w w'

end Go.Proofs.YtckdhhadlemakaaGreat
