/-
  WHAT IS SHOWN: plain facts on faults, powers and disks, of no program. Conditions: as each theorem names them.
-/
import Derived.Test.YtckdhhadlemakaaGreatMed9
namespace Go.Proofs.YtckdhhadlemakaaGreat
set_option linter.unusedVariables false
open Go.RowKit

/-- A fault. -/
structure Flt where
  at_ : Int
  kind : Int
  to_ : Int
def Flt.cells (f : Flt) : List Value := [.int .i64 f.at_, .int .i64 f.kind, .int .i64 f.to_]
def Flt.val (f : Flt) : Value := .agg #[.int .i64 f.at_, .int .i64 f.kind, .int .i64 f.to_]
theorem fltcells_len (f : Flt) : f.cells.length = 3 := rfl
def flatF (l : List Flt) : List Value := l.flatMap Flt.cells
def noF : Flt := ⟨0, 0, 0⟩
def okF (last : Int) (f : Flt) : Bool := !decide (f.at_ ≤ last) && (!decide (f.kind < 1) && (!decide (7 < f.kind) && (!decide (f.to_ < 0) && (decide (f.to_ = 0) || (decide (f.kind = 3) || decide (f.kind = 5))))))
def validFrom : Int → List Flt → Bool
  | _, [] => true
  | last, f :: l => okF last f && validFrom f.at_ l
def validF (l : List Flt) : Bool := validFrom (-1) l
def atF : List Flt → Int → Flt
  | [], _ => noF
  | f :: l, op => if f.at_ = op then f else atF l op
theorem flt_at {w : World} {B : Nat} {A : Option Addr} {l : List Flt} (h : Rd w B A (flatF l)) {k : Nat} (hk : k < l.length) : ∃ g o, A = some ⟨g, o, none⟩ ∧ g < B ∧ w.cell? ⟨g, o + k * 3, none⟩ = some (.int .i64 l[k].at_) ∧ w.cell? ⟨g, o + k * 3 + 1, none⟩ = some (.int .i64 l[k].kind) ∧ w.cell? ⟨g, o + k * 3 + 2, none⟩ = some (.int .i64 l[k].to_) := by
  have e : ∀ t, t < 3 → (flatF l)[k * 3 + t]? = l[k].cells[t]? := fun t ht => by
    unfold flatF; rw [flat_get _ 3 fltcells_len l k t ht, List.getElem?_eq_getElem hk]; rfl
  obtain ⟨g, o, e0, hg, h0⟩ := h (k * 3 + 0) _ (e 0 (by omega))
  obtain ⟨g1, o1, e1, _, h1⟩ := h (k * 3 + 1) _ (e 1 (by omega))
  obtain ⟨g2, o2, e2, _, h2⟩ := h (k * 3 + 2) _ (e 2 (by omega))
  rw [e0] at e1 e2
  injection e1 with e1; injection e1 with e1 e1'; subst e1; subst e1'
  injection e2 with e2; injection e2 with e2 e2'; subst e2; subst e2'
  exact ⟨g, o, e0, hg, h0, h1, h2⟩
/-- The last moment of a list's first k faults. -/
def lastF (l : List Flt) (k : Nat) : Int := if k = 0 then -1 else (l.getD (k - 1) noF).at_
theorem lastF_succ (l : List Flt) (k : Nat) (h : k < l.length) : lastF l (k + 1) = l[k].at_ := by
  unfold lastF; rw [if_neg (by omega)]; simp [List.getD, h]
theorem valid_drop (l : List Flt) : ∀ k last, k ≤ l.length → validFrom last l = true → (∀ hk : k < l.length, okF (if k = 0 then last else (l.getD (k - 1) noF).at_) l[k] = true) := by
  induction l with
  | nil => intro k last h _ hk; simp at hk
  | cons f l ih =>
    intro k last h hv hk
    unfold validFrom at hv
    rw [Bool.and_eq_true] at hv
    cases k with
    | zero => simpa using hv.1
    | succ k =>
      have := ih k f.at_ (by simpa using h) hv.2 (by simpa using hk)
      simp only [List.getElem_cons_succ]
      rw [if_neg (by omega)]
      cases k with
      | zero => simpa using this
      | succ k => simpa using this
theorem valid_ok {l : List Flt} (h : validF l = true) {k : Nat} (hk : k < l.length) : okF (lastF l k) l[k] = true := valid_drop l k (-1) (by omega) h hk
theorem valid_of (l : List Flt) : ∀ last, (∀ k (hk : k < l.length), okF (if k = 0 then last else (l.getD (k - 1) noF).at_) l[k] = true) → validFrom last l = true := by
  induction l with
  | nil => intro last _; rfl
  | cons f l ih =>
    intro last h
    unfold validFrom
    rw [Bool.and_eq_true]
    refine ⟨by have := h 0 (by simp); rw [if_pos rfl] at this; exact this, ih f.at_ (fun k hk => ?_)⟩
    have := h (k + 1) (by simpa using hk)
    simp only [List.getElem_cons_succ] at this
    rw [if_neg (by omega)] at this
    cases k with
    | zero => simpa using this
    | succ k => simpa using this
theorem validF_of {l : List Flt} (h : ∀ k (hk : k < l.length), okF (lastF l k) l[k] = true) : validF l = true := valid_of l (-1) h
theorem validF_not {l : List Flt} {k : Nat} (hk : k < l.length) (h : okF (lastF l k) l[k] = false) : validF l = false := by
  cases hv : validF l
  · rfl
  · have := valid_ok hv hk; rw [h] at this; cases this
theorem atF_hit (l : List Flt) (op : Int) : ∀ k (hk : k < l.length), (∀ j (hj : j < k), (l[j]'(by omega)).at_ ≠ op) → l[k].at_ = op → atF l op = l[k] := by
  induction l with
  | nil => intro k hk; simp at hk
  | cons f l ih =>
    intro k hk h he
    unfold atF
    cases k with
    | zero => simp at he; rw [if_pos he]; rfl
    | succ k =>
      have h0 := h 0 (by omega)
      simp at h0
      rw [if_neg h0]
      simp only [List.getElem_cons_succ] at he ⊢
      exact ih k (by simpa using hk) (fun j hj => by have := h (j + 1) (by omega); simpa using this) he
theorem atF_miss (l : List Flt) (op : Int) (h : ∀ j (hj : j < l.length), l[j].at_ ≠ op) : atF l op = noF := by
  induction l with
  | nil => rfl
  | cons f l ih =>
    unfold atF
    have h0 := h 0 (by simp)
    simp at h0
    rw [if_neg h0]
    exact ih (fun j hj => by have := h (j + 1) (by simpa using hj); simpa using this)
end Go.Proofs.YtckdhhadlemakaaGreat
