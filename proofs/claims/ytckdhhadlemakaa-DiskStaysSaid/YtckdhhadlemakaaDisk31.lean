/-
  WHAT IS SHOWN: plain facts on the loops of tegulalaw14 over acts: what lies in memory, what keeps it. Conditions: as each theorem names them.
-/
import Derived.Test.YtckdhhadlemakaaDisk29
import Derived.Test.YtckdhhadlemakaaDisk30
import Derived.Test.YtckdhhadlemakaaDisk18
namespace Go.Proofs.Ytckdhhadlemakaa
set_option linter.unusedVariables false
open Go.RowKit

/-- Within a loop over acts: the pair of disks, and the acts from number k on. -/
structure LpW (w wr : World) (X pw q0 q1 : Nat) (l : List ActV) (A' : Option Addr) (c' k : Nat) : Prop where
  bel : Below w.heap.size w wr
  var : wr.ownsRow 0 68 3 (.slice (some ⟨X, 0, none⟩) 1 1) 1 [.pointer (some ⟨pw, 0, none⟩), .pointer (some ⟨q0, 0, none⟩), .pointer (some ⟨q1, 0, none⟩)]
  row : ∃ L, wr.ownsRow w.heap.size 78 6 (.slice A' l.length c') l.length L ∧ ∀ j, k * 6 ≤ j → L[j]? = (flatA l)[j]?
section
variable {w wr w' : World} {X pw q0 q1 : Nat} {l : List ActV} {A' : Option Addr} {c' k : Nat}
theorem own_typed {w w' : World} {ts : List TypeId} {B : Bd} {base size n : Nat} {e : TypeId} {v : Value} {xs : List Value} (h : w.ownsRow base e size v n xs) (hk : KeptT ts B w w') (he : e ∉ ts) : w'.ownsRow base e size v n xs := by
  refine own_kept h hk (fun b hb => ?_)
  rcases h.2 with ⟨h2, _⟩ | ⟨g, cap, cur, h2, _, h4, _⟩
  · rw [h2] at hb; cases hb
  · rw [h2] at hb; injection hb with hb; subst hb; exact KeptT.no (IsT.of h4) he
theorem LpW.typed {ts : List TypeId} {B : Bd} (h : LpW w wr X pw q0 q1 l A' c' k) (hk : KeptT ts B wr w') (hB : w.heap.size ≤ B.n) (h1 : 68 ∉ ts) (h2 : 78 ∉ ts) : LpW w w' X pw q0 q1 l A' c' k := by
  obtain ⟨L, ho, hL⟩ := h.row
  refine ⟨?_, own_typed h.var hk h1, L, own_typed ho hk h2, hL⟩
  exact h.bel.trans (Kept.below (Kept.more hk (T := fun i => w.heap.size ≤ i) (fun i _ hi => Nat.le_trans hB hi.1.1)) (fun _ hi => hi) h.bel.size)
theorem LpW.below (h : LpW w wr X pw q0 q1 l A' c' k) (hb : Below wr.heap.size wr w') : LpW w w' X pw q0 q1 l A' c' k := by
  obtain ⟨L, ho, hL⟩ := h.row
  exact ⟨h.bel.trans (hb.mono h.bel.size), own_kept h.var (belKept0 (S := fun _ => False) hb) (fun _ _ h => h), L, own_kept ho (belKept0 (S := fun _ => False) hb) (fun _ _ h => h), hL⟩
theorem LpW.cells (h : LpW w wr X pw q0 q1 l A' c' k) : wr.cell? ⟨X, 0, none⟩ = some (.pointer (some ⟨pw, 0, none⟩)) ∧ wr.cell? ⟨X, 1, none⟩ = some (.pointer (some ⟨q0, 0, none⟩)) ∧ wr.cell? ⟨X, 2, none⟩ = some (.pointer (some ⟨q1, 0, none⟩)) :=
  ⟨(World.ownsRow.cellAt h.var 0 (by decide)).trans rfl, (World.ownsRow.cellAt h.var 1 (by decide)).trans rfl, (World.ownsRow.cellAt h.var 2 (by decide)).trans rfl⟩
/-- The act of number k. -/
theorem LpW.act (h : LpW w wr X pw q0 q1 l A' c' k) (hk : k < l.length) : ∃ ga, A' = some ⟨ga, 0, none⟩ ∧ (∀ t u, l[k].cells[t]? = some u → wr.cell? ⟨ga, k * 6 + t, none⟩ = some u) ∧ wr.frozen? ⟨ga, k * 6, none⟩ = false := by
  obtain ⟨L, ho, hL⟩ := h.row
  obtain ⟨ga, rfl, _⟩ := own_at ho (by omega)
  refine ⟨ga, rfl, fun t u hu => ?_, ho.frozenAt _⟩
  have ht : t < 6 := (List.getElem?_eq_some_iff.1 hu).1
  rw [World.ownsRow.cellAt ho (k * 6 + t) (by omega), hL _ (by omega)]
  unfold flatA; rw [flat_get _ 6 actcells_len l k t ht, List.getElem?_eq_getElem hk]; exact hu
theorem LpW.typ {ga : Nat} (h : LpW w wr X pw q0 q1 l (some ⟨ga, 0, none⟩) c' k) : IsT 78 wr ga := by
  obtain ⟨L, ho, _⟩ := h.row; exact IsT.own ho
theorem LpW.next (h : LpW w wr X pw q0 q1 l A' c' k) : LpW w wr X pw q0 q1 l A' c' (k + 1) := by
  obtain ⟨L, ho, hL⟩ := h.row
  exact ⟨h.bel, h.var, L, ho, fun j hj => hL j (by omega)⟩
/-- The act's disk becomes 0. -/
theorem LpW.zero {ga : Nat} (h : LpW w wr X pw q0 q1 l (some ⟨ga, 0, none⟩) c' k) (hk : k < l.length) :
    LpW w (wr.setCell ⟨ga, k * 6, none⟩ (.int .u8 0)) X pw q0 q1 l (some ⟨ga, 0, none⟩) c' (k + 1) ∧ KeptT [78] (Bd.of w.heap.size) wr (wr.setCell ⟨ga, k * 6, none⟩ (.int .u8 0)) ∧
    (∀ t u, ({ l[k] with disk := 0 } : ActV).cells[t]? = some u → (wr.setCell ⟨ga, k * 6, none⟩ (.int .u8 0)).cell? ⟨ga, k * 6 + t, none⟩ = some u) := by
  obtain ⟨L, ho, hL⟩ := h.row
  have hlow : w.heap.size ≤ ga := by
    rcases ho.2 with ⟨h2, _⟩ | ⟨g, cap, cur, h2, h3, _⟩
    · cases h2
    · injection h2 with h2; injection h2 with h2; injection h2 with h2; subst h2; exact h3
  have tg : IsT 78 wr ga := IsT.own ho
  have hk0 : Kept (fun i => i = ga) wr (wr.setCell ⟨ga, k * 6, none⟩ (.int .u8 0)) := (Kept.refl (fun i => i = ga) wr).setCell (p := ⟨ga, k * 6, none⟩) (fun _ => rfl) _
  have hkT : KeptT [78] (Bd.of w.heap.size) wr (wr.setCell ⟨ga, k * 6, none⟩ (.int .u8 0)) := KeptT.of hk0 (fun i _ e => by have e' : i = ga := e; subst e'; exact ⟨⟨hlow, fun h => h⟩, HasT.mem tg (by simp)⟩)
  have ho2 := (World.ownsRow.stored ho (k * 6) (.int .u8 0)).1
  have hgk : ∀ t, t < 6 → L[k * 6 + t]? = l[k].cells[t]? := fun t ht => by
    rw [hL _ (by omega)]; unfold flatA; rw [flat_get _ 6 actcells_len l k t ht, List.getElem?_eq_getElem hk]; rfl
  refine ⟨⟨h.bel.setCell (p := ⟨ga, k * 6, none⟩) hlow _, own_typed h.var hkT (by decide), _, ho2, fun j hj => ?_⟩, hkT, fun t u hu => ?_⟩
  · rw [List.getElem?_set_ne (by omega)]; exact hL j (by omega)
  · have ht : t < 6 := (List.getElem?_eq_some_iff.1 hu).1
    rw [World.ownsRow.cellAt ho2 (k * 6 + t) (by omega)]
    rcases Nat.eq_zero_or_pos t with rfl | h0
    · have hlen : k * 6 < L.length := by
        have := hgk 0 (by omega)
        rw [Nat.add_zero] at this
        exact (List.getElem?_eq_some_iff.1 (this.trans rfl)).1
      rw [Nat.add_zero, List.getElem?_set_self hlen]; exact hu
    · rw [List.getElem?_set_ne (by omega), hgk t ht]
      obtain ⟨u', hu'⟩ : ∃ t', t = t' + 1 := ⟨t - 1, by omega⟩
      subst hu'
      exact hu
end
theorem fair14_parts {g : Geo} {l0 l1 : List Flt} {acts : List ActV} (h : fair14B g l0 l1 acts = true) :
    validG g = true ∧ szN g ≤ 120 ∧ acts.length ≤ 60 ∧ l0.length ≤ 20 ∧ l1.length ≤ 20 ∧ (∀ a ∈ acts, a.xs.length ≤ 100) ∧ validF l0 = true ∧ validF l1 = true := by
  unfold fair14B at h
  simp only [Bool.and_eq_true, decide_eq_true_eq] at h
  obtain ⟨⟨h1, h2, h3, h4, h5⟩, h6, h7, h8⟩ := h
  exact ⟨h1, h2, h3, h4, h5, (shortA_iff acts).1 h6, h7, h8⟩
/-- The acts that only leaves. -/
theorem onlyA_mem {l : List ActV} {a : ActV} (h : a ∈ onlyA l) : a.kind ≤ 3 ∧ a.key = 0 ∧ ∃ b ∈ l, a = { b with key := 0 } := by
  unfold onlyA at h
  obtain ⟨b, hb, rfl⟩ := List.mem_map.1 h
  obtain ⟨h1, h2⟩ := List.mem_filter.1 hb
  exact ⟨by simpa using h2, rfl, b, h1, rfl⟩
theorem onlyA_in {w : World} {l : List ActV} (h : ∀ b ∈ l, ActIn w b) {a : ActV} (ha : a ∈ onlyA l) : ActIn w a := by
  obtain ⟨_, _, b, hb, rfl⟩ := onlyA_mem ha
  have := h b hb
  exact ⟨this.at_, this.rd, this.n, this.c, this.dk, this.kd⟩
theorem onlyA_short {l : List ActV} (h : ∀ b ∈ l, b.xs.length ≤ 100) {a : ActV} (ha : a ∈ onlyA l) : a.xs.length ≤ 100 := by
  obtain ⟨_, _, b, hb, rfl⟩ := onlyA_mem ha; exact h b hb
/-- An operation that does not come to its work. -/
theorem op_err {g : Geo} {F : List Flt} {d : DC} {a : ActV} {E : Int} {s' : DS} {P' : Pow} {f : Flt} (hk : 0 ≤ a.kind ∧ a.kind ≤ 3) (hb : begD F d.s d.P a.key = ⟨E, s', P', f⟩) (hE : E ≠ 0) :
    doEr g F d a = E ∧ doC g F d a = ⟨s', P', d.L, d.O⟩ := by
  have h4 : a.kind = 0 ∨ a.kind = 1 ∨ a.kind = 2 ∨ a.kind = 3 := by omega
  unfold doEr doC
  unfold dRdE dWrE dErE dRdS dWrS dWrLM dWrO dErS dErO dFlS dFlLM dFlO
  rw [hb]
  rcases h4 with h | h | h | h <;> rw [h] <;> simp [hE]
end Go.Proofs.Ytckdhhadlemakaa
