/-
  WHAT IS SHOWN: what the methods of the readers of codec and of tegularef09 return. Conditions: as each theorem names them.
-/
import Derived.Test.YtndifkjenjfjpaaRec3
namespace Go.Proofs.Ytndifkjenjfjpaa
set_option linter.unusedVariables false
open Go.RowKit

/-- A reader in memory. -/
def RdrM (ty : TypeId) (w : World) (q : Nat) (r : Rdr) : Prop :=
  ∃ A c, w.heap[q]? = some (.cells #[.slice A r.rest.length c, .bool r.bad] ty (0, 0)) ∧ RdT w 5 A (r.rest.map (Value.int .u8)) ∧ U8s r.rest ∧ r.ok ∧ r.rest.length ≤ c ∧ c ≤ 9223372036854775807 ∧ (A = none → c = 0)
theorem heap_cells {w : World} {q : Nat} {v0 v1 : Value} {ty : TypeId} (h : w.heap[q]? = some (.cells #[v0, v1] ty (0, 0))) : w.cell? ⟨q, 0, none⟩ = some v0 ∧ w.cell? ⟨q, 1, none⟩ = some v1 ∧ w.frozen? ⟨q, 0, none⟩ = false ∧ w.frozen? ⟨q, 1, none⟩ = false := by
  refine ⟨by simp [World.cell?, h], by simp [World.cell?, h], by simp [World.frozen?, h], by simp [World.frozen?, h]⟩
theorem heap_set0 {w : World} {q : Nat} {v0 v1 : Value} {ty : TypeId} (h : w.heap[q]? = some (.cells #[v0, v1] ty (0, 0))) (u : Value) : (w.setCell ⟨q, 0, none⟩ u).heap[q]? = some (.cells #[u, v1] ty (0, 0)) := by
  simp [World.setCell, Array.getElem?_modify, h]
theorem heap_set1 {w : World} {q : Nat} {v0 v1 : Value} {ty : TypeId} (h : w.heap[q]? = some (.cells #[v0, v1] ty (0, 0))) (u : Value) : (w.setCell ⟨q, 1, none⟩ u).heap[q]? = some (.cells #[v0, u] ty (0, 0)) := by
  simp [World.setCell, Array.getElem?_modify, h]
/-- What a call does to a reader. -/
def RdrPost (ty : TypeId) (w : World) (q : Nat) (r : Rdr) (w' : World) : Prop := RdrM ty w' q r ∧ Kept (fun k => k = q) w w'
theorem RdrPost.trans {ty : TypeId} {w w1 w2 : World} {q : Nat} {r r2 : Rdr} (h : RdrPost ty w q r w1) (k : RdrPost ty w1 q r2 w2) : RdrPost ty w q r2 w2 := ⟨k.1, h.2.trans k.2 (fun _ _ h => h)⟩
theorem RdrM.free {ty : TypeId} {w : World} {q : Nat} {r : Rdr} (h : RdrM ty w q r) (t : TypeId) (ht : ty ≠ t) : Free w t (fun k => k = q) := by
  obtain ⟨A, c, hq, _⟩ := h
  exact Free.one hq ht
theorem RdrM.lt {ty : TypeId} {w : World} {q : Nat} {r : Rdr} (h : RdrM ty w q r) : q < w.heap.size := by
  obtain ⟨A, c, hq, _⟩ := h
  exact lt_of_block hq
theorem RdrM.below {ty : TypeId} {w w' : World} {q : Nat} {r : Rdr} (h : RdrM ty w q r) (hb : Below w.heap.size w w') : RdrM ty w' q r := by
  obtain ⟨A, c, hq, hr, h2⟩ := h
  exact ⟨A, c, belObj hb hq (lt_of_block hq), hr.below0 hb, h2⟩
theorem RdrM.failed {ty : TypeId} {w : World} {q : Nat} {r : Rdr} (h : RdrM ty w q r) : RdrPost ty w q Rdr.fail ((w.setCell ⟨q, 0, none⟩ (.slice none 0 0)).setCell ⟨q, 1, none⟩ (.bool true)) := by
  obtain ⟨A, c, hq, _⟩ := h
  exact ⟨⟨none, 0, heap_set1 (heap_set0 hq _) _, RdT.nil _ _ _, (by intro x hx; cases hx), fun _ => rfl, Nat.le_refl _, by decide, fun _ => rfl⟩, ((Kept.refl (fun k => k = q) _).setCell (fun _ => rfl) _).setCell (fun _ => rfl) _⟩
theorem take_mem {w : World} {t : TypeId} {A : Option Addr} {xs : List Value} (h : RdT w t A xs) (n : Nat) : RdT w t A (xs.take n) := fun j u hu => by
  rw [List.getElem?_take] at hu
  split at hu
  · exact h j u hu
  · cases hu
theorem drop_mem {w : World} {t : TypeId} {A : Option Addr} {xs : List Value} (h : RdT w t A xs) (n : Nat) : RdT w t (A.map (fun x => x.add n)) (xs.drop n) := fun j u hu => by
  rw [List.getElem?_drop] at hu
  obtain ⟨g, o, cur, fr, e, hg, hc⟩ := h (n + j) u hu
  refine ⟨g, o + n, cur, fr, ?_, hg, ?_⟩
  · rw [e, Option.map_some, add_off]
  · rw [Nat.add_assoc]; exact hc
theorem U8s.take {xs : List Int} (h : U8s xs) (n : Nat) : U8s (xs.take n) := fun x hx => h x (List.mem_of_mem_take hx)
theorem U8s.drop {xs : List Int} (h : U8s xs) (n : Nat) : U8s (xs.drop n) := fun x hx => h x (List.mem_of_mem_drop hx)
/-- A reader that goes on. -/
theorem RdrM.went {ty : TypeId} {w : World} {q : Nat} {r : Rdr} {A : Option Addr} {c : Nat} (hty : ty ≠ 5) (hq : w.heap[q]? = some (.cells #[.slice A r.rest.length c, .bool r.bad] ty (0, 0))) (hr : RdT w 5 A (r.rest.map (Value.int .u8))) (hu : U8s r.rest) (hok : r.ok) (hc : r.rest.length ≤ c) (hcm : c ≤ 9223372036854775807) (hnn : A = none → c = 0) (n : Nat) (hn : n ≤ r.rest.length) (D : Option Addr) (d : Nat) (hD : (c = n ∧ D = A ∧ d = 0) ∨ (c ≠ n ∧ D = A.map (fun x => x.add n) ∧ d = c - n)) :
    RdrPost ty w q ⟨r.rest.drop n, r.bad⟩ (w.setCell ⟨q, 0, none⟩ (.slice D (r.rest.length - n) d)) := by
  have hk : Kept (fun k => k = q) w (w.setCell ⟨q, 0, none⟩ (.slice D (r.rest.length - n) d)) := (Kept.refl (fun k => k = q) w).setCell (p := ⟨q, 0, none⟩) (fun _ => rfl) _
  refine ⟨⟨D, d, ?_, ?_, hu.drop n, fun hb => by have := hok hb; simp only at this ⊢; rw [this]; simp, ?_, ?_, ?_⟩, hk⟩
  · rw [List.length_drop]; exact heap_set0 hq _
  · rw [List.map_drop]
    rcases hD with ⟨h1, rfl, _⟩ | ⟨_, rfl, _⟩
    · have : (r.rest.map (Value.int .u8)).drop n = [] := List.drop_eq_nil_of_le (by simp; omega)
      rw [this]; exact RdT.nil _ _ _
    · exact (drop_mem hr n).kept hk (Free.one hq hty)
  · rcases hD with ⟨_, _, rfl⟩ | ⟨_, _, rfl⟩ <;> simp <;> omega
  · rcases hD with ⟨_, _, rfl⟩ | ⟨_, _, rfl⟩ <;> omega
  · rcases hD with ⟨_, _, rfl⟩ | ⟨_, rfl, rfl⟩
    · intro _; rfl
    · intro h; cases A with
      | none => have := hnn rfl; omega
      | some a => cases h
theorem fail_any {w : World} {q : Nat} {r : Rdr} (h : RdrM 107 w q r) : Calls Try.prog 83 #[.pointer (some ⟨q, 0, none⟩)] w (fun e w' => e = .returned (.int .i64 5) ∧ RdrPost 107 w q Rdr.fail w') := by
  have HF := Lib.hid h.failed
  obtain ⟨A, c, hq, hr, hu, hok, hc, hcm, hn⟩ := h
  obtain ⟨c0, c1, f0, f1⟩ := heap_cells hq
  clear hq hr hu hok hc hn
  go_enter Try.func83, Try.ntmps83
  go_wp2
  go_ret
  exact ⟨rfl, HF.out⟩
theorem rfail_any {w : World} {q : Nat} {r : Rdr} (h : RdrM 110 w q r) : Calls Try.prog 84 #[.pointer (some ⟨q, 0, none⟩)] w (fun e w' => e = .returned (.int .i64 5) ∧ RdrPost 110 w q Rdr.fail w') := by
  have HF := Lib.hid h.failed
  obtain ⟨A, c, hq, hr, hu, hok, hc, hcm, hn⟩ := h
  obtain ⟨c0, c1, f0, f1⟩ := heap_cells hq
  clear hq hr hu hok hc hn
  go_enter Try.func84, Try.ntmps84
  go_wp2
  go_ret
  exact ⟨rfl, HF.out⟩
/-- What take returns. -/
def TakePost (ty : TypeId) (w : World) (q : Nat) (x : List Int × Int × Rdr) (e : Ending) (w' : World) : Prop :=
  ∃ D d, e = .returned (.tuple #[.slice D x.1.length d, .int .i64 x.2.1]) ∧ RdT w' 5 D (x.1.map (Value.int .u8)) ∧ U8s x.1 ∧ (D = none → d = 0) ∧ x.1.length ≤ d ∧ RdrPost ty w q x.2.2 w'
set_option maxRecDepth 100000 in
set_option maxHeartbeats 1000000 in
theorem take_any {w : World} {q : Nat} {r : Rdr} (n : Nat) (hn : n < 2 ^ 64) (h : RdrM 107 w q r) : Calls Try.prog 82 #[.pointer (some ⟨q, 0, none⟩), .int .u64 n] w (TakePost 107 w q (r.take n)) := by
  have HF := Lib.hid (fail_any h)
  obtain ⟨A, c, hq, hr, hu, hok, hc, hcm, hnn⟩ := h
  obtain ⟨c0, c1, f0, f1⟩ := heap_cells hq
  by_cases hb : r.bad = true ∨ r.rest.length < n
  · have HT : Hid (r.take n = ([], 5, Rdr.fail)) := by unfold Hid Rdr.take; rw [if_pos hb]
    by_cases hbb : r.bad = true
    · rw [hbb] at c1
      clear hq hr hu hok hb
      go_enter Try.func82, Try.ntmps82
      go_wp2_with fail
      refine HF.out.mono ?_
      rintro e w1 ⟨rfl, hp⟩
      have HP := Lib.hid hp
      clear hp
      go_wp2
      go_ret2
      refine ⟨none, 0, by rw [HT.out]; rfl, ?_, ?_, fun _ => rfl, ?_, ?_⟩ <;> rw [HT.out]
      · exact RdT.nil _ _ _
      · intro x hx; cases hx
      · exact Nat.le_refl _
      · exact HP.out
    · have hbf : r.bad = false := by simpa using hbb
      have hlt : r.rest.length < n := by rcases hb with h | h; exact absurd h hbb; exact h
      rw [hbf] at c1
      clear hq hr hu hok hb hbb
      go_enter Try.func82, Try.ntmps82
      go_wp2_with fail
      refine HF.out.mono ?_
      rintro e w1 ⟨rfl, hp⟩
      have HP := Lib.hid hp
      clear hp
      go_wp2
      go_ret2
      refine ⟨none, 0, by rw [HT.out]; rfl, ?_, ?_, fun _ => rfl, ?_, ?_⟩ <;> rw [HT.out]
      · exact RdT.nil _ _ _
      · intro x hx; cases hx
      · exact Nat.le_refl _
      · exact HP.out
  · have HT : Hid (r.take n = (r.rest.take n, 0, ⟨r.rest.drop n, r.bad⟩)) := by unfold Hid Rdr.take; rw [if_neg hb]
    have hbf : r.bad = false := by cases hx : r.bad with
      | true => exact absurd (Or.inl hx) hb
      | false => rfl
    have hle : n ≤ r.rest.length := by omega
    have HW := Lib.hid (fun D d hD => RdrM.went (D := D) (d := d) (by decide) hq hr hu hok hc hcm hnn n hle hD)
    have HTK := Lib.hid (fun W (hk : Kept (fun k => k = q) w W) => (take_mem hr n).kept hk (Free.one hq (by decide)))
    have HUT := Lib.hid (hu.take n)
    have HLT : Hid ((r.rest.take n).length = n) := by unfold Hid; simp; omega
    have HNN := Lib.hid hnn
    rw [hbf] at c1
    clear hq hr hu hok hb hnn
    have hx1 : ¬ (r.rest.length < n) := by omega
    by_cases hcn : c = n
    · have hww := HW.out A 0 (.inl ⟨hcn, rfl, rfl⟩)
      rw [show r.rest.length - n = 0 by omega] at hww
      have HWW := Lib.hid hww
      subst hcn
      clear HW hww
      go_enter Try.func82, Try.ntmps82
      go_wp2
      go_ret2
      refine ⟨A, c, ?_, ?_, ?_, ?_, ?_, ?_⟩ <;> try rw [HT.out]
      · show _ = Ending.returned (.tuple #[.slice A (r.rest.take c).length c, .int .i64 0]); rw [HLT.out]; rfl
      · simp only [List.map_take]; exact HTK.out _ HWW.out.2
      · exact HUT.out
      · intro h; have := HNN.out h; omega
      · simp only; rw [HLT.out]; exact Nat.le_refl _
      · exact HWW.out
    · have HWW := Lib.hid (HW.out (A.map (fun x => x.add n)) (c - n) (.inr ⟨hcn, rfl, rfl⟩))
      clear HW
      go_enter Try.func82, Try.ntmps82
      go_wp2
      go_ret2
      refine ⟨A, n, ?_, ?_, ?_, ?_, ?_, ?_⟩ <;> try rw [HT.out]
      · show _ = Ending.returned (.tuple #[.slice A (r.rest.take n).length n, .int .i64 0]); rw [HLT.out]; rfl
      · simp only [List.map_take]; exact HTK.out _ HWW.out.2
      · exact HUT.out
      · intro h; have := HNN.out h; omega
      · simp only; rw [HLT.out]; exact Nat.le_refl _
      · exact HWW.out
end Go.Proofs.Ytndifkjenjfjpaa
