/-
  WHAT IS SHOWN: what numbers of record returns. Conditions: the bytes and the numbers can be read.
-/
import Derived.Test.YtndifkjenjfjpaaRec13
namespace Go.Proofs.Ytndifkjenjfjpaa
set_option linter.unusedVariables false
open Go.RowKit

/-- What returns bytes that can be read. -/
def RdO (w : World) (xs : List Int) (e : Ending) (w' : World) : Prop := ∃ A c, e = .returned (.slice A xs.length c) ∧ Rd w' w'.heap.size A (xs.map (Value.int .u8)) ∧ Below w.heap.size w w'
theorem NewO.rdO {w : World} {xs : List Int} {e : Ending} {w' : World} (h : NewO w xs e w') : RdO w xs e w' := by
  obtain ⟨A, c, he, ho, hb⟩ := h
  exact ⟨A, c, he, Rd.of_own ho, hb⟩
def numsB (ns : List Nat) : List Int := ns.flatMap uintB
theorem numsB_take {ns : List Nat} {k : Nat} (h : k < ns.length) : numsB (ns.take (k + 1)) = numsB (ns.take k) ++ uintB ns[k] := by
  unfold numsB; rw [List.take_succ_eq_append_getElem h, List.flatMap_append]; simp
theorem numsB_len (ns : List Nat) : (numsB ns).length ≤ ns.length * 10 := by
  unfold numsB
  induction ns with
  | nil => simp
  | cons n ns ih =>
    rw [List.flatMap_cons, List.length_append, List.length_cons]
    have := uintB_len n
    omega
/-- A number of a slice that reads as numbers. -/
theorem num_at {w : World} {B : Nat} {A : Option Addr} {ns : List Nat} (h : Rd w B A (ns.map (fun n : Nat => Value.int .u64 n))) {k : Nat} (hk : k < ns.length) : ∃ g o, A = some ⟨g, o, none⟩ ∧ g < B ∧ w.cell? ⟨g, o + k, none⟩ = some (.int .u64 (ns[k] : Nat)) := by
  obtain ⟨g, o, e, hg, hc⟩ := h k (.int .u64 (ns[k] : Nat)) (by simp [hk])
  exact ⟨g, o, e, hg, hc⟩
set_option maxRecDepth 100000 in
set_option maxHeartbeats 1000000 in
theorem numbers_any (ns : List Nat) (hns : ∀ n ∈ ns, n < 2 ^ 64) (hl : ns.length ≤ 100) (L : Option Addr) (lc : Nat) (xs : List Int) (A : Option Addr) (c : Nat) (w : World) (hr : Rd w w.heap.size A (xs.map (Value.int .u8))) (hx : xs.length ≤ 800000)
    (hL : Rd w w.heap.size L (ns.map (fun n : Nat => Value.int .u64 n))) :
    Calls Try.prog 51 #[.slice A xs.length c, .slice L ns.length lc] w (RdO w (xs ++ numsB ns)) := by
  have HR := Lib.hid hr
  have HL := Lib.hid hL
  clear hr hL
  go_enter Try.func51, Try.ntmps51
  go_wp2
  go_loopw [0, 9] (fun b i wr => ∃ (k : Nat) (ys : List Int) (DA : Option Addr) (dc : Nat), k ≤ ns.length ∧ i = .int .i64 k ∧ b = .slice DA ys.length dc ∧ Hid (ys = xs ++ numsB (ns.take k)) ∧ Hid (Rd wr wr.heap.size DA (ys.map (Value.int .u8))) ∧ Hid (Below w.heap.size w wr)) (fun _ i _ => ns.length - (intOf i).toNat)
  case atStart => exact ⟨0, xs, A, c, Nat.zero_le _, rfl, rfl, by unfold Hid numsB; simp, HR, Below.refl _ _⟩
  case round =>
    obtain ⟨k, ys, DA, dc, hk, rfl, rfl, HY, HRY, HBR⟩ := hrel
    by_cases hlt : k < ns.length
    · obtain ⟨g, o, rfl, hg, j0⟩ := num_at (HL.out.below HBR.out (Nat.le_refl _)) hlt
      have HT : Hid (ys ++ uintB ns[k] = xs ++ numsB (ns.take (k + 1))) := by unfold Hid; rw [numsB_take hlt, HY.out, List.append_assoc]
      have hyl : ys.length ≤ 900000 := by
        rw [HY.out, List.length_append]
        have h1 := numsB_len (ns.take k)
        rw [List.length_take] at h1
        omega
      have HC := Lib.hid (appuint_any ns[k] (hns _ (List.getElem_mem hlt)) ys DA dc wr HRY.out hyl)
      generalize ys ++ uintB ns[k] = zs at *
      generalize ns[k] = m at *
      go_wp2_with fail
      refine HC.out.mono ?_
      rintro e w1 ⟨A1, c1, rfl, ho1, hb1⟩
      have HZ : Hid (Rd w1 w1.heap.size A1 (zs.map (Value.int .u8))) := Rd.of_own ho1
      have HB1 := Lib.hid (HBR.out.trans (hb1.mono HBR.out.size))
      clear ho1 hb1
      go_wp2
      go_roundw
      case rel => exact ⟨k + 1, zs, A1, c1, by omega, by go_num, rfl, HT, HZ, HB1⟩
      case measure => simp [intOf]; omega
    · obtain rfl : k = ns.length := by omega
      have HE : Hid (ys = xs ++ numsB ns) := by unfold Hid; have := HY.out; rw [List.take_length] at this; exact this
      go_wp2
      go_ret
      exact ⟨DA, dc, by rw [← HE.out]; rfl, by rw [← HE.out]; exact HRY.out, HBR.out⟩
end Go.Proofs.Ytndifkjenjfjpaa
