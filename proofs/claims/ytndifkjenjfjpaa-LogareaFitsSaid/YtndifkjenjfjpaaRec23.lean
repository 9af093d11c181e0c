/-
  WHAT IS SHOWN: what slices.Equal returns for bytes; the plain answer of Inspect. Conditions: the bytes can be read.
-/
import Derived.Test.YtndifkjenjfjpaaRec22
namespace Go.Proofs.Ytndifkjenjfjpaa
set_option linter.unusedVariables false
open Go.RowKit

theorem eq_by_take {xs ys : List Int} (hl : xs.length = ys.length) (h : xs.take xs.length = ys.take xs.length) : xs = ys := by
  rw [List.take_length, hl, List.take_length] at h; exact h
theorem take_next {xs ys : List Int} {k : Nat} (hx : k < xs.length) (hy : k < ys.length) (h : xs.take k = ys.take k) (he : xs[k] = ys[k]) : xs.take (k + 1) = ys.take (k + 1) := by
  rw [List.take_succ_eq_append_getElem hx, List.take_succ_eq_append_getElem hy, h, he]
theorem ne_at {xs ys : List Int} {k : Nat} (hx : k < xs.length) (hy : k < ys.length) (he : ¬ xs[k] = ys[k]) : decide (xs = ys) = false := by
  apply decide_eq_false
  rintro rfl
  exact he rfl
set_option maxRecDepth 100000 in
set_option maxHeartbeats 1000000 in
theorem equal_any (xs ys : List Int) (A D : Option Addr) (c d : Nat) (w : World) (hx : Rd w w.heap.size A (xs.map (Value.int .u8))) (hy : Rd w w.heap.size D (ys.map (Value.int .u8))) (hlx : xs.length ≤ 1000000) (hly : ys.length ≤ 1000000) :
    Calls Try.prog 57 #[.slice A xs.length c, .slice D ys.length d] w fun e w' => e = .returned (.bool (decide (xs = ys))) ∧ Below w.heap.size w w' := by
  have HX := Lib.hid hx
  have HY := Lib.hid hy
  clear hx hy
  by_cases hl : xs.length = ys.length
  · have HL := Lib.hid hl
    rw [← hl]
    clear hly hl
    go_enter Try.func57, Try.ntmps57
    go_wp2
    go_loopw [13] (fun i wr => ∃ k : Nat, k ≤ xs.length ∧ i = .int .i64 k ∧ Hid (xs.take k = ys.take k) ∧ Hid (Below w.heap.size w wr)) (fun i _ => xs.length - (intOf i).toNat)
    case atStart => exact ⟨0, Nat.zero_le _, rfl, rfl, Below.refl _ _⟩
    case round =>
      obtain ⟨k, hk, rfl, HT, HBR⟩ := hrel
      by_cases hlt : k < xs.length
      · have hly : k < ys.length := by have := HL.out; omega
        obtain ⟨g1, o1, rfl, hg1, j1⟩ := byte_at (HX.out.below HBR.out (Nat.le_refl _)) hlt
        obtain ⟨g2, o2, rfl, hg2, j2⟩ := byte_at (HY.out.below HBR.out (Nat.le_refl _)) hly
        by_cases he : xs[k] = ys[k]
        · have HT2 := Lib.hid (take_next hlt hly HT.out he)
          rw [← he] at j2
          generalize xs[k] = v at *
          clear he hly
          go_wp2
          go_quiet (fail)
          have HB2 := Lib.hid (below_drewN HBR.out nq)
          go_wp2
          go_roundw
          case rel => exact ⟨k + 1, hlt, by go_num, HT2, HB2⟩
          case measure => simp [intOf]; omega
        · have HD := Lib.hid (ne_at hlt hly he)
          generalize xs[k] = v at *
          generalize ys[k] = u at *
          have he' : (v == u) = false := by simpa using he
          clear hly
          go_wp2
          go_quiet (fail)
          have HB2 := Lib.hid (below_drewN HBR.out nq)
          go_wp2
          go_ret
          exact ⟨by rw [HD.out]; rfl, HB2.out⟩
      · obtain rfl : k = xs.length := by omega
        have HD : Hid (decide (xs = ys) = true) := by unfold Hid; exact decide_eq_true (eq_by_take HL.out HT.out)
        go_wp2
        go_ret
        exact ⟨by rw [HD.out]; rfl, HBR.out⟩
  · have HD : Hid (decide (xs = ys) = false) := by unfold Hid; apply decide_eq_false; rintro rfl; exact hl rfl
    have hl' : ¬ ((xs.length : Int) = (ys.length : Int)) := by omega
    go_enter Try.func57, Try.ntmps57
    go_wp2
    go_ret
    exact ⟨by rw [HD.out]; rfl, Below.refl _ _⟩
/-- What Inspect returns. -/
structure Ins where
  gen : Nat
  seq : Nat
  part : Nat
  parts : Nat
  ch : List Int
  er : Int
def Ins.bad (e : Int) : Ins := ⟨0, 0, 0, 0, [], e⟩
/-- The readers of Inspect: behind k numbers. -/
def rdK (b : List Int) : Nat → Rdr
  | 0 => ⟨(b.take (b.length - 8)).drop 1, false⟩
  | k + 1 => (rdK b k).uint.2.2
def numK (b : List Int) (k : Nat) : Nat := (rdK b k).uint.1
def insOk (b : List Int) : Bool := (rdK b 4).bytes.2.2.done == 0 && decide (1 ≤ numK b 1) && decide (numK b 3 ≤ 4096) && decide (numK b 2 < numK b 3) && decide (1 ≤ (rdK b 4).bytes.1.length) && decide ((rdK b 4).bytes.1.length ≤ 28)
def insD (b : List Int) : Ins :=
  if b.length < 8 ∨ ¬ b.head? = some 82 then .bad 5
  else if ¬ sealB (b.take (b.length - 8)) = b then .bad 6
  else if b.length < 9 then .bad 5
  else if insOk b = true then ⟨numK b 0, numK b 1, numK b 2, numK b 3, (rdK b 4).bytes.1, 0⟩ else .bad 5
/-- What Inspect leaves. -/
def InsPost (w : World) (b : List Int) (e : Ending) (w' : World) : Prop := ∃ A c, e = .returned (.tuple #[.agg #[.int .u64 (insD b).gen, .int .u64 (insD b).seq, .int .i64 (insD b).part, .int .i64 (insD b).parts], .slice A (insD b).ch.length c, .int .i64 (insD b).er]) ∧ RdT w' 5 A ((insD b).ch.map (Value.int .u8)) ∧ Below w.heap.size w w'
theorem InsPost.bad {w w' : World} {b : List Int} {er : Int} {x : Ending} (h : insD b = .bad er) (he : x = .returned (.tuple #[.agg #[.int .u64 0, .int .u64 0, .int .i64 0, .int .i64 0], .slice none 0 0, .int .i64 er])) (hb : Below w.heap.size w w') : InsPost w b x w' := by
  unfold InsPost; rw [h]
  exact ⟨none, 0, he, RdT.nil _ _ _, hb⟩
theorem cells4 {w : World} {b : Nat} {v0 v1 v2 v3 : Value} {t : TypeId} (h : w.heap[b]? = some (.cells #[v0, v1, v2, v3] t (0, 0))) : w.cell? ⟨b, 0, none⟩ = some v0 ∧ w.cell? ⟨b, 1, none⟩ = some v1 ∧ w.cell? ⟨b, 2, none⟩ = some v2 ∧ w.cell? ⟨b, 3, none⟩ = some v3 ∧ w.frozen? ⟨b, 0, none⟩ = false ∧ w.frozen? ⟨b, 1, none⟩ = false ∧ w.frozen? ⟨b, 2, none⟩ = false ∧ w.frozen? ⟨b, 3, none⟩ = false := by
  refine ⟨?_, ?_, ?_, ?_, ?_, ?_, ?_, ?_⟩ <;> first | (simp [World.cell?, h]; done) | simp [World.frozen?, h]
theorem kept4 (w : World) (b : Nat) (v0 v1 v2 v3 : Value) : Kept (fun k => k = b) w ((((w.setCell ⟨b, 0, none⟩ v0).setCell ⟨b, 1, none⟩ v1).setCell ⟨b, 2, none⟩ v2).setCell ⟨b, 3, none⟩ v3) := by
  repeat' apply Kept.setCell
  all_goals first | exact Kept.refl _ _ | exact fun _ => rfl
theorem below4 {w w3 : World} {B b : Nat} (h : Below B w w3) (hb : B ≤ b) (v0 v1 v2 v3 : Value) : Below B w ((((w3.setCell ⟨b, 0, none⟩ v0).setCell ⟨b, 1, none⟩ v1).setCell ⟨b, 2, none⟩ v2).setCell ⟨b, 3, none⟩ v3) := (((h.setCell (p := ⟨b, 0, none⟩) hb v0).setCell (p := ⟨b, 1, none⟩) hb v1).setCell (p := ⟨b, 2, none⟩) hb v2).setCell (p := ⟨b, 3, none⟩) hb v3
theorem free4 {w : World} {b : Nat} {cur : Array Value} {t t' : TypeId} (h : w.heap[b]? = some (.cells cur t (0, 0))) (ht : t ≠ t') : Free w t' (fun k => k = b) := fun k hk _ cur' fr e => by
  have hk' : k = b := hk
  subst hk'
  rw [h] at e; injection e with e; injection e with _ h2; exact ht h2
end Go.Proofs.Ytndifkjenjfjpaa
