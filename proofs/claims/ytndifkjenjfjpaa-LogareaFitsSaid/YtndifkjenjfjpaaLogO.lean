/-
  WHAT IS SHOWN: what a walk is told of the parameters of tegulalaw28: lists of records, lists of lists of records. Conditions: that the values can be read.
-/
import Derived.Test.YtndifkjenjfjpaaRecO
import Derived.Test.YtndifkjenjfjpaaLkA
namespace Go.Proofs.Ytndifkjenjfjpaa
set_option linter.unusedVariables false
open Go.ChangeShapes Go.WideShapes Go.ChangeAt Go.RowKit Go.Deep

theorem cellsRec : Try.prog.cellsOf 27 = 5 := by kernel_rfl
theorem cellsRecs : Try.prog.cellsOf 53 = 1 := by kernel_rfl
/-- What a walk is told of a record in a list. -/
structure RSIn (w : World) (x : RS) : Prop where
  rd : RecR w w.heap.size x.r x.A x.c x.D x.d x.N x.n
  ok : x.r.Ok
  nw : x.r.ws.length ≤ 9223372036854775807
  nm : x.r.ms.length ≤ 9223372036854775807
  nn : x.r.note.length ≤ 9223372036854775807
section
variable {H : Type} {enc : TypeId × Value → H} {w : World} {base : Nat} {spare : Nat → Bool} {held : Bool}
set_option maxRecDepth 10000 in
theorem open_rs {fuel : Nat} {cs : List Value} {y : DataW H × List MemPlace} (hcs : cs.length = 5) (h : DataW.trod enc Try.prog w base spare held fuel 27 cs = some y) : ∃ x : RS, cs = x.cells ∧ RSIn w x := by
  match cs, hcs with
  | [c0, c1, c2, c3, c4], _ =>
    obtain ⟨xs, k, _, _, _, hxl, hf⟩ := DataW.trod_struct Try.underlying27 h
    match xs, hxl with
    | [x0, x1, x2, x3, x4], _ =>
      have f0 : DataW.trod enc Try.prog w base spare held k 22 (([c0, c1, c2, c3, c4].drop 0).take (Try.prog.cellsOf 22)) = some x0 := hf 0 _ rfl
      have f1 : DataW.trod enc Try.prog w base spare held k 22 (([c0, c1, c2, c3, c4].drop 1).take (Try.prog.cellsOf 22)) = some x1 := hf 1 _ rfl
      have f2 : DataW.trod enc Try.prog w base spare held k 23 (([c0, c1, c2, c3, c4].drop 2).take (Try.prog.cellsOf 23)) = some x2 := hf 2 _ rfl
      have f3 : DataW.trod enc Try.prog w base spare held k 24 (([c0, c1, c2, c3, c4].drop 3).take (Try.prog.cellsOf 24)) = some x3 := hf 3 _ rfl
      have f4 : DataW.trod enc Try.prog w base spare held k 25 (([c0, c1, c2, c3, c4].drop 4).take (Try.prog.cellsOf 25)) = some x4 := hf 4 _ rfl
      rw [cellsU64] at f0 f1
      rw [cellsPWs] at f2
      rw [cellsMvs] at f3
      rw [cellsBytes] at f4
      obtain ⟨n0, e0, _, w0⟩ := DataW.trod_int Try.underlying22 f0
      obtain ⟨n1, e1, _, w1⟩ := DataW.trod_int Try.underlying22 f1
      have f2' : DataW.trod enc Try.prog w base spare held k 23 [c2] = some x2 := f2
      have f3' : DataW.trod enc Try.prog w base spare held k 24 [c3] = some x3 := f3
      have f4' : DataW.trod enc Try.prog w base spare held k 25 [c4] = some x4 := f4
      obtain ⟨A, ws, c, e2, hw, hwo, hwl⟩ := open_pws f2'
      obtain ⟨D, ms, d, e3, hm, hmo, hml⟩ := open_mvs f3'
      obtain ⟨s, hs⟩ := open_bytes f4'
      have e4 := hs.val
      simp at e0 e1
      subst e0; subst e1; subst e2; subst e3; subst e4
      have g0 := u64_of w0
      have g1 := u64_of w1
      have hcap := hs.cap
      have hbig := hs.big
      refine ⟨⟨⟨n0.toNat, n1.toNat, ws, ms, s.xs⟩, A, c, D, d, s.A, s.c⟩, ?_, ⟨hw, hm, hs.rd⟩, ⟨by show n0.toNat < 2 ^ 64; omega, by show n1.toNat < 2 ^ 64; omega, hwo, hmo, hs.ok⟩, hwl, hml, by show s.xs.length ≤ _; omega⟩
      show _ = [Value.int .u64 (n0.toNat : Nat), .int .u64 (n1.toNat : Nat), _, _, _]
      rw [show ((n0.toNat : Nat) : Int) = n0 from Int.toNat_of_nonneg g0.1, show ((n1.toNat : Nat) : Int) = n1 from Int.toNat_of_nonneg g1.1]
      rfl
/-- What a walk is told of a list of records. -/
structure RcsIn (w : World) (v : Value) (A : Option Addr) (l : List RS) (c : Nat) : Prop where
  val : v = .slice A l.length c
  rd : RcsR w w.heap.size A l
  each : ∀ x ∈ l, RSIn w x
  len : l.length ≤ c
  cap : c ≤ 9223372036854775807
theorem open_recs {fuel : Nat} {v : Value} {y : DataW H × List MemPlace} (h : DataW.trod enc Try.prog w base spare held fuel 53 [v] = some y) : ∃ A l c, RcsIn w v A l c := by
  rcases open_slice Try.underlying53 h with ⟨hcs, _⟩ | ⟨a, len, cap, m, n, D, Pl, hcs, hx1, hl, hm, hmm, hx2, hel⟩
  · simp at hcs
    subst hcs
    exact ⟨none, [], 0, rfl, RcsR.nil _ _ _, fun x hx => by simp at hx, Nat.le_refl _, by omega⟩
  · simp at hcs
    subst hcs
    have hlm : len ≤ m := by rw [hmm]; split <;> omega
    obtain ⟨l, hll, hq⟩ := list_of (Q := fun i (o : RS) => RSIn w o ∧ ∀ t u, o.cells[t]? = some u → w.cell? (a.add (i * 5 + t)) = some u) len (fun i hi => by
      obtain ⟨cs', hc, ht⟩ := hel i (by omega)
      rw [cellsRec] at hc
      obtain ⟨_, hcl, hat⟩ := World.cells?_some hc
      obtain ⟨o, rfl, ho⟩ := open_rs hcl ht
      refine ⟨o, ho, fun t u hu => ?_⟩
      have ht3 : t < 5 := (List.getElem?_eq_some_iff.1 hu).1
      rw [← Go.Deep.add_add, hat t ht3]
      exact hu)
    refine ⟨some a, l, cap, by rw [hll], ⟨rd_of_add fun j u hu => ?_, fun b hb => ?_⟩, fun b hb => ?_, by omega, by unfold maxLen at hm; omega⟩
    · have hj : j < l.length * 5 := by rw [← flatR_len]; exact (List.getElem?_eq_some_iff.1 hu).1
      have e : (flatR l)[j / 5 * 5 + j % 5]? = (l[j / 5]?).bind fun b => b.cells[j % 5]? := flat_get _ 5 (fun _ => rfl) l (j / 5) (j % 5) (by omega)
      rw [show j / 5 * 5 + j % 5 = j by omega, hu, List.getElem?_eq_getElem (by omega : j / 5 < l.length)] at e
      have := (hq (j / 5) _ (List.getElem?_eq_getElem (by omega))).2 (j % 5) u e.symm
      rw [show j / 5 * 5 + j % 5 = j by omega] at this
      exact this
    · obtain ⟨i, hi⟩ := List.mem_iff_getElem?.1 hb
      exact (hq i b hi).1.rd
    · obtain ⟨i, hi⟩ := List.mem_iff_getElem?.1 hb
      exact (hq i b hi).1
/-- What a walk is told of a list of logs. -/
structure LgsIn (w : World) (v : Value) (A : Option Addr) (ls : List LS) (c : Nat) : Prop where
  val : v = .slice A ls.length c
  rd : LgsR w w.heap.size A ls
  each : ∀ x ∈ ls, RcsIn w x.v x.A x.l x.c
  len : ls.length ≤ c
  cap : c ≤ 9223372036854775807
theorem open_logs {fuel : Nat} {v : Value} {y : DataW H × List MemPlace} (h : DataW.trod enc Try.prog w base spare held fuel 63 [v] = some y) : ∃ A ls c, LgsIn w v A ls c := by
  rcases open_slice Try.underlying63 h with ⟨hcs, _⟩ | ⟨a, len, cap, m, n, D, Pl, hcs, hx1, hl, hm, hmm, hx2, hel⟩
  · simp at hcs
    subst hcs
    exact ⟨none, [], 0, rfl, ⟨Rd.nil_ _ _ _, fun s hs => by simp at hs⟩, fun s hs => by simp at hs, Nat.le_refl _, by omega⟩
  · simp at hcs
    subst hcs
    have hlm : len ≤ m := by rw [hmm]; split <;> omega
    obtain ⟨l, hll, hq⟩ := list_of (Q := fun i (s : LS) => RcsIn w s.v s.A s.l s.c ∧ w.cell? (a.add i) = some s.v) len (fun i hi => by
      obtain ⟨cs', hc, ht⟩ := hel i (by omega)
      rw [cellsRecs] at hc
      obtain ⟨_, hcl, hat⟩ := World.cells?_some hc
      match cs', hcl with
      | [c0], _ =>
        obtain ⟨A, l, c, hs⟩ := open_recs ht
        have e := hs.val
        subst e
        refine ⟨⟨A, l, c⟩, hs, ?_⟩
        show w.cell? (a.add i) = some (.slice A l.length c)
        have := hat 0 (by omega)
        simpa [Go.Deep.add_add] using this)
    refine ⟨some a, l, cap, by rw [hll], ⟨rd_of_add fun j u hu => ?_, fun s hs => ?_⟩, fun s hs => ?_, by omega, by unfold maxLen at hm; omega⟩
    · rw [List.getElem?_map] at hu
      obtain ⟨x, hx, rfl⟩ := Option.map_eq_some_iff.1 hu
      exact (hq j x hx).2
    · obtain ⟨i, hi⟩ := List.mem_iff_getElem?.1 hs
      exact (hq i s hi).1.rd
    · obtain ⟨i, hi⟩ := List.mem_iff_getElem?.1 hs
      exact (hq i s hi).1
end
end Go.Proofs.Ytndifkjenjfjpaa
