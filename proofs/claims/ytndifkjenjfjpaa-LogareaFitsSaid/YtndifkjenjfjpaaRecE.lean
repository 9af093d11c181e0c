/-
  WHAT IS SHOWN: what Decode of record and of tegularef27 returns, for use in walks; bounds on decoded records. Conditions: the sectors can be read.
-/
import Derived.Test.YtndifkjenjfjpaaRecM
import Derived.Test.YtndifkjenjfjpaaRec31
import Derived.Test.YtndifkjenjfjpaaRec32
import Derived.Test.YtndifkjenjfjpaaRec34
namespace Go.Proofs.Ytndifkjenjfjpaa
set_option linter.unusedVariables false
open Go.RowKit

theorem dec_small (ls : List (List Int)) : (decD ls).r.ws.length ≤ 64 ∧ (decD ls).r.ms.length ≤ 64 ∧ (decD ls).r.note.length ≤ 256 := by
  rcases dec_er ls with h | h
  · obtain ⟨_, _, r, hr, _, hd⟩ := dec_zero h
    rw [hd]
    unfold recD at hr
    split at hr
    · cases hr
    · split at hr
      · rename_i hv
        injection hr with hr; subst hr
        have := validR_vld hv
        exact ⟨this.nw, this.nm, this.nn⟩
      · cases hr
  · have hz : (decD ls).r = zRec := by
      have h1 := h.1
      unfold decD at h1 ⊢
      split
      · rfl
      · rename_i h2
        rw [if_neg h2] at h1
        cases h3 : scanE ls (hdD ls).parts with
        | some e => rfl
        | none =>
          rw [h3] at h1
          simp only at h1 ⊢
          unfold decEnd at h1 ⊢
          split
          · rfl
          · rename_i h4
            rw [h4] at h1
            simp only at h1
            split
            · rename_i h5
              rw [if_pos h5] at h1
              rcases h1 with h1 | h1 <;> exact absurd h1 (by show ¬ (0 : Int) = _; decide)
            · rfl
    rw [hz]
    exact ⟨by decide, by decide, by decide⟩
theorem long_no {ls : List (List Int)} (h : longL ls = false) : ls.length ≤ 100 ∧ ∀ b ∈ ls, b.length ≤ 200 := by
  unfold longL at h
  rw [Bool.or_eq_false_iff] at h
  obtain ⟨h1, h2⟩ := h
  rw [List.any_eq_false] at h1
  refine ⟨by simpa using h2, fun b hb => by have := h1 b hb; simpa using this⟩
/-- What Decode leaves, for its answer. -/
def DecR (w : World) (x : Dec) (e : Ending) (w' : World) : Prop := ∃ (A : Option Addr) (c : Nat) (D : Option Addr) (d : Nat) (N : Option Addr) (n : Nat), e = .returned (.tuple #[.agg #[.int .u64 x.r.gen, .int .u64 x.r.seq, .slice A x.r.ws.length c, .slice D x.r.ms.length d, .slice N x.r.note.length n], .int .i64 x.n, .int .i64 x.er]) ∧ RecO w' x.r A c D d N n ∧ Below w.heap.size w w'
theorem decode_r (ss : List Sl) (hss : ∀ s ∈ ss, SlOk s) (A : Option Addr) (c : Nat) (hc : ss.length ≤ c) (hcm : c ≤ 9223372036854775807) (hl : ss.length ≤ 100000) (w : World) (h : SlsR w w.heap.size A ss) :
    Calls Try.prog 27 #[.slice A ss.length c] w (DecR w (decD (ss.map Sl.xs))) := decode_any ss hss A c hc hcm hl w h
theorem rdecode_r (ss : List Sl) (hss : ∀ s ∈ ss, SlOk s) (A : Option Addr) (c : Nat) (hc : ss.length ≤ c) (hcm : c ≤ 9223372036854775807) (hl : ss.length ≤ 100000) (w : World) (h : SlsR w w.heap.size A ss) :
    Calls Try.prog 28 #[.slice A ss.length c] w (DecR w (decD (ss.map Sl.xs))) := rdecode_any ss hss A c hc hcm hl w h
/-- The bounds of a decoded record. -/
structure Small (r : Rec) : Prop where
  ws : r.ws.length ≤ 64
  ms : r.ms.length ≤ 64
  note : r.note.length ≤ 256
theorem dec_small' (ls : List (List Int)) : Small (decD ls).r := ⟨(dec_small ls).1, (dec_small ls).2.1, (dec_small ls).2.2⟩
end Go.Proofs.Ytndifkjenjfjpaa
