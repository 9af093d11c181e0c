/-
  WHAT IS SHOWN: plain facts on the memory of a record that is being read, once more. Conditions: as each theorem names them.
-/
import Derived.Test.YtndifkjenjfjpaaRec25
import Derived.Test.YtndifkjenjfjpaaRecU
namespace Go.Proofs.Ytndifkjenjfjpaa
set_option linter.unusedVariables false
open Go.RowKit

theorem kept5 (w : World) (b : Nat) (v0 v1 v2 v3 v4 : Value) : Kept (fun k => k = b) w (((((w.setCell ⟨b, 0, none⟩ v0).setCell ⟨b, 1, none⟩ v1).setCell ⟨b, 2, none⟩ v2).setCell ⟨b, 3, none⟩ v3).setCell ⟨b, 4, none⟩ v4) := by
  repeat' apply Kept.setCell
  all_goals first | exact Kept.refl _ _ | exact fun _ => rfl
theorem below5 {w w3 : World} {B b : Nat} (h : Below B w w3) (hb : B ≤ b) (v0 v1 v2 v3 v4 : Value) : Below B w (((((w3.setCell ⟨b, 0, none⟩ v0).setCell ⟨b, 1, none⟩ v1).setCell ⟨b, 2, none⟩ v2).setCell ⟨b, 3, none⟩ v3).setCell ⟨b, 4, none⟩ v4) := ((((h.setCell (p := ⟨b, 0, none⟩) hb v0).setCell (p := ⟨b, 1, none⟩) hb v1).setCell (p := ⟨b, 2, none⟩) hb v2).setCell (p := ⟨b, 3, none⟩) hb v3).setCell (p := ⟨b, 4, none⟩) hb v4
theorem Kept.drewR {S : Nat → Prop} {w w' : World} (h : Kept S w w') : Kept S w w'.drew := ⟨h.os, h.tape, h.output, h.size, h.block⟩
theorem kept5d (w : World) (b : Nat) (v0 v1 v2 v3 v4 : Value) : Kept (fun k => k = b) w ((((((w.setCell ⟨b, 0, none⟩ v0).setCell ⟨b, 1, none⟩ v1).setCell ⟨b, 2, none⟩ v2).setCell ⟨b, 3, none⟩ v3).setCell ⟨b, 4, none⟩ v4)).drew := (kept5 w b v0 v1 v2 v3 v4).drewR
theorem below5d {w w3 : World} {B b : Nat} (h : Below B w w3) (hb : B ≤ b) (v0 v1 v2 v3 v4 : Value) : Below B w ((((((w3.setCell ⟨b, 0, none⟩ v0).setCell ⟨b, 1, none⟩ v1).setCell ⟨b, 2, none⟩ v2).setCell ⟨b, 3, none⟩ v3).setCell ⟨b, 4, none⟩ v4)).drew := (below5 h hb v0 v1 v2 v3 v4).drew
theorem ParM.final {w0 wr w' : World} {ty : TypeId} {q ko kr : Nat} {rd : Rdr} {r : Rec} {A D N : Option Addr} {c d n : Nat} {cur : Array Value} (h : ParM w0 wr ty q ko rd r A c D d N n) (hk : Kept (fun k => k = kr) wr w') (hr : wr.heap[kr]? = some (.cells cur 27 (0, 0))) : RecO w' r A c D d N n :=
  ⟨own_mono (own_kept h.ws hk (own_ne h.ws hr (by decide))) (Nat.zero_le _), own_mono (own_kept h.ms hk (own_ne h.ms hr (by decide))) (Nat.zero_le _), h.note.kept hk (free4 hr (by decide))⟩
theorem count_le {ty : TypeId} {w : World} {q : Nat} {r : Rdr} (h : RdrM ty w q r) (m : Nat) : (r.count m).1 ≤ m := by
  unfold Rdr.count
  split
  · exact Nat.zero_le _
  · rename_i hc
    rcases (uint_fst h).2 with h2 | ⟨_, h2⟩
    · by_cases hm : m < r.uint.1
      · exact absurd ⟨h2, hm⟩ hc
      · omega
    · rw [h2]; exact Nat.zero_le _
theorem ParM.side {w0 wr w' : World} {ty : TypeId} {q ko kw : Nat} {rd : Rdr} {r : Rec} {A D N : Option Addr} {c d n : Nat} {cur : Array Value} {t : TypeId} (h : ParM w0 wr ty q ko rd r A c D d N n) (hk : Kept (fun k => k = kw) wr w') (hb : wr.heap[kw]? = some (.cells cur t (0, 0))) (ht : t ≠ 5) (hq : ¬ q = kw) (hko : ¬ ko = kw)
    (hw : ∀ k, (Value.slice A r.ws.length c).ownBlock = some k → ¬ k = kw) (hm : ∀ k, (Value.slice D r.ms.length d).ownBlock = some k → ¬ k = kw) (hB : w0.heap.size ≤ kw) : ParM w0 w' ty q ko rd r A c D d N n :=
  h.kept hk hq hko hw hm (free4 hb ht) (fun k hk => by have hk' : k = kw := hk; rw [hk']; exact hB)
theorem own_lt {w : World} {base : Nat} {e : TypeId} {s m : Nat} {v : Value} {xs : List Value} (h : w.ownsRow base e s v m xs) {k : Nat} (hk : v.ownBlock = some k) : k < w.heap.size := by
  rcases h.2 with ⟨e1, _⟩ | ⟨g, cap, cur, e1, _, hg, _⟩
  · rw [e1] at hk; cases hk
  · rw [e1] at hk
    obtain rfl : g = k := by simpa [Value.ownBlock] using hk
    exact lt_of_block hg
theorem blk_len (r : Rdr) : r.blk.1.length = 8 := by
  unfold Rdr.blk
  by_cases h : (r.take 8).2.1 = 0
  · show (if _ then _ else _ : List Int).length = 8
    rw [if_pos h]
    unfold Rdr.take at h ⊢
    by_cases hc : r.bad = true ∨ r.rest.length < 8
    · rw [if_pos hc] at h; exact absurd h (by decide)
    · rw [if_neg hc]; show (List.take 8 _).length = 8; rw [List.length_take]; omega
  · show (if _ then _ else _ : List Int).length = 8
    rw [if_neg h]; rfl
theorem cells11 {w : World} {b : Nat} {v0 v1 v2 v3 v4 v5 v6 v7 v8 v9 v10 : Value} {t : TypeId} (h : w.heap[b]? = some (.cells #[v0, v1, v2, v3, v4, v5, v6, v7, v8, v9, v10] t (0, 0))) : w.cell? ⟨b, 0, none⟩ = some v0 ∧ w.cell? ⟨b, 1, none⟩ = some v1 ∧ w.cell? ⟨b, 2, none⟩ = some v2 ∧ w.cell? ⟨b, 3, none⟩ = some v3 ∧ w.cell? ⟨b, 4, none⟩ = some v4 ∧ w.cell? ⟨b, 5, none⟩ = some v5 ∧ w.cell? ⟨b, 6, none⟩ = some v6 ∧ w.cell? ⟨b, 7, none⟩ = some v7 ∧ w.cell? ⟨b, 8, none⟩ = some v8 ∧ w.cell? ⟨b, 9, none⟩ = some v9 ∧ w.cell? ⟨b, 10, none⟩ = some v10 ∧ w.frozen? ⟨b, 0, none⟩ = false ∧ w.frozen? ⟨b, 1, none⟩ = false ∧ w.frozen? ⟨b, 2, none⟩ = false ∧ w.frozen? ⟨b, 3, none⟩ = false ∧ w.frozen? ⟨b, 4, none⟩ = false ∧ w.frozen? ⟨b, 5, none⟩ = false ∧ w.frozen? ⟨b, 6, none⟩ = false ∧ w.frozen? ⟨b, 7, none⟩ = false ∧ w.frozen? ⟨b, 8, none⟩ = false ∧ w.frozen? ⟨b, 9, none⟩ = false ∧ w.frozen? ⟨b, 10, none⟩ = false := by
  refine ⟨?_, ?_, ?_, ?_, ?_, ?_, ?_, ?_, ?_, ?_, ?_, ?_, ?_, ?_, ?_, ?_, ?_, ?_, ?_, ?_, ?_, ?_⟩ <;> first | (simp [World.cell?, h]; done) | simp [World.frozen?, h]
theorem kept_one (w : World) (b i : Nat) (u : Value) : Kept (fun k => k = b) w (w.setCell ⟨b, i, none⟩ u) := (Kept.refl (fun k => k = b) w).setCell (p := ⟨b, i, none⟩) (fun _ => rfl) u
theorem kept8d (w : World) (b : Nat) (d0 d1 d2 d3 d4 d5 d6 d7 : Int) : Kept (fun k => k = b) w ((((((((w.setCell ⟨b, 3, none⟩ (.int .u8 d0)).setCell ⟨b, 4, none⟩ (.int .u8 d1)).setCell ⟨b, 5, none⟩ (.int .u8 d2)).setCell ⟨b, 6, none⟩ (.int .u8 d3)).setCell ⟨b, 7, none⟩ (.int .u8 d4)).setCell ⟨b, 8, none⟩ (.int .u8 d5)).setCell ⟨b, 9, none⟩ (.int .u8 d6)).setCell ⟨b, 10, none⟩ (.int .u8 d7)) := by
  repeat' apply Kept.setCell
  all_goals first | exact Kept.refl _ _ | exact fun _ => rfl
theorem info_pw : (Try.prog.info? 77).map (fun i => (i.zero, i.size, i.bytes)) = some (some (.agg #[.int .i64 0, .int .i64 0, .int .u64 0, .int .u8 0, .int .u8 0, .int .u8 0, .int .u8 0, .int .u8 0, .int .u8 0, .int .u8 0, .int .u8 0]), 11, 32) := by kernel_rfl
theorem info_mv : (Try.prog.info? 82).map (fun i => (i.zero, i.size, i.bytes)) = some (some (.agg #[.int .i64 0, .int .i64 0, .int .i64 0, .int .i64 0]), 4, 32) := by kernel_rfl
end Go.Proofs.Ytndifkjenjfjpaa
