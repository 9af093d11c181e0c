/-
  WHAT IS SHOWN: plain facts on the memory of a record that is being read. Conditions: as each theorem names them.
-/
import Derived.Test.YtndifkjenjfjpaaRec24
import Derived.Test.YtndifkjenjfjpaaRecT
namespace Go.Proofs.Ytndifkjenjfjpaa
set_option linter.unusedVariables false
open Go.RowKit

/-- A record that is being read: a reader at q, the record at ko. -/
structure ParM (w0 wr : World) (ty : TypeId) (q ko : Nat) (rd : Rdr) (r : Rec) (A : Option Addr) (c : Nat) (D : Option Addr) (d : Nat) (N : Option Addr) (n : Nat) : Prop where
  rdr : RdrM ty wr q rd
  out : wr.heap[ko]? = some (.cells #[.int .u64 r.gen, .int .u64 r.seq, .slice A r.ws.length c, .slice D r.ms.length d, .slice N r.note.length n] 27 (0, 0))
  ws : wr.ownsRow w0.heap.size 77 11 (.slice A r.ws.length c) r.ws.length (flatW r.ws)
  ms : wr.ownsRow w0.heap.size 82 4 (.slice D r.ms.length d) r.ms.length (flatM r.ms)
  note : RdT wr 5 N (r.note.map (Value.int .u8))
  bel : Below w0.heap.size w0 wr
  q0 : w0.heap.size ≤ q
  k0 : w0.heap.size ≤ ko
section
variable {w0 wr w' : World} {ty : TypeId} {q ko : Nat} {rd rd' : Rdr} {r : Rec} {A D N : Option Addr} {c d n : Nat}
theorem ParM.kept {S : Nat → Prop} (h : ParM w0 wr ty q ko rd r A c D d N n) (hk : Kept S wr w') (hq : ¬ S q) (hko : ¬ S ko) (hw : ∀ k, (Value.slice A r.ws.length c).ownBlock = some k → ¬ S k) (hm : ∀ k, (Value.slice D r.ms.length d).ownBlock = some k → ¬ S k) (hf : Free wr 5 S) (hB : ∀ k, S k → w0.heap.size ≤ k) : ParM w0 w' ty q ko rd r A c D d N n :=
  ⟨h.rdr.kept hk hq hf, hk.obj h.out hko, own_kept h.ws hk hw, own_kept h.ms hk hm, h.note.kept hk hf, h.bel.trans (hk.below hB h.bel.size), h.q0, h.k0⟩
theorem ParM.below0 (h : ParM w0 wr ty q ko rd r A c D d N n) (hb : Below wr.heap.size wr w') : ParM w0 w' ty q ko rd r A c D d N n :=
  h.kept (S := fun _ => False) (belKept0 hb) (fun h => h) (fun h => h) (fun _ _ h => h) (fun _ _ h => h) (Free.none _ _) (fun _ h => h.elim)
theorem own_ne {w : World} {base : Nat} {e t : TypeId} {s m k : Nat} {v : Value} {xs : List Value} {cur : Array Value} (h : w.ownsRow base e s v m xs) (hk : w.heap[k]? = some (.cells cur t (0, 0))) (he : e ≠ t) : ∀ i, v.ownBlock = some i → ¬ i = k := fun i hi hik => by
  rcases h.2 with ⟨e1, _⟩ | ⟨g, cap, cur', e1, _, hg, _⟩
  · rw [e1] at hi; cases hi
  · rw [e1] at hi
    obtain rfl : g = i := by simpa [Value.ownBlock] using hi
    subst hik
    rw [hk] at hg; injection hg with hg; injection hg with _ h3; exact he h3.symm
theorem RdrM.blk (h : RdrM ty wr q rd) : ∃ cur, wr.heap[q]? = some (.cells cur ty (0, 0)) := by
  obtain ⟨A, c, hq, _⟩ := h; exact ⟨_, hq⟩
theorem blk_ne {w : World} {a b : Nat} {x y : Array Value} {s t : TypeId} (h : w.heap[a]? = some (.cells x s (0, 0))) (k : w.heap[b]? = some (.cells y t (0, 0))) (he : s ≠ t) : ¬ a = b := fun e => by
  subst e; rw [h] at k; injection k with k; injection k with _ h3; exact he h3
theorem ParM.call (h : ParM w0 wr ty q ko rd r A c D d N n) (h1 : ty ≠ 27) (h2 : 77 ≠ ty) (h3 : 82 ≠ ty) (h4 : ty ≠ 5) (hp : RdrPost ty wr q rd' w') : ParM w0 w' ty q ko rd' r A c D d N n := by
  obtain ⟨cur, hb⟩ := h.rdr.blk
  obtain ⟨hM, hk⟩ := hp
  exact ⟨hM, hk.obj h.out (blk_ne h.out hb (fun e => h1 e.symm)), own_kept h.ws hk (own_ne h.ws hb h2), own_kept h.ms hk (own_ne h.ms hb h3), h.note.kept hk (free4 hb h4), h.bel.trans (hk.below (fun i hi => by have hi' : i = q := hi; rw [hi']; exact h.q0) h.bel.size), h.q0, h.k0⟩
/-- A store into the record. -/
theorem ParM.out_kept (w : World) (ko i : Nat) (u : Value) : Kept (fun k => k = ko) w (w.setCell ⟨ko, i, none⟩ u) := (Kept.refl (fun k => k = ko) w).setCell (p := ⟨ko, i, none⟩) (fun _ => rfl) u
theorem heap_set5 {w : World} {b : Nat} {v0 v1 v2 v3 v4 : Value} {t : TypeId} (h : w.heap[b]? = some (.cells #[v0, v1, v2, v3, v4] t (0, 0))) (u : Value) :
    (w.setCell ⟨b, 0, none⟩ u).heap[b]? = some (.cells #[u, v1, v2, v3, v4] t (0, 0)) ∧ (w.setCell ⟨b, 1, none⟩ u).heap[b]? = some (.cells #[v0, u, v2, v3, v4] t (0, 0)) ∧ (w.setCell ⟨b, 2, none⟩ u).heap[b]? = some (.cells #[v0, v1, u, v3, v4] t (0, 0)) ∧ (w.setCell ⟨b, 3, none⟩ u).heap[b]? = some (.cells #[v0, v1, v2, u, v4] t (0, 0)) ∧ (w.setCell ⟨b, 4, none⟩ u).heap[b]? = some (.cells #[v0, v1, v2, v3, u] t (0, 0)) := by
  refine ⟨?_, ?_, ?_, ?_, ?_⟩ <;> simp [World.setCell, Array.getElem?_modify, h]
theorem cells5 {w : World} {b : Nat} {v0 v1 v2 v3 v4 : Value} {t : TypeId} (h : w.heap[b]? = some (.cells #[v0, v1, v2, v3, v4] t (0, 0))) : w.cell? ⟨b, 0, none⟩ = some v0 ∧ w.cell? ⟨b, 1, none⟩ = some v1 ∧ w.cell? ⟨b, 2, none⟩ = some v2 ∧ w.cell? ⟨b, 3, none⟩ = some v3 ∧ w.cell? ⟨b, 4, none⟩ = some v4 ∧ w.frozen? ⟨b, 0, none⟩ = false ∧ w.frozen? ⟨b, 1, none⟩ = false ∧ w.frozen? ⟨b, 2, none⟩ = false ∧ w.frozen? ⟨b, 3, none⟩ = false ∧ w.frozen? ⟨b, 4, none⟩ = false := by
  refine ⟨?_, ?_, ?_, ?_, ?_, ?_, ?_, ?_, ?_, ?_⟩ <;> first | (simp [World.cell?, h]; done) | simp [World.frozen?, h]
/-- What a store into the record leaves alone. -/
theorem ParM.store (h : ParM w0 wr ty q ko rd r A c D d N n) (h1 : ty ≠ 27) (i : Nat) (u : Value) :
    RdrM ty (wr.setCell ⟨ko, i, none⟩ u) q rd ∧ (wr.setCell ⟨ko, i, none⟩ u).ownsRow w0.heap.size 77 11 (.slice A r.ws.length c) r.ws.length (flatW r.ws) ∧ (wr.setCell ⟨ko, i, none⟩ u).ownsRow w0.heap.size 82 4 (.slice D r.ms.length d) r.ms.length (flatM r.ms) ∧ RdT (wr.setCell ⟨ko, i, none⟩ u) 5 N (r.note.map (Value.int .u8)) ∧ Below w0.heap.size w0 (wr.setCell ⟨ko, i, none⟩ u) := by
  obtain ⟨cur, hb⟩ := h.rdr.blk
  have hk := ParM.out_kept wr ko i u
  exact ⟨h.rdr.kept hk (blk_ne hb h.out h1) (free4 h.out (by decide)), own_kept h.ws hk (own_ne h.ws h.out (by decide)), own_kept h.ms hk (own_ne h.ms h.out (by decide)), h.note.kept hk (free4 h.out (by decide)), h.bel.setCell (p := ⟨ko, i, none⟩) h.k0 u⟩
theorem ParM.set0 (h : ParM w0 wr ty q ko rd r A c D d N n) (h1 : ty ≠ 27) (g : Nat) : ParM w0 (wr.setCell ⟨ko, 0, none⟩ (.int .u64 g)) ty q ko rd ⟨g, r.seq, r.ws, r.ms, r.note⟩ A c D d N n := by
  obtain ⟨a1, a2, a3, a4, a5⟩ := h.store h1 0 (.int .u64 g)
  exact ⟨a1, (heap_set5 h.out _).1, a2, a3, a4, a5, h.q0, h.k0⟩
theorem ParM.set1 (h : ParM w0 wr ty q ko rd r A c D d N n) (h1 : ty ≠ 27) (g : Nat) : ParM w0 (wr.setCell ⟨ko, 1, none⟩ (.int .u64 g)) ty q ko rd ⟨r.gen, g, r.ws, r.ms, r.note⟩ A c D d N n := by
  obtain ⟨a1, a2, a3, a4, a5⟩ := h.store h1 1 (.int .u64 g)
  exact ⟨a1, (heap_set5 h.out _).2.1, a2, a3, a4, a5, h.q0, h.k0⟩
theorem ParM.set4 (h : ParM w0 wr ty q ko rd r A c D d N n) (h1 : ty ≠ 27) {xs : List Int} {N' : Option Addr} {n' : Nat} (hx : RdT wr 5 N' (xs.map (Value.int .u8))) : ParM w0 (wr.setCell ⟨ko, 4, none⟩ (.slice N' xs.length n')) ty q ko rd ⟨r.gen, r.seq, r.ws, r.ms, xs⟩ A c D d N' n' := by
  obtain ⟨a1, a2, a3, a4, a5⟩ := h.store h1 4 (.slice N' xs.length n')
  exact ⟨a1, (heap_set5 h.out _).2.2.2.2, a2, a3, hx.kept (ParM.out_kept wr ko 4 _) (free4 h.out (by decide)), a5, h.q0, h.k0⟩
theorem ParM.rec_ (h : ParM w0 wr ty q ko rd r A c D d N n) : RecR wr wr.heap.size r A c D d N n := ⟨Rd.of_own h.ws, Rd.of_own h.ms, h.note.rd⟩
/-- Behind an append to the writes. -/
theorem ParM.pushW {w1 : World} {tmp : Obj} {x : PW} {A' : Option Addr} {c' : Nat} (h : ParM w0 w1 ty q ko rd r A c D d N n) (h1 : ty ≠ 27) (h2 : 77 ≠ ty)
    (hown : w'.ownsRow w0.heap.size 77 11 (.slice A' (r.ws.length + 1) c') (r.ws.length + 1) (flatW r.ws ++ x.cells)) (hg : (w1.alloc tmp).grownBy w' (Value.slice A r.ws.length c).ownBlock) :
    w'.heap[ko]? = some (.cells #[.int .u64 r.gen, .int .u64 r.seq, .slice A r.ws.length c, .slice D r.ms.length d, .slice N r.note.length n] 27 (0, 0)) ∧ ParM w0 (w'.setCell ⟨ko, 2, none⟩ (.slice A' (r.ws.length + 1) c')) ty q ko rd ⟨r.gen, r.seq, r.ws ++ [x], r.ms, r.note⟩ A' c' D d N n := by
  have ha := h.below0 (w' := w1.alloc tmp) ((Below.refl _ _).alloc (Nat.le_refl _) _)
  obtain ⟨cur, hb⟩ := ha.rdr.blk
  have hkg : Kept (fun k => (Value.slice A r.ws.length c).ownBlock = some k) (w1.alloc tmp) w' := ⟨hg.os, hg.tape, hg.output, hg.size, fun k hk hS => hg.block k hk (fun e => hS e.symm)⟩
  have hfree : Free (w1.alloc tmp) 5 (fun k => (Value.slice A r.ws.length c).ownBlock = some k) := fun k hk _ cur' fr e => by
    have hk' : (Value.slice A r.ws.length c).ownBlock = some k := hk
    rcases ha.ws.2 with ⟨e1, _⟩ | ⟨g, cap, cur2, e1, _, hgg, _⟩
    · rw [e1] at hk'; cases hk'
    · rw [e1] at hk'
      obtain rfl : g = k := by simpa [Value.ownBlock] using hk'
      rw [hgg] at e; injection e with e; injection e with _ h3; exact absurd h3 (by decide)
  have hq' : ¬ (Value.slice A r.ws.length c).ownBlock = some q := fun e => own_ne ha.ws hb h2 q e rfl
  have hk' : ¬ (Value.slice A r.ws.length c).ownBlock = some ko := fun e => own_ne ha.ws ha.out (by decide) ko e rfl
  have hR := ha.rdr.kept hkg hq' hfree
  have hO := hkg.obj ha.out hk'
  have hM := own_kept ha.ms hkg (fun k hk => by
    rcases own_apart ha.ms ha.ws (by decide) with e | e
    · rw [e] at hk; cases hk
    · exact fun e2 => e (hk.trans e2.symm))
  have hN := ha.note.kept hkg hfree
  have hB : Below w0.heap.size w0 w' := ha.bel.trans (hkg.below (fun k hk => own_low ha.ws hk) ha.bel.size)
  have hk := ParM.out_kept w' ko 2 (.slice A' (r.ws.length + 1) c')
  obtain ⟨cur3, hb3⟩ := hR.blk
  refine ⟨hO, ⟨hR.kept hk (blk_ne hb3 hO h1) (free4 hO (by decide)), ?_, ?_, own_kept hM hk (own_ne hM hO (by decide)), hN.kept hk (free4 hO (by decide)), hB.setCell (p := ⟨ko, 2, none⟩) h.k0 _, h.q0, h.k0⟩⟩
  · have := (heap_set5 hO (.slice A' (r.ws.length + 1) c')).2.2.1
    show _ = some (Obj.cells #[_, _, .slice A' (r.ws ++ [x]).length c', _, _] _ _)
    rw [List.length_append]; exact this
  · have := own_kept hown hk (own_ne hown hO (by decide))
    show World.ownsRow _ _ _ _ (.slice A' (r.ws ++ [x]).length c') (r.ws ++ [x]).length (flatW (r.ws ++ [x]))
    unfold flatW
    rw [List.length_append, List.flatMap_append]
    simpa [flatW] using this
theorem ParM.pushM {w1 : World} {tmp : Obj} {x : Mv} {D' : Option Addr} {d' : Nat} (h : ParM w0 w1 ty q ko rd r A c D d N n) (h1 : ty ≠ 27) (h2 : 82 ≠ ty)
    (hown : w'.ownsRow w0.heap.size 82 4 (.slice D' (r.ms.length + 1) d') (r.ms.length + 1) (flatM r.ms ++ x.cells)) (hg : (w1.alloc tmp).grownBy w' (Value.slice D r.ms.length d).ownBlock) :
    w'.heap[ko]? = some (.cells #[.int .u64 r.gen, .int .u64 r.seq, .slice A r.ws.length c, .slice D r.ms.length d, .slice N r.note.length n] 27 (0, 0)) ∧ ParM w0 (w'.setCell ⟨ko, 3, none⟩ (.slice D' (r.ms.length + 1) d')) ty q ko rd ⟨r.gen, r.seq, r.ws, r.ms ++ [x], r.note⟩ A c D' d' N n := by
  have ha := h.below0 (w' := w1.alloc tmp) ((Below.refl _ _).alloc (Nat.le_refl _) _)
  obtain ⟨cur, hb⟩ := ha.rdr.blk
  have hkg : Kept (fun k => (Value.slice D r.ms.length d).ownBlock = some k) (w1.alloc tmp) w' := ⟨hg.os, hg.tape, hg.output, hg.size, fun k hk hS => hg.block k hk (fun e => hS e.symm)⟩
  have hfree : Free (w1.alloc tmp) 5 (fun k => (Value.slice D r.ms.length d).ownBlock = some k) := fun k hk _ cur' fr e => by
    have hk' : (Value.slice D r.ms.length d).ownBlock = some k := hk
    rcases ha.ms.2 with ⟨e1, _⟩ | ⟨g, cap, cur2, e1, _, hgg, _⟩
    · rw [e1] at hk'; cases hk'
    · rw [e1] at hk'
      obtain rfl : g = k := by simpa [Value.ownBlock] using hk'
      rw [hgg] at e; injection e with e; injection e with _ h3; exact absurd h3 (by decide)
  have hq' : ¬ (Value.slice D r.ms.length d).ownBlock = some q := fun e => own_ne ha.ms hb h2 q e rfl
  have hk' : ¬ (Value.slice D r.ms.length d).ownBlock = some ko := fun e => own_ne ha.ms ha.out (by decide) ko e rfl
  have hR := ha.rdr.kept hkg hq' hfree
  have hO := hkg.obj ha.out hk'
  have hM := own_kept ha.ws hkg (fun k hk => by
    rcases own_apart ha.ws ha.ms (by decide) with e | e
    · rw [e] at hk; cases hk
    · exact fun e2 => e (hk.trans e2.symm))
  have hN := ha.note.kept hkg hfree
  have hB : Below w0.heap.size w0 w' := ha.bel.trans (hkg.below (fun k hk => own_low ha.ms hk) ha.bel.size)
  have hk := ParM.out_kept w' ko 3 (.slice D' (r.ms.length + 1) d')
  obtain ⟨cur3, hb3⟩ := hR.blk
  refine ⟨hO, ⟨hR.kept hk (blk_ne hb3 hO h1) (free4 hO (by decide)), ?_, own_kept hM hk (own_ne hM hO (by decide)), ?_, hN.kept hk (free4 hO (by decide)), hB.setCell (p := ⟨ko, 3, none⟩) h.k0 _, h.q0, h.k0⟩⟩
  · have := (heap_set5 hO (.slice D' (r.ms.length + 1) d')).2.2.2.1
    show _ = some (Obj.cells #[_, _, _, .slice D' (r.ms ++ [x]).length d', _] _ _)
    rw [List.length_append]; exact this
  · have := own_kept hown hk (own_ne hown hO (by decide))
    show World.ownsRow _ _ _ _ (.slice D' (r.ms ++ [x]).length d') (r.ms ++ [x]).length (flatM (r.ms ++ [x]))
    unfold flatM
    rw [List.length_append, List.flatMap_append]
    simpa [flatM] using this
end
/-- A record that is held: its rows are owned, its note is of bytes. -/
structure RecO (w : World) (r : Rec) (A : Option Addr) (c : Nat) (D : Option Addr) (d : Nat) (N : Option Addr) (n : Nat) : Prop where
  ws : w.ownsRow 0 77 11 (.slice A r.ws.length c) r.ws.length (flatW r.ws)
  ms : w.ownsRow 0 82 4 (.slice D r.ms.length d) r.ms.length (flatM r.ms)
  note : RdT w 5 N (r.note.map (Value.int .u8))
theorem RecO.rec_ {w : World} {r : Rec} {A D N : Option Addr} {c d n : Nat} (h : RecO w r A c D d N n) : RecR w w.heap.size r A c D d N n := ⟨Rd.of_own h.ws, Rd.of_own h.ms, h.note.rd⟩
theorem RecO.below0 {w w' : World} {r : Rec} {A D N : Option Addr} {c d n : Nat} (h : RecO w r A c D d N n) (hb : Below w.heap.size w w') : RecO w' r A c D d N n :=
  ⟨own_kept h.ws (belKept0 (S := fun _ => False) hb) (fun _ _ h => h), own_kept h.ms (belKept0 (S := fun _ => False) hb) (fun _ _ h => h), h.note.below0 hb⟩
theorem RecO.kept {w w' : World} {r : Rec} {A D N : Option Addr} {c d n kr : Nat} {cur : Array Value} (h : RecO w r A c D d N n) (hk : Kept (fun k => k = kr) w w') (hr : w.heap[kr]? = some (.cells cur 27 (0, 0))) : RecO w' r A c D d N n :=
  ⟨own_kept h.ws hk (own_ne h.ws hr (by decide)), own_kept h.ms hk (own_ne h.ms hr (by decide)), h.note.kept hk (free4 hr (by decide))⟩
theorem RecO.zero (w : World) : RecO w ⟨0, 0, [], [], []⟩ none 0 none 0 none 0 := ⟨World.ownsRow_nil _ _ _ _, World.ownsRow_nil _ _ _ _, RdT.nil _ _ _⟩
/-- What parse and payload leave. -/
def ParPost (w : World) (b : List Int) (e : Ending) (w' : World) : Prop := ∃ (r : Rec) (A : Option Addr) (c : Nat) (D : Option Addr) (d : Nat) (N : Option Addr) (n : Nat), e = .returned (.tuple #[.agg #[.int .u64 r.gen, .int .u64 r.seq, .slice A r.ws.length c, .slice D r.ms.length d, .slice N r.note.length n], .bool (recD b).isSome]) ∧ (∀ r', recD b = some r' → r = r') ∧ RecO w' r A c D d N n ∧ Below w.heap.size w w'
end Go.Proofs.Ytndifkjenjfjpaa
