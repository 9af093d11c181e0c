/-
  WHAT IS SHOWN: what Decode of record returns. Conditions: the sectors can be read.
-/
import Derived.Deep.DeepCutAuto
import Derived.Test.YtaggiceejcegdaaGreatNc07
import Derived.Test.YtaggiceejcegdaaGreatNc09
namespace Go.Proofs.YtaggiceejcegdaaGreat
set_option linter.unusedVariables false
open Go.RowKit
theorem uint_u8 {r : Rdr} (h : U8s r.rest) : U8s r.uint.2.2.rest:=by
 unfold Rdr.uint
 split
 ·rename_i he; exact (uintD_u8 h he).2
 ·intro x hx; simp [Rdr.fail] at hx
theorem take_u8 {r : Rdr} (h : U8s r.rest) (n : Nat) : U8s (r.take n).1:=by
 unfold Rdr.take
 split
 ·intro x hx; simp at hx
 ·exact U8s.take h n
theorem bytes_u8 {r : Rdr} (h : U8s r.rest) : U8s r.bytes.1:=by
 unfold Rdr.bytes
 split
 ·exact take_u8 (uint_u8 h) _
 ·intro x hx; simp at hx
theorem rdK_u8 {b : List Int} (h : U8s b) : ∀ k,U8s (rdK b k).rest
 | 0=>(h.take _).drop 1
 | k + 1=>uint_u8 (rdK_u8 h k)
theorem insD_u8 {b : List Int} (h : U8s b) : U8s (insD b).ch:=by
 have hn : U8s ([] : List Int):=fun x hx=>by simp at hx
 unfold insD
 split
 ·exact hn
 ·split
  ·exact hn
  ·split
   ·exact hn
   ·split
    ·exact bytes_u8 (rdK_u8 h 4)
    ·exact hn
theorem allB_u8 {ls : List (List Int)} (h : ∀ b ∈ ls,U8s b) : ∀ k,U8s (allB ls k)
 | 0=>fun x hx=>by simp [allB] at hx
 | k + 1=>by
   unfold allB
   refine u8_append (allB_u8 h k) (insD_u8 ?_)
   by_cases hk : k < ls.length
   ·rw [show ls.getD k [] = ls[k] by simp [hk]]; exact h _ (List.getElem_mem hk)
   ·rw [show ls.getD k [] = [] by rw [List.getD_eq_getElem?_getD,List.getElem?_eq_none (by omega)]; rfl]; intro x hx; simp at hx
def DecPost (w : World) (ls : List (List Int)) (e : Ending) (w' : World) : Prop:=∃ (A : Option Addr) (c : Nat) (D : Option Addr) (d : Nat) (N : Option Addr) (n : Nat),e = .returned (.tuple #[.agg #[.int .u64 (decD ls).r.gen,.int .u64 (decD ls).r.seq,.slice A (decD ls).r.ws.length c,.slice D (decD ls).r.ms.length d,.slice N (decD ls).r.note.length n],.int .i64 (decD ls).n,.int .i64 (decD ls).er]) ∧ RecO w' (decD ls).r A c D d N n ∧ Below w.heap.size w w'
theorem DecPost.bad {w w' : World} {ls : List (List Int)} {er : Int} {x : Ending} (h : decD ls = .bad er) (he : x = .returned (.tuple #[.agg #[.int .u64 0,.int .u64 0,.slice none 0 0,.slice none 0 0,.slice none 0 0],.int .i64 0,.int .i64 er])) (hb : Below w.heap.size w w') : DecPost w ls x w':=by
 unfold DecPost; rw [h]
 exact ⟨none,0,none,0,none,0,he,RecO.zero _,hb⟩
structure SlOk (s : Sl) : Prop where
 u : U8s s.xs
 n : s.xs.length ≤ 1000
 c : s.xs.length ≤ s.c
 m : s.c ≤ 9223372036854775807
end Go.Proofs.YtaggiceejcegdaaGreat
