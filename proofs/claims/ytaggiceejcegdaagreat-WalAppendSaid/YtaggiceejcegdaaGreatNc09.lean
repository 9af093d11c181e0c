/-
  WHAT IS SHOWN: plain facts on the memory of a record that is being read. what slices.EqualFunc of record and SameSectors of tegularef27 return. what Short of tegularef27 and long of tegulalaw27 return. plain facts: lists of records in memory. plain facts on logs: what Scan reads from the sectors of a log that are cut, or of which one is lost; the longest log; what fits. what few and large of tegulalaw28, Next of logarea and of tegularef28 return. what Next of logarea and of tegularef28 returns. what Valid of logarea returns. what Sectors of logarea returns. plain facts on the memory of a record that is being read, once more. Conditions: as each theorem names them.
-/
import Derived.Test.YtaggiceejcegdaaGreatNc08
import Derived.Test.YtaggiceejcegdaaGreatNc06
import Derived.Test.YtaggiceejcegdaaGreatNc07
import Derived.Deep.DeepCutAuto
import Derived.ChangeKeysEq
namespace Go.Proofs.YtaggiceejcegdaaGreat
set_option linter.unusedVariables false
open Go.RowKit
structure ParM (w0 wr : World) (ty : TypeId) (q ko : Nat) (rd : Rdr) (r : Rec) (A : Option Addr) (c : Nat) (D : Option Addr) (d : Nat) (N : Option Addr) (n : Nat) : Prop where
 rdr : RdrM ty wr q rd
 out : wr.heap[ko]? = some (.cells #[.int .u64 r.gen,.int .u64 r.seq,.slice A r.ws.length c,.slice D r.ms.length d,.slice N r.note.length n] 28 (0,0))
 ws : wr.ownsRow w0.heap.size 151 11 (.slice A r.ws.length c) r.ws.length (flatW r.ws)
 ms : wr.ownsRow w0.heap.size 156 4 (.slice D r.ms.length d) r.ms.length (flatM r.ms)
 note : RdT wr 5 N (r.note.map (Value.int .u8))
 bel : Below w0.heap.size w0 wr
 q0 : w0.heap.size ≤ q
 k0 : w0.heap.size ≤ ko
section
variable {w0 wr w' : World} {ty : TypeId} {q ko : Nat} {rd rd' : Rdr} {r : Rec} {A D N : Option Addr} {c d n : Nat}
theorem ParM.kept {S : Nat → Prop} (h : ParM w0 wr ty q ko rd r A c D d N n) (hk : Kept S wr w') (hq : ¬ S q) (hko : ¬ S ko) (hw : ∀ k,(Value.slice A r.ws.length c).ownBlock = some k → ¬ S k) (hm : ∀ k,(Value.slice D r.ms.length d).ownBlock = some k → ¬ S k) (hf : Free wr 5 S) (hB : ∀ k,S k → w0.heap.size ≤ k) : ParM w0 w' ty q ko rd r A c D d N n:=
 ⟨h.rdr.kept hk hq hf,hk.obj h.out hko,own_kept h.ws hk hw,own_kept h.ms hk hm,h.note.kept hk hf,h.bel.trans (hk.below hB h.bel.size),h.q0,h.k0⟩
theorem ParM.below0 (h : ParM w0 wr ty q ko rd r A c D d N n) (hb : Below wr.heap.size wr w') : ParM w0 w' ty q ko rd r A c D d N n:=
 h.kept (S:=fun _=>False) (belKept0 hb) (fun h=>h) (fun h=>h) (fun _ _ h=>h) (fun _ _ h=>h) (Free.none _ _) (fun _ h=>h.elim)
theorem own_ne {w : World} {base : Nat} {e t : TypeId} {s m k : Nat} {v : Value} {xs : List Value} {cur : Array Value} (h : w.ownsRow base e s v m xs) (hk : w.heap[k]? = some (.cells cur t (0,0))) (he : e ≠ t) : ∀ i,v.ownBlock = some i → ¬ i = k:=fun i hi hik=>by
 rcases h.2 with ⟨e1,_⟩ | ⟨g,cap,cur',e1,_,hg,_⟩
 ·rw [e1] at hi; cases hi
 ·rw [e1] at hi
  obtain rfl : g = i:=by simpa [Value.ownBlock] using hi
  subst hik
  rw [hk] at hg; injection hg with hg; injection hg with _ h3; exact he h3.symm
theorem RdrM.blk (h : RdrM ty wr q rd) : ∃ cur,wr.heap[q]? = some (.cells cur ty (0,0)):=by
 obtain ⟨A,c,hq,_⟩:=h; exact ⟨_,hq⟩
theorem blk_ne {w : World} {a b : Nat} {x y : Array Value} {s t : TypeId} (h : w.heap[a]? = some (.cells x s (0,0))) (k : w.heap[b]? = some (.cells y t (0,0))) (he : s ≠ t) : ¬ a = b:=fun e=>by
 subst e; rw [h] at k; injection k with k; injection k with _ h3; exact he h3
theorem ParM.call (h : ParM w0 wr ty q ko rd r A c D d N n) (h1 : ty ≠ 28) (h2 : 151 ≠ ty) (h3 : 156 ≠ ty) (h4 : ty ≠ 5) (hp : RdrPost ty wr q rd' w') : ParM w0 w' ty q ko rd' r A c D d N n:=by
 obtain ⟨cur,hb⟩:=h.rdr.blk
 obtain ⟨hM,hk⟩:=hp
 exact ⟨hM,hk.obj h.out (blk_ne h.out hb (fun e=>h1 e.symm)),own_kept h.ws hk (own_ne h.ws hb h2),own_kept h.ms hk (own_ne h.ms hb h3),h.note.kept hk (free4 hb h4),h.bel.trans (hk.below (fun i hi=>by have hi' : i = q:=hi; rw [hi']; exact h.q0) h.bel.size),h.q0,h.k0⟩
theorem ParM.out_kept (w : World) (ko i : Nat) (u : Value) : Kept (fun k=>k = ko) w (w.setCell ⟨ko,i,none⟩ u):=(Kept.refl (fun k=>k = ko) w).setCell (p:=⟨ko,i,none⟩) (fun _=>rfl) u
theorem heap_set5 {w : World} {b : Nat} {v0 v1 v2 v3 v4 : Value} {t : TypeId} (h : w.heap[b]? = some (.cells #[v0,v1,v2,v3,v4] t (0,0))) (u : Value) :
  (w.setCell ⟨b,0,none⟩ u).heap[b]? = some (.cells #[u,v1,v2,v3,v4] t (0,0)) ∧ (w.setCell ⟨b,1,none⟩ u).heap[b]? = some (.cells #[v0,u,v2,v3,v4] t (0,0)) ∧ (w.setCell ⟨b,2,none⟩ u).heap[b]? = some (.cells #[v0,v1,u,v3,v4] t (0,0)) ∧ (w.setCell ⟨b,3,none⟩ u).heap[b]? = some (.cells #[v0,v1,v2,u,v4] t (0,0)) ∧ (w.setCell ⟨b,4,none⟩ u).heap[b]? = some (.cells #[v0,v1,v2,v3,u] t (0,0)):=by
 refine ⟨?_,?_,?_,?_,?_⟩ <;> simp [World.setCell,Array.getElem?_modify,h]
theorem cells5 {w : World} {b : Nat} {v0 v1 v2 v3 v4 : Value} {t : TypeId} (h : w.heap[b]? = some (.cells #[v0,v1,v2,v3,v4] t (0,0))) : w.cell? ⟨b,0,none⟩ = some v0 ∧ w.cell? ⟨b,1,none⟩ = some v1 ∧ w.cell? ⟨b,2,none⟩ = some v2 ∧ w.cell? ⟨b,3,none⟩ = some v3 ∧ w.cell? ⟨b,4,none⟩ = some v4 ∧ w.frozen? ⟨b,0,none⟩ = false ∧ w.frozen? ⟨b,1,none⟩ = false ∧ w.frozen? ⟨b,2,none⟩ = false ∧ w.frozen? ⟨b,3,none⟩ = false ∧ w.frozen? ⟨b,4,none⟩ = false:=by
 refine ⟨?_,?_,?_,?_,?_,?_,?_,?_,?_,?_⟩ <;> first | (simp [World.cell?,h]; done) | simp [World.frozen?,h]
theorem ParM.store (h : ParM w0 wr ty q ko rd r A c D d N n) (h1 : ty ≠ 28) (i : Nat) (u : Value) :
  RdrM ty (wr.setCell ⟨ko,i,none⟩ u) q rd ∧ (wr.setCell ⟨ko,i,none⟩ u).ownsRow w0.heap.size 151 11 (.slice A r.ws.length c) r.ws.length (flatW r.ws) ∧ (wr.setCell ⟨ko,i,none⟩ u).ownsRow w0.heap.size 156 4 (.slice D r.ms.length d) r.ms.length (flatM r.ms) ∧ RdT (wr.setCell ⟨ko,i,none⟩ u) 5 N (r.note.map (Value.int .u8)) ∧ Below w0.heap.size w0 (wr.setCell ⟨ko,i,none⟩ u):=by
 obtain ⟨cur,hb⟩:=h.rdr.blk
 have hk:=ParM.out_kept wr ko i u
 exact ⟨h.rdr.kept hk (blk_ne hb h.out h1) (free4 h.out (by decide)),own_kept h.ws hk (own_ne h.ws h.out (by decide)),own_kept h.ms hk (own_ne h.ms h.out (by decide)),h.note.kept hk (free4 h.out (by decide)),h.bel.setCell (p:=⟨ko,i,none⟩) h.k0 u⟩
theorem ParM.set0 (h : ParM w0 wr ty q ko rd r A c D d N n) (h1 : ty ≠ 28) (g : Nat) : ParM w0 (wr.setCell ⟨ko,0,none⟩ (.int .u64 g)) ty q ko rd ⟨g,r.seq,r.ws,r.ms,r.note⟩ A c D d N n:=by
 obtain ⟨a1,a2,a3,a4,a5⟩:=h.store h1 0 (.int .u64 g)
 exact ⟨a1,(heap_set5 h.out _).1,a2,a3,a4,a5,h.q0,h.k0⟩
theorem ParM.set1 (h : ParM w0 wr ty q ko rd r A c D d N n) (h1 : ty ≠ 28) (g : Nat) : ParM w0 (wr.setCell ⟨ko,1,none⟩ (.int .u64 g)) ty q ko rd ⟨r.gen,g,r.ws,r.ms,r.note⟩ A c D d N n:=by
 obtain ⟨a1,a2,a3,a4,a5⟩:=h.store h1 1 (.int .u64 g)
 exact ⟨a1,(heap_set5 h.out _).2.1,a2,a3,a4,a5,h.q0,h.k0⟩
theorem ParM.set4 (h : ParM w0 wr ty q ko rd r A c D d N n) (h1 : ty ≠ 28) {xs : List Int} {N' : Option Addr} {n' : Nat} (hx : RdT wr 5 N' (xs.map (Value.int .u8))) : ParM w0 (wr.setCell ⟨ko,4,none⟩ (.slice N' xs.length n')) ty q ko rd ⟨r.gen,r.seq,r.ws,r.ms,xs⟩ A c D d N' n':=by
 obtain ⟨a1,a2,a3,a4,a5⟩:=h.store h1 4 (.slice N' xs.length n')
 exact ⟨a1,(heap_set5 h.out _).2.2.2.2,a2,a3,hx.kept (ParM.out_kept wr ko 4 _) (free4 h.out (by decide)),a5,h.q0,h.k0⟩
theorem ParM.rec_ (h : ParM w0 wr ty q ko rd r A c D d N n) : RecR wr wr.heap.size r A c D d N n:=⟨Rd.of_own h.ws,Rd.of_own h.ms,h.note.rd⟩
theorem ParM.pushW {w1 : World} {tmp : Obj} {x : PW} {A' : Option Addr} {c' : Nat} (h : ParM w0 w1 ty q ko rd r A c D d N n) (h1 : ty ≠ 28) (h2 : 151 ≠ ty)
  (hown : w'.ownsRow w0.heap.size 151 11 (.slice A' (r.ws.length + 1) c') (r.ws.length + 1) (flatW r.ws ++ x.cells)) (hg : (w1.alloc tmp).grownBy w' (Value.slice A r.ws.length c).ownBlock) :
  w'.heap[ko]? = some (.cells #[.int .u64 r.gen,.int .u64 r.seq,.slice A r.ws.length c,.slice D r.ms.length d,.slice N r.note.length n] 28 (0,0)) ∧ ParM w0 (w'.setCell ⟨ko,2,none⟩ (.slice A' (r.ws.length + 1) c')) ty q ko rd ⟨r.gen,r.seq,r.ws ++ [x],r.ms,r.note⟩ A' c' D d N n:=by
 have ha:=h.below0 (w':=w1.alloc tmp) ((Below.refl _ _).alloc (Nat.le_refl _) _)
 obtain ⟨cur,hb⟩:=ha.rdr.blk
 have hkg : Kept (fun k=>(Value.slice A r.ws.length c).ownBlock = some k) (w1.alloc tmp) w':=⟨hg.os,hg.tape,hg.output,hg.size,fun k hk hS=>hg.block k hk (fun e=>hS e.symm)⟩
 have hfree : Free (w1.alloc tmp) 5 (fun k=>(Value.slice A r.ws.length c).ownBlock = some k):=fun k hk _ cur' fr e=>by
  have hk' : (Value.slice A r.ws.length c).ownBlock = some k:=hk
  rcases ha.ws.2 with ⟨e1,_⟩ | ⟨g,cap,cur2,e1,_,hgg,_⟩
  ·rw [e1] at hk'; cases hk'
  ·rw [e1] at hk'
   obtain rfl : g = k:=by simpa [Value.ownBlock] using hk'
   rw [hgg] at e; injection e with e; injection e with _ h3; exact absurd h3 (by decide)
 have hq' : ¬ (Value.slice A r.ws.length c).ownBlock = some q:=fun e=>own_ne ha.ws hb h2 q e rfl
 have hk' : ¬ (Value.slice A r.ws.length c).ownBlock = some ko:=fun e=>own_ne ha.ws ha.out (by decide) ko e rfl
 have hR:=ha.rdr.kept hkg hq' hfree
 have hO:=hkg.obj ha.out hk'
 have hM:=own_kept ha.ms hkg (fun k hk=>by
  rcases own_apart ha.ms ha.ws (by decide) with e | e
  ·rw [e] at hk; cases hk
  ·exact fun e2=>e (hk.trans e2.symm))
 have hN:=ha.note.kept hkg hfree
 have hB : Below w0.heap.size w0 w':=ha.bel.trans (hkg.below (fun k hk=>own_low ha.ws hk) ha.bel.size)
 have hk:=ParM.out_kept w' ko 2 (.slice A' (r.ws.length + 1) c')
 obtain ⟨cur3,hb3⟩:=hR.blk
 refine ⟨hO,⟨hR.kept hk (blk_ne hb3 hO h1) (free4 hO (by decide)),?_,?_,own_kept hM hk (own_ne hM hO (by decide)),hN.kept hk (free4 hO (by decide)),hB.setCell (p:=⟨ko,2,none⟩) h.k0 _,h.q0,h.k0⟩⟩
 ·have:=(heap_set5 hO (.slice A' (r.ws.length + 1) c')).2.2.1
  show _ = some (Obj.cells #[_,_,.slice A' (r.ws ++ [x]).length c',_,_] _ _)
  rw [List.length_append]; exact this
 ·have:=own_kept hown hk (own_ne hown hO (by decide))
  show World.ownsRow _ _ _ _ (.slice A' (r.ws ++ [x]).length c') (r.ws ++ [x]).length (flatW (r.ws ++ [x]))
  unfold flatW
  rw [List.length_append,List.flatMap_append]
  simpa [flatW] using this
theorem ParM.pushM {w1 : World} {tmp : Obj} {x : Mv} {D' : Option Addr} {d' : Nat} (h : ParM w0 w1 ty q ko rd r A c D d N n) (h1 : ty ≠ 28) (h2 : 156 ≠ ty)
  (hown : w'.ownsRow w0.heap.size 156 4 (.slice D' (r.ms.length + 1) d') (r.ms.length + 1) (flatM r.ms ++ x.cells)) (hg : (w1.alloc tmp).grownBy w' (Value.slice D r.ms.length d).ownBlock) :
  w'.heap[ko]? = some (.cells #[.int .u64 r.gen,.int .u64 r.seq,.slice A r.ws.length c,.slice D r.ms.length d,.slice N r.note.length n] 28 (0,0)) ∧ ParM w0 (w'.setCell ⟨ko,3,none⟩ (.slice D' (r.ms.length + 1) d')) ty q ko rd ⟨r.gen,r.seq,r.ws,r.ms ++ [x],r.note⟩ A c D' d' N n:=by
 have ha:=h.below0 (w':=w1.alloc tmp) ((Below.refl _ _).alloc (Nat.le_refl _) _)
 obtain ⟨cur,hb⟩:=ha.rdr.blk
 have hkg : Kept (fun k=>(Value.slice D r.ms.length d).ownBlock = some k) (w1.alloc tmp) w':=⟨hg.os,hg.tape,hg.output,hg.size,fun k hk hS=>hg.block k hk (fun e=>hS e.symm)⟩
 have hfree : Free (w1.alloc tmp) 5 (fun k=>(Value.slice D r.ms.length d).ownBlock = some k):=fun k hk _ cur' fr e=>by
  have hk' : (Value.slice D r.ms.length d).ownBlock = some k:=hk
  rcases ha.ms.2 with ⟨e1,_⟩ | ⟨g,cap,cur2,e1,_,hgg,_⟩
  ·rw [e1] at hk'; cases hk'
  ·rw [e1] at hk'
   obtain rfl : g = k:=by simpa [Value.ownBlock] using hk'
   rw [hgg] at e; injection e with e; injection e with _ h3; exact absurd h3 (by decide)
 have hq' : ¬ (Value.slice D r.ms.length d).ownBlock = some q:=fun e=>own_ne ha.ms hb h2 q e rfl
 have hk' : ¬ (Value.slice D r.ms.length d).ownBlock = some ko:=fun e=>own_ne ha.ms ha.out (by decide) ko e rfl
 have hR:=ha.rdr.kept hkg hq' hfree
 have hO:=hkg.obj ha.out hk'
 have hM:=own_kept ha.ws hkg (fun k hk=>by
  rcases own_apart ha.ws ha.ms (by decide) with e | e
  ·rw [e] at hk; cases hk
  ·exact fun e2=>e (hk.trans e2.symm))
 have hN:=ha.note.kept hkg hfree
 have hB : Below w0.heap.size w0 w':=ha.bel.trans (hkg.below (fun k hk=>own_low ha.ms hk) ha.bel.size)
 have hk:=ParM.out_kept w' ko 3 (.slice D' (r.ms.length + 1) d')
 obtain ⟨cur3,hb3⟩:=hR.blk
 refine ⟨hO,⟨hR.kept hk (blk_ne hb3 hO h1) (free4 hO (by decide)),?_,own_kept hM hk (own_ne hM hO (by decide)),?_,hN.kept hk (free4 hO (by decide)),hB.setCell (p:=⟨ko,3,none⟩) h.k0 _,h.q0,h.k0⟩⟩
 ·have:=(heap_set5 hO (.slice D' (r.ms.length + 1) d')).2.2.2.1
  show _ = some (Obj.cells #[_,_,_,.slice D' (r.ms ++ [x]).length d',_] _ _)
  rw [List.length_append]; exact this
 ·have:=own_kept hown hk (own_ne hown hO (by decide))
  show World.ownsRow _ _ _ _ (.slice D' (r.ms ++ [x]).length d') (r.ms ++ [x]).length (flatM (r.ms ++ [x]))
  unfold flatM
  rw [List.length_append,List.flatMap_append]
  simpa [flatM] using this
end
structure RecO (w : World) (r : Rec) (A : Option Addr) (c : Nat) (D : Option Addr) (d : Nat) (N : Option Addr) (n : Nat) : Prop where
 ws : w.ownsRow 0 151 11 (.slice A r.ws.length c) r.ws.length (flatW r.ws)
 ms : w.ownsRow 0 156 4 (.slice D r.ms.length d) r.ms.length (flatM r.ms)
 note : RdT w 5 N (r.note.map (Value.int .u8))
theorem RecO.rec_ {w : World} {r : Rec} {A D N : Option Addr} {c d n : Nat} (h : RecO w r A c D d N n) : RecR w w.heap.size r A c D d N n:=⟨Rd.of_own h.ws,Rd.of_own h.ms,h.note.rd⟩
theorem RecO.below0 {w w' : World} {r : Rec} {A D N : Option Addr} {c d n : Nat} (h : RecO w r A c D d N n) (hb : Below w.heap.size w w') : RecO w' r A c D d N n:=
 ⟨own_kept h.ws (belKept0 (S:=fun _=>False) hb) (fun _ _ h=>h),own_kept h.ms (belKept0 (S:=fun _=>False) hb) (fun _ _ h=>h),h.note.below0 hb⟩
theorem RecO.kept {w w' : World} {r : Rec} {A D N : Option Addr} {c d n kr : Nat} {cur : Array Value} (h : RecO w r A c D d N n) (hk : Kept (fun k=>k = kr) w w') (hr : w.heap[kr]? = some (.cells cur 28 (0,0))) : RecO w' r A c D d N n:=
 ⟨own_kept h.ws hk (own_ne h.ws hr (by decide)),own_kept h.ms hk (own_ne h.ms hr (by decide)),h.note.kept hk (free4 hr (by decide))⟩
theorem RecO.zero (w : World) : RecO w ⟨0,0,[],[],[]⟩ none 0 none 0 none 0:=⟨World.ownsRow_nil _ _ _ _,World.ownsRow_nil _ _ _ _,RdT.nil _ _ _⟩
def ParPost (w : World) (b : List Int) (e : Ending) (w' : World) : Prop:=∃ (r : Rec) (A : Option Addr) (c : Nat) (D : Option Addr) (d : Nat) (N : Option Addr) (n : Nat),e = .returned (.tuple #[.agg #[.int .u64 r.gen,.int .u64 r.seq,.slice A r.ws.length c,.slice D r.ms.length d,.slice N r.note.length n],.bool (recD b).isSome]) ∧ (∀ r',recD b = some r' → r = r') ∧ RecO w' r A c D d N n ∧ Below w.heap.size w w'
end Go.Proofs.YtaggiceejcegdaaGreat
namespace Go.Proofs.YtaggiceejcegdaaGreat
set_option linter.unusedVariables false
open Go.RowKit
theorem eql_by_take {xs ys : List (List Int)} (hl : xs.length = ys.length) (h : xs.take xs.length = ys.take xs.length) : xs = ys:=by
 rw [List.take_length,hl,List.take_length] at h; exact h
theorem takel_next {xs ys : List (List Int)} {k : Nat} (hx : k < xs.length) (hy : k < ys.length) (h : xs.take k = ys.take k) (he : xs[k] = ys[k]) : xs.take (k + 1) = ys.take (k + 1):=by
 rw [List.take_succ_eq_append_getElem hx,List.take_succ_eq_append_getElem hy,h,he]
theorem nel_at {xs ys : List (List Int)} {k : Nat} (hx : k < xs.length) (hy : k < ys.length) (he : ¬ xs[k] = ys[k]) : decide (xs = ys) = false:=by
 apply decide_eq_false
 rintro rfl
 exact he rfl
theorem str_inj {xs ys : List Int} (hx : U8s xs) (hy : U8s ys) (h1 : (strOfNums xs).data.toList = (strOfNums ys).data.toList) : xs = ys:=by
 rw [strOfNums_data,strOfNums_data] at h1
 have back : ∀ {l : List Int},U8s l → (l.map fun n=>UInt8.ofNat n.toNat).map (fun c=>(c.toNat : Int)) = l:=fun {l} hu=>by
  rw [List.map_map]
  have : ∀ x ∈ l,((fun c : UInt8=>(c.toNat : Int)) ∘ fun n : Int=>UInt8.ofNat n.toNat) x = x:=fun x hx=>by
   have:=hu x hx
   simp only [Function.comp,UInt8.toNat_ofNat']
   omega
  induction l with
  | nil=>rfl
  | cons a l ih=>rw [List.map_cons,this a (by simp),ih (fun x hx=>hu x (by simp [hx])) (fun x hx=>this x (by simp [hx]))]
 rw [← back hx,← back hy,h1]
theorem str_ne {xs ys : List Int} (hx : U8s xs) (hy : U8s ys) (h : ¬ xs = ys) : ((strOfNums xs).toList == (strOfNums ys).toList) = false:=by
 rw [beq_eq_false_iff_ne]
 intro e
 rw [ByteArray.toList_eq,ByteArray.toList_eq] at e
 exact h (str_inj hx hy e)
theorem sl_at {w : World} {B : Nat} {A : Option Addr} {ss : List Sl} (h : SlsR w B A ss) {k : Nat} (hk : k < ss.length) : ∃ g o,A = some ⟨g,o,none⟩ ∧ g < B ∧ w.cell? ⟨g,o + k,none⟩ = some (.slice ss[k].A ss[k].xs.length ss[k].c) ∧ Rd w B ss[k].A (ss[k].xs.map (Value.int .u8)):=by
 obtain ⟨g,o,e,hg,hc⟩:=h.rd k ss[k].v (by rw [List.getElem?_map,List.getElem?_eq_getElem hk]; rfl)
 exact ⟨g,o,e,hg,hc,h.each _ (List.getElem_mem hk)⟩
set_option maxRecDepth 100000 in
set_option maxHeartbeats 1000000 in
theorem qsame_any (ss tt : List Sl) (A D : Option Addr) (c d : Nat) (w : World) (hx : SlsR w w.heap.size A ss) (hy : SlsR w w.heap.size D tt) (hls : ss.length ≤ 100000) (hux : ∀ s ∈ ss,U8s s.xs) (huy : ∀ s ∈ tt,U8s s.xs) :
  Calls Tryz.prog 22 #[.slice A ss.length c,.slice D tt.length d] w fun e w'=>e = .returned (.bool (decide (ss.map Sl.xs = tt.map Sl.xs))) ∧ Below w.heap.size w w':=by
 have HX:=Lib.hid hx
 have HY:=Lib.hid hy
 have HLX:=Lib.hid hux
 have HLY:=Lib.hid huy
 clear hx hy hux huy
 by_cases hl : ss.length = tt.length
 ·have HL:=Lib.hid hl
  rw [← hl]
  clear hl
  go_enter Tryz.func22,Tryz.ntmps22
  go_wp2
  go_loopw [5] (fun i wr=>∃ k : Nat,k ≤ ss.length ∧ i = .int .i64 k ∧ Hid ((ss.map Sl.xs).take k = (tt.map Sl.xs).take k) ∧ Hid (Below w.heap.size w wr)) (fun i _=>ss.length - (intOf i).toNat)
  case atStart=>exact ⟨0,Nat.zero_le _,rfl,rfl,Below.refl _ _⟩
  case round=>
   obtain ⟨k,hk,rfl,HT,HBR⟩:=hrel
   by_cases hlt : k < ss.length
   ·have hly : k < tt.length:=by have:=HL.out; omega
    have hX:=(HX.out.below HBR.out (Nat.le_refl _)).more HBR.out.size
    have hY:=(HY.out.below HBR.out (Nat.le_refl _)).more HBR.out.size
    obtain ⟨g1,o1,rfl,hg1,j1,hr1⟩:=sl_at hX hlt
    obtain ⟨g2,o2,rfl,hg2,j2,hr2⟩:=sl_at hY hly
    have hv1 : ∀ n,(convert 26 9 (.slice ss[k].A ss[k].xs.length ss[k].c)).run Tryz.prog (wr.drewN n) = .ok (.string (strOfNums ss[k].xs)) (wr.drewN n):=fun n=>qconv_bytes ss[k].c (hr1.drewN n)
    have hv2 : ∀ n,(convert 26 9 (.slice tt[k].A tt[k].xs.length tt[k].c)).run Tryz.prog (wr.drewN n) = .ok (.string (strOfNums tt[k].xs)) (wr.drewN n):=fun n=>qconv_bytes tt[k].c (hr2.drewN n)
    have hxl : k < (ss.map Sl.xs).length:=by simpa using hlt
    have hyl : k < (tt.map Sl.xs).length:=by simpa using hly
    have hxe : (ss.map Sl.xs)[k] = ss[k].xs:=by simp
    have hye : (tt.map Sl.xs)[k] = tt[k].xs:=by simp
    by_cases he : ss[k].xs = tt[k].xs
    ·have HT2:=Lib.hid (takel_next hxl hyl HT.out (by rw [hxe,hye]; exact he))
     have hse : strOfNums ss[k].xs = strOfNums tt[k].xs:=by rw [he]
     rw [hse] at hv1
     generalize strOfNums tt[k].xs = S1 at *
     generalize ss[k] = s1 at *
     generalize tt[k] = s2 at *
     clear hX hY hr1 hr2 hxl hyl hxe hye hly he hse
     go_wp2
     go_quiet (fail)
     have HB1:=Lib.hid (below_drewN HBR.out nq)
     go_wp2
     go_roundw
     case rel=>exact ⟨k + 1,hlt,by go_num,HT2,HB1⟩
     case measure=>simp [intOf]; omega
    ·have HD:=Lib.hid (nel_at hxl hyl (by rw [hxe,hye]; exact he))
     have hse:=str_ne (HLX.out _ (List.getElem_mem hlt)) (HLY.out _ (List.getElem_mem hly)) he
     generalize strOfNums tt[k].xs = S1 at *
     generalize strOfNums ss[k].xs = S2 at *
     generalize ss[k] = s1 at *
     generalize tt[k] = s2 at *
     clear hX hY hr1 hr2 hxl hyl hxe hye hly he
     go_wp2
     go_quiet (fail)
     have HB1:=Lib.hid (below_drewN HBR.out nq)
     go_wp2
     go_ret
     exact ⟨by rw [HD.out]; rfl,HB1.out⟩
   ·obtain rfl : k = ss.length:=by omega
    have HD : Hid (decide (ss.map Sl.xs = tt.map Sl.xs) = true):=by unfold Hid; exact decide_eq_true (eql_by_take (by simpa using HL.out) (by rw [List.length_map]; exact HT.out))
    go_wp2
    go_ret
    exact ⟨by rw [HD.out]; rfl,HBR.out⟩
 ·have HD : Hid (decide (ss.map Sl.xs = tt.map Sl.xs) = false):=by unfold Hid; apply decide_eq_false; intro h; have:=congrArg List.length h; simp at this; exact hl this
  have hl' : ¬ ((ss.length : Int) = (tt.length : Int)):=by omega
  go_enter Tryz.func22,Tryz.ntmps22
  go_wp2
  go_ret
  exact ⟨by rw [HD.out]; rfl,Below.refl _ _⟩
end Go.Proofs.YtaggiceejcegdaaGreat
namespace Go.Proofs.YtaggiceejcegdaaGreat
set_option linter.unusedVariables false
open Go.RowKit
def shortR (r : Rec) : Bool:=decide (r.ws.length ≤ 70) && decide (r.ms.length ≤ 70) && decide (r.note.length ≤ 300)
def longL (ls : List (List Int)) : Bool:=ls.any (fun b=>decide (200 < b.length)) || decide (100 < ls.length)
end Go.Proofs.YtaggiceejcegdaaGreat
namespace Go.Proofs.YtaggiceejcegdaaGreat
set_option linter.unusedVariables false
open Go.RowKit
structure RS where
 r : Rec
 A : Option Addr
 c : Nat
 D : Option Addr
 d : Nat
 N : Option Addr
 n : Nat
def RS.cells (x : RS) : List Value:=[.int .u64 x.r.gen,.int .u64 x.r.seq,.slice x.A x.r.ws.length x.c,.slice x.D x.r.ms.length x.d,.slice x.N x.r.note.length x.n]
def flatR (l : List RS) : List Value:=l.flatMap RS.cells
theorem RS.one (x : RS) : ∀ u ∈ x.cells,u.oneCell' = true:=fun u hu=>by
 unfold RS.cells at hu
 simp only [List.mem_cons,List.not_mem_nil,or_false] at hu
 rcases hu with rfl | rfl | rfl | rfl | rfl <;> rfl
structure RcsR (w : World) (B : Nat) (A : Option Addr) (l : List RS) : Prop where
 rd : Rd w B A (flatR l)
 each : ∀ x ∈ l,RecR w B x.r x.A x.c x.D x.d x.N x.n
structure RcsO (w : World) (base : Nat) (A : Option Addr) (c : Nat) (l : List RS) : Prop where
 own : w.ownsRow base 28 5 (.slice A l.length c) l.length (flatR l)
 each : ∀ x ∈ l,RecO w x.r x.A x.c x.D x.d x.N x.n
section
variable {w w' : World} {B C base : Nat} {A : Option Addr} {c : Nat} {l : List RS}
theorem RcsR.below (h : RcsR w B A l) (hb : Below C w w') (hC : B ≤ C) : RcsR w' B A l:=⟨h.rd.below hb hC,fun x hx=>(h.each x hx).below hb hC⟩
theorem RcsR.more (h : RcsR w B A l) (hB : B ≤ C) : RcsR w C A l:=⟨h.rd.more hB,fun x hx=>(h.each x hx).more hB⟩
theorem RcsR.up (h : RcsR w w.heap.size A l) (hb : Below w.heap.size w w') : RcsR w' w'.heap.size A l:=(h.below hb (Nat.le_refl _)).more hb.size
theorem RcsR.nil (w : World) (B : Nat) (A : Option Addr) : RcsR w B A []:=⟨Rd.nil_ _ _ _,fun x hx=>by simp at hx⟩
theorem RcsO.below (h : RcsO w base A c l) (hb : Below w.heap.size w w') : RcsO w' base A c l:=⟨own_kept h.own (belKept0 (S:=fun _=>False) hb) (fun _ _ h=>h),fun x hx=>(h.each x hx).below0 hb⟩
theorem RcsO.mono (h : RcsO w base A c l) (hb : C ≤ base) : RcsO w C A c l:=⟨own_mono h.own hb,h.each⟩
theorem RcsO.nil (w : World) (base : Nat) : RcsO w base none 0 []:=⟨World.ownsRow_nil _ _ _ _,fun x hx=>by simp at hx⟩
theorem Rd.rs (h : Rd w B A (flatR l)) {i : Nat} (hi : i < l.length) :
  ∃ g o,A = some ⟨g,o,none⟩ ∧ g < B ∧ w.cell? ⟨g,o + i * 5,none⟩ = some (.int .u64 (l[i]).r.gen) ∧ w.cell? ⟨g,o + i * 5 + 1,none⟩ = some (.int .u64 (l[i]).r.seq) ∧ w.cell? ⟨g,o + i * 5 + 2,none⟩ = some (.slice (l[i]).A (l[i]).r.ws.length (l[i]).c) ∧ w.cell? ⟨g,o + i * 5 + 3,none⟩ = some (.slice (l[i]).D (l[i]).r.ms.length (l[i]).d) ∧ w.cell? ⟨g,o + i * 5 + 4,none⟩ = some (.slice (l[i]).N (l[i]).r.note.length (l[i]).n):=by
 obtain ⟨g,o,e,hg,hc⟩:=Rd.flat (n:=5) (fun _=>rfl) (by decide) h hi
 exact ⟨g,o,e,hg,hc 0 _ rfl,hc 1 _ rfl,hc 2 _ rfl,hc 3 _ rfl,hc 4 _ rfl⟩
theorem RecO.grown {r : Rec} {A0 D N : Option Addr} {c0 d n : Nat} {v : Value} {m : Nat} {xs : List Value} (h : RecO w r A0 c0 D d N n) (ho : w.ownsRow base 28 5 v m xs) (hg : w.grownBy w' v.ownBlock) : RecO w' r A0 c0 D d N n:=by
 refine ⟨h.ws.kept hg (own_apart h.ws ho (by decide)),h.ms.kept hg (own_apart h.ms ho (by decide)),?_⟩
 refine h.note.kept (S:=fun k=>v.ownBlock = some k) ⟨hg.os,hg.tape,hg.output,hg.size,fun k hk hS=>hg.block k hk (fun e=>hS e.symm)⟩ (fun k hk _ cur' fr e=>?_)
 have hk' : v.ownBlock = some k:=hk
 rcases ho.2 with ⟨e1,_⟩ | ⟨g,cap,cur2,e1,_,hgg,_⟩
 ·rw [e1] at hk'; cases hk'
 ·rw [e1] at hk'
  obtain rfl : g = k:=by simpa [Value.ownBlock] using hk'
  rw [hgg] at e; injection e with e; injection e with _ h3; exact absurd h3 (by decide)
theorem RcsO.push {A' : Option Addr} {c' : Nat} {x : RS} {tmp : Obj} (h : RcsO w base A c l) (hx : RecO w x.r x.A x.c x.D x.d x.N x.n)
  (hown : w'.ownsRow base 28 5 (.slice A' (l.length + 1) c') (l.length + 1) (flatR l ++ x.cells)) (hg : (w.alloc tmp).grownBy w' (Value.slice A l.length c).ownBlock) : RcsO w' base A' c' (l ++ [x]):=by
 have hb : Below w.heap.size w (w.alloc tmp):=(Below.refl _ _).alloc (Nat.le_refl _) _
 refine ⟨?_,fun y hy=>?_⟩
 ·unfold flatR
  rw [List.length_append,List.flatMap_append]
  simpa [flatR] using hown
 ·have hy' : RecO w y.r y.A y.c y.D y.d y.N y.n:=by
   rcases List.mem_append.1 hy with hy | hy
   ·exact h.each y hy
   ·simp at hy; subst hy; exact hx
  exact (hy'.below0 hb).grown (h.own.alloc tmp) hg
end
structure Tiny (r : Rec) : Prop where
 ws : r.ws.length ≤ 1000000
 ms : r.ms.length ≤ 1000000
 note : r.note.length ≤ 1000000
theorem info_rec : (Tryz.prog.info? 28).map (fun i=>(i.zero,i.size,i.bytes)) = some (some (.agg #[.int .u64 0,.int .u64 0,.slice none 0 0,.slice none 0 0,.slice none 0 0]),5,88):=by kernel_rfl
end Go.Proofs.YtaggiceejcegdaaGreat
namespace Go.Proofs.YtaggiceejcegdaaGreat
set_option linter.unusedVariables false
open Go.RowKit
def LogG (l : List Rec) (gen : Nat) : Prop:=∀ i (hi : i < l.length),validR l[i] = true ∧ l[i].gen = gen ∧ l[i].seq = i + 1
theorem scan_G {l : List Rec} {gen : Nat} (hv : LogG l gen) (hok : ∀ r ∈ l,r.Ok) (tail : List (List Int)) : ∀ k,k ≤ l.length → scanS (secsL l ++ tail) gen k = (l.take k,(secsL (l.take k)).length)
 | 0,_=>rfl
 | k + 1,hk=>by
   have hk' : k < l.length:=by omega
   have ih:=scan_G hv hok tail k (by omega)
   have hsp : (secsL l ++ tail).drop (secsL (l.take k)).length = encR l[k] ++ (secsL (l.drop (k + 1)) ++ tail):=by
    have e : secsL l = secsL (l.take k) ++ (encR l[k] ++ secsL (l.drop (k + 1))):=by
     conv=>lhs; rw [← List.take_append_drop k l,secsL_app,List.drop_eq_getElem_cons hk']
     unfold secsL
     rw [List.flatMap_cons]
    rw [e,List.append_assoc,List.drop_left,List.append_assoc]
   obtain ⟨h1,h2,h3⟩:=hv k hk'
   have hd:=dec_enc h1 (hok _ (List.getElem_mem hk')) (secsL (l.drop (k + 1)) ++ tail)
   have hst : stepOk (secsL l ++ tail) gen (secsL (l.take k)).length (l.take k).length = true:=by
    rw [stepOk_iff,hsp,hd]
    refine ⟨rfl,h2,?_⟩
    rw [List.length_take]
    show l[k].seq = _
    rw [h3]; omega
   rw [scan_next ih hst]
   simp only
   rw [hsp,hd]
   simp only
   rw [secsL_take hk',List.length_append,List.take_succ_eq_append_getElem hk']
theorem scan_Gb {l : List Rec} {gen : Nat} (hv : LogG l gen) (hok : ∀ r ∈ l,r.Ok) (tail : List (List Int)) (ht : stepOk tail gen 0 l.length = false) : scanD (secsL l ++ tail) gen = (l,(secsL l).length):=by
 have h:=scan_G hv hok tail l.length (Nat.le_refl _)
 rw [List.take_length] at h
 refine scan_fin h rfl ?_
 simp only
 unfold stepOk at ht ⊢
 rw [List.drop_left]
 rw [List.drop_zero] at ht
 exact ht
def cutL (ls : List (List Int)) (k : Nat) (lose : Bool) : List (List Int):=if lose then ls.set k [] else ls.take k
def fitB (area used : Int) (r : Rec) : Bool:=validR r && decide (0 ≤ area) && decide (0 ≤ used) && decide (used ≤ area) && decide (((encR r).length : Int) ≤ area - used)
structure LS where
 A : Option Addr
 l : List RS
 c : Nat
def LS.v (x : LS) : Value:=.slice x.A x.l.length x.c
structure LgsR (w : World) (B : Nat) (A : Option Addr) (ls : List LS) : Prop where
 rd : Rd w B A (ls.map LS.v)
 each : ∀ x ∈ ls,RcsR w B x.A x.l
def noLog : LS:=⟨none,[],0⟩
def better (b x : LS) : Bool:=logV (x.l.map RS.r) && decide (b.l.length < x.l.length)
def joinS (ls : List LS) : LS:=ls.foldl (fun b x=>if better b x then x else b) noLog
end Go.Proofs.YtaggiceejcegdaaGreat
namespace Go.Proofs.YtaggiceejcegdaaGreat
set_option linter.unusedVariables false
open Go.RowKit
def fewL (l : List Rec) : Bool:=l.all shortR && decide (l.length ≤ 20)
def lrgL (ls : List (List Int)) : Bool:=ls.any (fun b=>decide (200 < b.length)) || decide (120 < ls.length)
def nextN (len gen : Nat) : Nat:=if 4294967296 ≤ gen ∨ 4294967295 ≤ len then 0 else gen * 4294967296 + len + 1
end Go.Proofs.YtaggiceejcegdaaGreat
namespace Go.Proofs.YtaggiceejcegdaaGreat
set_option linter.unusedVariables false
open Go.RowKit
set_option maxRecDepth 100000 in
theorem next_any (n : Nat) (hn : n ≤ 9223372036854775807) (gen : Nat) (hg : gen < 2 ^ 64) (A : Option Addr) (c : Nat) (w : World) :
  Calls Tryz.prog 65 #[.slice A n c,.int .u64 gen] w fun e w'=>e = .returned (.int .u64 (nextN n gen : Nat)) ∧ w' = w:=by
 have hgb : gen ≤ 18446744073709551615:=by omega
 clear hg
 by_cases h1 : 4294967296 ≤ gen
 ·have HD : Hid (nextN n gen = 0):=by unfold Hid nextN; rw [if_pos (.inl h1)]
  go_enter Tryz.func65,Tryz.ntmps65
  go_wp2
  go_ret
  exact ⟨by rw [HD.out]; rfl,rfl⟩
 ·by_cases h2 : 4294967295 ≤ n
  ·have HD : Hid (nextN n gen = 0):=by unfold Hid nextN; rw [if_pos (.inr h2)]
   go_enter Tryz.func65,Tryz.ntmps65
   go_wp2
   go_ret
   exact ⟨by rw [HD.out]; rfl,rfl⟩
  ·have HD : Hid (nextN n gen = gen * 4294967296 + n + 1):=by unfold Hid nextN; rw [if_neg (by omega)]
   go_enter Tryz.func65,Tryz.ntmps65
   go_wp2
   go_ret
   exact ⟨by rw [HD.out]; first | rfl | (simp; done),rfl⟩
end Go.Proofs.YtaggiceejcegdaaGreat
namespace Go.Proofs.YtaggiceejcegdaaGreat
set_option linter.unusedVariables false
open Go.RowKit
theorem hd_get {l : List Rec} (h : 0 < l.length) : l.headD zRec = l[0]:=by cases l with | nil=>simp at h | cons a l=>rfl
set_option maxRecDepth 100000 in
set_option maxHeartbeats 4000000 in
theorem logv_any (l : List RS) (ht : ∀ x ∈ l,Tiny x.r) (A : Option Addr) (c : Nat) (w : World) (h : RcsR w w.heap.size A l) (hl : l.length ≤ 1000000) :
  Calls Tryz.prog 79 #[.slice A l.length c] w fun e w'=>e = .returned (.bool (logV (l.map RS.r))) ∧ Below w.heap.size w w':=by
 have HH:=Lib.hid h
 have HT:=Lib.hid ht
 clear h ht
 go_enter Tryz.func79,Tryz.ntmps79
 go_wp2
 go_loopw [7] (fun i wr=>∃ k : Nat,k ≤ l.length ∧ i = .int .i64 k ∧ Hid ((List.range k).all (okAt (l.map RS.r)) = true) ∧ Hid (Below w.heap.size w wr)) (fun i _=>l.length - (intOf i).toNat)
 case atStart=>exact ⟨0,Nat.zero_le _,rfl,rfl,Below.refl _ _⟩
 case round=>
  obtain ⟨k,hk,rfl,HAL,HBR⟩:=hrel
  by_cases hlt : k < l.length
  ·have hxl : k < (l.map RS.r).length:=by simpa using hlt
   have h0l : 0 < l.length:=by omega
   have h0m : 0 < (l.map RS.r).length:=by simpa using h0l
   have hok:=okAt_get hxl
   rw [hd_get h0m] at hok
   simp only [List.getElem_map] at hok
   have hrx:=(HH.out.up HBR.out).each _ (List.getElem_mem hlt)
   have htx:=HT.out _ (List.getElem_mem hlt)
   obtain ⟨g1,o1,rfl,hg1,a0,a1,a2,a3,a4⟩:=(HH.out.up HBR.out).rd.rs hlt
   obtain ⟨g2,o2,he2,hg2,z0,_⟩:=(HH.out.up HBR.out).rd.rs h0l
   injection he2 with he2; injection he2 with he2 he3; subst he2; subst he3
   rw [Nat.zero_mul,Nat.add_zero] at z0
   generalize l[0].r.gen = G at *
   generalize l[k] = x at *
   have hno : okAt (l.map RS.r) k = false → logV (l.map RS.r) = false:=logV_no hxl
   have hyes : okAt (l.map RS.r) k = true → (List.range (k + 1)).all (okAt (l.map RS.r)) = true:=range_all HAL.out
   have HNO:=Lib.hid hno
   have HYE:=Lib.hid hyes
   have HOK:=Lib.hid hok
   have hbx : Below wr.heap.size wr (wr.alloc (.cells #[.int .u64 x.r.gen,.int .u64 x.r.seq,.slice x.A x.r.ws.length x.c,.slice x.D x.r.ms.length x.d,.slice x.N x.r.note.length x.n] 28)):=(Below.refl _ _).alloc (Nat.le_refl _) _
   have HBW:=Lib.hid (HBR.out.trans (hbx.mono HBR.out.size))
   have PB:=(Cells5.new wr 28 (.int .u64 x.r.gen) (.int .u64 x.r.seq) (.slice x.A x.r.ws.length x.c) (.slice x.D x.r.ms.length x.d) (.slice x.N x.r.note.length x.n))
   have z1:=(hbx.cell (p:=⟨g1,o1,none⟩) hg1).trans z0
   have hzx : wr.heap.size < (wr.alloc (.cells #[.int .u64 x.r.gen,.int .u64 x.r.seq,.slice x.A x.r.ws.length x.c,.slice x.D x.r.ms.length x.d,.slice x.N x.r.note.length x.n] 28)).heap.size:=by simp
   have HRV:=Lib.hid (fun W (hW : Below (wr.alloc (.cells #[.int .u64 x.r.gen,.int .u64 x.r.seq,.slice x.A x.r.ws.length x.c,.slice x.D x.r.ms.length x.d,.slice x.N x.r.note.length x.n] 28)).heap.size (wr.alloc (.cells #[.int .u64 x.r.gen,.int .u64 x.r.seq,.slice x.A x.r.ws.length x.c,.slice x.D x.r.ms.length x.d,.slice x.N x.r.note.length x.n] 28)) W)=>rvalid_any x.r x.A x.D x.N x.c x.d x.n W ((hrx.up hbx).up hW) (by have:=htx.ws; omega) (by have:=htx.ms; omega) (by have:=htx.note; omega))
   have b0:=PB.c0; have b1:=PB.c1; have b2:=PB.c2; have b3:=PB.c3; have b4:=PB.c4
   clear hno hyes hok hrx htx hxl h0m hbx z0 PB
   go_wp2_with fail
   generalize (wr.alloc (.cells #[.int .u64 x.r.gen,.int .u64 x.r.seq,.slice x.A x.r.ws.length x.c,.slice x.D x.r.ms.length x.d,.slice x.N x.r.note.length x.n] 28)) = W1 at *
   have c0:=Held.cell b0 hzx; have c1:=Held.cell b1 hzx; have c2:=Held.cell b2 hzx; have c3:=Held.cell b3 hzx; have c4:=Held.cell b4 hzx
   have d0:=Held.cell z1 (Nat.lt_trans hg1 hzx)
   clear a0 a1 a2 a3 a4 b0 b1 b2 b3 b4 z1
   have eW0 : IntKind.u64.wrap (k : Int) = (k : Int):=by rw [IntKind.wrap_u64]; omega
   have eW1 : IntKind.u64.wrap ((k : Int) + 1) = (k : Int) + 1:=by rw [IntKind.wrap_u64]; omega
   obtain hv | hv : validR x.r = false ∨ validR x.r = true:=by cases validR x.r; exact .inl rfl; exact .inr rfl
   ·rw [hv] at HRV HOK
    clear hv
    have HD : Hid (logV (l.map RS.r) = false):=HNO.out (by rw [HOK.out]; rfl)
    have hne : Nonempty (Held (Below W1.heap.size W1)):=⟨⟨_,(Held.drew_below (Nat.le_refl _))⟩⟩
    refine wp_region_heldq (S:=(Below W1.heap.size W1)) (by kernel_rfl) (by kernel_rfl) (Held.drew_below (Nat.le_refl _)) ?_
    repeat (go_big_quiet_step ((go_at_call 83; exact Calls.held_below (Nat.le_refl _) (HRV.out _ (Held.h _)))))
    refine wpQuiet_nil ?_
    intro _ hw'
    obtain ⟨sq,hw''⟩:=hw'
    subst hw''
    clear hne
    go_wp2
    go_ret
    exact ⟨by rw [HD.out]; rfl,HBW.out.trans (sq.h.mono HBW.out.size)⟩
   ·rw [hv] at HRV HOK
    clear hv
    by_cases hg : x.r.gen = G
    ·have hge : ((x.r.gen : Int) != (G : Int)) = false:=by simp; omega
     by_cases hs : x.r.seq = k + 1
     ·have hse : ((x.r.seq : Int) != (k : Int) + 1) = false:=by simp; omega
      have HT2 : Hid ((List.range (k + 1)).all (okAt (l.map RS.r)) = true):=HYE.out (by rw [HOK.out,decide_eq_true hg,decide_eq_true hs]; rfl)
      clear hg hs
      have hne : Nonempty (Held (Below W1.heap.size W1)):=⟨⟨_,(Held.drew_below (Nat.le_refl _))⟩⟩
      refine wp_region_heldq (S:=(Below W1.heap.size W1)) (by kernel_rfl) (by kernel_rfl) (Held.drew_below (Nat.le_refl _)) ?_
      repeat (go_big_quiet_step ((go_at_call 83; exact Calls.held_below (Nat.le_refl _) (HRV.out _ (Held.h _)))))
      refine wpQuiet_nil ?_
      intro _ hw'
      obtain ⟨sq,hw''⟩:=hw'
      subst hw''
      clear hne
      have HB2:=Lib.hid (HBW.out.trans (sq.h.mono HBW.out.size))
      clear c0 c1 c2 c3 c4 d0 eW0 eW1
      go_wp2
      go_roundw
      case rel=>exact ⟨k + 1,hlt,by go_num,HT2,HB2⟩
      case measure=>simp [intOf]; omega
     ·have hse : ((x.r.seq : Int) != (k : Int) + 1) = true:=by simp; omega
      have hf : okAt (l.map RS.r) k = false:=by rw [HOK.out,decide_eq_false hs]; simp
      clear hg hs
      have HD : Hid (logV (l.map RS.r) = false):=HNO.out hf
      have hne : Nonempty (Held (Below W1.heap.size W1)):=⟨⟨_,(Held.drew_below (Nat.le_refl _))⟩⟩
      refine wp_region_heldq (S:=(Below W1.heap.size W1)) (by kernel_rfl) (by kernel_rfl) (Held.drew_below (Nat.le_refl _)) ?_
      repeat (go_big_quiet_step ((go_at_call 83; exact Calls.held_below (Nat.le_refl _) (HRV.out _ (Held.h _)))))
      refine wpQuiet_nil ?_
      intro _ hw'
      obtain ⟨sq,hw''⟩:=hw'
      subst hw''
      clear hne
      go_wp2
      go_ret
      exact ⟨by rw [HD.out]; rfl,HBW.out.trans (sq.h.mono HBW.out.size)⟩
    ·have hge : ((x.r.gen : Int) != (G : Int)) = true:=by simp; omega
     have hf : okAt (l.map RS.r) k = false:=by rw [HOK.out,decide_eq_false hg]; simp
     clear hg
     have HD : Hid (logV (l.map RS.r) = false):=HNO.out hf
     have hne : Nonempty (Held (Below W1.heap.size W1)):=⟨⟨_,(Held.drew_below (Nat.le_refl _))⟩⟩
     refine wp_region_heldq (S:=(Below W1.heap.size W1)) (by kernel_rfl) (by kernel_rfl) (Held.drew_below (Nat.le_refl _)) ?_
     repeat (go_big_quiet_step ((go_at_call 83; exact Calls.held_below (Nat.le_refl _) (HRV.out _ (Held.h _)))))
     refine wpQuiet_nil ?_
     intro _ hw'
     obtain ⟨sq,hw''⟩:=hw'
     subst hw''
     clear hne
     go_wp2
     go_ret
     exact ⟨by rw [HD.out]; rfl,HBW.out.trans (sq.h.mono HBW.out.size)⟩
  ·obtain rfl : k = l.length:=by omega
   have HD : Hid (logV (l.map RS.r) = true):=by unfold Hid logV; rw [List.length_map]; exact HAL.out
   go_wp2
   go_ret
   exact ⟨by rw [HD.out]; rfl,HBR.out⟩
end Go.Proofs.YtaggiceejcegdaaGreat
namespace Go.Proofs.YtaggiceejcegdaaGreat
set_option linter.unusedVariables false
open Go.RowKit
def secE (l : List Rec) : Int:=if logV l then 0 else 1
def secLs (l : List Rec) : List (List Int):=if logV l then secsL l else []
def SecPost (w : World) (l : List Rec) (e : Ending) (w' : World) : Prop:=∃ A c ss,e = .returned (.tuple #[.slice A ss.length c,.int .i64 (secE l)]) ∧ ss.map Sl.xs = secLs l ∧ SlsO w' w.heap.size A c ss ∧ Below w.heap.size w w'
theorem SlsO.app {w w' : World} {base b2 : Nat} {A A' A2 : Option Addr} {c c' c2 : Nat} {ss tt : List Sl} (h : SlsO w base A c ss) (k : SlsO w b2 A2 c2 tt) (hb : base ≤ b2)
  (hown : w'.ownsRow base 26 1 (.slice A' (ss.length + tt.length) c') (ss.length + tt.length) (ss.map Sl.v ++ tt.map Sl.v)) (hg : w.grownBy w' (Value.slice A ss.length c).ownBlock) : SlsO w' base A' c' (ss ++ tt):=by
 refine ⟨?_,fun t ht=>?_⟩
 ·rw [List.length_append,List.map_append]; exact hown
 ·have ht' : w.ownsRow base 5 1 t.v t.xs.length (t.xs.map (Value.int .u8)):=by
   rcases List.mem_append.1 ht with ht | ht
   ·exact h.each t ht
   ·exact own_mono (k.each t ht) hb
  exact ht'.kept hg (own_apart ht' h.own (by decide))
theorem sls_one (ss : List Sl) : ∀ u ∈ ss.map Sl.v,u.oneCell' = true:=fun u hu=>by
 obtain ⟨s,_,rfl⟩:=List.mem_map.1 hu
 rfl
theorem encR_pos' (r : Rec) : 0 < (encR r).length:=by rw [encR_len]; have:=payR_pos r; unfold nCh; omega
set_option maxRecDepth 100000 in
set_option maxHeartbeats 4000000 in
theorem sectors_any (l : List RS) (ht : ∀ x ∈ l,Tiny x.r) (hok : ∀ x ∈ l,x.r.Ok) (A : Option Addr) (c : Nat) (w : World) (h : RcsR w w.heap.size A l) (hl : l.length ≤ 1000) :
  Calls Tryz.prog 47 #[.slice A l.length c] w (SecPost w (l.map RS.r)):=by
 have HH:=Lib.hid h
 have HT:=Lib.hid ht
 have HK:=Lib.hid hok
 have HV:=Lib.hid (logv_any l ht A c w h (by omega))
 obtain ⟨i0,hi0,hz0,hz1,hz2⟩:=info_parts info_sl
 clear h ht hok
 obtain hs | hs : logV (l.map RS.r) = false ∨ logV (l.map RS.r) = true:=by cases logV (l.map RS.r); exact .inl rfl; exact .inr rfl
 ·have HE : Hid (secE (l.map RS.r) = 1 ∧ secLs (l.map RS.r) = []):=by unfold Hid secE secLs; rw [hs]; exact ⟨rfl,rfl⟩
  rw [hs] at HV
  clear hs
  go_enter Tryz.func47,Tryz.ntmps47
  go_wp2_with fail
  refine HV.out.mono ?_
  rintro e w1 ⟨rfl,hb1⟩
  go_wp2
  go_ret2
  exact ⟨none,0,[],by rw [HE.out.1]; rfl,by rw [HE.out.2]; rfl,⟨World.ownsRow_nil _ _ _ _,by simp⟩,hb1⟩
 ·have HE : Hid (secE (l.map RS.r) = 0 ∧ secLs (l.map RS.r) = secsL (l.map RS.r)):=by unfold Hid secE secLs; rw [hs]; exact ⟨rfl,rfl⟩
  have HLV:=Lib.hid hs
  rw [hs] at HV
  clear hs
  go_enter Tryz.func47,Tryz.ntmps47
  go_wp2_with fail
  refine HV.out.mono ?_
  rintro e w1 ⟨rfl,hb1⟩
  have HB1:=Lib.hid hb1
  clear hb1 HV
  go_wp2
  go_loopw [4,14] (fun o i wr=>∃ (k : Nat) (ss : List Sl) (DA : Option Addr) (dc : Nat),k ≤ l.length ∧ i = .int .i64 k ∧ o = .slice DA ss.length dc ∧ Hid (ss.map Sl.xs = secsL ((l.map RS.r).take k)) ∧ Hid (SlsO wr w.heap.size DA dc ss) ∧ Hid (Below w.heap.size w wr)) (fun _ i _=>l.length - (intOf i).toNat)
  case atStart=>exact ⟨0,[],none,0,Nat.zero_le _,rfl,rfl,rfl,⟨World.ownsRow_nil _ _ _ _,by simp⟩,HB1.out⟩
  case round=>
   obtain ⟨k,ss,DA,dc,hk,rfl,rfl,HSE,HSO,HBR⟩:=hrel
   by_cases hlt : k < l.length
   ·have hxl : k < (l.map RS.r).length:=by simpa using hlt
    have hxe : (l.map RS.r)[k] = l[k].r:=by simp
    have htk:=HT.out _ (List.getElem_mem hlt)
    have hokk:=HK.out _ (List.getElem_mem hlt)
    have hvk:=(logV_at HLV.out hxl).1
    have hrx:=(HH.out.up HBR.out).each _ (List.getElem_mem hlt)
    have HSN : Hid (secsL ((l.map RS.r).take (k + 1)) = secsL ((l.map RS.r).take k) ++ encR l[k].r):=by unfold Hid; rw [secsL_take hxl,hxe]
    have hsl : ss.length ≤ k * 4096:=by
     have h1:=secsL_len (l:=(l.map RS.r).take k) (fun r hr=>logV_mem HLV.out r (List.mem_of_mem_take hr))
     rw [← HSE.out,List.length_map,List.length_take] at h1
     have h2 : min k (l.map RS.r).length ≤ k:=by omega
     have h3:=Nat.mul_le_mul_right 4096 h2
     omega
    rw [hxe] at hvk
    obtain ⟨g1,o1,rfl,hg1,a0,a1,a2,a3,a4⟩:=(HH.out.up HBR.out).rd.rs hlt
    generalize l[k] = x at *
    have hbx : Below wr.heap.size wr (wr.alloc (.cells #[.int .u64 x.r.gen,.int .u64 x.r.seq,.slice x.A x.r.ws.length x.c,.slice x.D x.r.ms.length x.d,.slice x.N x.r.note.length x.n] 28)):=(Below.refl _ _).alloc (Nat.le_refl _) _
    have HEN:=Lib.hid (encode_any x.r hokk x.A x.D x.N x.c x.d x.n (wr.alloc (.cells #[.int .u64 x.r.gen,.int .u64 x.r.seq,.slice x.A x.r.ws.length x.c,.slice x.D x.r.ms.length x.d,.slice x.N x.r.note.length x.n] 28)) (hrx.up hbx) (by have:=htk.ws; omega) (by have:=htk.ms; omega) (by have:=htk.note; omega))
    have HEL : Hid (encL x.r = encR x.r):=by unfold Hid encL; rw [if_pos hvk]
    have HEM : Hid ((encR x.r).length ≤ 4096):=by unfold Hid; rw [encR_len]; exact nCh_le (payR_len (validR_vld hvk))
    have HBX:=Lib.hid hbx
    clear hxl hxe htk hokk hvk hrx hbx
    go_wp2_with fail
    refine HEN.out.mono ?_
    rintro e w2 ⟨A2,c2,tt,rfl,htt,ho2,hb2⟩
    rw [HEL.out] at htt
    have htl : tt.length = (encR x.r).length:=by rw [← htt,List.length_map]
    have hmx:=HEM.out
    have hpos : 0 < tt.length:=by rw [htl]; exact encR_pos' x.r
    obtain ⟨g2,rfl,hg2,hg2z⟩:=own_at ho2.own hpos
    have hb2x:=HBX.out.trans (hb2.mono HBX.out.size)
    have HB2:=Lib.hid (HBR.out.trans (hb2x.mono HBR.out.size))
    have HO2:=Lib.hid (ho2.mono (HBR.out.trans (HBX.out.mono HBR.out.size)).size)
    have HSO2:=Lib.hid (HSO.out.below hb2x)
    have HTT:=Lib.hid htt
    have hbz:=HB2.out.size
    rw [← htl] at hmx
    have hkk : k * 4096 ≤ 1000 * 4096:=Nat.mul_le_mul_right _ (by omega)
    clear htt ho2 hb2 hb2x htl HEN a0 a1 a2 a3 a4 HEM
    go_wp2_with (at_builtin; go_loud (refine wpList_append_own _ rfl _ _ 49 rfl w.heap.size 26 i0 _ 1 24 Tryz.underlying49 hi0 hz0 hz1 hz2 rfl (by decide) (.slice DA ss.length dc) ss.length (ss.map Sl.v) rfl HSO2.out.own ⟨g2,0,none⟩ tt.length c2 (tt.map Sl.v) rfl (by simp) (HO2.out.rd.rd.qat_add) (sls_one tt) ?c1 ?c2 ?c3 ?_))
    case c1=>unfold maxLen; omega
    case c2=>omega
    case c3=>first | omega | (simp; omega)
    intro v' w9 hown hgrow hiff
    obtain ⟨DA',dc',hv⟩:=own_form hown
    subst hv
    have HSO9 : Hid (SlsO w9 w.heap.size DA' dc' (ss ++ tt)):=SlsO.app HSO2.out HO2.out (Nat.le_refl _) hown hgrow
    have HB9 : Hid (Below w.heap.size w w9):=HB2.out.grown hgrow hbz (fun k hk=>own_low HSO2.out.own hk)
    clear hown hgrow hiff hkk
    go_wp2
    go_roundw
    case rel=>exact ⟨k + 1,ss ++ tt,DA',dc',hlt,by go_num,by rw [List.length_append],by unfold Hid; rw [List.map_append,HSE.out,HTT.out,HSN.out],HSO9,HB9⟩
    case measure=>simp [intOf]; omega
   ·obtain rfl : k = l.length:=by omega
    go_wp2
    go_ret2
    exact ⟨DA,dc,ss,by rw [HE.out.1]; rfl,by rw [HE.out.2,HSE.out,show l.length = (l.map RS.r).length by simp,List.take_length],HSO.out,HBR.out⟩
end Go.Proofs.YtaggiceejcegdaaGreat
namespace Go.Proofs.YtaggiceejcegdaaGreat
set_option linter.unusedVariables false
open Go.RowKit
theorem kept5 (w : World) (b : Nat) (v0 v1 v2 v3 v4 : Value) : Kept (fun k=>k = b) w (((((w.setCell ⟨b,0,none⟩ v0).setCell ⟨b,1,none⟩ v1).setCell ⟨b,2,none⟩ v2).setCell ⟨b,3,none⟩ v3).setCell ⟨b,4,none⟩ v4):=by
 repeat' apply Kept.setCell
 all_goals first | exact Kept.refl _ _ | exact fun _=>rfl
theorem below5 {w w3 : World} {B b : Nat} (h : Below B w w3) (hb : B ≤ b) (v0 v1 v2 v3 v4 : Value) : Below B w (((((w3.setCell ⟨b,0,none⟩ v0).setCell ⟨b,1,none⟩ v1).setCell ⟨b,2,none⟩ v2).setCell ⟨b,3,none⟩ v3).setCell ⟨b,4,none⟩ v4):=((((h.setCell (p:=⟨b,0,none⟩) hb v0).setCell (p:=⟨b,1,none⟩) hb v1).setCell (p:=⟨b,2,none⟩) hb v2).setCell (p:=⟨b,3,none⟩) hb v3).setCell (p:=⟨b,4,none⟩) hb v4
theorem Kept.drewR {S : Nat → Prop} {w w' : World} (h : Kept S w w') : Kept S w w'.drew:=⟨h.os,h.tape,h.output,h.size,h.block⟩
theorem kept5d (w : World) (b : Nat) (v0 v1 v2 v3 v4 : Value) : Kept (fun k=>k = b) w ((((((w.setCell ⟨b,0,none⟩ v0).setCell ⟨b,1,none⟩ v1).setCell ⟨b,2,none⟩ v2).setCell ⟨b,3,none⟩ v3).setCell ⟨b,4,none⟩ v4)).drew:=(kept5 w b v0 v1 v2 v3 v4).drewR
theorem below5d {w w3 : World} {B b : Nat} (h : Below B w w3) (hb : B ≤ b) (v0 v1 v2 v3 v4 : Value) : Below B w ((((((w3.setCell ⟨b,0,none⟩ v0).setCell ⟨b,1,none⟩ v1).setCell ⟨b,2,none⟩ v2).setCell ⟨b,3,none⟩ v3).setCell ⟨b,4,none⟩ v4)).drew:=(below5 h hb v0 v1 v2 v3 v4).drew
theorem ParM.final {w0 wr w' : World} {ty : TypeId} {q ko kr : Nat} {rd : Rdr} {r : Rec} {A D N : Option Addr} {c d n : Nat} {cur : Array Value} (h : ParM w0 wr ty q ko rd r A c D d N n) (hk : Kept (fun k=>k = kr) wr w') (hr : wr.heap[kr]? = some (.cells cur 28 (0,0))) : RecO w' r A c D d N n:=
 ⟨own_mono (own_kept h.ws hk (own_ne h.ws hr (by decide))) (Nat.zero_le _),own_mono (own_kept h.ms hk (own_ne h.ms hr (by decide))) (Nat.zero_le _),h.note.kept hk (free4 hr (by decide))⟩
theorem blk_len (r : Rdr) : r.blk.1.length = 8:=by
 unfold Rdr.blk
 by_cases h : (r.take 8).2.1 = 0
 ·show (if _ then _ else _ : List Int).length = 8
  rw [if_pos h]
  unfold Rdr.take at h ⊢
  by_cases hc : r.bad = true ∨ r.rest.length < 8
  ·rw [if_pos hc] at h; exact absurd h (by decide)
  ·rw [if_neg hc]; show (List.take 8 _).length = 8; rw [List.length_take]; omega
 ·show (if _ then _ else _ : List Int).length = 8
  rw [if_neg h]; rfl
theorem info_pw : (Tryz.prog.info? 151).map (fun i=>(i.zero,i.size,i.bytes)) = some (some (.agg #[.int .i64 0,.int .i64 0,.int .u64 0,.int .u8 0,.int .u8 0,.int .u8 0,.int .u8 0,.int .u8 0,.int .u8 0,.int .u8 0,.int .u8 0]),11,32):=by kernel_rfl
theorem info_mv : (Tryz.prog.info? 156).map (fun i=>(i.zero,i.size,i.bytes)) = some (some (.agg #[.int .i64 0,.int .i64 0,.int .i64 0,.int .i64 0]),4,32):=by kernel_rfl
end Go.Proofs.YtaggiceejcegdaaGreat
