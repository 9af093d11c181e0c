/-
  WHAT IS SHOWN: more: a block is equal to itself. what Same of tegularef27 returns for a record and itself. plain facts: lists of records in memory. plain facts on logs: what Scan reads from the sectors of a log that are cut, or of which one is lost; the longest log; what fits. what SameAll of tegularef27 returns for equal lists; what few and large of tegulalaw28, Next of logarea and of tegularef28 return. plain facts on the memory of a record that is being read, once more. Conditions: as each theorem names them.
-/
import Derived.Test.YtaggiceejcegdaaGreatNc35
import Derived.BigQuiet
import Derived.ChangeKeysEq
import Derived.ChangeOld
import Derived.Deep.AppendLies
import Derived.Deep.DeepCutAuto
import Derived.Deep.Draws
import Derived.Deep.Fields
import Derived.Deep.QuietTactic
import Derived.Deep.RegionHeld3
import Derived.Deep.RegionLaw
import Derived.Deep.Slices
import Derived.Handy
import Derived.Laws.AppendOwnNone
import Derived.Laws.BytesArg
import Derived.Laws.Cover3
import Derived.Laws.MakeOwn
import Derived.Laws.OwnMore
import Derived.Laws.Rows
import Derived.Lib.ConvBytes
import Derived.Lib.Hide
import Derived.Lib.SmallJoins
import Derived.Lib.VarintBits
import Derived.Lib.Zigzag
import Derived.LoopIn
import Derived.LoopNIn
import Derived.Maps.AppendAt
import Derived.OpenShut
import Derived.OwnWalkIn
import Derived.ProofKit
import Derived.RangeFuncBox
import Derived.RangeFuncLeaves
import Derived.Shelf.Abstract
import Derived.Sort.QuietIn
import Derived.TacticsInMore
import Derived.WalkKit
import Derived.WalkLawsBesides
import Derived.WalkMore
import Derived.WalkSpells
import Derived.Test.YtaggiceejcegdaaGreatOe01
import Derived.Test.YtaggiceejcegdaaGreatOe02
import Derived.Test.YtaggiceejcegdaaGreatOe03
namespace Go.Proofs.YtaggiceejcegdaaGreat
set_option linter.unusedVariables false
open Go.RowKit
theorem blk_eq (W : World) (d0 d1 d2 d3 d4 d5 d6 d7 : Int) : (Op.equalIn 9999 149 (.agg #[.int .u8 d0,.int .u8 d1,.int .u8 d2,.int .u8 d3,.int .u8 d4,.int .u8 d5,.int .u8 d6,.int .u8 d7]) (.agg #[.int .u8 d0,.int .u8 d1,.int .u8 d2,.int .u8 d3,.int .u8 d4,.int .u8 d5,.int .u8 d6,.int .u8 d7])).run Tryz.prog W = .ok true W:=by
 obtain ⟨i0,hi,hz0,hz1,hz2⟩:=info_parts qinfo_u8
 have hc : Tryz.prog.cellsOf 5 = 1:=by kernel_rfl
 have hr : List.range 8 = [0,1,2,3,4,5,6,7]:=rfl
 rw [show (9999 : Nat) = 9998 + 1 from rfl,run_equalIn_array W 9998 _ _ Tryz.underlying149 hi,hc,hr]
 simp [Op.eqItems,part,go_sem,Tryz.underlying5]
end Go.Proofs.YtaggiceejcegdaaGreat
namespace Go.Proofs.YtaggiceejcegdaaGreat
set_option linter.unusedVariables false
open Go.RowKit
set_option maxRecDepth 100000 in
set_option maxHeartbeats 2000000 in
theorem same_rec (r : Rec) (A D N A' D' N' : Option Addr) (c d n c' d' n' : Nat) (w : World) (h : RecR w w.heap.size r A c D d N n) (h' : RecR w w.heap.size r A' c' D' d' N' n') (hw : r.ws.length ≤ 1000000) (hm : r.ms.length ≤ 1000000) (hn : r.note.length ≤ 1000000) :
  Calls Tryz.prog 66 #[.agg #[.int .u64 r.gen,.int .u64 r.seq,.slice A r.ws.length c,.slice D r.ms.length d,.slice N r.note.length n],.agg #[.int .u64 r.gen,.int .u64 r.seq,.slice A' r.ws.length c',.slice D' r.ms.length d',.slice N' r.note.length n']] w fun e w'=>e = .returned (.bool true) ∧ Below w.heap.size w w':=by
 have HH:=Lib.hid h
 have HH':=Lib.hid h'
 clear h h'
 have hb0 : Below w.heap.size w ((w.alloc (.cells #[.int .u64 r.gen,.int .u64 r.seq,.slice A r.ws.length c,.slice D r.ms.length d,.slice N r.note.length n] 28)).alloc (.cells #[.int .u64 r.gen,.int .u64 r.seq,.slice A' r.ws.length c',.slice D' r.ms.length d',.slice N' r.note.length n'] 28)):=((Below.refl _ _).alloc (Nat.le_refl _) _).alloc (by simp) _
 have hv1:=qconv_bytes n (HH.out.note.below hb0 (Nat.le_refl _))
 have hv2:=qconv_bytes n' (HH'.out.note.below hb0 (Nat.le_refl _))
 have hp:=Cells5.below (Cells5.new w 28 (.int .u64 r.gen) (.int .u64 r.seq) (.slice A r.ws.length c) (.slice D r.ms.length d) (.slice N r.note.length n)) (((Below.refl (w.heap.size + 1) _).alloc (by simp) (.cells #[.int .u64 r.gen,.int .u64 r.seq,.slice A' r.ws.length c',.slice D' r.ms.length d',.slice N' r.note.length n'] 28))) (by omega : w.heap.size < w.heap.size + 1)
 have hp' : Cells5 ((w.alloc (.cells #[.int .u64 r.gen,.int .u64 r.seq,.slice A r.ws.length c,.slice D r.ms.length d,.slice N r.note.length n] 28)).alloc (.cells #[.int .u64 r.gen,.int .u64 r.seq,.slice A' r.ws.length c',.slice D' r.ms.length d',.slice N' r.note.length n'] 28)) (w.heap.size + 1) (.int .u64 r.gen) (.int .u64 r.seq) (.slice A' r.ws.length c') (.slice D' r.ms.length d') (.slice N' r.note.length n'):=by
  have:=Cells5.new (w.alloc (.cells #[.int .u64 r.gen,.int .u64 r.seq,.slice A r.ws.length c,.slice D r.ms.length d,.slice N r.note.length n] 28)) 28 (.int .u64 r.gen) (.int .u64 r.seq) (.slice A' r.ws.length c') (.slice D' r.ms.length d') (.slice N' r.note.length n')
  rw [World.size_alloc] at this; exact this
 have hz : w.heap.size + 2 = ((w.alloc (.cells #[.int .u64 r.gen,.int .u64 r.seq,.slice A r.ws.length c,.slice D r.ms.length d,.slice N r.note.length n] 28)).alloc (.cells #[.int .u64 r.gen,.int .u64 r.seq,.slice A' r.ws.length c',.slice D' r.ms.length d',.slice N' r.note.length n'] 28)).heap.size:=by simp
 have HP:=Lib.hid hp
 have HP':=Lib.hid hp'
 have HB0:=Lib.hid hb0
 clear hp hp' hb0
 go_enter Tryz.func66,Tryz.ntmps66
 go_wp2
 generalize ((w.alloc (.cells #[.int .u64 r.gen,.int .u64 r.seq,.slice A r.ws.length c,.slice D r.ms.length d,.slice N r.note.length n] 28)).alloc (.cells #[.int .u64 r.gen,.int .u64 r.seq,.slice A' r.ws.length c',.slice D' r.ms.length d',.slice N' r.note.length n'] 28)) = W1 at *
 have HBW : Hid (∀ W,Below (w.heap.size + 2) W1 W → Below w.heap.size w W):=fun W hW=>HB0.out.trans (hW.mono (by omega))
 go_loopw [5] (fun i wr=>∃ k : Nat,k ≤ r.ws.length ∧ i = .int .i64 k ∧ Hid (Below (w.heap.size + 2) W1 wr)) (fun i _=>r.ws.length - (intOf i).toNat)
 case atStart=>exact ⟨0,Nat.zero_le _,rfl,Below.refl _ _⟩
 case round=>
  obtain ⟨k,hk,rfl,HBR⟩:=hrel
  have PA:=HP.out.below HBR.out (by omega)
  have PB:=HP'.out.below HBR.out (by omega)
  have q2:=PA.c2; have q3:=PA.c3; have r2:=PB.c2; have r3:=PB.c3
  clear PA PB
  by_cases hlt : k < r.ws.length
  ·obtain ⟨g1,o1,rfl,hg1,a0,a1,a2,a3,a4,a5,a6,a7,a8,a9,a10⟩:=(HH.out.ws.below (HBW.out _ HBR.out) (Nat.le_refl _)).pw hlt
   obtain ⟨g2,o2,rfl,hg2,b0,b1,b2,b3,b4,b5,b6,b7,b8,b9,b10⟩:=(HH'.out.ws.below (HBW.out _ HBR.out) (Nat.le_refl _)).pw hlt
   generalize r.ws[k] = x at *
   have hbe:=fun W : World=>blk_eq W x.d0 x.d1 x.d2 x.d3 x.d4 x.d5 x.d6 x.d7
   go_wp2
   go_quiet (fail)
   have HB2:=Lib.hid (below_drewN HBR.out nq)
   go_wp2
   go_roundw
   case rel=>exact ⟨k + 1,hlt,by go_num,HB2⟩
   case measure=>simp [intOf]; omega
  ·obtain rfl : k = r.ws.length:=by omega
   go_wp2
   go_loopw [6] (fun i wr=>∃ k : Nat,k ≤ r.ms.length ∧ i = .int .i64 k ∧ Hid (Below (w.heap.size + 2) W1 wr)) (fun i _=>r.ms.length - (intOf i).toNat)
   case atStart=>exact ⟨0,Nat.zero_le _,rfl,HBR⟩
   case round=>
    clear q2 q3 r2 r3
    rename World=>wa
    obtain ⟨k,hk,rfl,HBS⟩:=hrel
    have PA:=HP.out.below HBS.out (by omega)
    have PB:=HP'.out.below HBS.out (by omega)
    have q2:=PA.c2; have q3:=PA.c3; have r2:=PB.c2; have r3:=PB.c3
    clear PA PB
    by_cases hlt : k < r.ms.length
    ·obtain ⟨g1,o1,rfl,hg1,a0,a1,a2,a3⟩:=(HH.out.ms.below (HBW.out _ HBS.out) (Nat.le_refl _)).mv hlt
     obtain ⟨g2,o2,rfl,hg2,b0,b1,b2,b3⟩:=(HH'.out.ms.below (HBW.out _ HBS.out) (Nat.le_refl _)).mv hlt
     generalize r.ms[k] = x at *
     go_wp2
     go_quiet (fail)
     have HB2:=Lib.hid (below_drewN HBS.out nq)
     go_wp2
     go_roundw
     case rel=>exact ⟨k + 1,hlt,by go_num,HB2⟩
     case measure=>simp [intOf]; omega
    ·obtain rfl : k = r.ms.length:=by omega
     go_wp2
     go_ret
     exact ⟨rfl,HBW.out _ HBS.out⟩
end Go.Proofs.YtaggiceejcegdaaGreat
namespace Go.Proofs.YtaggiceejcegdaaGreat
set_option linter.unusedVariables false
open Go.RowKit
theorem flatR_len (l : List RS) : (flatR l).length = l.length * 5:=flat_len _ 5 (fun _=>rfl) l
section
variable {w w' : World} {B C base : Nat} {A : Option Addr} {c : Nat} {l : List RS}
theorem RcsO.rd (h : RcsO w base A c l) : RcsR w w.heap.size A l:=⟨Rd.of_own h.own,fun x hx=>(h.each x hx).rec_⟩
end
end Go.Proofs.YtaggiceejcegdaaGreat
namespace Go.Proofs.YtaggiceejcegdaaGreat
set_option linter.unusedVariables false
open Go.RowKit
theorem LogG.take {l : List Rec} {gen : Nat} (h : LogG l gen) (n : Nat) : LogG (l.take n) gen:=fun i hi=>by
 rw [List.length_take] at hi
 rw [List.getElem_take]
 exact h i (by omega)
end Go.Proofs.YtaggiceejcegdaaGreat
namespace Go.Proofs.YtaggiceejcegdaaGreat
set_option linter.unusedVariables false
open Go.RowKit
set_option maxRecDepth 100000 in
set_option maxHeartbeats 2000000 in
theorem sameall_any (la lb : List RS) (he : la.map RS.r = lb.map RS.r) (ht : ∀ x ∈ la,Tiny x.r) (A D : Option Addr) (c d : Nat) (w : World) (ha : RcsR w w.heap.size A la) (hb : RcsR w w.heap.size D lb) (hl : la.length ≤ 1000000) :
  Calls Tryz.prog 27 #[.slice A la.length c,.slice D lb.length d] w fun e w'=>e = .returned (.bool true) ∧ Below w.heap.size w w':=by
 have HA:=Lib.hid ha
 have HB:=Lib.hid hb
 have HT:=Lib.hid ht
 have hlen : lb.length = la.length:=by have:=congrArg List.length he; rw [List.length_map,List.length_map] at this; exact this.symm
 have HE:=Lib.hid he
 have HL:=Lib.hid hlen
 rw [hlen]
 clear ha hb ht he hlen
 go_enter Tryz.func27,Tryz.ntmps27
 go_wp2
 go_loopw [5] (fun i wr=>∃ k : Nat,k ≤ la.length ∧ i = .int .i64 k ∧ Hid (Below w.heap.size w wr)) (fun i _=>la.length - (intOf i).toNat)
 case atStart=>exact ⟨0,Nat.zero_le _,rfl,Below.refl _ _⟩
 case round=>
  obtain ⟨k,hk,rfl,HBR⟩:=hrel
  by_cases hlt : k < la.length
  ·have hlt2 : k < lb.length:=by rw [HL.out]; exact hlt
   have hx:=(HA.out.up HBR.out).each _ (List.getElem_mem hlt)
   have hy:=(HB.out.up HBR.out).each _ (List.getElem_mem hlt2)
   have hr : lb[k].r = la[k].r:=by
    have h1 : (la.map RS.r)[k]? = (lb.map RS.r)[k]?:=by rw [HE.out]
    rw [List.getElem?_map,List.getElem?_map,List.getElem?_eq_getElem hlt,List.getElem?_eq_getElem hlt2] at h1
    injection h1 with h1; exact h1.symm
   have htk:=HT.out _ (List.getElem_mem hlt)
   obtain ⟨g1,o1,rfl,hg1,a0,a1,a2,a3,a4⟩:=(HA.out.up HBR.out).rd.rs hlt
   obtain ⟨g2,o2,rfl,hg2,b0,b1,b2,b3,b4⟩:=(HB.out.up HBR.out).rd.rs hlt2
   rw [hr] at b0 b1 b2 b3 b4 hy
   generalize la[k] = x at *
   generalize lb[k] = y at *
   have HSA:=Lib.hid (fun W (hW : Below wr.heap.size wr W)=>same_rec x.r x.A x.D x.N y.A y.D y.N x.c x.d x.n y.c y.d y.n W (hx.up hW) (hy.up hW) htk.ws htk.ms htk.note)
   clear hx hy hr htk hlt2
   have c0:=Held.cell a0 hg1; have c1:=Held.cell a1 hg1; have c2:=Held.cell a2 hg1; have c3:=Held.cell a3 hg1; have c4:=Held.cell a4 hg1
   have d0:=Held.cell b0 hg2; have d1:=Held.cell b1 hg2; have d2:=Held.cell b2 hg2; have d3:=Held.cell b3 hg2; have d4:=Held.cell b4 hg2
   clear a0 a1 a2 a3 a4 b0 b1 b2 b3 b4
   go_wp2_with fail
   have hne : Nonempty (Held (Below wr.heap.size wr)):=⟨⟨_,(Held.drew_below (Nat.le_refl _))⟩⟩
   refine wp_region_heldq (S:=(Below wr.heap.size wr)) (by kernel_rfl) (by kernel_rfl) (Held.drew_below (Nat.le_refl _)) ?_
   repeat (go_big_quiet_step ((go_at_call 66; exact Calls.held_below (Nat.le_refl _) (HSA.out _ (Held.h _)))))
   refine wpQuiet_nil ?_
   intro _ hw'
   obtain ⟨sq,hw''⟩:=hw'
   subst hw''
   clear hne
   have HB2:=Lib.hid (HBR.out.trans (sq.h.mono HBR.out.size))
   clear HSA c0 c1 c2 c3 c4 d0 d1 d2 d3 d4
   go_wp2
   go_roundw
   case rel=>exact ⟨k + 1,hlt,by go_num,HB2⟩
   case measure=>simp [intOf]; omega
  ·obtain rfl : k = la.length:=by omega
   go_wp2
   go_ret
   exact ⟨rfl,HBR.out⟩
end Go.Proofs.YtaggiceejcegdaaGreat
namespace Go.Proofs.YtaggiceejcegdaaGreat
set_option linter.unusedVariables false
open Go.RowKit
theorem count_le {ty : TypeId} {w : World} {q : Nat} {r : Rdr} (h : RdrM ty w q r) (m : Nat) : (r.count m).1 ≤ m:=by
 unfold Rdr.count
 split
 ·exact Nat.zero_le _
 ·rename_i hc
  rcases (uint_fst h).2 with h2 | ⟨_,h2⟩
  ·by_cases hm : m < r.uint.1
   ·exact absurd ⟨h2,hm⟩ hc
   ·omega
  ·rw [h2]; exact Nat.zero_le _
theorem ParM.side {w0 wr w' : World} {ty : TypeId} {q ko kw : Nat} {rd : Rdr} {r : Rec} {A D N : Option Addr} {c d n : Nat} {cur : Array Value} {t : TypeId} (h : ParM w0 wr ty q ko rd r A c D d N n) (hk : Kept (fun k=>k = kw) wr w') (hb : wr.heap[kw]? = some (.cells cur t (0,0))) (ht : t ≠ 5) (hq : ¬ q = kw) (hko : ¬ ko = kw)
  (hw : ∀ k,(Value.slice A r.ws.length c).ownBlock = some k → ¬ k = kw) (hm : ∀ k,(Value.slice D r.ms.length d).ownBlock = some k → ¬ k = kw) (hB : w0.heap.size ≤ kw) : ParM w0 w' ty q ko rd r A c D d N n:=
 h.kept hk hq hko hw hm (free4 hb ht) (fun k hk=>by have hk' : k = kw:=hk; rw [hk']; exact hB)
theorem own_lt {w : World} {base : Nat} {e : TypeId} {s m : Nat} {v : Value} {xs : List Value} (h : w.ownsRow base e s v m xs) {k : Nat} (hk : v.ownBlock = some k) : k < w.heap.size:=by
 rcases h.2 with ⟨e1,_⟩ | ⟨g,cap,cur,e1,_,hg,_⟩
 ·rw [e1] at hk; cases hk
 ·rw [e1] at hk
  obtain rfl : g = k:=by simpa [Value.ownBlock] using hk
  exact lt_of_block hg
theorem cells11 {w : World} {b : Nat} {v0 v1 v2 v3 v4 v5 v6 v7 v8 v9 v10 : Value} {t : TypeId} (h : w.heap[b]? = some (.cells #[v0,v1,v2,v3,v4,v5,v6,v7,v8,v9,v10] t (0,0))) : w.cell? ⟨b,0,none⟩ = some v0 ∧ w.cell? ⟨b,1,none⟩ = some v1 ∧ w.cell? ⟨b,2,none⟩ = some v2 ∧ w.cell? ⟨b,3,none⟩ = some v3 ∧ w.cell? ⟨b,4,none⟩ = some v4 ∧ w.cell? ⟨b,5,none⟩ = some v5 ∧ w.cell? ⟨b,6,none⟩ = some v6 ∧ w.cell? ⟨b,7,none⟩ = some v7 ∧ w.cell? ⟨b,8,none⟩ = some v8 ∧ w.cell? ⟨b,9,none⟩ = some v9 ∧ w.cell? ⟨b,10,none⟩ = some v10 ∧ w.frozen? ⟨b,0,none⟩ = false ∧ w.frozen? ⟨b,1,none⟩ = false ∧ w.frozen? ⟨b,2,none⟩ = false ∧ w.frozen? ⟨b,3,none⟩ = false ∧ w.frozen? ⟨b,4,none⟩ = false ∧ w.frozen? ⟨b,5,none⟩ = false ∧ w.frozen? ⟨b,6,none⟩ = false ∧ w.frozen? ⟨b,7,none⟩ = false ∧ w.frozen? ⟨b,8,none⟩ = false ∧ w.frozen? ⟨b,9,none⟩ = false ∧ w.frozen? ⟨b,10,none⟩ = false:=by
 refine ⟨?_,?_,?_,?_,?_,?_,?_,?_,?_,?_,?_,?_,?_,?_,?_,?_,?_,?_,?_,?_,?_,?_⟩ <;> first | (simp [World.cell?,h]; done) | simp [World.frozen?,h]
theorem kept_one (w : World) (b i : Nat) (u : Value) : Kept (fun k=>k = b) w (w.setCell ⟨b,i,none⟩ u):=(Kept.refl (fun k=>k = b) w).setCell (p:=⟨b,i,none⟩) (fun _=>rfl) u
theorem kept8d (w : World) (b : Nat) (d0 d1 d2 d3 d4 d5 d6 d7 : Int) : Kept (fun k=>k = b) w ((((((((w.setCell ⟨b,3,none⟩ (.int .u8 d0)).setCell ⟨b,4,none⟩ (.int .u8 d1)).setCell ⟨b,5,none⟩ (.int .u8 d2)).setCell ⟨b,6,none⟩ (.int .u8 d3)).setCell ⟨b,7,none⟩ (.int .u8 d4)).setCell ⟨b,8,none⟩ (.int .u8 d5)).setCell ⟨b,9,none⟩ (.int .u8 d6)).setCell ⟨b,10,none⟩ (.int .u8 d7)):=by
 repeat' apply Kept.setCell
 all_goals first | exact Kept.refl _ _ | exact fun _=>rfl
end Go.Proofs.YtaggiceejcegdaaGreat
