/-
  WHAT IS SHOWN: more: a block is equal to itself. what Same of tegularef27 returns for a record and itself. plain facts: lists of records in memory. what SameAll of tegularef27 returns for equal lists; what few and large of tegulalaw28, Next of logarea and of tegularef28 return. what Next of logarea and of tegularef28 returns. what Valid of tegularef28 returns. what Sectors of tegularef28 returns. what all of wal returns and leaves: sectors are written to several disks. the log of wal in memory; what its numbered, Used, Next and Fits return. what Records and Rewrite of wal return. what Rewrite and New of wal return and leave. what geometry, brief and wrong of tegulalaw49 return. disks of the program and of the reference side by side: what Write, Read and Flush of wal and of tegularef49 return and leave of one of them. what a walk is told of the parameters of tegulalaw27: bytes, sectors, records. what a walk is told of the parameters of tegulalaw28: lists of records, lists of lists of records. plain facts on a log that grows; what twins returns for disks without faults; how a log and its disks begin. Conditions: as each theorem names them.
-/
import Derived.Test.YtaggiceejcegdaaGreatNc35
import Derived.BigQuiet
import Derived.ChangeKeysEq
import Derived.ChangeOld
import Derived.Deep.AppendLies
import Derived.Deep.DeepCutAuto
import Derived.Deep.Draws
import Derived.Deep.Fields
import Derived.Deep.QuietTactic
import Derived.Deep.RegionHeld3
import Derived.Deep.RegionLaw
import Derived.Deep.Slices
import Derived.Handy
import Derived.Laws.AppendOwnNone
import Derived.Laws.BytesArg
import Derived.Laws.Cover3
import Derived.Laws.MakeOwn
import Derived.Laws.OwnMore
import Derived.Laws.Rows
import Derived.Lib.ConvBytes
import Derived.Lib.Hide
import Derived.Lib.SmallJoins
import Derived.Lib.VarintBits
import Derived.Lib.Zigzag
import Derived.LoopIn
import Derived.LoopNIn
import Derived.Maps.AppendAt
import Derived.OpenShut
import Derived.OwnWalkIn
import Derived.ProofKit
import Derived.RangeFuncBox
import Derived.RangeFuncLeaves
import Derived.Shelf.Abstract
import Derived.Sort.QuietIn
import Derived.TacticsInMore
import Derived.WalkKit
import Derived.WalkLawsBesides
import Derived.WalkMore
import Derived.WalkSpells
import Derived.Test.YtaggiceejcegdaaGreatOf05
namespace Go.Proofs.YtaggiceejcegdaaGreat
set_option linter.unusedVariables false
open Go.RowKit
theorem blk_eq (W : World) (d0 d1 d2 d3 d4 d5 d6 d7 : Int) : (Op.equalIn 9999 149 (.agg #[.int .u8 d0,.int .u8 d1,.int .u8 d2,.int .u8 d3,.int .u8 d4,.int .u8 d5,.int .u8 d6,.int .u8 d7]) (.agg #[.int .u8 d0,.int .u8 d1,.int .u8 d2,.int .u8 d3,.int .u8 d4,.int .u8 d5,.int .u8 d6,.int .u8 d7])).run Tryz.prog W = .ok true W:=by
 obtain ⟨i0,hi,hz0,hz1,hz2⟩:=info_parts qinfo_u8
 have hc : Tryz.prog.cellsOf 5 = 1:=by kernel_rfl
 have hr : List.range 8 = [0,1,2,3,4,5,6,7]:=rfl
 rw [show (9999 : Nat) = 9998 + 1 from rfl,run_equalIn_array W 9998 _ _ Tryz.underlying149 hi,hc,hr]
 simp [Op.eqItems,part,go_sem,Tryz.underlying5]
end Go.Proofs.YtaggiceejcegdaaGreat
namespace Go.Proofs.YtaggiceejcegdaaGreat
set_option linter.unusedVariables false
open Go.RowKit
set_option maxRecDepth 100000 in
set_option maxHeartbeats 2000000 in
theorem same_rec (r : Rec) (A D N A' D' N' : Option Addr) (c d n c' d' n' : Nat) (w : World) (h : RecR w w.heap.size r A c D d N n) (h' : RecR w w.heap.size r A' c' D' d' N' n') (hw : r.ws.length ≤ 1000000) (hm : r.ms.length ≤ 1000000) (hn : r.note.length ≤ 1000000) :
  Calls Tryz.prog 66 #[.agg #[.int .u64 r.gen,.int .u64 r.seq,.slice A r.ws.length c,.slice D r.ms.length d,.slice N r.note.length n],.agg #[.int .u64 r.gen,.int .u64 r.seq,.slice A' r.ws.length c',.slice D' r.ms.length d',.slice N' r.note.length n']] w fun e w'=>e = .returned (.bool true) ∧ Below w.heap.size w w':=by
 have HH:=Lib.hid h
 have HH':=Lib.hid h'
 clear h h'
 have hb0 : Below w.heap.size w ((w.alloc (.cells #[.int .u64 r.gen,.int .u64 r.seq,.slice A r.ws.length c,.slice D r.ms.length d,.slice N r.note.length n] 28)).alloc (.cells #[.int .u64 r.gen,.int .u64 r.seq,.slice A' r.ws.length c',.slice D' r.ms.length d',.slice N' r.note.length n'] 28)):=((Below.refl _ _).alloc (Nat.le_refl _) _).alloc (by simp) _
 have hv1:=qconv_bytes n (HH.out.note.below hb0 (Nat.le_refl _))
 have hv2:=qconv_bytes n' (HH'.out.note.below hb0 (Nat.le_refl _))
 have hp:=Cells5.below (Cells5.new w 28 (.int .u64 r.gen) (.int .u64 r.seq) (.slice A r.ws.length c) (.slice D r.ms.length d) (.slice N r.note.length n)) (((Below.refl (w.heap.size + 1) _).alloc (by simp) (.cells #[.int .u64 r.gen,.int .u64 r.seq,.slice A' r.ws.length c',.slice D' r.ms.length d',.slice N' r.note.length n'] 28))) (by omega : w.heap.size < w.heap.size + 1)
 have hp' : Cells5 ((w.alloc (.cells #[.int .u64 r.gen,.int .u64 r.seq,.slice A r.ws.length c,.slice D r.ms.length d,.slice N r.note.length n] 28)).alloc (.cells #[.int .u64 r.gen,.int .u64 r.seq,.slice A' r.ws.length c',.slice D' r.ms.length d',.slice N' r.note.length n'] 28)) (w.heap.size + 1) (.int .u64 r.gen) (.int .u64 r.seq) (.slice A' r.ws.length c') (.slice D' r.ms.length d') (.slice N' r.note.length n'):=by
  have:=Cells5.new (w.alloc (.cells #[.int .u64 r.gen,.int .u64 r.seq,.slice A r.ws.length c,.slice D r.ms.length d,.slice N r.note.length n] 28)) 28 (.int .u64 r.gen) (.int .u64 r.seq) (.slice A' r.ws.length c') (.slice D' r.ms.length d') (.slice N' r.note.length n')
  rw [World.size_alloc] at this; exact this
 have hz : w.heap.size + 2 = ((w.alloc (.cells #[.int .u64 r.gen,.int .u64 r.seq,.slice A r.ws.length c,.slice D r.ms.length d,.slice N r.note.length n] 28)).alloc (.cells #[.int .u64 r.gen,.int .u64 r.seq,.slice A' r.ws.length c',.slice D' r.ms.length d',.slice N' r.note.length n'] 28)).heap.size:=by simp
 have HP:=Lib.hid hp
 have HP':=Lib.hid hp'
 have HB0:=Lib.hid hb0
 clear hp hp' hb0
 go_enter Tryz.func66,Tryz.ntmps66
 go_wp2
 generalize ((w.alloc (.cells #[.int .u64 r.gen,.int .u64 r.seq,.slice A r.ws.length c,.slice D r.ms.length d,.slice N r.note.length n] 28)).alloc (.cells #[.int .u64 r.gen,.int .u64 r.seq,.slice A' r.ws.length c',.slice D' r.ms.length d',.slice N' r.note.length n'] 28)) = W1 at *
 have HBW : Hid (∀ W,Below (w.heap.size + 2) W1 W → Below w.heap.size w W):=fun W hW=>HB0.out.trans (hW.mono (by omega))
 go_loopw [5] (fun i wr=>∃ k : Nat,k ≤ r.ws.length ∧ i = .int .i64 k ∧ Hid (Below (w.heap.size + 2) W1 wr)) (fun i _=>r.ws.length - (intOf i).toNat)
 case atStart=>exact ⟨0,Nat.zero_le _,rfl,Below.refl _ _⟩
 case round=>
  obtain ⟨k,hk,rfl,HBR⟩:=hrel
  have PA:=HP.out.below HBR.out (by omega)
  have PB:=HP'.out.below HBR.out (by omega)
  have q2:=PA.c2; have q3:=PA.c3; have r2:=PB.c2; have r3:=PB.c3
  clear PA PB
  by_cases hlt : k < r.ws.length
  ·obtain ⟨g1,o1,rfl,hg1,a0,a1,a2,a3,a4,a5,a6,a7,a8,a9,a10⟩:=(HH.out.ws.below (HBW.out _ HBR.out) (Nat.le_refl _)).pw hlt
   obtain ⟨g2,o2,rfl,hg2,b0,b1,b2,b3,b4,b5,b6,b7,b8,b9,b10⟩:=(HH'.out.ws.below (HBW.out _ HBR.out) (Nat.le_refl _)).pw hlt
   generalize r.ws[k] = x at *
   have hbe:=fun W : World=>blk_eq W x.d0 x.d1 x.d2 x.d3 x.d4 x.d5 x.d6 x.d7
   go_wp2
   go_quiet (fail)
   have HB2:=Lib.hid (below_drewN HBR.out nq)
   go_wp2
   go_roundw
   case rel=>exact ⟨k + 1,hlt,by go_num,HB2⟩
   case measure=>simp [intOf]; omega
  ·obtain rfl : k = r.ws.length:=by omega
   go_wp2
   go_loopw [6] (fun i wr=>∃ k : Nat,k ≤ r.ms.length ∧ i = .int .i64 k ∧ Hid (Below (w.heap.size + 2) W1 wr)) (fun i _=>r.ms.length - (intOf i).toNat)
   case atStart=>exact ⟨0,Nat.zero_le _,rfl,HBR⟩
   case round=>
    clear q2 q3 r2 r3
    rename World=>wa
    obtain ⟨k,hk,rfl,HBS⟩:=hrel
    have PA:=HP.out.below HBS.out (by omega)
    have PB:=HP'.out.below HBS.out (by omega)
    have q2:=PA.c2; have q3:=PA.c3; have r2:=PB.c2; have r3:=PB.c3
    clear PA PB
    by_cases hlt : k < r.ms.length
    ·obtain ⟨g1,o1,rfl,hg1,a0,a1,a2,a3⟩:=(HH.out.ms.below (HBW.out _ HBS.out) (Nat.le_refl _)).mv hlt
     obtain ⟨g2,o2,rfl,hg2,b0,b1,b2,b3⟩:=(HH'.out.ms.below (HBW.out _ HBS.out) (Nat.le_refl _)).mv hlt
     generalize r.ms[k] = x at *
     go_wp2
     go_quiet (fail)
     have HB2:=Lib.hid (below_drewN HBS.out nq)
     go_wp2
     go_roundw
     case rel=>exact ⟨k + 1,hlt,by go_num,HB2⟩
     case measure=>simp [intOf]; omega
    ·obtain rfl : k = r.ms.length:=by omega
     go_wp2
     go_ret
     exact ⟨rfl,HBW.out _ HBS.out⟩
end Go.Proofs.YtaggiceejcegdaaGreat
namespace Go.Proofs.YtaggiceejcegdaaGreat
set_option linter.unusedVariables false
open Go.RowKit
theorem flatR_len (l : List RS) : (flatR l).length = l.length * 5:=flat_len _ 5 (fun _=>rfl) l
theorem flatR_one (l : List RS) : ∀ u ∈ flatR l,u.oneCell' = true:=fun u hu=>by
 unfold flatR at hu
 obtain ⟨x,_,hx⟩:=List.mem_flatMap.1 hu
 exact x.one u hx
section
variable {w w' : World} {B C base : Nat} {A : Option Addr} {c : Nat} {l : List RS}
theorem RcsO.rd (h : RcsO w base A c l) : RcsR w w.heap.size A l:=⟨Rd.of_own h.own,fun x hx=>(h.each x hx).rec_⟩
end
end Go.Proofs.YtaggiceejcegdaaGreat
namespace Go.Proofs.YtaggiceejcegdaaGreat
set_option linter.unusedVariables false
open Go.RowKit
set_option maxRecDepth 100000 in
set_option maxHeartbeats 2000000 in
theorem sameall_any (la lb : List RS) (he : la.map RS.r = lb.map RS.r) (ht : ∀ x ∈ la,Tiny x.r) (A D : Option Addr) (c d : Nat) (w : World) (ha : RcsR w w.heap.size A la) (hb : RcsR w w.heap.size D lb) (hl : la.length ≤ 1000000) :
  Calls Tryz.prog 27 #[.slice A la.length c,.slice D lb.length d] w fun e w'=>e = .returned (.bool true) ∧ Below w.heap.size w w':=by
 have HA:=Lib.hid ha
 have HB:=Lib.hid hb
 have HT:=Lib.hid ht
 have hlen : lb.length = la.length:=by have:=congrArg List.length he; rw [List.length_map,List.length_map] at this; exact this.symm
 have HE:=Lib.hid he
 have HL:=Lib.hid hlen
 rw [hlen]
 clear ha hb ht he hlen
 go_enter Tryz.func27,Tryz.ntmps27
 go_wp2
 go_loopw [5] (fun i wr=>∃ k : Nat,k ≤ la.length ∧ i = .int .i64 k ∧ Hid (Below w.heap.size w wr)) (fun i _=>la.length - (intOf i).toNat)
 case atStart=>exact ⟨0,Nat.zero_le _,rfl,Below.refl _ _⟩
 case round=>
  obtain ⟨k,hk,rfl,HBR⟩:=hrel
  by_cases hlt : k < la.length
  ·have hlt2 : k < lb.length:=by rw [HL.out]; exact hlt
   have hx:=(HA.out.up HBR.out).each _ (List.getElem_mem hlt)
   have hy:=(HB.out.up HBR.out).each _ (List.getElem_mem hlt2)
   have hr : lb[k].r = la[k].r:=by
    have h1 : (la.map RS.r)[k]? = (lb.map RS.r)[k]?:=by rw [HE.out]
    rw [List.getElem?_map,List.getElem?_map,List.getElem?_eq_getElem hlt,List.getElem?_eq_getElem hlt2] at h1
    injection h1 with h1; exact h1.symm
   have htk:=HT.out _ (List.getElem_mem hlt)
   obtain ⟨g1,o1,rfl,hg1,a0,a1,a2,a3,a4⟩:=(HA.out.up HBR.out).rd.rs hlt
   obtain ⟨g2,o2,rfl,hg2,b0,b1,b2,b3,b4⟩:=(HB.out.up HBR.out).rd.rs hlt2
   rw [hr] at b0 b1 b2 b3 b4 hy
   generalize la[k] = x at *
   generalize lb[k] = y at *
   have HSA:=Lib.hid (fun W (hW : Below wr.heap.size wr W)=>same_rec x.r x.A x.D x.N y.A y.D y.N x.c x.d x.n y.c y.d y.n W (hx.up hW) (hy.up hW) htk.ws htk.ms htk.note)
   clear hx hy hr htk hlt2
   have c0:=Held.cell a0 hg1; have c1:=Held.cell a1 hg1; have c2:=Held.cell a2 hg1; have c3:=Held.cell a3 hg1; have c4:=Held.cell a4 hg1
   have d0:=Held.cell b0 hg2; have d1:=Held.cell b1 hg2; have d2:=Held.cell b2 hg2; have d3:=Held.cell b3 hg2; have d4:=Held.cell b4 hg2
   clear a0 a1 a2 a3 a4 b0 b1 b2 b3 b4
   go_wp2_with fail
   have hne : Nonempty (Held (Below wr.heap.size wr)):=⟨⟨_,(Held.drew_below (Nat.le_refl _))⟩⟩
   refine wp_region_heldq (S:=(Below wr.heap.size wr)) (by kernel_rfl) (by kernel_rfl) (Held.drew_below (Nat.le_refl _)) ?_
   repeat (go_big_quiet_step ((go_at_call 66; exact Calls.held_below (Nat.le_refl _) (HSA.out _ (Held.h _)))))
   refine wpQuiet_nil ?_
   intro _ hw'
   obtain ⟨sq,hw''⟩:=hw'
   subst hw''
   clear hne
   have HB2:=Lib.hid (HBR.out.trans (sq.h.mono HBR.out.size))
   clear HSA c0 c1 c2 c3 c4 d0 d1 d2 d3 d4
   go_wp2
   go_roundw
   case rel=>exact ⟨k + 1,hlt,by go_num,HB2⟩
   case measure=>simp [intOf]; omega
  ·obtain rfl : k = la.length:=by omega
   go_wp2
   go_ret
   exact ⟨rfl,HBR.out⟩
end Go.Proofs.YtaggiceejcegdaaGreat
namespace Go.Proofs.YtaggiceejcegdaaGreat
set_option linter.unusedVariables false
open Go.RowKit
set_option maxRecDepth 100000 in
theorem rnext_any (n : Nat) (hn : n ≤ 9223372036854775807) (gen : Nat) (hg : gen < 2 ^ 64) (A : Option Addr) (c : Nat) (w : World) :
  Calls Tryz.prog 26 #[.slice A n c,.int .u64 gen] w fun e w'=>e = .returned (.int .u64 (nextN n gen : Nat)) ∧ w' = w:=by
 have HG : Hid (gen ≤ 18446744073709551615):=by unfold Hid; omega
 clear hg
 by_cases h1 : 4294967296 ≤ gen
 ·have HD : Hid (nextN n gen = 0):=by unfold Hid nextN; rw [if_pos (.inl h1)]
  have hd : decide ((4294967296 : Int) ≤ (gen : Int)) = true:=by simp; omega
  clear h1
  go_enter Tryz.func26,Tryz.ntmps26
  go_wp2
  go_ret
  exact ⟨by rw [HD.out]; rfl,rfl⟩
 ·by_cases h2 : 4294967295 ≤ n
  ·have HD : Hid (nextN n gen = 0):=by unfold Hid nextN; rw [if_pos (.inr h2)]
   have hd : decide ((4294967296 : Int) ≤ (gen : Int)) = false:=by simp; omega
   have hd2 : decide ((4294967295 : Int) ≤ (n : Int)) = true:=by simp; omega
   clear h1 h2
   go_enter Tryz.func26,Tryz.ntmps26
   go_wp2
   go_ret
   exact ⟨by rw [HD.out]; rfl,rfl⟩
  ·have HD : Hid (nextN n gen = gen * 4294967296 + n + 1):=by unfold Hid nextN; rw [if_neg (by omega)]
   have hd : decide ((4294967296 : Int) ≤ (gen : Int)) = false:=by simp; omega
   have hd2 : decide ((4294967295 : Int) ≤ (n : Int)) = false:=by simp; omega
   have b1 : gen < 4294967296:=by omega
   have b2 : n < 4294967295:=by omega
   clear h1 h2
   go_enter Tryz.func26,Tryz.ntmps26
   go_wp2
   go_ret
   exact ⟨by rw [HD.out]; first | rfl | (simp; done),rfl⟩
end Go.Proofs.YtaggiceejcegdaaGreat
namespace Go.Proofs.YtaggiceejcegdaaGreat
set_option linter.unusedVariables false
open Go.RowKit
set_option maxRecDepth 100000 in
set_option maxHeartbeats 4000000 in
theorem rlogv_any (l : List RS) (ht : ∀ x ∈ l,Tiny x.r) (A : Option Addr) (c : Nat) (w : World) (h : RcsR w w.heap.size A l) (hl : l.length ≤ 1000000) :
  Calls Tryz.prog 103 #[.slice A l.length c] w fun e w'=>e = .returned (.bool (logV (l.map RS.r))) ∧ Below w.heap.size w w':=by
 have HH:=Lib.hid h
 have HT:=Lib.hid ht
 clear h ht
 go_enter Tryz.func103,Tryz.ntmps103
 go_wp2
 go_loopw [3] (fun i wr=>∃ k : Nat,k ≤ l.length ∧ i = .int .i64 k ∧ Hid ((List.range k).all (okAt (l.map RS.r)) = true) ∧ Hid (Below w.heap.size w wr)) (fun i _=>l.length - (intOf i).toNat)
 case atStart=>exact ⟨0,Nat.zero_le _,rfl,rfl,Below.refl _ _⟩
 case round=>
  obtain ⟨k,hk,rfl,HAL,HBR⟩:=hrel
  by_cases hlt : k < l.length
  ·have hxl : k < (l.map RS.r).length:=by simpa using hlt
   have h0l : 0 < l.length:=by omega
   have h0m : 0 < (l.map RS.r).length:=by simpa using h0l
   have hok:=okAt_get hxl
   rw [hd_get h0m] at hok
   simp only [List.getElem_map] at hok
   have hrx:=(HH.out.up HBR.out).each _ (List.getElem_mem hlt)
   have htx:=HT.out _ (List.getElem_mem hlt)
   obtain ⟨g1,o1,rfl,hg1,a0,a1,a2,a3,a4⟩:=(HH.out.up HBR.out).rd.rs hlt
   obtain ⟨g2,o2,he2,hg2,z0,_⟩:=(HH.out.up HBR.out).rd.rs h0l
   injection he2 with he2; injection he2 with he2 he3; subst he2; subst he3
   rw [Nat.zero_mul,Nat.add_zero] at z0
   generalize l[0].r.gen = G at *
   generalize l[k] = x at *
   have hno : okAt (l.map RS.r) k = false → logV (l.map RS.r) = false:=logV_no hxl
   have hyes : okAt (l.map RS.r) k = true → (List.range (k + 1)).all (okAt (l.map RS.r)) = true:=range_all HAL.out
   have HNO:=Lib.hid hno
   have HYE:=Lib.hid hyes
   have HOK:=Lib.hid hok
   have HBW:=HBR
   have HRV:=Lib.hid (fun W (hW : Below wr.heap.size wr W)=>qvalid_any x.r x.A x.D x.N x.c x.d x.n W (hrx.up hW) (by have:=htx.ws; omega) (by have:=htx.ms; omega) (by have:=htx.note; omega))
   clear hno hyes hok hrx htx hxl h0m
   go_wp2_with fail
   have c0:=Held.cell a0 hg1; have c1:=Held.cell a1 hg1; have c2:=Held.cell a2 hg1; have c3:=Held.cell a3 hg1; have c4:=Held.cell a4 hg1
   have d0:=Held.cell z0 hg1
   clear a0 a1 a2 a3 a4 z0
   have eW0 : IntKind.i64.wrap ((k : Int) + 1) = (k : Int) + 1:=by rw [IntKind.wrap_i64]; omega
   have eW1 : IntKind.u64.wrap ((k : Int) + 1) = (k : Int) + 1:=by rw [IntKind.wrap_u64]; omega
   obtain hv | hv : validR x.r = false ∨ validR x.r = true:=by cases validR x.r; exact .inl rfl; exact .inr rfl
   ·rw [hv] at HRV HOK
    clear hv
    have HD : Hid (logV (l.map RS.r) = false):=HNO.out (by rw [HOK.out]; rfl)
    have hne : Nonempty (Held (Below wr.heap.size wr)):=⟨⟨_,(Held.drew_below (Nat.le_refl _))⟩⟩
    refine wp_region_heldq (S:=(Below wr.heap.size wr)) (by kernel_rfl) (by kernel_rfl) (Held.drew_below (Nat.le_refl _)) ?_
    repeat (go_big_quiet_step ((go_at_call 67; exact Calls.held_below (Nat.le_refl _) (HRV.out _ (Held.h _)))))
    refine wpQuiet_nil ?_
    intro _ hw'
    obtain ⟨sq,hw''⟩:=hw'
    subst hw''
    clear hne
    go_wp2
    go_ret
    exact ⟨by rw [HD.out]; rfl,HBW.out.trans (sq.h.mono HBW.out.size)⟩
   ·rw [hv] at HRV HOK
    clear hv
    by_cases hg : x.r.gen = G
    ·have hge : ((x.r.gen : Int) != (G : Int)) = false:=by simp; omega
     by_cases hs : x.r.seq = k + 1
     ·have hse : ((x.r.seq : Int) != (k : Int) + 1) = false:=by simp; omega
      have HT2 : Hid ((List.range (k + 1)).all (okAt (l.map RS.r)) = true):=HYE.out (by rw [HOK.out,decide_eq_true hg,decide_eq_true hs]; rfl)
      clear hg hs
      have hne : Nonempty (Held (Below wr.heap.size wr)):=⟨⟨_,(Held.drew_below (Nat.le_refl _))⟩⟩
      refine wp_region_heldq (S:=(Below wr.heap.size wr)) (by kernel_rfl) (by kernel_rfl) (Held.drew_below (Nat.le_refl _)) ?_
      repeat (go_big_quiet_step ((go_at_call 67; exact Calls.held_below (Nat.le_refl _) (HRV.out _ (Held.h _)))))
      refine wpQuiet_nil ?_
      intro _ hw'
      obtain ⟨sq,hw''⟩:=hw'
      subst hw''
      clear hne
      have HB2:=Lib.hid (HBW.out.trans (sq.h.mono HBW.out.size))
      clear c0 c1 c2 c3 c4 d0 eW0 eW1
      go_wp2
      go_roundw
      case rel=>exact ⟨k + 1,hlt,by go_num,HT2,HB2⟩
      case measure=>simp [intOf]; omega
     ·have hse : ((x.r.seq : Int) != (k : Int) + 1) = true:=by simp; omega
      have hf : okAt (l.map RS.r) k = false:=by rw [HOK.out,decide_eq_false hs]; simp
      clear hg hs
      have HD : Hid (logV (l.map RS.r) = false):=HNO.out hf
      have hne : Nonempty (Held (Below wr.heap.size wr)):=⟨⟨_,(Held.drew_below (Nat.le_refl _))⟩⟩
      refine wp_region_heldq (S:=(Below wr.heap.size wr)) (by kernel_rfl) (by kernel_rfl) (Held.drew_below (Nat.le_refl _)) ?_
      repeat (go_big_quiet_step ((go_at_call 67; exact Calls.held_below (Nat.le_refl _) (HRV.out _ (Held.h _)))))
      refine wpQuiet_nil ?_
      intro _ hw'
      obtain ⟨sq,hw''⟩:=hw'
      subst hw''
      clear hne
      go_wp2
      go_ret
      exact ⟨by rw [HD.out]; rfl,HBW.out.trans (sq.h.mono HBW.out.size)⟩
    ·have hge : ((x.r.gen : Int) != (G : Int)) = true:=by simp; omega
     have hf : okAt (l.map RS.r) k = false:=by rw [HOK.out,decide_eq_false hg]; simp
     clear hg
     have HD : Hid (logV (l.map RS.r) = false):=HNO.out hf
     have hne : Nonempty (Held (Below wr.heap.size wr)):=⟨⟨_,(Held.drew_below (Nat.le_refl _))⟩⟩
     refine wp_region_heldq (S:=(Below wr.heap.size wr)) (by kernel_rfl) (by kernel_rfl) (Held.drew_below (Nat.le_refl _)) ?_
     repeat (go_big_quiet_step ((go_at_call 67; exact Calls.held_below (Nat.le_refl _) (HRV.out _ (Held.h _)))))
     refine wpQuiet_nil ?_
     intro _ hw'
     obtain ⟨sq,hw''⟩:=hw'
     subst hw''
     clear hne
     go_wp2
     go_ret
     exact ⟨by rw [HD.out]; rfl,HBW.out.trans (sq.h.mono HBW.out.size)⟩
  ·obtain rfl : k = l.length:=by omega
   have HD : Hid (logV (l.map RS.r) = true):=by unfold Hid logV; rw [List.length_map]; exact HAL.out
   go_wp2
   go_ret
   exact ⟨by rw [HD.out]; rfl,HBR.out⟩
end Go.Proofs.YtaggiceejcegdaaGreat
namespace Go.Proofs.YtaggiceejcegdaaGreat
set_option linter.unusedVariables false
open Go.RowKit
set_option maxRecDepth 100000 in
set_option maxHeartbeats 4000000 in
theorem rsectors_any (l : List RS) (ht : ∀ x ∈ l,Tiny x.r) (hok : ∀ x ∈ l,x.r.Ok) (A : Option Addr) (c : Nat) (w : World) (h : RcsR w w.heap.size A l) (hl : l.length ≤ 1000) :
  Calls Tryz.prog 64 #[.slice A l.length c] w (SecPost w (l.map RS.r)):=by
 have HH:=Lib.hid h
 have HT:=Lib.hid ht
 have HK:=Lib.hid hok
 have HV:=Lib.hid (rlogv_any l ht A c w h (by omega))
 obtain ⟨i0,hi0,hz0,hz1,hz2⟩:=info_parts info_sl
 clear h ht hok
 obtain hs | hs : logV (l.map RS.r) = false ∨ logV (l.map RS.r) = true:=by cases logV (l.map RS.r); exact .inl rfl; exact .inr rfl
 ·have HE : Hid (secE (l.map RS.r) = 1 ∧ secLs (l.map RS.r) = []):=by unfold Hid secE secLs; rw [hs]; exact ⟨rfl,rfl⟩
  rw [hs] at HV
  clear hs
  go_enter Tryz.func64,Tryz.ntmps64
  go_wp2_with fail
  refine HV.out.mono ?_
  rintro e w1 ⟨rfl,hb1⟩
  go_wp2
  go_ret2
  exact ⟨none,0,[],by rw [HE.out.1]; rfl,by rw [HE.out.2]; rfl,⟨World.ownsRow_nil _ _ _ _,by simp⟩,hb1⟩
 ·have HE : Hid (secE (l.map RS.r) = 0 ∧ secLs (l.map RS.r) = secsL (l.map RS.r)):=by unfold Hid secE secLs; rw [hs]; exact ⟨rfl,rfl⟩
  have HLV:=Lib.hid hs
  rw [hs] at HV
  clear hs
  go_enter Tryz.func64,Tryz.ntmps64
  go_wp2_with fail
  refine HV.out.mono ?_
  rintro e w1 ⟨rfl,hb1⟩
  have HB1:=Lib.hid hb1
  clear hb1 HV
  go_wp2
  go_loopw [4,5] (fun o i wr=>∃ (k : Nat) (ss : List Sl) (DA : Option Addr) (dc : Nat),k ≤ l.length ∧ i = .int .i64 k ∧ o = .slice DA ss.length dc ∧ Hid (ss.map Sl.xs = secsL ((l.map RS.r).take k)) ∧ Hid (SlsO wr w.heap.size DA dc ss) ∧ Hid (Below w.heap.size w wr)) (fun _ i _=>l.length - (intOf i).toNat)
  case atStart=>exact ⟨0,[],none,0,Nat.zero_le _,rfl,rfl,rfl,⟨World.ownsRow_nil _ _ _ _,by simp⟩,HB1.out⟩
  case round=>
   obtain ⟨k,ss,DA,dc,hk,rfl,rfl,HSE,HSO,HBR⟩:=hrel
   by_cases hlt : k < l.length
   ·have hxl : k < (l.map RS.r).length:=by simpa using hlt
    have hxe : (l.map RS.r)[k] = l[k].r:=by simp
    have htk:=HT.out _ (List.getElem_mem hlt)
    have hokk:=HK.out _ (List.getElem_mem hlt)
    have hvk:=(logV_at HLV.out hxl).1
    have hrx:=(HH.out.up HBR.out).each _ (List.getElem_mem hlt)
    have HSN : Hid (secsL ((l.map RS.r).take (k + 1)) = secsL ((l.map RS.r).take k) ++ encR l[k].r):=by unfold Hid; rw [secsL_take hxl,hxe]
    have hsl : ss.length ≤ k * 4096:=by
     have h1:=secsL_len (l:=(l.map RS.r).take k) (fun r hr=>logV_mem HLV.out r (List.mem_of_mem_take hr))
     rw [← HSE.out,List.length_map,List.length_take] at h1
     have h2 : min k (l.map RS.r).length ≤ k:=by omega
     have h3:=Nat.mul_le_mul_right 4096 h2
     omega
    rw [hxe] at hvk
    obtain ⟨g1,o1,rfl,hg1,a0,a1,a2,a3,a4⟩:=(HH.out.up HBR.out).rd.rs hlt
    generalize l[k] = x at *
    have hbx : Below wr.heap.size wr wr:=Below.refl _ _
    have HEN:=Lib.hid (rencode_any x.r hokk x.A x.D x.N x.c x.d x.n wr (hrx.up hbx) (by have:=htk.ws; omega) (by have:=htk.ms; omega) (by have:=htk.note; omega))
    have HEL : Hid (encL x.r = encR x.r):=by unfold Hid encL; rw [if_pos hvk]
    have HEM : Hid ((encR x.r).length ≤ 4096):=by unfold Hid; rw [encR_len]; exact nCh_le (payR_len (validR_vld hvk))
    have HBX:=Lib.hid hbx
    clear hxl hxe htk hokk hvk hrx hbx
    go_wp2_with fail
    refine HEN.out.mono ?_
    rintro e w2 ⟨A2,c2,tt,rfl,htt,ho2,hb2⟩
    rw [HEL.out] at htt
    have htl : tt.length = (encR x.r).length:=by rw [← htt,List.length_map]
    have hmx:=HEM.out
    have hpos : 0 < tt.length:=by rw [htl]; exact encR_pos' x.r
    obtain ⟨g2,rfl,hg2,hg2z⟩:=own_at ho2.own hpos
    have hb2x:=HBX.out.trans (hb2.mono HBX.out.size)
    have HB2:=Lib.hid (HBR.out.trans (hb2x.mono HBR.out.size))
    have HO2:=Lib.hid (ho2.mono (HBR.out.trans (HBX.out.mono HBR.out.size)).size)
    have HSO2:=Lib.hid (HSO.out.below hb2x)
    have HTT:=Lib.hid htt
    have hbz:=HB2.out.size
    rw [← htl] at hmx
    have hkk : k * 4096 ≤ 1000 * 4096:=Nat.mul_le_mul_right _ (by omega)
    clear htt ho2 hb2 hb2x htl HEN a0 a1 a2 a3 a4 HEM
    go_wp2_with (at_builtin; go_loud (refine wpList_append_own _ rfl _ _ 49 rfl w.heap.size 26 i0 _ 1 24 Tryz.underlying49 hi0 hz0 hz1 hz2 rfl (by decide) (.slice DA ss.length dc) ss.length (ss.map Sl.v) rfl HSO2.out.own ⟨g2,0,none⟩ tt.length c2 (tt.map Sl.v) rfl (by simp) (HO2.out.rd.rd.qat_add) (sls_one tt) ?c1 ?c2 ?c3 ?_))
    case c1=>unfold maxLen; omega
    case c2=>omega
    case c3=>first | omega | (simp; omega)
    intro v' w9 hown hgrow hiff
    obtain ⟨DA',dc',hv⟩:=own_form hown
    subst hv
    have HSO9 : Hid (SlsO w9 w.heap.size DA' dc' (ss ++ tt)):=SlsO.app HSO2.out HO2.out (Nat.le_refl _) hown hgrow
    have HB9 : Hid (Below w.heap.size w w9):=HB2.out.grown hgrow hbz (fun k hk=>own_low HSO2.out.own hk)
    clear hown hgrow hiff hkk
    go_wp2
    go_roundw
    case rel=>exact ⟨k + 1,ss ++ tt,DA',dc',hlt,by go_num,by rw [List.length_append],by unfold Hid; rw [List.map_append,HSE.out,HTT.out,HSN.out],HSO9,HB9⟩
    case measure=>simp [intOf]; omega
   ·obtain rfl : k = l.length:=by omega
    go_wp2
    go_ret2
    exact ⟨DA,dc,ss,by rw [HE.out.1]; rfl,by rw [HE.out.2,HSE.out,show l.length = (l.map RS.r).length by simp,List.take_length],HSO.out,HBR.out⟩
end Go.Proofs.YtaggiceejcegdaaGreat
namespace Go.Proofs.YtaggiceejcegdaaGreat
set_option linter.unusedVariables false
open Go.RowKit
theorem ptrs_len (qs : List Nat) (no : Nat → Bool) : (ptrs qs no).length = qs.length:=by simp [ptrs]
section
variable {w w' : World} {n q pw : Nat} {g : Geo} {qs : List Nat} {m : MS}
end
end Go.Proofs.YtaggiceejcegdaaGreat
namespace Go.Proofs.YtaggiceejcegdaaGreat
set_option linter.unusedVariables false
open Go.RowKit
section
variable {w w' : World} {n b : Nat} {A : Option Addr} {c : Nat} {xs : List RS} {S : LogS} {V : Option Nat}
set_option maxRecDepth 100000 in
set_option maxHeartbeats 1000000 in
theorem wused_any (h : LogM w n b V S) : Calls Tryz.prog 24 #[.pointer (some ⟨b,0,none⟩)] w fun e w'=>e = .returned (.int .i64 S.used) ∧ w' = w:=by
 obtain ⟨A,c,xs,h,_⟩:=h
 obtain ⟨_,_,_,_,c4⟩:=h.cells
 clear h
 go_enter Tryz.func24,Tryz.ntmps24
 go_wp2
 go_ret
 exact ⟨rfl,rfl⟩
end
end Go.Proofs.YtaggiceejcegdaaGreat
namespace Go.Proofs.YtaggiceejcegdaaGreat
set_option linter.unusedVariables false
open Go.RowKit
section
variable {w w' : World} {n b : Nat} {A : Option Addr} {c : Nat} {xs : List RS} {S : LogS} {V : Option Nat}
set_option maxRecDepth 100000 in
set_option maxHeartbeats 4000000 in
theorem wrecords_any (h : LogM w n b V S) (hl : S.l.length ≤ 1000) (ht : ∀ r ∈ S.l,Tiny r) : Calls Tryz.prog 28 #[.pointer (some ⟨b,0,none⟩)] w (RecsPost w S.l):=by
 obtain ⟨i0,hi,hz0,hz1,hz2⟩:=info_parts info_rec
 obtain ⟨A,c,xs,h,_⟩:=h
 obtain ⟨_,_,_,c3,_⟩:=h.cells
 have HX:=Lib.hid h.own.rd
 have HL:=Lib.hid h.len
 have hxl : xs.length ≤ 1000:=by rw [h.len]; exact hl
 have HR:=Lib.hid h.rec_
 have HT:=Lib.hid ht
 have H0 : Hid (RcsO w w.heap.size none 0 [] ∧ Below w.heap.size w w ∧ ([] : List RS).map RS.r = (xs.map RS.r).take 0):=⟨RcsO.nil _ _,Below.refl _ _,rfl⟩
 clear h ht
 go_enter Tryz.func28,Tryz.ntmps28
 go_wp2
 go_loopw [3,13] (fun o i wr=>∃ (k : Nat) (DA : Option Addr) (dc : Nat) (ys : List RS),k ≤ xs.length ∧ o = .slice DA ys.length dc ∧ i = .int .i64 k ∧ Hid (ys.length = k) ∧ Hid (RcsO wr w.heap.size DA dc ys ∧ Below w.heap.size w wr ∧ ys.map RS.r = (xs.map RS.r).take k)) (fun _ i _=>xs.length - (intOf i).toNat)
 case atStart=>exact ⟨0,none,0,[],Nat.zero_le _,rfl,rfl,rfl,H0⟩
 case round=>
  obtain ⟨k,DA,dc,ys,hk,rfl,rfl,HYL,HW⟩:=hrel
  by_cases hlt : k < xs.length
  ·have hXW:=(HX.out.up HW.out.2.1)
   obtain ⟨g0,o0,rfl,hg0,j0,j1,j2,j3,j4⟩:=hXW.rd.rs hlt
   have hxr:=hXW.each _ (List.getElem_mem hlt)
   have hbx : Below wr.heap.size wr (wr.alloc (.cells #[.int .u64 xs[k].r.gen,.int .u64 xs[k].r.seq,.slice xs[k].A xs[k].r.ws.length xs[k].c,.slice xs[k].D xs[k].r.ms.length xs[k].d,.slice xs[k].N xs[k].r.note.length xs[k].n] 28)):=(Below.refl _ _).alloc (Nat.le_refl _) _
   have htk : Tiny xs[k].r:=HT.out _ (by rw [← HR.out]; exact List.mem_map.2 ⟨_,List.getElem_mem hlt,rfl⟩)
   have HC:=Lib.hid (copied_any xs[k].r xs[k].A xs[k].D xs[k].N xs[k].c xs[k].d xs[k].n (wr.alloc (.cells #[.int .u64 xs[k].r.gen,.int .u64 xs[k].r.seq,.slice xs[k].A xs[k].r.ws.length xs[k].c,.slice xs[k].D xs[k].r.ms.length xs[k].d,.slice xs[k].N xs[k].r.note.length xs[k].n] 28)) (hxr.up hbx) htk)
   have HE : Hid ((xs.map RS.r).take (k + 1) = (xs.map RS.r).take k ++ [xs[k].r]):=by
    unfold Hid
    rw [List.take_succ_eq_append_getElem (by simpa using hlt)]; simp
   have PB:=(Cells5.new wr 28 (.int .u64 xs[k].r.gen) (.int .u64 xs[k].r.seq) (.slice xs[k].A xs[k].r.ws.length xs[k].c) (.slice xs[k].D xs[k].r.ms.length xs[k].d) (.slice xs[k].N xs[k].r.note.length xs[k].n))
   have p0:=PB.c0; have p1:=PB.c1; have p2:=PB.c2; have p3:=PB.c3; have p4:=PB.c4
   have HBX:=Lib.hid hbx
   have hys : ys.length ≤ 1000:=by rw [HYL.out]; omega
   generalize xs[k] = x at *
   clear hXW hxr htk PB hbx
   go_wp2_with fail
   refine HC.out.mono ?_
   rintro e w2 ⟨A2,c2,D2,d2,N2,n2,rfl,ho2,hb2⟩
   have HB2:=Lib.hid (HBX.out.trans (hb2.mono HBX.out.size))
   have HO2:=Lib.hid ho2
   have HY2:=Lib.hid (HW.out.1.below HB2.out)
   have hzz : w.heap.size ≤ w2.heap.size:=Nat.le_trans HW.out.2.1.size HB2.out.size
   have own:=HY2.out
   clear ho2 hb2 HC p0 p1 p2 p3 p4
   go_wp2_with (at_builtin; go_loud (refine wpList_append_own _ rfl _ _ 22 rfl w.heap.size 28 i0 _ 5 88 Tryz.underlying22 hi hz0 hz1 hz2 rfl (by decide) (.slice DA ys.length dc) ys.length (flatR ys) rfl (own.own.alloc _) ⟨w2.heap.size,0,none⟩ 1 1 [.int .u64 x.r.gen,.int .u64 x.r.seq,.slice A2 x.r.ws.length c2,.slice D2 x.r.ms.length d2,.slice N2 x.r.note.length n2] rfl rfl (World.news_of_block (heap_alloc_new _ _)) (RS.one ⟨x.r,A2,c2,D2,d2,N2,n2⟩) ?c1 ?c2 ?c3 ?_))
   case c1=>unfold maxLen; omega
   case c2=>omega
   case c3=>first | omega | (simp; omega)
   intro v' w9 hown hgrow hiff
   obtain ⟨DA',dc',hv⟩:=own_form hown
   subst hv
   have HW9 : Hid (RcsO w9 w.heap.size DA' dc' (ys ++ [(⟨x.r,A2,c2,D2,d2,N2,n2⟩ : RS)]) ∧ Below w.heap.size w w9 ∧ (ys ++ [(⟨x.r,A2,c2,D2,d2,N2,n2⟩ : RS)]).map RS.r = (xs.map RS.r).take (k + 1)):=by
    refine ⟨own.push HO2.out hown hgrow,(((HW.out.2.1.trans (HB2.out.mono HW.out.2.1.size)).alloc hzz _).grown hgrow (by simp; omega) (fun k hk=>own_low own.own hk)),?_⟩
    rw [HE.out,List.map_append,HW.out.2.2]; rfl
   have HYL2 : Hid ((ys ++ [(⟨x.r,A2,c2,D2,d2,N2,n2⟩ : RS)]).length = k + 1):=by unfold Hid; rw [List.length_append,HYL.out]; rfl
   clear hown hgrow hiff own hzz
   go_wp2
   go_roundw
   case rel=>exact ⟨k + 1,DA',dc',ys ++ [(⟨x.r,A2,c2,D2,d2,N2,n2⟩ : RS)],hlt,by rw [List.length_append]; rfl,by go_num,HYL2,HW9⟩
   case measure=>simp [intOf]; omega
  ·obtain rfl : k = xs.length:=by omega
   have HD : Hid (RecsPost w S.l (.returned (.slice DA ys.length dc)) wr):=by
    have h9:=HW.out.2.2
    rw [List.take_of_length_le (by simp)] at h9
    exact ⟨DA,dc,ys,rfl,h9.trans HR.out,HW.out.1,HW.out.2.1⟩
   go_wp2
   go_ret
   exact HD.out
end
end Go.Proofs.YtaggiceejcegdaaGreat
namespace Go.Proofs.YtaggiceejcegdaaGreat
set_option linter.unusedVariables false
open Go.RowKit
section
variable {w w' : World} {n b pw : Nat} {S : LogS} {V : Option Nat} {g : Geo} {qs : List Nat} {m : MS}
theorem secLs_small {l : List Rec} (hn : l.length ≤ 100) (hl : ∀ r ∈ l,r.Ok) : ∀ s ∈ secLs l,U8s s ∧ s.length ≤ 1000:=by
 intro s hs
 unfold secLs at hs
 split at hs
 ·exact secs_ok hl s hs
 ·simp at hs
set_option maxRecDepth 100000 in
set_option maxHeartbeats 8000000 in
theorem wrewrite_any {key : Int} {no : Nat → Bool} {PA : Option Addr} {pc N : Nat} (h : LogM w n b V S) (hS : S.Ok) (hsl : (secLs S.l).length ≤ 1000)
  (hm : ManyM w n pw g qs m) (hmo : m.Ok N) (hN : N ≤ 80000) (hp : RdT w 52 PA (ptrs qs no)) (hq : qs.length ≤ 1000) :
  Calls Tryz.prog 34 #[.pointer (some ⟨b,0,none⟩),.slice PA qs.length pc,.int .u64 key] w fun e w'=>AllPost w n pw g qs (allD g key S.fr (secLs S.l) no m) e w' ∧ LogM w' n b V S:=by
 obtain ⟨A,c,xs,hlm,hV⟩:=id h
 obtain ⟨_,l1,_,l3,_⟩:=hlm.cells
 have HSC : Hid (Calls Tryz.prog 47 #[.slice A xs.length c] w (SecPost w S.l)):=by
  have:=sectors_any xs (fun x hx=>(hS.t _ (by rw [← hlm.rec_]; exact List.mem_map.2 ⟨x,hx,rfl⟩)).1) (fun x hx=>(hS.t _ (by rw [← hlm.rec_]; exact List.mem_map.2 ⟨x,hx,rfl⟩)).2) A c w hlm.own.rd (by have:=hlm.len; have:=hS.l; omega)
  rw [hlm.rec_] at this
  exact this
 have HL:=Lib.hid h
 have HS:=Lib.hid hS
 have hbl:=(IsT.own hlm.obj).lt
 clear hlm hV h
 go_enter Tryz.func34,Tryz.ntmps34
 go_wp2_with fail
 refine HSC.out.mono ?_
 rintro e w1 ⟨A1,c1,ss,rfl,hss,ho1,hb1⟩
 have hm1:=hm.below0 hb1
 have hp1:=hp.below0 hb1
 have hln : ss.length = (secLs S.l).length:=by rw [← hss,List.length_map]
 have l1':=(hb1.cell (p:=⟨b,1,none⟩) hbl).trans l1
 have hx : ∀ s ∈ ss,s.xs.length ≤ 100000 ∧ s.xs.length ≤ s.c:=fun s hs=>by
  have h1 : s.xs ∈ secLs S.l:=by rw [← hss]; exact List.mem_map.2 ⟨s,hs,rfl⟩
  have h2:=(secLs_small hS.l (fun r hr=>(hS.t r hr).2) _ h1).2
  exact ⟨by omega,(own_cap0 (ho1.each s hs)).1⟩
 have hf0:=hS.f0
 have hf1:=hS.f1
 have hal:=wall_any (key:=key) (c:=c1) (pc:=pc) hm1 hmo (by omega) (show -1000000 ≤ S.fr by omega) (by omega) (fun W hW=>(hp1.kept hW (KeptT.free (by unfold DAT; decide))).rd) hq (fun W hW=>(ho1.types hW (by unfold DAT; decide) (by unfold DAT; decide)).rd) hx (by omega)
 rw [hss] at hal
 have HAL:=Lib.hid hal
 have HB1:=Lib.hid hb1
 have HL1:=Lib.hid (HL.out.below0 hb1)
 clear hm hp hm1 hp1 hal ho1 hb1 hss hx hmo hS hln l1 l3
 go_wp2_with fail
 refine HAL.out.mono ?_
 rintro e w2 ⟨A2,c2,rfl,ho2,hm2,hk2⟩
 have HD : Hid (AllPost w n pw g qs (allD g key S.fr (secLs S.l) no m) (.returned (.slice A2 (allD g key S.fr (secLs S.l) no m).2.length c2)) w2 ∧ LogM w2 n b V S):=
  ⟨⟨A2,c2,rfl,own_mono ho2 HB1.out.size,hm2,(KeptT.bel HB1.out).trans hk2⟩,HL1.out.types hk2 (by unfold DAT; decide) (by unfold DAT; decide) (by unfold DAT; decide) (by unfold DAT; decide) (by unfold DAT; decide)⟩
 clear ho2 hm2 hk2
 go_wp2
 go_ret
 exact HD.out
end
end Go.Proofs.YtaggiceejcegdaaGreat
namespace Go.Proofs.YtaggiceejcegdaaGreat
set_option linter.unusedVariables false
open Go.RowKit
set_option maxRecDepth 100000 in
set_option maxHeartbeats 1000000 in
theorem brief_any (r : Rec) (A D N : Option Addr) (c d n : Nat) (w : World) :
  Calls Tryz.prog 10 #[.agg #[.int .u64 r.gen,.int .u64 r.seq,.slice A r.ws.length c,.slice D r.ms.length d,.slice N r.note.length n]] w fun e w'=>e = .returned (.bool (briefR r)) ∧ Below w.heap.size w w':=by
 have hb0 : Below w.heap.size w (w.alloc (.cells #[.int .u64 r.gen,.int .u64 r.seq,.slice A r.ws.length c,.slice D r.ms.length d,.slice N r.note.length n] 28)):=(Below.refl _ _).alloc (Nat.le_refl _) _
 have HB:=Lib.hid hb0
 have HE : Hid (briefR r = (decide (r.ws.length ≤ 6) && decide (r.ms.length ≤ 6) && decide (r.note.length ≤ 300))):=rfl
 have e1 : decide ((r.ws.length : Int) ≤ 6) = decide (r.ws.length ≤ 6):=by simp; omega
 have e2 : decide ((r.ms.length : Int) ≤ 6) = decide (r.ms.length ≤ 6):=by simp; omega
 have e3 : decide ((r.note.length : Int) ≤ 300) = decide (r.note.length ≤ 300):=by simp; omega
 clear hb0
 cases h1 : decide (r.ws.length ≤ 6)
 ·rw [h1] at HE e1
  go_enter Tryz.func10,Tryz.ntmps10
  go_wp2
  go_ret
  exact ⟨by rw [HE.out]; rfl,HB.out⟩
 ·rw [h1] at HE e1
  cases h2 : decide (r.ms.length ≤ 6)
  ·rw [h2] at HE e2
   go_enter Tryz.func10,Tryz.ntmps10
   go_wp2
   go_ret
   exact ⟨by rw [HE.out]; rfl,HB.out⟩
  ·rw [h2] at HE e2
   cases h3 : decide (r.note.length ≤ 300)
   ·rw [h3] at HE e3
    go_enter Tryz.func10,Tryz.ntmps10
    go_wp2
    go_ret
    exact ⟨by rw [HE.out]; rfl,HB.out⟩
   ·rw [h3] at HE e3
    go_enter Tryz.func10,Tryz.ntmps10
    go_wp2
    go_ret
    exact ⟨by rw [HE.out]; rfl,HB.out⟩
theorem wrong_at {fs : List FL} {k : Nat} (hk : k < fs.length) (h : 40 < fs[k].F.length ∨ validF fs[k].F = false) : wrongL (fs.map FL.F) = true:=by
 have h1 : (fs.map FL.F).any (fun l=>decide (40 < l.length) || !validF l) = true:=by
  rw [List.any_eq_true]
  refine ⟨fs[k].F,List.mem_map.2 ⟨_,List.getElem_mem hk,rfl⟩,?_⟩
  rcases h with h | h
  ·rw [decide_eq_true h]; rfl
  ·rw [h]; simp
 unfold wrongL; rw [h1]; rfl
theorem wrong_end {fs : List FL} (h : ∀ i (hi : i < fs.length),fs[i].F.length ≤ 40 ∧ validF fs[i].F = true) : wrongL (fs.map FL.F) = decide (6 < fs.length):=by
 have h1 : (fs.map FL.F).any (fun l=>decide (40 < l.length) || !validF l) = false:=by
  rw [List.any_eq_false]
  intro l hl
  obtain ⟨x,hx,rfl⟩:=List.mem_map.1 hl
  obtain ⟨i,hi,rfl⟩:=List.getElem_of_mem hx
  obtain ⟨a,b⟩:=h i hi
  rw [b,decide_eq_false (by omega)]; simp
 unfold wrongL; rw [h1,List.length_map]; rfl
theorem wrong_no {fs : List (List Flt)} (h : wrongL fs = false) : fs.length ≤ 6 ∧ ∀ l ∈ fs,l.length ≤ 40 ∧ validF l = true:=by
 unfold wrongL at h
 rw [Bool.or_eq_false_iff] at h
 refine ⟨by simpa using h.2,fun l hl=>?_⟩
 have:=List.any_eq_false.1 h.1 l hl
 simpa using this
set_option maxRecDepth 100000 in
set_option maxHeartbeats 1000000 in
theorem wrong_any (fs : List FL) (A : Option Addr) (c : Nat) (w : World) (h : FlsR w w.heap.size A fs) (hl : fs.length ≤ 9223372036854775807) (hx : ∀ x ∈ fs,x.F.length ≤ 9223372036854775807) :
  Calls Tryz.prog 15 #[.slice A fs.length c] w fun e w'=>e = .returned (.bool (wrongL (fs.map FL.F))) ∧ Below w.heap.size w w':=by
 have HH:=Lib.hid h
 have HX:=Lib.hid hx
 have H0 : Hid (Below w.heap.size w w ∧ ∀ i (hi : i < fs.length),i < 0 → fs[i].F.length ≤ 40 ∧ validF fs[i].F = true):=⟨Below.refl _ _,fun i _ h=>by omega⟩
 clear h hx
 go_enter Tryz.func15,Tryz.ntmps15
 go_wp2
 go_loopw [7] (fun i wr=>∃ k : Nat,k ≤ fs.length ∧ i = .int .i64 k ∧ Hid (Below w.heap.size w wr ∧ ∀ i (hi : i < fs.length),i < k → fs[i].F.length ≤ 40 ∧ validF fs[i].F = true)) (fun i _=>fs.length - (intOf i).toNat)
 case atStart=>exact ⟨0,Nat.zero_le _,rfl,H0⟩
 case round=>
  obtain ⟨k,hk,rfl,HW⟩:=hrel
  by_cases hlt : k < fs.length
  ·obtain ⟨g0,o0,rfl,hg0,j0,hr0⟩:=fl_at (HH.out.up HW.out.1) hlt
   have hxx:=HX.out _ (List.getElem_mem hlt)
   by_cases h40 : 40 < fs[k].F.length
   ·have HD:=Lib.hid (wrong_at hlt (.inl h40))
    generalize fs[k] = x at *
    have d1 : decide ((40 : Int) < (x.F.length : Int)) = true:=decide_eq_true (by omega)
    clear hr0
    go_wp2
    go_ret
    exact ⟨by rw [HD.out]; rfl,HW.out.1⟩
   ·have HC:=Lib.hid (rfvalid_any fs[k].F fs[k].A fs[k].c wr hr0 hxx)
    cases hv : validF fs[k].F
    ·have HD:=Lib.hid (wrong_at hlt (.inr hv))
     rw [hv] at HC
     generalize fs[k] = x at *
     have d1 : decide ((40 : Int) < (x.F.length : Int)) = false:=decide_eq_false (by omega)
     clear hr0 hv
     go_wp2_with fail
     refine HC.out.mono ?_
     rintro e w1 ⟨rfl,hb1⟩
     go_wp2
     go_ret
     exact ⟨by rw [HD.out]; rfl,HW.out.1.trans (hb1.mono HW.out.1.size)⟩
    ·have HD : Hid (∀ i (hi : i < fs.length),i < k + 1 → fs[i].F.length ≤ 40 ∧ validF fs[i].F = true):=by
      intro i hi hik
      by_cases e : i = k
      ·subst e; exact ⟨by omega,hv⟩
      ·exact HW.out.2 i hi (by omega)
     rw [hv] at HC
     generalize fs[k] = x at *
     have d1 : decide ((40 : Int) < (x.F.length : Int)) = false:=decide_eq_false (by omega)
     clear hr0 hv
     go_wp2_with fail
     refine HC.out.mono ?_
     rintro e w1 ⟨rfl,hb1⟩
     have HB1:=Lib.hid (HW.out.1.trans (hb1.mono HW.out.1.size))
     clear hb1
     go_wp2
     go_roundw
     case rel=>exact ⟨k + 1,hlt,by go_num,HB1.out,HD.out⟩
     case measure=>simp [intOf]; omega
  ·obtain rfl : k = fs.length:=by omega
   have HD:=Lib.hid (wrong_end (fun i hi=>HW.out.2 i hi hi))
   have d6 : decide ((6 : Int) < (fs.length : Int)) = decide (6 < fs.length):=by simp; omega
   go_wp2
   go_ret
   exact ⟨by rw [HD.out]; first | rfl | simp [d6],HW.out.1⟩
end Go.Proofs.YtaggiceejcegdaaGreat
namespace Go.Proofs.YtaggiceejcegdaaGreat
set_option linter.unusedVariables false
open Go.RowKit
section
variable {w W W' : World} {n pb pw rp : Nat} {PA RA : Option Addr} {pc rc : Nat} {qs rqs : List Nat} {no : Nat → Bool} {m mr : MS} {B : Bd}
theorem PS.below (h : PS w W n pb pw rp PA RA pc rc qs rqs no m mr) (hb : Below W.heap.size W W') : PS w W' n pb pw rp PA RA pc rc qs rqs no m mr:=
 ⟨own_kept h.pair (belKept0 (S:=fun _=>False) hb) (fun _ _ h=>h),own_kept h.ptr (belKept0 (S:=fun _=>False) hb) (fun _ _ h=>h),own_kept h.rptr (belKept0 (S:=fun _=>False) hb) (fun _ _ h=>h),h.many.below0 hb,h.ref.below0 hb,h.bel.trans (hb.mono h.bel.size),h.le⟩
theorem PS.typed {m' : MS} (h : PS w W n pb pw rp PA RA pc rc qs rqs no m mr) (hm : ManyM W' n pw gW qs m') (hk : KeptT DAT B W W') (hB : B.n = n) : PS w W' n pb pw rp PA RA pc rc qs rqs no m' mr:=
 ⟨own_ty h.pair hk (by unfold DAT; decide),own_ty h.ptr hk (by unfold DAT; decide),own_ty h.rptr hk (by unfold DAT; decide),hm,h.ref.types hk (by unfold DAT; decide) (by unfold DAT; decide) (by unfold DAT; decide) (by unfold DAT; decide),h.bel.trans ((hk.below (by rw [hB]; exact h.many.low)).mono (by rw [hB]; exact h.le)),h.le⟩
theorem PS.rtyped {mr' : MS} (h : PS w W n pb pw rp PA RA pc rc qs rqs no m mr) (hm : RManyM W' n rp gW rqs mr') (hk : KeptT RDT B W W') (hB : B.n = n) : PS w W' n pb pw rp PA RA pc rc qs rqs no m mr':=
 ⟨own_ty h.pair hk (by unfold RDT; decide),own_ty h.ptr hk (by unfold RDT; decide),own_ty h.rptr hk (by unfold RDT; decide),h.many.types hk (by unfold RDT; decide) (by unfold RDT; decide) (by unfold RDT; decide) (by unfold RDT; decide),hm,h.bel.trans ((hk.below (by rw [hB]; exact h.many.low)).mono (by rw [hB]; exact h.le)),h.le⟩
theorem PS.c2 (h : PS w W n pb pw rp PA RA pc rc qs rqs no m mr) : W.cell? ⟨pb,2,none⟩ = some (.slice PA qs.length pc):=(World.ownsRow.cellAt h.pair 2 (by decide)).trans rfl
theorem PS.c3 (h : PS w W n pb pw rp PA RA pc rc qs rqs no m mr) : W.cell? ⟨pb,3,none⟩ = some (.slice RA rqs.length rc):=(World.ownsRow.cellAt h.pair 3 (by decide)).trans rfl
theorem PS.start {W0 W1 : World} {fs : Nat} (hb0 : Below w.heap.size w W0) (hql : qs.length = fs) (hrl : rqs.length = fs)
  (hP : W1.ownsRow W0.heap.size 52 1 (.slice PA fs pc) fs (ptrs qs no)) (hR : W1.ownsRow W0.heap.size 54 1 (.slice RA fs rc) fs (ptrs rqs no))
  (hm : ManyM W1 W0.heap.size pw gW qs m) (hmr : RManyM W1 W0.heap.size rp gW rqs mr) (hb1 : Below W0.heap.size W0 W1) :
  PS w (W1.alloc (.cells #[.pointer (some ⟨pw,0,none⟩),.pointer (some ⟨rp,0,none⟩),.slice PA fs pc,.slice RA fs rc] 36)) W0.heap.size W1.heap.size pw rp PA RA pc rc qs rqs no m mr:=by
 subst hql
 have hz0:=hb0.size
 have hz1:=hb1.size
 have hbp : Below W1.heap.size W1 (W1.alloc (.cells #[.pointer (some ⟨pw,0,none⟩),.pointer (some ⟨rp,0,none⟩),.slice PA qs.length pc,.slice RA qs.length rc] 36)):=(Below.refl _ _).alloc (Nat.le_refl _) _
 have orow:=World.ownsRow_lit (base:=w.heap.size) (e:=36) (size:=4) W1 #[.pointer (some ⟨pw,0,none⟩),.pointer (some ⟨rp,0,none⟩),.slice PA qs.length pc,.slice RA qs.length rc] 1 (by omega) (by decide) rfl
 have hkp:=belKept0 (S:=fun _=>False) hbp
 refine ⟨?_,own_mono (own_kept hP hkp (fun _ _ h=>h)) hz0,?_,hm.below0 hbp,hmr.below0 hbp,(hb0.trans (hb1.mono hz0)).trans (hbp.mono (by omega)),hz0⟩
 ·rw [hrl]; exact orow
 ·rw [hrl]; exact own_mono (own_kept hR hkp (fun _ _ h=>h)) hz0
section
variable {i q : Nat} {v : DX} {key at_ : Int}
theorem PS.read {N : Int} (h : PS w W n pb pw rp PA RA pc rc qs rqs no m mr) (hv : m.ds[i]? = some v) (hq : qs[i]? = some q) (hN : N ≤ 1000) (hn : v.F.length ≤ 9223372036854775807) (ha0 : -1000000 ≤ at_) (ha1 : at_ ≤ 1000000) :
  Calls Tryz.prog 20 #[.pointer (some ⟨q,0,none⟩),.int .u64 key,.int .i64 at_,.int .i64 N] W fun e w'=>∃ A c ss,e = .returned (.tuple #[.slice A ss.length c,.int .i64 (rdAll gW v.F key at_ (m.dc v) N.toNat).2.2]) ∧ ss.map Sl.xs = (rdAll gW v.F key at_ (m.dc v) N.toNat).2.1 ∧ SlsB w' W.heap.size A c ss ∧
   PS w w' n pb pw rp PA RA pc rc qs rqs no (m.put i v.F (rdAll gW v.F key at_ (m.dc v) N.toNat).1) mr ∧ KeptT DAT (Bd.of n) W w':=by
 obtain ⟨B,hB,hd,hback⟩:=h.many.at_ hv hq
 have hC : Calls Tryz.prog 20 #[.pointer (some ⟨q,0,none⟩),.int .u64 key,.int .i64 at_,.int .i64 N] W (RdsPost W B q pw gW v.F (rdAll gW v.F key at_ (m.dc v) N.toNat)):=by
  by_cases h0 : N ≤ 0
  ·have e : N.toNat = 0:=by omega
   rw [e]
   exact wread_none N h0 hd
  ·have e : ((N.toNat : Nat) : Int) = N:=by omega
   have:=wread_pos (key:=key) (at_:=at_) (N:=N.toNat) (by omega) (by omega) hd hn ha0 ha1
   rw [e] at this
   exact this
 refine hC.mono ?_
 rintro e w' ⟨A,c,ss,he,hx,hs,hd',hk⟩
 exact ⟨A,c,ss,he,hx,hs,h.typed (hback w' _ hd' hk) hk hB,hk.wideN hB⟩
theorem PS.rread {N : Int} (h : PS w W n pb pw rp PA RA pc rc qs rqs no m mr) (hv : mr.ds[i]? = some v) (hq : rqs[i]? = some q) (hN : N ≤ 1000) (hu : (mr.dc v).U8) (hn : v.F.length ≤ 9223372036854775807) (hon : v.O.length ≤ 99000) (ha0 : -1000000 ≤ at_) (ha1 : at_ ≤ 1000000) :
  Calls Tryz.prog 21 #[.pointer (some ⟨q,0,none⟩),.int .u64 key,.int .i64 at_,.int .i64 N] W fun e w'=>∃ A c ss,e = .returned (.tuple #[.slice A ss.length c,.int .i64 (rdAll gW v.F key at_ (mr.dc v) N.toNat).2.2]) ∧ ss.map Sl.xs = (rdAll gW v.F key at_ (mr.dc v) N.toNat).2.1 ∧ SlsB w' W.heap.size A c ss ∧
   PS w w' n pb pw rp PA RA pc rc qs rqs no m (mr.put i v.F (rdAll gW v.F key at_ (mr.dc v) N.toNat).1) ∧ KeptT RDT (Bd.of n) W w':=by
 obtain ⟨B,hB,hd,hback⟩:=h.ref.at_ hv hq
 refine (rwread_any (key:=key) (at_:=at_) N rfl (by omega) hd hu hn hon ha0 ha1).mono ?_
 rintro e w' ⟨A,c,ss,he,hx,hs,hd',hk⟩
 exact ⟨A,c,ss,he,hx,hs,h.rtyped (hback w' _ hd' hk) hk hB,hk.wideN hB⟩
end
end
theorem rdAll_bad {g : Geo} {F : List Flt} {key a : Int} {d : DC} : ∀ n,¬ (rdAll g F key a d n).2.2 = 0 → (rdAll g F key a d n).2.1.length ≤ 1000
 | 0,h=>absurd rfl h
 | n + 1,h=>by
   by_cases h0 : (rdAll g F key a d n).2.2 = 0
   ·rw [rdAll_yes h0] at h ⊢
    unfold rdNext at h ⊢
    split at h
    ·exact absurd rfl h
    ·rename_i h1
     rw [if_neg h1]
     split at h
     ·exact absurd rfl h
     ·rename_i h2
      rw [if_neg h2]
      simp
   ·rw [rdAll_no h0]; exact rdAll_bad n h0
theorem newMS_ok {fs : List (List Flt)} (h : ∀ F ∈ fs,(∀ f ∈ F,I64 f.to_) ∧ F.length ≤ 9223372036854775807) : (newMS fs).Ok 0:=by
 intro i v hv
 have hm:=List.mem_of_getElem? hv
 unfold newMS at hm
 obtain ⟨F,hF,rfl⟩:=List.mem_map.1 hm
 exact ⟨(h F hF).1,(h F hF).2,Nat.le_refl _⟩
theorem newMS_u8 (fs : List (List Flt)) : (newMS fs).U8:=by
 intro i v hv
 have hm:=List.mem_of_getElem? hv
 unfold newMS at hm
 obtain ⟨F,hF,rfl⟩:=List.mem_map.1 hm
 exact ⟨SecU.blank _,fun o ho=>absurd (show o ∈ ([] : List OpV) from ho) (by simp)⟩
end Go.Proofs.YtaggiceejcegdaaGreat
namespace Go.Proofs.YtaggiceejcegdaaGreat
set_option linter.unusedVariables false
open Go.ChangeShapes Go.WideShapes Go.ChangeAt Go.RowKit Go.Deep
theorem u64_of {x : Int} (h : (Lit.int .u64 x).wf = true) : 0 ≤ x ∧ x < 18446744073709551616:=by
 simp [Lit.wf,IntKind.min,IntKind.max,IntKind.signed,IntKind.bits] at h
 exact ⟨by omega,by omega⟩
theorem cellsU64 : Tryz.prog.cellsOf 23 = 1:=by kernel_rfl
theorem cellsBlock : Tryz.prog.cellsOf 149 = 8:=by kernel_rfl
theorem cellsPlace : Tryz.prog.cellsOf 154 = 2:=by kernel_rfl
theorem cellsPW : Tryz.prog.cellsOf 151 = 11:=by kernel_rfl
theorem cellsMv : Tryz.prog.cellsOf 156 = 4:=by kernel_rfl
theorem cellsPWs : Tryz.prog.cellsOf 24 = 1:=by kernel_rfl
theorem cellsMvs : Tryz.prog.cellsOf 25 = 1:=by kernel_rfl
theorem list8v {α : Type} {l : List α} (h : l.length = 8) : ∃ a0 a1 a2 a3 a4 a5 a6 a7,l = [a0,a1,a2,a3,a4,a5,a6,a7]:=by
 match l,h with
 | [a0,a1,a2,a3,a4,a5,a6,a7],_=>exact ⟨a0,a1,a2,a3,a4,a5,a6,a7,rfl⟩
section
variable {H : Type} {enc : TypeId × Value → H} {w : World} {base : Nat} {spare : Nat → Bool} {held : Bool}
theorem open_block {fuel : Nat} {cs : List Value} {y : DataW H × List MemPlace} (hcs : cs.length = 8) (h : DataW.trod enc Tryz.prog w base spare held fuel 149 cs = some y) : ∃ d0 d1 d2 d3 d4 d5 d6 d7,cs = [.int .u8 d0,.int .u8 d1,.int .u8 d2,.int .u8 d3,.int .u8 d4,.int .u8 d5,.int .u8 d6,.int .u8 d7] ∧ U8s [d0,d1,d2,d3,d4,d5,d6,d7]:=by
 obtain ⟨c0,c1,c2,c3,c4,c5,c6,c7,rfl⟩:=list8v hcs
 obtain ⟨xs,k,_,_,_,hxl,hf⟩:=DataW.trod_array Tryz.underlying149 h
 clear h
 have one : ∀ i,i < 8 → ∃ d,[c0,c1,c2,c3,c4,c5,c6,c7][i]? = some (.int .u8 d) ∧ 0 ≤ d ∧ d ≤ 255:=fun i hi=>by
  have h1:=hf i hi
  rw [cellsU8,Nat.mul_one,List.getElem?_eq_getElem (by rw [hxl]; exact hi)] at h1
  obtain ⟨d,e,_,wd⟩:=DataW.trod_int Tryz.underlying5 h1
  refine ⟨d,?_,u8_of wd⟩
  have h2 : (([c0,c1,c2,c3,c4,c5,c6,c7].drop i).take 1)[0]? = some (.int .u8 d):=by rw [e]; rfl
  rw [List.getElem?_take,if_pos (by omega),List.getElem?_drop] at h2
  exact h2
 ·obtain ⟨d0,e0,w0⟩:=one 0 (by omega)
  obtain ⟨d1,e1,w1⟩:=one 1 (by omega)
  obtain ⟨d2,e2,w2⟩:=one 2 (by omega)
  obtain ⟨d3,e3,w3⟩:=one 3 (by omega)
  obtain ⟨d4,e4,w4⟩:=one 4 (by omega)
  obtain ⟨d5,e5,w5⟩:=one 5 (by omega)
  obtain ⟨d6,e6,w6⟩:=one 6 (by omega)
  obtain ⟨d7,e7,w7⟩:=one 7 (by omega)
  have k0 : c0 = .int .u8 d0:=Option.some.inj e0
  have k1 : c1 = .int .u8 d1:=Option.some.inj e1
  have k2 : c2 = .int .u8 d2:=Option.some.inj e2
  have k3 : c3 = .int .u8 d3:=Option.some.inj e3
  have k4 : c4 = .int .u8 d4:=Option.some.inj e4
  have k5 : c5 = .int .u8 d5:=Option.some.inj e5
  have k6 : c6 = .int .u8 d6:=Option.some.inj e6
  have k7 : c7 = .int .u8 d7:=Option.some.inj e7
  clear e0 e1 e2 e3 e4 e5 e6 e7
  subst k0; subst k1; subst k2; subst k3; subst k4; subst k5; subst k6; subst k7
  refine ⟨d0,d1,d2,d3,d4,d5,d6,d7,rfl,fun x hx=>?_⟩
  simp only [List.mem_cons,List.not_mem_nil,or_false] at hx
  rcases hx with rfl | rfl | rfl | rfl | rfl | rfl | rfl | rfl <;> assumption
theorem open_pw {fuel : Nat} {cs : List Value} {y : DataW H × List MemPlace} (hcs : cs.length = 11) (h : DataW.trod enc Tryz.prog w base spare held fuel 151 cs = some y) : ∃ x : PW,cs = x.cells ∧ x.Ok:=by
 match cs,hcs with
 | [c0,c1,c2,c3,c4,c5,c6,c7,c8,c9,c10],_=>
   obtain ⟨xs,k,_,_,_,hxl,hf⟩:=DataW.trod_struct Tryz.underlying151 h
   match xs,hxl with
   | [x0,x1,x2,x3],_=>
     have f0 : DataW.trod enc Tryz.prog w base spare held k 3 (([c0,c1,c2,c3,c4,c5,c6,c7,c8,c9,c10].drop 0).take (Tryz.prog.cellsOf 3)) = some x0:=hf 0 _ rfl
     have f1 : DataW.trod enc Tryz.prog w base spare held k 3 (([c0,c1,c2,c3,c4,c5,c6,c7,c8,c9,c10].drop 1).take (Tryz.prog.cellsOf 3)) = some x1:=hf 1 _ rfl
     have f2 : DataW.trod enc Tryz.prog w base spare held k 23 (([c0,c1,c2,c3,c4,c5,c6,c7,c8,c9,c10].drop 2).take (Tryz.prog.cellsOf 23)) = some x2:=hf 2 _ rfl
     have f3 : DataW.trod enc Tryz.prog w base spare held k 149 (([c0,c1,c2,c3,c4,c5,c6,c7,c8,c9,c10].drop 3).take (Tryz.prog.cellsOf 149)) = some x3:=hf 3 _ rfl
     rw [cellsInt] at f0 f1
     rw [cellsU64] at f2
     rw [cellsBlock] at f3
     obtain ⟨n0,e0,_,w0⟩:=DataW.trod_int Tryz.underlying3 f0
     obtain ⟨n1,e1,_,w1⟩:=DataW.trod_int Tryz.underlying3 f1
     obtain ⟨n2,e2,_,w2⟩:=DataW.trod_int Tryz.underlying23 f2
     have f3' : DataW.trod enc Tryz.prog w base spare held k 149 [c3,c4,c5,c6,c7,c8,c9,c10] = some x3:=f3
     obtain ⟨d0,d1,d2,d3,d4,d5,d6,d7,e3,hu⟩:=open_block rfl f3'
     simp at e0 e1 e2 e3
     obtain ⟨e3,e4,e5,e6,e7,e8,e9,e10⟩:=e3
     subst e0; subst e1; subst e2; subst e3; subst e4; subst e5; subst e6; subst e7; subst e8; subst e9; subst e10
     have hn:=u64_of w2
     refine ⟨⟨n0,n1,n2.toNat,d0,d1,d2,d3,d4,d5,d6,d7⟩,?_,i64_of w0,i64_of w1,by show n2.toNat < 2 ^ 64; omega,hu⟩
     unfold PW.cells
     rw [show ((n2.toNat : Nat) : Int) = n2 from Int.toNat_of_nonneg hn.1]
theorem open_mv {fuel : Nat} {cs : List Value} {y : DataW H × List MemPlace} (hcs : cs.length = 4) (h : DataW.trod enc Tryz.prog w base spare held fuel 156 cs = some y) : ∃ x : Mv,cs = x.cells ∧ x.Ok:=by
 match cs,hcs with
 | [c0,c1,c2,c3],_=>
   obtain ⟨xs,k,_,_,_,hxl,hf⟩:=DataW.trod_struct Tryz.underlying156 h
   match xs,hxl with
   | [x0,x1,x2],_=>
     have f0 : DataW.trod enc Tryz.prog w base spare held k 3 (([c0,c1,c2,c3].drop 0).take (Tryz.prog.cellsOf 3)) = some x0:=hf 0 _ rfl
     have f1 : DataW.trod enc Tryz.prog w base spare held k 3 (([c0,c1,c2,c3].drop 1).take (Tryz.prog.cellsOf 3)) = some x1:=hf 1 _ rfl
     have f2 : DataW.trod enc Tryz.prog w base spare held k 154 (([c0,c1,c2,c3].drop 2).take (Tryz.prog.cellsOf 154)) = some x2:=hf 2 _ rfl
     rw [cellsInt] at f0 f1
     rw [cellsPlace] at f2
     obtain ⟨n0,e0,_,w0⟩:=DataW.trod_int Tryz.underlying3 f0
     obtain ⟨n1,e1,_,w1⟩:=DataW.trod_int Tryz.underlying3 f1
     have f2' : DataW.trod enc Tryz.prog w base spare held k 154 [c2,c3] = some x2:=f2
     obtain ⟨ys,k2,_,_,_,hyl,hg⟩:=DataW.trod_struct Tryz.underlying154 f2'
     match ys,hyl with
     | [y0,y1],_=>
       have g0 : DataW.trod enc Tryz.prog w base spare held k2 3 (([c2,c3].drop 0).take (Tryz.prog.cellsOf 3)) = some y0:=hg 0 _ rfl
       have g1 : DataW.trod enc Tryz.prog w base spare held k2 3 (([c2,c3].drop 1).take (Tryz.prog.cellsOf 3)) = some y1:=hg 1 _ rfl
       rw [cellsInt] at g0 g1
       obtain ⟨n2,e2,_,w2⟩:=DataW.trod_int Tryz.underlying3 g0
       obtain ⟨n3,e3,_,w3⟩:=DataW.trod_int Tryz.underlying3 g1
       simp at e0 e1 e2 e3
       subst e0; subst e1; subst e2; subst e3
       exact ⟨⟨n0,n1,n2,n3⟩,rfl,i64_of w0,i64_of w1,i64_of w2,i64_of w3⟩
theorem open_pws {fuel : Nat} {v : Value} {y : DataW H × List MemPlace} (h : DataW.trod enc Tryz.prog w base spare held fuel 24 [v] = some y) : ∃ (A : Option Addr) (l : List PW) (c : Nat),v = .slice A l.length c ∧ Rd w w.heap.size A (flatW l) ∧ (∀ x ∈ l,x.Ok) ∧ l.length ≤ 9223372036854775807:=by
 rcases open_slice Tryz.underlying24 h with ⟨hcs,_⟩ | ⟨a,len,cap,m,n,D,Pl,hcs,_,hl,hm,hmm,_,hel⟩
 ·simp at hcs
  subst hcs
  exact ⟨none,[],0,rfl,Rd.nil_ _ _ _,fun x hx=>by simp at hx,by simp⟩
 ·simp at hcs
  subst hcs
  have hlm : len ≤ m:=by rw [hmm]; split <;> omega
  obtain ⟨l,hll,hq⟩:=list_of (Q:=fun i (o : PW)=>o.Ok ∧ ∀ t u,o.cells[t]? = some u → w.cell? (a.add (i * 11 + t)) = some u) len (fun i hi=>by
   obtain ⟨cs',hc,ht⟩:=hel i (by omega)
   rw [cellsPW] at hc
   obtain ⟨_,hcl,hat⟩:=World.cells?_some hc
   obtain ⟨o,rfl,ho⟩:=open_pw hcl ht
   refine ⟨o,ho,fun t u hu=>?_⟩
   have ht3 : t < 11:=(List.getElem?_eq_some_iff.1 hu).1
   rw [← Go.Deep.add_add,hat t ht3]
   exact hu)
  refine ⟨some a,l,cap,by rw [hll],rd_of_add fun j u hu=>?_,fun b hb=>?_,by unfold maxLen at hm; omega⟩
  ·have hj : j < l.length * 11:=by rw [← flatW_len]; exact (List.getElem?_eq_some_iff.1 hu).1
   have e : (flatW l)[j / 11 * 11 + j % 11]? = (l[j / 11]?).bind fun b=>b.cells[j % 11]?:=flat_get _ 11 (fun _=>rfl) l (j / 11) (j % 11) (by omega)
   rw [show j / 11 * 11 + j % 11 = j by omega,hu,List.getElem?_eq_getElem (by omega : j / 11 < l.length)] at e
   have:=(hq (j / 11) _ (List.getElem?_eq_getElem (by omega))).2 (j % 11) u e.symm
   rw [show j / 11 * 11 + j % 11 = j by omega] at this
   exact this
  ·obtain ⟨i,hi⟩:=List.mem_iff_getElem?.1 hb
   exact (hq i b hi).1
theorem open_mvs {fuel : Nat} {v : Value} {y : DataW H × List MemPlace} (h : DataW.trod enc Tryz.prog w base spare held fuel 25 [v] = some y) : ∃ (A : Option Addr) (l : List Mv) (c : Nat),v = .slice A l.length c ∧ Rd w w.heap.size A (flatM l) ∧ (∀ x ∈ l,x.Ok) ∧ l.length ≤ 9223372036854775807:=by
 rcases open_slice Tryz.underlying25 h with ⟨hcs,_⟩ | ⟨a,len,cap,m,n,D,Pl,hcs,_,hl,hm,hmm,_,hel⟩
 ·simp at hcs
  subst hcs
  exact ⟨none,[],0,rfl,Rd.nil_ _ _ _,fun x hx=>by simp at hx,by simp⟩
 ·simp at hcs
  subst hcs
  have hlm : len ≤ m:=by rw [hmm]; split <;> omega
  obtain ⟨l,hll,hq⟩:=list_of (Q:=fun i (o : Mv)=>o.Ok ∧ ∀ t u,o.cells[t]? = some u → w.cell? (a.add (i * 4 + t)) = some u) len (fun i hi=>by
   obtain ⟨cs',hc,ht⟩:=hel i (by omega)
   rw [cellsMv] at hc
   obtain ⟨_,hcl,hat⟩:=World.cells?_some hc
   obtain ⟨o,rfl,ho⟩:=open_mv hcl ht
   refine ⟨o,ho,fun t u hu=>?_⟩
   have ht3 : t < 4:=(List.getElem?_eq_some_iff.1 hu).1
   rw [← Go.Deep.add_add,hat t ht3]
   exact hu)
  refine ⟨some a,l,cap,by rw [hll],rd_of_add fun j u hu=>?_,fun b hb=>?_,by unfold maxLen at hm; omega⟩
  ·have hj : j < l.length * 4:=by rw [← flatM_len]; exact (List.getElem?_eq_some_iff.1 hu).1
   have e : (flatM l)[j / 4 * 4 + j % 4]? = (l[j / 4]?).bind fun b=>b.cells[j % 4]?:=flat_get _ 4 (fun _=>rfl) l (j / 4) (j % 4) (by omega)
   rw [show j / 4 * 4 + j % 4 = j by omega,hu,List.getElem?_eq_getElem (by omega : j / 4 < l.length)] at e
   have:=(hq (j / 4) _ (List.getElem?_eq_getElem (by omega))).2 (j % 4) u e.symm
   rw [show j / 4 * 4 + j % 4 = j by omega] at this
   exact this
  ·obtain ⟨i,hi⟩:=List.mem_iff_getElem?.1 hb
   exact (hq i b hi).1
end
end Go.Proofs.YtaggiceejcegdaaGreat
namespace Go.Proofs.YtaggiceejcegdaaGreat
set_option linter.unusedVariables false
open Go.ChangeShapes Go.WideShapes Go.ChangeAt Go.RowKit Go.Deep
theorem cellsRec : Tryz.prog.cellsOf 28 = 5:=by kernel_rfl
theorem cellsRecs : Tryz.prog.cellsOf 22 = 1:=by kernel_rfl
section
variable {H : Type} {enc : TypeId × Value → H} {w : World} {base : Nat} {spare : Nat → Bool} {held : Bool}
set_option maxRecDepth 10000 in
theorem open_rs {fuel : Nat} {cs : List Value} {y : DataW H × List MemPlace} (hcs : cs.length = 5) (h : DataW.trod enc Tryz.prog w base spare held fuel 28 cs = some y) : ∃ x : RS,cs = x.cells ∧ RSIn w x:=by
 match cs,hcs with
 | [c0,c1,c2,c3,c4],_=>
   obtain ⟨xs,k,_,_,_,hxl,hf⟩:=DataW.trod_struct Tryz.underlying28 h
   match xs,hxl with
   | [x0,x1,x2,x3,x4],_=>
     have f0 : DataW.trod enc Tryz.prog w base spare held k 23 (([c0,c1,c2,c3,c4].drop 0).take (Tryz.prog.cellsOf 23)) = some x0:=hf 0 _ rfl
     have f1 : DataW.trod enc Tryz.prog w base spare held k 23 (([c0,c1,c2,c3,c4].drop 1).take (Tryz.prog.cellsOf 23)) = some x1:=hf 1 _ rfl
     have f2 : DataW.trod enc Tryz.prog w base spare held k 24 (([c0,c1,c2,c3,c4].drop 2).take (Tryz.prog.cellsOf 24)) = some x2:=hf 2 _ rfl
     have f3 : DataW.trod enc Tryz.prog w base spare held k 25 (([c0,c1,c2,c3,c4].drop 3).take (Tryz.prog.cellsOf 25)) = some x3:=hf 3 _ rfl
     have f4 : DataW.trod enc Tryz.prog w base spare held k 26 (([c0,c1,c2,c3,c4].drop 4).take (Tryz.prog.cellsOf 26)) = some x4:=hf 4 _ rfl
     rw [cellsU64] at f0 f1
     rw [cellsPWs] at f2
     rw [cellsMvs] at f3
     rw [cellsBytes] at f4
     obtain ⟨n0,e0,_,w0⟩:=DataW.trod_int Tryz.underlying23 f0
     obtain ⟨n1,e1,_,w1⟩:=DataW.trod_int Tryz.underlying23 f1
     have f2' : DataW.trod enc Tryz.prog w base spare held k 24 [c2] = some x2:=f2
     have f3' : DataW.trod enc Tryz.prog w base spare held k 25 [c3] = some x3:=f3
     have f4' : DataW.trod enc Tryz.prog w base spare held k 26 [c4] = some x4:=f4
     obtain ⟨A,ws,c,e2,hw,hwo,hwl⟩:=open_pws f2'
     obtain ⟨D,ms,d,e3,hm,hmo,hml⟩:=open_mvs f3'
     obtain ⟨s,hs⟩:=open_bytes f4'
     have e4:=hs.val
     simp at e0 e1
     subst e0; subst e1; subst e2; subst e3; subst e4
     have g0:=u64_of w0
     have g1:=u64_of w1
     have hcap:=hs.cap
     have hbig:=hs.big
     refine ⟨⟨⟨n0.toNat,n1.toNat,ws,ms,s.xs⟩,A,c,D,d,s.A,s.c⟩,?_,⟨hw,hm,hs.rd⟩,⟨by show n0.toNat < 2 ^ 64; omega,by show n1.toNat < 2 ^ 64; omega,hwo,hmo,hs.ok⟩,hwl,hml,by show s.xs.length ≤ _; omega⟩
     show _ = [Value.int .u64 (n0.toNat : Nat),.int .u64 (n1.toNat : Nat),_,_,_]
     rw [show ((n0.toNat : Nat) : Int) = n0 from Int.toNat_of_nonneg g0.1,show ((n1.toNat : Nat) : Int) = n1 from Int.toNat_of_nonneg g1.1]
     rfl
theorem open_recs {fuel : Nat} {v : Value} {y : DataW H × List MemPlace} (h : DataW.trod enc Tryz.prog w base spare held fuel 22 [v] = some y) : ∃ A l c,RcsIn w v A l c:=by
 rcases open_slice Tryz.underlying22 h with ⟨hcs,_⟩ | ⟨a,len,cap,m,n,D,Pl,hcs,hx1,hl,hm,hmm,hx2,hel⟩
 ·simp at hcs
  subst hcs
  exact ⟨none,[],0,rfl,RcsR.nil _ _ _,fun x hx=>by simp at hx,Nat.le_refl _,by omega⟩
 ·simp at hcs
  subst hcs
  have hlm : len ≤ m:=by rw [hmm]; split <;> omega
  obtain ⟨l,hll,hq⟩:=list_of (Q:=fun i (o : RS)=>RSIn w o ∧ ∀ t u,o.cells[t]? = some u → w.cell? (a.add (i * 5 + t)) = some u) len (fun i hi=>by
   obtain ⟨cs',hc,ht⟩:=hel i (by omega)
   rw [cellsRec] at hc
   obtain ⟨_,hcl,hat⟩:=World.cells?_some hc
   obtain ⟨o,rfl,ho⟩:=open_rs hcl ht
   refine ⟨o,ho,fun t u hu=>?_⟩
   have ht3 : t < 5:=(List.getElem?_eq_some_iff.1 hu).1
   rw [← Go.Deep.add_add,hat t ht3]
   exact hu)
  refine ⟨some a,l,cap,by rw [hll],⟨rd_of_add fun j u hu=>?_,fun b hb=>?_⟩,fun b hb=>?_,by omega,by unfold maxLen at hm; omega⟩
  ·have hj : j < l.length * 5:=by rw [← flatR_len]; exact (List.getElem?_eq_some_iff.1 hu).1
   have e : (flatR l)[j / 5 * 5 + j % 5]? = (l[j / 5]?).bind fun b=>b.cells[j % 5]?:=flat_get _ 5 (fun _=>rfl) l (j / 5) (j % 5) (by omega)
   rw [show j / 5 * 5 + j % 5 = j by omega,hu,List.getElem?_eq_getElem (by omega : j / 5 < l.length)] at e
   have:=(hq (j / 5) _ (List.getElem?_eq_getElem (by omega))).2 (j % 5) u e.symm
   rw [show j / 5 * 5 + j % 5 = j by omega] at this
   exact this
  ·obtain ⟨i,hi⟩:=List.mem_iff_getElem?.1 hb
   exact (hq i b hi).1.rd
  ·obtain ⟨i,hi⟩:=List.mem_iff_getElem?.1 hb
   exact (hq i b hi).1
end
end Go.Proofs.YtaggiceejcegdaaGreat
namespace Go.Proofs.YtaggiceejcegdaaGreat
set_option linter.unusedVariables false
open Go.RowKit
theorem appE_zero {S : LogS} {r : Rec} (h : appE S r = 0) : validR (S.num r) = true ∧ ((encR (S.num r)).length : Int) ≤ S.sec - S.used:=by
 unfold appE at h
 split at h
 ·rename_i h1
  split at h
  ·rename_i h2; exact ⟨h1,h2⟩
  ·omega
 ·omega
theorem num_ok {S : LogS} (hS : S.Ok) {r : Rec} (hok : r.Ok) : (S.num r).Ok:=⟨hS.g,by show S.l.length + 1 < 2 ^ 64; have:=hS.l; omega,hok.ws,hok.ms,hok.note⟩
theorem appS_ok {S : LogS} (hS : S.Ok) {r : Rec} (hok : r.Ok) (ht : Tiny r) (hl : S.l.length < 100) : (appS S r).Ok:=by
 unfold appS
 split
 ·rename_i h0
  obtain ⟨_,h2⟩:=appE_zero h0
  have h3:=hS.u0
  refine ⟨hS.g,hS.f0,hS.f1,?_,?_,hS.s1,?_,?_⟩
  ·show 0 ≤ S.used + ((encR (S.num r)).length : Int); omega
  ·show S.used + ((encR (S.num r)).length : Int) ≤ S.sec; omega
  ·show (S.l ++ [S.num r]).length ≤ 100; rw [List.length_append]; simp; omega
  ·intro x hx
   rcases List.mem_append.1 hx with h | h
   ·exact hS.t x h
   ·obtain rfl:=List.mem_singleton.1 h
    exact ⟨⟨ht.ws,ht.ms,ht.note⟩,num_ok hS hok⟩
 ·exact hS
theorem appS_len (S : LogS) (r : Rec) : (appS S r).l.length ≤ S.l.length + 1:=by
 unfold appS
 split
 ·show (S.l ++ [S.num r]).length ≤ _; simp
 ·omega
theorem appS_sec (S : LogS) (r : Rec) : (appS S r).sec = S.sec ∧ (appS S r).fr = S.fr ∧ (appS S r).gen = S.gen:=by
 unfold appS
 split <;> exact ⟨rfl,rfl,rfl⟩
theorem appM_ok {g : Geo} {key : Int} {no : Nat → Bool} {S : LogS} {r : Rec} {m : MS} {N : Nat} (hS : S.Ok) (h18 : S.sec ≤ 18) (h : m.Ok N) : (appM g key no S r m).1.Ok (N + 162):=by
 unfold appM
 split
 ·rename_i h0
  obtain ⟨_,h2⟩:=appE_zero h0
  have h3:=hS.u0
  exact (allD_ok h).mono (by omega)
 ·exact h.mono (by omega)
theorem brief_tiny {r : Rec} (h : briefR r = true) : Tiny r:=by
 unfold briefR at h
 simp only [Bool.and_eq_true,decide_eq_true_eq] at h
 exact ⟨by omega,by omega,by omega⟩
theorem newB_nil {gen : Nat} {fr sec : Int} (h0 : 0 ≤ fr) (h1 : 0 ≤ sec) : newB gen fr sec [] = true:=by
 unfold newB
 have e : logV [] = true:=rfl
 have e2 : ((secsL []).length : Int) = 0:=rfl
 rw [e,e2,decide_eq_true h0,decide_eq_true h1]; rfl
theorem S0L_ok {gen : Nat} {fr sec : Int} (hg : gen < 2 ^ 64) (h0 : 0 ≤ fr) (h1 : fr ≤ 1000) (h2 : 0 ≤ sec) (h3 : sec ≤ 1000) : (S0L gen fr sec).Ok:=⟨hg,h0,h1,Int.le_refl _,h2,h3,by show 0 ≤ 100; omega,fun r hr=>by simp [S0L] at hr⟩
end Go.Proofs.YtaggiceejcegdaaGreat
