/-
  WHAT IS SHOWN: more: how a disk and a power supply of the reference lie in memory; what the power supply's functions, Ready and has return and leave. what At of tegularef13 returns. Conditions: as each theorem names them.
-/
import Derived.Test.YtaggiceejcegdaaGreatNc35
import Derived.BigQuiet
import Derived.ChangeKeysEq
import Derived.ChangeOld
import Derived.Deep.AppendLies
import Derived.Deep.DeepCutAuto
import Derived.Deep.Draws
import Derived.Deep.Fields
import Derived.Deep.QuietTactic
import Derived.Deep.RegionHeld3
import Derived.Deep.RegionLaw
import Derived.Deep.Slices
import Derived.Handy
import Derived.Laws.BytesArg
import Derived.Laws.Cover3
import Derived.Laws.MakeOwn
import Derived.Laws.OwnMore
import Derived.Laws.Rows
import Derived.Lib.ConvBytes
import Derived.Lib.Hide
import Derived.Lib.SmallJoins
import Derived.Lib.VarintBits
import Derived.Lib.Zigzag
import Derived.LoopIn
import Derived.LoopNIn
import Derived.Maps.AppendAt
import Derived.OpenShut
import Derived.OwnWalkIn
import Derived.ProofKit
import Derived.RangeFuncBox
import Derived.RangeFuncLeaves
import Derived.Shelf.Abstract
import Derived.Sort.QuietIn
import Derived.TacticsInMore
import Derived.WalkKit
import Derived.WalkLawsBesides
import Derived.WalkMore
import Derived.WalkSpells
import Derived.Test.YtaggiceejcegdaaGreatOd02
namespace Go.Proofs.YtaggiceejcegdaaGreat
set_option linter.unusedVariables false
open Go.RowKit
theorem RelP.call {P R : Pow} (h : RelP P R) : RelP (callP P) (rcallP R):=by
 obtain ⟨h1,h2,h3,h4⟩:=h
 obtain ⟨po,pa,pl,pf⟩:=P
 obtain ⟨ro,ra,rl,rf⟩:=R
 simp only at h1 h2 h3 h4
 subst h1; subst h2; subst h3
 unfold callP rcallP trip
 cases pa
 ·exact ⟨rfl,rfl,rfl,fun h=>by simp at h⟩
 ·obtain rfl:=h4 rfl
  by_cases hl : pl = 0
  ·subst hl; exact ⟨rfl,rfl,rfl,fun h=>by simp at h⟩
  ·simp only [Bool.true_and,decide_eq_true_eq,if_neg hl,if_true]; exact ⟨rfl,rfl,rfl,fun _=>rfl⟩
theorem rt_rdt : ∀ t,t ∈ RT → t ∈ RDT:=by unfold RT RDT; decide
theorem rd_rdt : ∀ t,t ∈ [145] → t ∈ RDT:=by unfold RDT; decide
section
variable {w w' : World} {B C : Bd} {q pw p : Nat} {g : Geo} {F : List Flt} {s : DS} {P R : Pow} {LM : List Sec} {O : List OpV} {FA : Option Addr} {fc : Nat}
theorem RDsk.store (h : RDsk w B q pw g F s LM O p FA fc) (j : Nat) (v : Value) (s' : DS) (e : (rObj g s p pw FA F.length fc).set j v = rObj g s' p pw FA F.length fc) :
  RDsk (w.setCell ⟨q,j,none⟩ v) B q pw g F s' LM O p FA fc ∧ KeptT [145] B w (w.setCell ⟨q,j,none⟩ v):=by
 have tq:=IsT.own h.obj
 have hk : Kept (fun k=>k = q) w (w.setCell ⟨q,j,none⟩ v):=(Kept.refl (fun k=>k = q) w).setCell (p:=⟨q,j,none⟩) (fun _=>rfl) _
 have hkT : KeptT [145] B w (w.setCell ⟨q,j,none⟩ v):=KeptT.of hk (fun k _ e=>by have e' : k = q:=e; subst e'; exact ⟨⟨row_low h.obj,h.px⟩,HasT.mem tq (by simp)⟩)
 refine ⟨⟨?_,h.px,h.c.keptT hkT (by decide),h.fl.kept hkT (KeptT.free (by decide))⟩,hkT⟩
 have:=(World.ownsRow.stored h.obj j v).1
 rw [e] at this; exact this
theorem RPow.store (h : RPow w B pw R) (j : Nat) (v : Value) (R' : Pow) (e : (pObj R).set j v = pObj R') : RPow (w.setCell ⟨pw,j,none⟩ v) B pw R' ∧ KeptT [131] B w (w.setCell ⟨pw,j,none⟩ v):=by
 have tq:=IsT.own h.obj
 have hk : Kept (fun k=>k = pw) w (w.setCell ⟨pw,j,none⟩ v):=(Kept.refl (fun k=>k = pw) w).setCell (p:=⟨pw,j,none⟩) (fun _=>rfl) _
 refine ⟨⟨?_,h.px⟩,KeptT.of hk (fun k _ e=>by have e' : k = pw:=e; subst e'; exact ⟨⟨row_low h.obj,h.px⟩,HasT.mem tq (by simp)⟩)⟩
 have:=(World.ownsRow.stored h.obj j v).1
 rw [e] at this; exact this
theorem RDsk.cell (h : RDsk w B q pw g F s LM O p FA fc) (j : Nat) (hj : j < 16) : w.cell? ⟨q,j,none⟩ = (rObj g s p pw FA F.length fc)[j]?:=World.ownsRow.cellAt h.obj j (by omega)
theorem RDsk.free (h : RDsk w B q pw g F s LM O p FA fc) (j : Nat) : w.frozen? ⟨q,j,none⟩ = false:=h.obj.frozenAt j
theorem RDsk.withC {B' : Bd} {LM' : List Sec} {O' : List OpV} (h : RDsk w B q pw g F s LM O p FA fc) (hk : KeptT RT B' w w') (hc : RCacheM w' B p g LM' O') : RDsk w' B q pw g F s LM' O' p FA fc:=
 ⟨own_kept h.obj hk (fun k e=>by simp [Value.ownBlock] at e; subst e; exact KeptT.no (IsT.own h.obj) (by unfold RT; decide)),h.px,hc,h.fl.kept hk (KeptT.free (by unfold RT; decide))⟩
theorem RDPm.below0 (h : RDPm w B q pw g F s P LM O) (hk : Below w.heap.size w w') : RDPm w' B q pw g F s P LM O:=by
 obtain ⟨⟨p,FA,fc,hd⟩,⟨R,hr,hp⟩,hf,hs,hB⟩:=h
 exact ⟨⟨p,FA,fc,hd.below0 hk⟩,⟨R,hr,hp.below0 hk⟩,hf,hs,Nat.le_trans hB hk.size⟩
set_option maxHeartbeats 1000000 in
theorem rcall_any (hp : RPow w B pw R) : Calls Tryz.prog 139 #[.pointer (some ⟨pw,0,none⟩)] w fun e w'=>e = .returned (.bool (passP R)) ∧ RPow w' B pw (rcallP R) ∧ KeptT [131] B w w':=by
 obtain ⟨p0,p1,p2,p3⟩:=hp.cells
 have f0:=hp.obj.frozenAt 0
 have f1:=hp.obj.frozenAt 1
 have f2:=hp.obj.frozenAt 2
 have f3:=hp.obj.frozenAt 3
 obtain ⟨off,armed,left,fails⟩:=R
 simp only at p0 p1 p2 p3
 cases armed
 ·have HP:=Lib.hid hp
  have HC : Hid (rcallP ⟨off,false,left,fails⟩ = ⟨off,false,left,fails⟩ ∧ passP ⟨off,false,left,fails⟩ = true):=⟨rfl,rfl⟩
  clear hp
  go_enter Tryz.func139,Tryz.ntmps139
  go_wp2
  go_ret
  rw [HC.out.1,HC.out.2]
  exact ⟨rfl,HP.out,KeptT.refl _ _ _⟩
 ·by_cases hl : left = 0
  ·subst hl
   obtain ⟨hp1,hk1⟩:=hp.store 0 (.bool true) ⟨true,true,0,fails⟩ rfl
   obtain ⟨hp2,hk2⟩:=hp1.store 1 (.bool false) ⟨true,false,0,fails⟩ rfl
   obtain ⟨hp3,hk3⟩:=hp2.store 3 (.int .i64 (wrap64 (fails + 1))) ⟨true,false,0,wrap64 (fails + 1)⟩ rfl
   have HP:=Lib.hid hp3
   have HK:=Lib.hid ((hk1.trans hk2).trans hk3)
   have HC : Hid (rcallP ⟨off,true,0,fails⟩ = ⟨true,false,0,wrap64 (fails + 1)⟩ ∧ passP ⟨off,true,0,fails⟩ = false):=⟨rfl,rfl⟩
   clear hp hp1 hp2 hp3 hk1 hk2 hk3
   go_enter Tryz.func139,Tryz.ntmps139
   go_wp2
   go_ret
   rw [HC.out.1,HC.out.2]
   exact ⟨rfl,HP.out,HK.out⟩
  ·have hc : rcallP ⟨off,true,left,fails⟩ = ⟨off,true,wrap64 (left - 1),fails⟩:=by unfold rcallP; rw [if_pos rfl,if_neg hl]
   have hpp : passP ⟨off,true,left,fails⟩ = true:=by unfold passP; simp [hl]
   obtain ⟨hp4,hk4⟩:=hp.store 2 (.int .i64 (wrap64 (left - 1))) ⟨off,true,wrap64 (left - 1),fails⟩ rfl
   have HP:=Lib.hid hp4
   have HK:=Lib.hid hk4
   have HC:=Lib.hid (And.intro hc hpp)
   have hl1 : (left == 0) = false:=by simpa using hl
   clear hp hp4 hk4 hc hpp hl
   go_enter Tryz.func139,Tryz.ntmps139
   go_wp2
   go_ret
   rw [HC.out.1,HC.out.2]
   exact ⟨rfl,HP.out,HK.out⟩
set_option maxHeartbeats 1000000 in
theorem rready_any (h : RDsk w B q pw g F s LM O p FA fc) (hp : RPow w B pw R) : Calls Tryz.prog 138 #[.pointer (some ⟨q,0,none⟩)] w fun e w'=>e = .returned (.bool (readyB s R)) ∧ Below w.heap.size w w':=by
 have c7 : w.cell? ⟨q,7,none⟩ = some (.pointer (some ⟨pw,0,none⟩)):=(h.cell 7 (by decide)).trans rfl
 have c10 : w.cell? ⟨q,10,none⟩ = some (.int .i64 s.seen):=(h.cell 10 (by decide)).trans rfl
 obtain ⟨p0,_,_,p3⟩:=hp.cells
 clear h hp
 cases ho : R.off
 ·rw [ho] at p0
  by_cases hs : s.seen = R.fails
  ·have HE : Hid (readyB s R = true):=by unfold Hid readyB; simp [ho,hs]
   have e1 : (s.seen == R.fails) = true:=by simpa using hs
   clear ho hs
   go_enter Tryz.func138,Tryz.ntmps138
   go_wp2
   go_quiet (fail)
   go_wp2
   go_ret
   exact ⟨by rw [HE.out]; rfl,((Kept.refl (fun _=>False) _).drewN _).below0⟩
  ·have HE : Hid (readyB s R = false):=by unfold Hid readyB; simp [ho,hs]
   have e1 : (s.seen == R.fails) = false:=by simpa using hs
   clear ho hs
   go_enter Tryz.func138,Tryz.ntmps138
   go_wp2
   go_quiet (fail)
   go_wp2
   go_ret
   exact ⟨by rw [HE.out]; rfl,((Kept.refl (fun _=>False) _).drewN _).below0⟩
 ·rw [ho] at p0
  have HE : Hid (readyB s R = false):=by unfold Hid readyB; simp [ho]
  clear ho
  go_enter Tryz.func138,Tryz.ntmps138
  go_wp2
  go_quiet (fail)
  go_wp2
  go_ret
  exact ⟨by rw [HE.out]; rfl,((Kept.refl (fun _=>False) _).drewN _).below0⟩
set_option maxHeartbeats 1000000 in
theorem r14has_any (a : Int) (h : RDsk w B q pw g F s LM O p FA fc) (hf : Fit g LM) : Calls Tryz.prog 96 #[.pointer (some ⟨q,0,none⟩),.int .i64 a] w fun e w'=>e = .returned (.bool (inL LM a)) ∧ Below w.heap.size w w':=by
 have c0 : w.cell? ⟨q,0,none⟩ = some (.int .i64 g.random):=(h.cell 0 (by decide)).trans rfl
 have c1 : w.cell? ⟨q,1,none⟩ = some (.int .i64 g.bands):=(h.cell 1 (by decide)).trans rfl
 have c2 : w.cell? ⟨q,2,none⟩ = some (.int .i64 g.tracks):=(h.cell 2 (by decide)).trans rfl
 have c3 : w.cell? ⟨q,3,none⟩ = some (.int .i64 g.sectors):=(h.cell 3 (by decide)).trans rfl
 have c4 : w.cell? ⟨q,4,none⟩ = some (.int .i64 g.overlap):=(h.cell 4 (by decide)).trans rfl
 have HS : Hid (∀ W,Calls Tryz.prog 122 #[.agg #[.int .i64 g.random,.int .i64 g.bands,.int .i64 g.tracks,.int .i64 g.sectors,.int .i64 g.overlap]] W fun e w'=>e = .returned (.int .i64 LM.length) ∧ Below W.heap.size W w'):=by
  unfold Hid; intro W
  have:=rsz_any g W
  rw [show szN g = (LM.length : Int) from by unfold szN; rw [if_pos ((validG_iff g).2 hf.v)]; exact hf.n.symm] at this
  exact this
 clear h
 by_cases h0 : a < 0
 ·have HI : Hid (inL LM a = false):=by unfold Hid inL; simp; omega
  clear hf
  go_enter Tryz.func96,Tryz.ntmps96
  go_wp2
  go_ret
  exact ⟨by rw [HI.out]; rfl,Below.refl _ _⟩
 ·by_cases h1 : a < LM.length
  ·have HI : Hid (inL LM a = true):=by unfold Hid inL; simp; omega
   clear hf
   go_enter Tryz.func96,Tryz.ntmps96
   go_wp2_with fail
   refine (HS.out _).mono ?_
   rintro e w1 ⟨rfl,hb1⟩
   go_wp2
   go_ret
   exact ⟨by rw [HI.out]; rfl,hb1⟩
  ·have HI : Hid (inL LM a = false):=by unfold Hid inL; simp; omega
   clear hf
   go_enter Tryz.func96,Tryz.ntmps96
   go_wp2_with fail
   refine (HS.out _).mono ?_
   rintro e w1 ⟨rfl,hb1⟩
   go_wp2
   go_ret
   exact ⟨by rw [HI.out]; first | rfl | (simp [h1]; done) | (simp; omega),hb1⟩
end
end Go.Proofs.YtaggiceejcegdaaGreat
namespace Go.Proofs.YtaggiceejcegdaaGreat
set_option linter.unusedVariables false
open Go.RowKit
set_option maxRecDepth 100000 in
set_option maxHeartbeats 2000000 in
theorem rfat_any (l : List Flt) (op : Int) (A : Option Addr) (c : Nat) (w : World) (hl : Rd w w.heap.size A (flatF l)) (hn : l.length ≤ 9223372036854775807) :
  Calls Tryz.prog 140 #[.slice A l.length c,.int .i64 op] w (AtPost w (atF l op)):=by
 have hb0 : Below w.heap.size w (w.alloc (.cells #[.int .i64 0,.int .i64 0,.int .i64 0] 138)):=(Below.refl _ _).alloc (Nat.le_refl _) _
 have q:=World.ownsRow_lit (base:=w.heap.size) (e:=138) (size:=3) w #[.int .i64 0,.int .i64 0,.int .i64 0] 1 (Nat.le_refl _) (by decide) rfl
 have HR:=Lib.hid (hl.below hb0 (Nat.le_refl _))
 have HM:=Lib.hid (atF_miss l op)
 have HH:=Lib.hid (atF_hit l op)
 have hbw:=hb0
 clear hl
 go_enter Tryz.func140,Tryz.ntmps140
 go_wp2
 generalize w.alloc (.cells #[.int .i64 0,.int .i64 0,.int .i64 0] 138) = wr at *
 go_loop [6] (fun v=>∃ k : Nat,k ≤ l.length ∧ v = .int .i64 k ∧ Hid (∀ j (hj : j < l.length),j < k → l[j].at_ ≠ op)) (fun v=>l.length - (intOf v).toNat)
 case atStart=>exact ⟨0,Nat.zero_le _,rfl,by unfold Hid; intro j _ h; omega⟩
 case round=>
  obtain ⟨k,hk,rfl,HA⟩:=hrel
  by_cases hlt : k < l.length
  ·obtain ⟨go,oo,rfl,hgo,c0,c1,c2⟩:=flt_at HR.out hlt
   have k0 : (0 : Int) ≤ k:=by omega
   have k1 : (k : Int) < l.length:=by omega
   by_cases he : l[k].at_ = op
   ·have HE : Hid (atF l op = l[k]):=HH.out k hlt (fun j hj=>HA.out j (by omega) hj) he
    have e1 : (l[k].at_ == op) = true:=by simpa using he
    generalize l[k] = f at *
    clear he
    have r0:=(World.ownsRow.cellAt q 0 (by decide)).trans rfl
    have r1:=(World.ownsRow.cellAt q 1 (by decide)).trans rfl
    have r2:=(World.ownsRow.cellAt q 2 (by decide)).trans rfl
    have f0:=q.frozenAt 0
    have f1:=q.frozenAt 1
    have f2:=q.frozenAt 2
    clear q
    go_wp2
    have hbe:=Lib.hid (((hbw.setCell (p:=⟨w.heap.size,0,none⟩) (Nat.le_refl _) (.int .i64 f.at_)).setCell (p:=⟨w.heap.size,1,none⟩) (Nat.le_refl _) (.int .i64 f.kind)).setCell (p:=⟨w.heap.size,2,none⟩) (Nat.le_refl _) (.int .i64 f.to_))
    exact bodyPost_ret (v:=.tuple #[.agg #[.int .i64 f.at_,.int .i64 f.kind,.int .i64 f.to_],.bool true]) (by simp [results,Tryz.results140,go_sem, *]) rfl ⟨true,by rw [HE.out]; rfl,hbe.out⟩
   ·have e1 : (l[k].at_ == op) = false:=by simpa using he
    have HY : Hid (∀ j (hj : j < l.length),j < k + 1 → l[j].at_ ≠ op):=by
     unfold Hid; intro j hj hj2
     by_cases e : j = k
     ·subst e; exact he
     ·exact HA.out j hj (by omega)
    generalize l[k] = f at *
    clear he
    go_wp2
    go_round
    case rel=>exact ⟨k + 1,by omega,by go_num,HY⟩
    case measure=>simp [intOf]; omega
  ·have HE : Hid (atF l op = noF):=HM.out (fun j hj=>HA.out j hj (by omega))
   have r0:=(World.ownsRow.cellAt q 0 (by decide)).trans rfl
   have r1:=(World.ownsRow.cellAt q 1 (by decide)).trans rfl
   have r2:=(World.ownsRow.cellAt q 2 (by decide)).trans rfl
   have f0:=q.frozenAt 0
   have f1:=q.frozenAt 1
   have f2:=q.frozenAt 2
   clear q
   go_wp2
   have hbe:=Lib.hid (((hbw.setCell (p:=⟨w.heap.size,0,none⟩) (Nat.le_refl _) (.int .i64 0)).setCell (p:=⟨w.heap.size,1,none⟩) (Nat.le_refl _) (.int .i64 0)).setCell (p:=⟨w.heap.size,2,none⟩) (Nat.le_refl _) (.int .i64 0))
   exact bodyPost_ret (v:=.tuple #[.agg #[.int .i64 0,.int .i64 0,.int .i64 0],.bool false]) (by simp [results,Tryz.results140,go_sem, *]) rfl ⟨false,by rw [HE.out]; rfl,hbe.out⟩
end Go.Proofs.YtaggiceejcegdaaGreat
