/-
  WHAT IS SHOWN: more: plain facts on lists of bands: what Append, Unlink and Reset keep valid, what they do to the sum of Live, which band is open. what Blocks, Version, Info and Flush of drive return and leave. last and all of a rig return true when its drive shows the histories. plays of tegulalaw20 returns true for a small case whose faults are slow ones, never more than eight in a row. plays of tegulalaw20 returns true for a small case whose faults are slow ones, never more than eight in a row. what the functions of tegularef16 return that the laws of layer 20 call: the same as those of band; they change nothing that was there. Conditions: as each theorem names them.
-/
import Derived.Test.YtggkengmlkhdiaaGreatM46
import Derived.BigQuiet
import Derived.ChangeKeysEq
import Derived.ChangeOld
import Derived.Deep.AppendLies
import Derived.Deep.DeepCutAuto
import Derived.Deep.Draws
import Derived.Deep.Fields
import Derived.Deep.QuietTactic
import Derived.Deep.RegionHeld3
import Derived.Deep.RegionLaw
import Derived.Deep.Slices
import Derived.Handy
import Derived.Laws.BytesArg
import Derived.Laws.Cover3
import Derived.Laws.MakeOwn
import Derived.Laws.OwnMore
import Derived.Laws.Rows
import Derived.Lib.ConvBytes
import Derived.Lib.Hide
import Derived.Lib.SmallJoins
import Derived.Lib.VarintBits
import Derived.Maps.Ext
import Derived.Maps.OwnOps
import Derived.Maps.OwnSet
import Derived.Maps.RangeWalk
import Derived.OpenShut
import Derived.ProofKit
import Derived.Shelf.SlSortCmp.NoneTotal
import Derived.StillTailTactics
import Derived.WalkKit
import Derived.WalkLawsBesides
import Derived.WalkSpells
namespace Go.Proofs.YtggkengmlkhdiaaGreat.V
set_option linter.unusedVariables false
open Go.RowKit
theorem live_fold (M : Int) : ∀ (l : List BI) (n : Int),0 ≤ n → (∀ b ∈ l,0 ≤ b.live ∧ b.live ≤ M) → n + l.length * M ≤ 9223372036854775807 → l.foldl (fun n b=>wrap64 (n + b.live)) n = n + sumN l
 | [],n,_,_,_=>by simp [sumN]
 | b :: l,n,h0,hb,hM=>by
   have h1:=hb b (by simp)
   have h2 : 0 ≤ (l.length : Int) * M:=Int.mul_nonneg (by omega) (by omega)
   have h3 : ((b :: l).length : Int) * M = l.length * M + M:=by rw [List.length_cons,Int.natCast_add,Int.add_mul]; simp
   rw [List.foldl_cons,wrap64_of ⟨by omega,by omega⟩,live_fold M l (n + b.live) (by omega) (fun x hx=>hb x (by simp [hx])) (by omega)]
   simp [sumN]; omega
theorem liveN_eq {l : List BI} {sz : Int} (h : validB l sz = true) (hs : sz ≤ 1099511627776) : liveN l = sumN l:=by
 obtain ⟨h1,h2,h3,h4⟩:=(validB_iff l sz).1 h
 unfold liveN
 rw [live_fold sz l 0 (by omega) (fun b hb=>⟨(h4 b hb).1,Int.le_trans (h4 b hb).2.1 (h4 b hb).2.2⟩) ?_]
 ·omega
 ·have h5 : (l.length : Int) * sz ≤ 64 * sz:=Int.mul_le_mul_of_nonneg_right (by omega) (by omega)
  omega
end Go.Proofs.YtggkengmlkhdiaaGreat.V
namespace Go.Proofs.YtggkengmlkhdiaaGreat
set_option linter.unusedVariables false
open Go.RowKit
section
variable {w w' : World} {B : Bd} {p q pw : Nat} {g : Geo} {F : List Flt} {key : Int} {S : ST} {ea ec : Nat} {BA : Option Addr} {bc : Nat}
set_option maxRecDepth 100000
set_option maxHeartbeats 4000000
theorem info20_any (hn : S.v.bs.length ≤ 100000) (h : Drv w B p q pw g F key S ea ec BA bc) : Calls Tryz.prog 18 #[.pointer (some ⟨p,0,none⟩)] w fun e w'=>∃ A c,e = .returned (.slice A S.v.bs.length c) ∧ w'.ownsRow w.heap.size 76 4 (.slice A S.v.bs.length c) S.v.bs.length (V.flat S.v.bs) ∧ Below w.heap.size w w':=by
 have c3:=h.cells.2.2.2.1
 have HC:=Lib.hid (V.clone_any S.v.bs BA bc w h.bs.rd hn)
 clear h
 go_enter Tryz.func18,Tryz.ntmps18
 go_wp2_with fail
 refine HC.out.mono ?_
 rintro e w1 ⟨A,c,rfl,ho,hb⟩
 have HO:=Lib.hid (And.intro ho hb)
 clear ho hb HC
 go_wp2
 go_ret
 exact ⟨A,c,rfl,HO.out⟩
end
end Go.Proofs.YtggkengmlkhdiaaGreat
namespace Go.Proofs.YtggkengmlkhdiaaGreat
set_option linter.unusedVariables false
open Go.RowKit
def LastIs (g : Geo) (F : List Flt) (S : ST) (b : Nat) (l : List Wr) : Prop:=
 match l.getLast? with
 | none=>verX S.v b = (0,false) ∧ readE20 g F 0 S b = 9
 | some w=>verX S.v b = (w.ver,true) ∧ (if w.trim = true then readE20 g F 0 S b = 9 ∧ readX20 g F 0 S b = noEnt else readE20 g F 0 S b = 0 ∧ (readX20 g F 0 S b).ver = w.ver ∧ (readX20 g F 0 S b).dt = w.dt)
section
variable {w : World} {N r q pw : Nat} {g : Geo} {F : List Flt} {n : Nat} {R : RG}
end
end Go.Proofs.YtggkengmlkhdiaaGreat
namespace Go.Proofs.YtggkengmlkhdiaaGreat
set_option linter.unusedVariables false
open Go.RowKit
structure Fine (g : Geo) (n c : Nat) (R : RG) : Prop where
 good : GoodR g n c R
 hon : HonI g n c R
 un : R.S.d.P.armed = false
structure Small (g : Geo) (n : Nat) (F : List Flt) : Prop where
 vg : Vg g
 p : possB g n = true
 F40 : F.length ≤ 40
 F64 : ∀ f ∈ F,I64 f.to_
 vf : validF F = true
section
variable {g : Geo} {F : List Flt} {n c : Nat} {R R' : RG} {a : Act20} {er : Int}
theorem Small.nn (h : Small g n F) : (1 ≤ n ∧ n ≤ 65536) ∧ (n : Int) ≤ (g.bands - 3) * bz g:=by
 have:=h.p
 unfold possB at this
 rw [bzN_valid h.vg] at this
 simp only [Bool.and_eq_true,decide_eq_true_eq] at this
 exact ⟨⟨by omega,by omega⟩,this.2.2⟩
theorem Fine.act (hS : Small g n F) (hR : RunF F) (h : Fine g n c R) (hc : c ≤ 1000) (hd : 0 ≤ a.data ∧ a.data < 256) (hr : ActR g F n a R R' er) : er = 0 ∧ Fine g n (c + 1) R' ∧ (1 ≤ V.freeN R.S.v.bs → 1 ≤ V.freeN R'.S.v.bs):=by
 obtain ⟨hn,hnb⟩:=hS.nn
 have hh:=act_hon hR.noTear hn hd hc h.hon hr
 rcases act_on hR h.good h.hon hc hnb hn hd hr with ⟨h1,h2,h3,h4⟩ | ⟨_,h2,_⟩
 ·exact ⟨h1,⟨h2,hh,h3.trans h.un⟩,h4⟩
 ·have:=h2.armed; rw [h.un] at this; cases this
theorem Fine.in_ (hS : Small g n F) (h : Fine g n c R) (hc : c ≤ 80) : RigIn g F n R:=hon_in h.hon hc hS.F64 hS.F40 hS.p
theorem fine0 (hS : Small g n F) (hR : RunF F) : (newDD g F 0 (d0N g)).2 = 0 ∧ Fine g n 0 (R0 g F n) ∧ 1 ≤ V.freeN (R0 g F n).S.v.bs:=by
 obtain ⟨h1,h2,h3,h4⟩:=good0 (F:=F) hR hS.vg hS.nn.1
 exact ⟨h1,⟨h2,hon0 hS.vg hS.nn.1 h1,h3⟩,h4⟩
end
section
variable {w : World} {N r q pw : Nat} {g : Geo} {F : List Flt} {n c : Nat} {R : RG}
end
end Go.Proofs.YtggkengmlkhdiaaGreat
namespace Go.Proofs.YtggkengmlkhdiaaGreat
set_option linter.unusedVariables false
open Go.RowKit
theorem fine_start {g : Geo} {n : Nat} {F : List Flt} (hS : Small g n F) (hR : RunF F) (A0 A1 : Option Addr) (c0 c1 m : Nat) (w : World) (hr : Rd w w.heap.size A0 (flatF F)) :
  Calls Tryz.prog 23 #[.agg #[.int .i64 g.random,.int .i64 g.bands,.int .i64 g.tracks,.int .i64 g.sectors,.int .i64 g.overlap,.int .i64 (n : Int),.slice A0 F.length c0,.slice A1 m c1]] w fun e w'=>(∃ r q pw,e = .returned (.tuple #[.pointer (some ⟨r,0,none⟩),.int .i64 0]) ∧ RigM w' w.heap.size r q pw g F n (R0 g F n)) ∧ Below w.heap.size w w':=by
 refine (start_any g n F A0 A1 c0 c1 m w hS.vg hS.p hr hS.vf (by have:=hS.F40; omega)).mono ?_
 rintro e w' ⟨hb,hpo⟩
 rw [if_pos (fine0 hS hR).1] at hpo
 exact ⟨hpo,hb⟩
end Go.Proofs.YtggkengmlkhdiaaGreat
namespace Go.Proofs.YtggkengmlkhdiaaGreat.V
set_option linter.unusedVariables false
open Go.RowKit
theorem anyBadR_drop (sz : Int) (l : List BI) (k : Nat) (h : k < l.length) : anyBad sz (l.drop k) = (badB sz l[k].used l[k].live || anyBad sz (l.drop (k + 1))):=by
 rw [List.drop_eq_getElem_cons h]; rfl
set_option maxHeartbeats 400000 in
theorem rvalid_any (sz : Int) (l : List BI) (A : Option Addr) (c : Nat) (w : World) (hl : Rd w w.heap.size A (flat l)) (hn : l.length ≤ 9223372036854775807) :
  Calls Tryz.prog 28 #[.slice A l.length c,.int .i64 sz] w fun e w'=>e = .returned (.bool (validB l sz)) ∧ Below w.heap.size w w':=by
 have HV : ∀ x,Hid (validB l sz = x) → validB l sz = x:=fun _ h=>h.out
 unfold validB
 by_cases g1 : 1 ≤ l.length
 ·by_cases g2 : l.length ≤ 64
  ·by_cases g3 : 1 ≤ sz
   ·have e1 : decide (1 ≤ l.length) = true:=decide_eq_true (by omega)
    have e2 : decide (l.length ≤ 64) = true:=decide_eq_true (by omega)
    have e3 : decide (1 ≤ sz) = true:=decide_eq_true (by omega)
    rw [e1,e2,e3]
    clear e1 e2 e3 HV
    simp only [Bool.true_and]
    go_enter Tryz.func28,Tryz.ntmps28
    go_wp2
    go_loopw [5] (fun i wr=>∃ k : Nat,k ≤ l.length ∧ i = .int .i64 k ∧ anyBad sz l = anyBad sz (l.drop k) ∧ Below w.heap.size w wr) (fun i _=>l.length - (intOf i).toNat)
    case atStart=>exact ⟨0,Nat.zero_le _,rfl,rfl,Below.refl _ _⟩
    case round=>
     obtain ⟨k,hk,rfl,hfb,hbl⟩:=hrel
     have HF:=Lib.hid hfb; clear hfb
     by_cases hlt : k < l.length
     ·obtain ⟨g,o,rfl,hg,h0,h1,h2,h3⟩:=(hl).band (get_some hlt)
      have j0:=(hbl.cell (p:=⟨g,_,none⟩) hg).trans h0
      have j1:=(hbl.cell (p:=⟨g,_,none⟩) hg).trans h1
      have j2:=(hbl.cell (p:=⟨g,_,none⟩) hg).trans h2
      have j3:=(hbl.cell (p:=⟨g,_,none⟩) hg).trans h3
      clear h0 h1 h2 h3
      have HS:=Lib.hid (anyBadR_drop sz l k hlt)
      by_cases t1 : l[k].live < 0
      ·have HB : Hid (badB sz l[k].used l[k].live = true):=by unfold Hid badB; simp [t1]
       go_wp2
       go_quiet (fail)
       go_wp2
       go_ret
       exact ⟨by rw [HF.out,HS.out,HB.out]; rfl,below_drewN' hbl _⟩
      ·have d1 : decide (l[k].live < 0) = false:=decide_eq_false t1
       by_cases t2 : l[k].used < l[k].live
       ·have HB : Hid (badB sz l[k].used l[k].live = true):=by unfold Hid badB; simp [t2]
        have d2 : decide (l[k].used < l[k].live) = true:=decide_eq_true t2
        clear t1 t2
        go_wp2
        go_quiet (fail)
        go_wp2
        go_ret
        exact ⟨by rw [HF.out,HS.out,HB.out]; rfl,below_drewN' hbl _⟩
       ·have d2 : decide (l[k].used < l[k].live) = false:=decide_eq_false t2
        by_cases t3 : sz < l[k].used
        ·have HB : Hid (badB sz l[k].used l[k].live = true):=by unfold Hid badB; simp [t3]
         have d3 : decide (sz < l[k].used) = true:=decide_eq_true t3
         clear t1 t2 t3
         go_wp2
         go_quiet (fail)
         go_wp2
         go_ret
         exact ⟨by rw [HF.out,HS.out,HB.out]; rfl,below_drewN' hbl _⟩
        ·have HB : Hid (badB sz l[k].used l[k].live = false):=by unfold Hid badB; simp [t1,t2,t3]
         have d3 : decide (sz < l[k].used) = false:=decide_eq_false t3
         clear t1 t2 t3
         go_wp2
         go_quiet (fail)
         go_wp2
         go_roundw
         case rel=>exact ⟨k + 1,by omega,by go_num,by rw [HF.out,HS.out,HB.out]; rfl,below_drewN' hbl _⟩
         case measure=>simp [intOf]; omega
     ·have hk' : k = l.length:=by omega
      subst hk'
      go_wp2
      go_ret
      exact ⟨by rw [HF.out,List.drop_of_length_le (Nat.le_refl _)]; rfl,hbl⟩
   ·have e3 : decide (1 ≤ sz) = false:=decide_eq_false (by omega)
    rw [e3]
    clear e3 HV
    go_enter Tryz.func28,Tryz.ntmps28
    go_wp2
    go_ret
    exact ⟨by simp,Below.refl _ _⟩
  ·have e3 : decide (l.length ≤ 64) = false:=decide_eq_false (by omega)
   rw [e3]
   clear e3 HV
   go_enter Tryz.func28,Tryz.ntmps28
   go_wp2
   go_ret
   exact ⟨by simp,Below.refl _ _⟩
 ·have e3 : decide (1 ≤ l.length) = false:=decide_eq_false (by omega)
  rw [e3]
  clear e3 HV
  go_enter Tryz.func28,Tryz.ntmps28
  go_wp2
  go_ret
  exact ⟨by simp,Below.refl _ _⟩
set_option maxHeartbeats 400000 in
theorem rfree_any (l : List BI) (A : Option Addr) (c : Nat) (w : World) (hl : Rd w w.heap.size A (flat l)) (hn : l.length ≤ 100000) :
  Calls Tryz.prog 31 #[.slice A l.length c] w fun e w'=>e = .returned (.int .i64 (freeN l)) ∧ Below w.heap.size w w':=by
 go_enter Tryz.func31,Tryz.ntmps31
 go_wp2
 go_loopw [3,4] (fun n i wr=>∃ k : Nat,k ≤ l.length ∧ i = .int .i64 k ∧ n = .int .i64 (freeN (l.take k)) ∧ Below w.heap.size w wr) (fun _ i _=>l.length - (intOf i).toNat)
 case atStart=>exact ⟨0,Nat.zero_le _,rfl,rfl,Below.refl _ _⟩
 case round=>
  obtain ⟨k,hk,rfl,rfl,hbl⟩:=hrel
  have hfl:=freeN_le (l.take k)
  have hll : (l.take k).length ≤ k:=List.length_take_le _ _
  by_cases hlt : k < l.length
  ·obtain ⟨g,o,rfl,hg,h0,h1,h2,h3⟩:=(hl).band (get_some hlt)
   have j0:=(hbl.cell (p:=⟨g,_,none⟩) hg).trans h0
   have j1:=(hbl.cell (p:=⟨g,_,none⟩) hg).trans h1
   have j2:=(hbl.cell (p:=⟨g,_,none⟩) hg).trans h2
   have j3:=(hbl.cell (p:=⟨g,_,none⟩) hg).trans h3
   clear h0 h1 h2 h3
   have HS:=Lib.hid (freeN_take l k hlt)
   cases hbd : l[k].used == 0
   all_goals
    go_wp2
    go_roundw
    case rel=>exact ⟨k + 1,by omega,by go_num,by rw [HS.out,hbd]; simp,hbl⟩
    case measure=>simp [intOf]; omega
  ·have hk' : k = l.length:=by omega
   subst hk'
   go_wp2
   go_ret
   exact ⟨by rw [List.take_of_length_le (Nat.le_refl _)]; rfl,hbl⟩
theorem liveNR_take (l : List BI) (k : Nat) (h : k < l.length) : liveN (l.take (k + 1)) = wrap64 (liveN (l.take k) + l[k].live):=by
 unfold liveN; rw [List.take_succ_eq_append_getElem h,List.foldl_append]; rfl
set_option maxHeartbeats 400000 in
theorem rlive_any (l : List BI) (A : Option Addr) (c : Nat) (w : World) (hl : Rd w w.heap.size A (flat l)) (hn : l.length ≤ 100000) :
  Calls Tryz.prog 30 #[.slice A l.length c] w fun e w'=>e = .returned (.int .i64 (liveN l)) ∧ Below w.heap.size w w':=by
 go_enter Tryz.func30,Tryz.ntmps30
 go_wp2
 go_loopw [3,4] (fun n i wr=>∃ k : Nat,k ≤ l.length ∧ i = .int .i64 k ∧ n = .int .i64 (liveN (l.take k)) ∧ Below w.heap.size w wr) (fun _ i _=>l.length - (intOf i).toNat)
 case atStart=>exact ⟨0,Nat.zero_le _,rfl,rfl,Below.refl _ _⟩
 case round=>
  obtain ⟨k,hk,rfl,rfl,hbl⟩:=hrel
  by_cases hlt : k < l.length
  ·obtain ⟨g,o,rfl,hg,h0,h1,h2,h3⟩:=(hl).band (get_some hlt)
   have j0:=(hbl.cell (p:=⟨g,_,none⟩) hg).trans h0
   have j1:=(hbl.cell (p:=⟨g,_,none⟩) hg).trans h1
   have j2:=(hbl.cell (p:=⟨g,_,none⟩) hg).trans h2
   have j3:=(hbl.cell (p:=⟨g,_,none⟩) hg).trans h3
   clear h0 h1 h2 h3
   have HS:=Lib.hid (liveNR_take l k hlt)
   go_wp2
   go_roundw
   case rel=>exact ⟨k + 1,by omega,by go_num,by rw [HS.out],hbl⟩
   case measure=>simp [intOf]; omega
  ·have hk' : k = l.length:=by omega
   subst hk'
   go_wp2
   go_ret
   exact ⟨by rw [List.take_of_length_le (Nat.le_refl _)]; rfl,hbl⟩
end Go.Proofs.YtggkengmlkhdiaaGreat.V
