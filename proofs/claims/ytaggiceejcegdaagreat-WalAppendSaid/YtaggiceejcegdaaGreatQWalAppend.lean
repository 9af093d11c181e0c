/-
  WHAT IS SHOWN: Append and Rewrite of wal return what tegularef49 says, on disks with any faults; the records and the sectors are those that it says (WalAppend). Conditions: none.
-/
import Derived.Test.YtaggiceejcegdaaGreatNc35
import Derived.BigQuiet
import Derived.ChangeKeysEq
import Derived.ChangeOld
import Derived.Deep.AppendLies
import Derived.Deep.DeepCutAuto
import Derived.Deep.Draws
import Derived.Deep.Fields
import Derived.Deep.QuietTactic
import Derived.Deep.RegionHeld3
import Derived.Deep.RegionLaw
import Derived.Deep.Slices
import Derived.Handy
import Derived.Laws.AppendOwnNone
import Derived.Laws.BytesArg
import Derived.Laws.Cover3
import Derived.Laws.MakeOwn
import Derived.Laws.OwnMore
import Derived.Laws.Rows
import Derived.Lib.ConvBytes
import Derived.Lib.Hide
import Derived.Lib.SmallJoins
import Derived.Lib.VarintBits
import Derived.Lib.Zigzag
import Derived.LoopIn
import Derived.LoopNIn
import Derived.Maps.AppendAt
import Derived.OpenShut
import Derived.OwnWalkIn
import Derived.ProofKit
import Derived.RangeFuncBox
import Derived.RangeFuncLeaves
import Derived.Shelf.Abstract
import Derived.Sort.QuietIn
import Derived.TacticsInMore
import Derived.WalkKit
import Derived.WalkLawsBesides
import Derived.WalkMore
import Derived.WalkSpells
import Derived.Test.YtaggiceejcegdaaGreatOf00
import Derived.Test.YtaggiceejcegdaaGreatOf01
import Derived.Test.YtaggiceejcegdaaGreatOf02
import Derived.Test.YtaggiceejcegdaaGreatOf03
import Derived.Test.YtaggiceejcegdaaGreatOf04
import Derived.Test.YtaggiceejcegdaaGreatOf05
import Derived.Test.YtaggiceejcegdaaGreatOf06
import Derived.Test.YtaggiceejcegdaaGreatOf07
import Derived.Test.YtaggiceejcegdaaGreatOf08
import Derived.Test.YtaggiceejcegdaaGreatRows
namespace Go.Proofs.YtaggiceejcegdaaGreat
set_option linter.unusedVariables false
open Go.ChangeShapes Go.WideShapes Go.ChangeAt Go.RowKit
def bitU (nl : Int) (k : Nat) : Bool:=bits .and .u8 (nl / 2 ^ k) 1 == 1
def noK (nl : Int) (k : Nat) : Nat → Bool:=fun j=>decide (j < k) && bitU nl j
theorem noK_yes {nl : Int} {k : Nat} (h : bitU nl k = true) (j : Nat) : (noK nl k j || decide (j = k)) = noK nl (k + 1) j:=by
 unfold noK
 by_cases e : j = k
 ·subst e
  rw [h,decide_eq_true rfl,decide_eq_true (by omega : j < j + 1),Bool.or_true]; rfl
 ·rw [decide_eq_false e,Bool.or_false]
  by_cases h1 : j < k
  ·rw [decide_eq_true h1,decide_eq_true (by omega : j < k + 1)]
  ·rw [decide_eq_false h1,decide_eq_false (by omega : ¬ j < k + 1)]
theorem noK_no {nl : Int} {k : Nat} (h : bitU nl k = false) (j : Nat) : noK nl k j = noK nl (k + 1) j:=by
 unfold noK
 by_cases e : j = k
 ·subst e
  rw [h,Bool.and_false,Bool.and_false]
 ·by_cases h1 : j < k
  ·rw [decide_eq_true h1,decide_eq_true (by omega : j < k + 1)]
  ·rw [decide_eq_false h1,decide_eq_false (by omega : ¬ j < k + 1)]
def AppC (I : World → Prop) (v2 : Value) (R : Value → World → Prop) : List Value → World → Prop
 | [],w=>I w
 | [v],w=>I w ∧ v = .bool true
 | [_,v],w=>I w ∧ v = v2
 | [_,_,v],w=>I w ∧ R v w
 | [_,_,_,v],w=>I w ∧ v = .bool true
 | _,_=>False
def RwC (D0 : World → Prop) (D1 : Value → World → Prop) (D2 : Value → Value → World → Prop) (D3 : World → Prop) (nx : Value) : List Value → World → Prop
 | [],w=>D0 w
 | [v],w=>D1 v w
 | [v,u],w=>D2 v u w
 | [_,_,v],w=>D3 w ∧ v = .bool true
 | [_,_,_,v],w=>D3 w ∧ v = nx
 | [_,_,_,_,v],w=>D3 w ∧ v = nx
 | _,_=>False
def StW2 (w W : World) (n pb pw rp : Nat) (PA RA : Option Addr) (pc rc : Nat) (qs rqs : List Nat) (no : Nat → Bool) (b rb gen k : Nat) : Prop:=
 ∃ V RV S m N,AS w W n pb pw rp PA RA pc rc qs rqs no b rb V RV S S m m ∧ S.Ok2 ∧ S.l.length ≤ k ∧ S.gen = gen ∧ m.Ok N ∧ N ≤ 162 * k ∧ m.U8
def StW3 (w W : World) (n pb pw rp : Nat) (PA RA : Option Addr) (pc rc : Nat) (qs rqs : List Nat) (no : Nat → Bool) : Prop:=
 ∃ m,PS w W n pb pw rp PA RA pc rc qs rqs no m m ∧ m.Ok 9000 ∧ m.U8
theorem enc_cases {S : LogS} {r : Rec} {ss : List Sl} (h : ss.map Sl.xs = encL (S.num r)) : (ss.length = 0 ∧ (appE S r == 0) = false) ∨ (0 < ss.length ∧ (ss.length : Int) ≤ S.sec - S.used ∧ (appE S r == 0) = true) ∨ (0 < ss.length ∧ ¬ (ss.length : Int) ≤ S.sec - S.used ∧ (appE S r == 0) = false):=by
 have hl : ss.length = (encL (S.num r)).length:=by rw [← h,List.length_map]
 unfold encL at hl
 cases hv : validR (S.num r)
 ·rw [hv] at hl
  left
  refine ⟨by simpa using hl,?_⟩
  unfold appE; rw [hv]; rfl
 ·rw [hv] at hl
  right
  have hl2 : ss.length = (encR (S.num r)).length:=by simpa using hl
  have hp:=encR_pos' (S.num r)
  by_cases hle : (ss.length : Int) ≤ S.sec - S.used
  ·left
   refine ⟨by omega,hle,?_⟩
   unfold appE; rw [hv,← hl2,if_pos rfl,if_pos hle]; rfl
  ·right
   refine ⟨by omega,hle,?_⟩
   unfold appE; rw [hv,← hl2,if_pos rfl,if_neg hle]; rfl
set_option maxRecDepth 100000 in
set_option maxHeartbeats 40000000 in
theorem walAppend_walk (fs : List FL) (fA : Option Addr) (fc gen : Nat) (hgen : gen < 2 ^ 64) (sz : Int) (l : List RS) (A : Option Addr) (c : Nat) (nl : Int) (w : World) (hf : FlssIn w (.slice fA fs.length fc) fA fs fc) (hl : RcsIn w (.slice A l.length c) A l c) :
  Calls Tryz.prog 6 #[.agg #[.slice fA fs.length fc,.int .u64 (gen : Nat),.int .i64 sz,.slice A l.length c,.int .u8 nl]] w fun e w'=>e = .returned (.bool true) ∧ Below w.heap.size w w':=by
 have HB : Hid (∀ W,Below (w.heap.size + 1) (w.alloc (.cells #[.slice fA fs.length fc,.int .u64 (gen : Nat),.int .i64 sz,.slice A l.length c,.int .u8 nl] 75)) W → Below w.heap.size w W):=fun W hW=>((Below.refl w.heap.size w).alloc (Nat.le_refl _) _).trans (hW.mono (by omega))
 have HP0 : Hid (∀ W,Below (w.heap.size + 1) (w.alloc (.cells #[.slice fA fs.length fc,.int .u64 (gen : Nat),.int .i64 sz,.slice A l.length c,.int .u8 nl] 75)) W → Cells5 W w.heap.size (.slice fA fs.length fc) (.int .u64 (gen : Nat)) (.int .i64 sz) (.slice A l.length c) (.int .u8 nl)):=fun W hW=>(Cells5.new w 75 _ _ _ _ _).below hW (by simp)
 have hz0 : (w.alloc (.cells #[.slice fA fs.length fc,.int .u64 (gen : Nat),.int .i64 sz,.slice A l.length c,.int .u8 nl] 75)).heap.size = w.heap.size + 1:=by simp
 have HF:=Lib.hid hf.rd
 have HFE:=Lib.hid hf.each
 have hfl:=hf.len
 have HLR:=Lib.hid hl.rd
 have HLE:=Lib.hid hl.each
 have hll:=Nat.le_trans hl.len hl.cap
 clear hf hl
 go_enter Tryz.func6,Tryz.ntmps6
 go_wp2_with fail
 refine (awake49_any _).mono ?_
 rintro e w1 ⟨rfl,hb1⟩
 rw [hz0] at hb1
 generalize (w.alloc (.cells #[.slice fA fs.length fc,.int .u64 (gen : Nat),.int .i64 sz,.slice A l.length c,.int .u8 nl] 75)) = w0 at *
 have HB1:=Lib.hid hb1
 have PB:=HP0.out _ hb1
 have p0:=PB.c0
 have p1:=PB.c1
 have p2:=PB.c2
 have p3:=PB.c3
 have p4:=PB.c4
 clear PB
 clear hb1
 go_wp2_with fail
 refine (heavy_any fs fA fc gen sz l A c nl w1 (HF.out.up (HB.out _ HB1.out)) hfl (fun x hx=>(HFE.out x hx).n) (HLR.out.up (HB.out _ HB1.out)) hll).mono ?_
 rintro e w2 ⟨hv,rfl,hhv,hb2⟩
 have HB2:=Lib.hid (HB1.out.trans (hb2.mono (by have:=HB1.out.size; omega)))
 clear p0 p1 p2 p3 p4
 have PB:=HP0.out _ HB2.out
 have p0:=PB.c0
 have p1:=PB.c1
 have p2:=PB.c2
 have p3:=PB.c3
 have p4:=PB.c4
 clear PB
 clear hb2 HB1
 cases hv
 rotate_left
 ·clear hhv
  go_wp2
  go_ret
  exact ⟨rfl,HB.out _ HB2.out⟩
 obtain ⟨hbr,hwr,hl12,hs0,hs1⟩:=hhv rfl
 have HBR:=Lib.hid hbr
 have HSZ : Hid (0 ≤ sz ∧ sz ≤ 18):=⟨hs0,hs1⟩
 have hw6:=wrong_no hwr
 have hf6 : fs.length ≤ 6:=by have:=hw6.1; rw [List.length_map] at this; exact this
 have HFV : Hid (∀ x ∈ fs,x.F.length ≤ 40 ∧ validF x.F = true):=fun x hx=>hw6.2 x.F (List.mem_map.2 ⟨x,hx,rfl⟩)
 have HT:=Lib.hid (twins_any fs fA fc w2 (HF.out.up (HB.out _ HB2.out)) hf6 HFV.out)
 clear hhv hbr hwr hs0 hs1 hw6 hll hfl
 go_wp2_with fail
 refine HT.out.mono ?_
 rintro e w4 ⟨pw,rp,PA,pc,RA,rc,qs,rqs,rfl,hP,hR,hm,hmr,hb4⟩
 rw [List.length_map] at hP hR ⊢
 have hql : qs.length = fs.length:=by have:=hm.len; rw [this]; simp [newMS]
 have hrl : rqs.length = fs.length:=by have:=hmr.len; rw [this]; simp [newMS]
 have hps:=(PS.start (w:=w0) (by rw [hz0]; exact HB2.out) hql hrl hP hR hm hmr hb4).same (no':=noK nl 0) (fun i _=>by unfold no0 noK; rw [decide_eq_false (by omega : ¬ i < 0)]; rfl) (by omega)
 have HPS:=Lib.hid hps
 have HMO : Hid ((newMS (fs.map FL.F)).Ok 0):=newMS_ok (fun F hF=>by obtain ⟨x,hx,rfl⟩:=List.mem_map.1 hF; exact ⟨(HFE.out x hx).to_,(HFE.out x hx).n⟩)
 have HMU:=Lib.hid (newMS_u8 (fs.map FL.F))
 have HQL:=Lib.hid hql
 have HRL:=Lib.hid hrl
 have hn : w.heap.size + 1 ≤ w2.heap.size:=by have:=HB2.out.size; rw [hz0] at this; exact this
 obtain ⟨n,hnn⟩ : ∃ n,n = w2.heap.size:=⟨_,rfl⟩
 have hn2 : w.heap.size + 1 ≤ n:=by rw [hnn]; exact hn
 rw [← hnn] at HPS
 generalize newMS (fs.map FL.F) = m0 at *
 clear p0 p1 p2 p3 p4
 have q2 : (w4.alloc (.cells #[.pointer (some ⟨pw,0,none⟩),.pointer (some ⟨rp,0,none⟩),.slice PA fs.length pc,.slice RA fs.length rc] 36)).cell? ⟨w4.heap.size,2,none⟩ = some (.slice PA fs.length pc):=cell_new _ _ _ _ _ _ rfl rfl
 clear hP hR hm hmr hb4 HT hql hrl hps hnn hn
 go_wp2
 clear q2
 generalize w4.alloc (.cells #[.pointer (some ⟨pw,0,none⟩),.pointer (some ⟨rp,0,none⟩),.slice PA fs.length pc,.slice RA fs.length rc] 36) = w5 at *
 go_loopw [39] (fun i wr=>∃ k : Nat,k ≤ fs.length ∧ i = .int .i64 k ∧ Hid (PS w0 wr n w4.heap.size pw rp PA RA pc rc qs rqs (noK nl k) m0 m0)) (fun i _=>fs.length - (intOf i).toNat)
 case atStart=>exact ⟨0,Nat.zero_le _,rfl,HPS⟩
 case round=>
  obtain ⟨k,hk,rfl,HW⟩:=hrel
  have hbw:=HW.out.bel
  rw [hz0] at hbw
  have HBW:=Lib.hid hbw
  have PB:=HP0.out _ hbw
  have p0:=PB.c0
  have p1:=PB.c1
  have p2:=PB.c2
  have p3:=PB.c3
  have p4:=PB.c4
  clear PB
  have q2 : wr.cell? ⟨w4.heap.size,2,none⟩ = some (.slice PA fs.length pc):=by have:=HW.out.c2; rw [HQL.out] at this; exact this
  have q3 : wr.cell? ⟨w4.heap.size,3,none⟩ = some (.slice RA fs.length rc):=by have:=HW.out.c3; rw [HRL.out] at this; exact this
  clear hbw
  by_cases hlt : k < fs.length
  ·obtain hb | hb : bitU nl k = true ∨ bitU nl k = false:=by cases bitU nl k; exact .inr rfl; exact .inl rfl
   ·have hb' : (bits .and .u8 (nl / 2 ^ k) 1 == 1) = true:=hb
    obtain ⟨gp,rfl,_,_⟩:=own_at HW.out.ptr (by rw [HQL.out]; omega)
    obtain ⟨gr,rfl,_,_⟩:=own_at HW.out.rptr (by rw [HRL.out]; omega)
    have HN : Hid (PS w0 ((wr.drew.setCell ⟨gp,k,none⟩ (.pointer none)).setCell ⟨gr,k,none⟩ (.pointer none)) n w4.heap.size pw rp (some ⟨gp,0,none⟩) (some ⟨gr,0,none⟩) pc rc qs rqs (noK nl (k + 1)) m0 m0):=
     (((HW.out.below (Below.refl _ _).drew).take (i:=k) (by rw [HQL.out]; exact hlt) (by rw [HQL.out,HRL.out])).same (fun i _=>noK_yes hb i) (by rw [HQL.out,HRL.out]))
    have f1:=HW.out.ptr.frozenAt k
    have f2:=HW.out.rptr.frozenAt k
    obtain ⟨q,hq1⟩ : ∃ q,qs[k]? = some q:=⟨qs[k]'(by rw [HQL.out]; exact hlt),List.getElem?_eq_getElem _⟩
    obtain ⟨rq,hq2⟩ : ∃ q,rqs[k]? = some q:=⟨rqs[k]'(by rw [HRL.out]; exact hlt),List.getElem?_eq_getElem _⟩
    have e1:=(World.ownsRow.cellAt HW.out.ptr k (by rw [HQL.out]; omega)).trans (ptrs_get hq1)
    have e2:=(World.ownsRow.cellAt HW.out.rptr k (by rw [HRL.out]; omega)).trans (ptrs_get hq2)
    have t0:=IsT.own HW.out.pair
    have t1:=IsT.own HW.out.ptr
    have t2:=IsT.own HW.out.rptr
    have a1 : gp ≠ w4.heap.size:=fun e=>by rw [e] at t1; exact absurd (t1.same t0) (by decide)
    have a2 : gr ≠ w4.heap.size:=fun e=>by rw [e] at t2; exact absurd (t2.same t0) (by decide)
    have a3 : gr ≠ gp:=fun e=>by rw [e] at t2; exact absurd (t2.same t1) (by decide)
    have a4:=a1.symm
    have a5:=a2.symm
    have a6:=a3.symm
    have i0 : (0 : Int) ≤ k:=by omega
    have i1 : (k : Int) < fs.length:=by omega
    clear hb t0 t1 t2 hq1 hq2
    go_wp2
    go_region_held3 (fun W=>W.cell? ⟨w4.heap.size,2,none⟩ = some (.slice (some ⟨gp,0,none⟩) fs.length pc) ∧ W.cell? ⟨w4.heap.size,3,none⟩ = some (.slice (some ⟨gr,0,none⟩) fs.length rc))
     (first | (refine ⟨?_,?_⟩ <;> assumption) | (simp [World.cell?_setCell_far, *]; done))
     (fail)
    all_goals
     clear e1 e2 f1 f2 a1 a2 a3 a4 a5 a6 i0 i1
     go_wp2
     go_roundw
     case rel=>exact ⟨k + 1,hlt,by go_num,HN⟩
     case measure=>simp [intOf]; omega
   ·have hb' : (bits .and .u8 (nl / 2 ^ k) 1 == 1) = false:=hb
    have HD : Hid (PS w0 wr n w4.heap.size pw rp PA RA pc rc qs rqs (noK nl (k + 1)) m0 m0):=HW.out.same (fun i _=>noK_no hb i) (by rw [HQL.out,HRL.out])
    clear hb HW
    go_wp2
    go_roundw
    case rel=>exact ⟨k + 1,hlt,by go_num,HD⟩
    case measure=>simp [intOf]; omega
  ·obtain rfl : k = fs.length:=by omega
   generalize noK nl fs.length = no at *
   have HBn : Hid (n ≤ wr.heap.size):=HW.out.many.low
   go_wp2_with fail
   refine (wnew_any gen 2 sz [] none 0 _ (RcsR.nil _ _ _) (fun x hx=>by simp at hx) (fun x hx=>by simp at hx) (by decide)).mono ?_
   intro e w6 hpost
   unfold NewPostW at hpost
   rw [show ([] : List RS).map RS.r = [] from rfl,newB_nil (by decide) HSZ.out.1,if_pos rfl] at hpost
   obtain ⟨b,V,rfl,hlm,hb6⟩:=hpost
   have HBW6:=Lib.hid (HBW.out.trans (hb6.mono (by have:=HBW.out.size; rw [hz0] at this; exact this)))
   have HPS6:=Lib.hid (HW.out.below hb6)
   have HL6:=Lib.hid (hlm.mono HBn.out)
   have hn6 : n ≤ w6.heap.size:=Nat.le_trans HBn.out hb6.size
   clear p0 p1 p2 p3 p4
   have PB:=HP0.out _ HBW6.out
   have p0:=PB.c0
   have p1:=PB.c1
   have p2:=PB.c2
   have p3:=PB.c3
   have p4:=PB.c4
   clear PB
   clear hlm hb6 q2 q3 HW
   go_wp2_with fail
   refine (rlnew_any n gen 2 sz [] none 0 _ hn6 (RcsR.nil _ _ _) (fun _=>rfl) (fun x hx=>by simp at hx) (fun x hx=>by simp at hx) (by decide)).mono ?_
   intro e w7 hpost
   unfold RLNewPost at hpost
   rw [show ([] : List RS).map RS.r = [] from rfl,newB_nil (by decide) HSZ.out.1,if_pos rfl] at hpost
   obtain ⟨rb,RV,rfl,hrm,hb7,hrv⟩:=hpost
   have HBW7:=Lib.hid (HBW6.out.trans (hb7.mono (by have:=HBW6.out.size; rw [hz0] at this; exact this)))
   have H7 : Hid (StW2 w0 w7 n w4.heap.size pw rp PA RA pc rc qs rqs no b rb gen 0):=
    ⟨V,RV,S0L gen 2 sz,m0,0,⟨HPS6.out.below hb7,HL6.out.below0 hb7,hrm,fun k e1 e2=>by have:=IsT.lt (HL6.out.vt e1); have:=hrv k e2; omega⟩,⟨S0L_ok hgen (by decide) (by decide) HSZ.out.1 (by have:=HSZ.out.2; omega),rfl,HSZ.out.2⟩,Nat.le_refl _,rfl,HMO.out,Nat.le_refl _,HMU.out⟩
   clear p0 p1 p2 p3 p4
   have PB:=HP0.out _ HBW7.out
   have p0:=PB.c0
   have p1:=PB.c1
   have p2:=PB.c2
   have p3:=PB.c3
   have p4:=PB.c4
   clear PB
   clear hrm hb7 hrv HPS6 HL6
   go_wp2
   go_loopw [87] (fun i wr=>∃ k : Nat,k ≤ l.length ∧ i = .int .i64 k ∧ Hid (StW2 w0 wr n w4.heap.size pw rp PA RA pc rc qs rqs no b rb gen k)) (fun i _=>l.length - (intOf i).toNat)
   case atStart=>exact ⟨0,Nat.zero_le _,rfl,H7⟩
   case round=>
    obtain ⟨k,hk,rfl,HW⟩:=hrel
    clear p0 p1 p2 p3 p4
    obtain ⟨V,RV,S,m,N,hA,hS,hSl,hSg,hmo,hN,hmu⟩:=HW.out
    have hbw:=hA.ps.bel
    rw [hz0] at hbw
    by_cases hlt : k < l.length
    ·have hXW:=HLR.out.up (HB.out _ hbw)
     obtain ⟨g7,o7,rA,hg7,j0,j1,j2,j3,j4⟩:=hXW.rd.rs hlt
     subst rA
     have hxr:=hXW.each _ (List.getElem_mem hlt)
     have HXO:=Lib.hid (HLE.out _ (List.getElem_mem hlt)).ok
     have HXB:=Lib.hid (brief_tiny (HBR.out _ (List.getElem_mem hlt)))
     have HXN:=Lib.hid (HLR.out.each _ (List.getElem_mem hlt))
     have PB:=(Cells5.new wr 28 (.int .u64 l[k].r.gen) (.int .u64 l[k].r.seq) (.slice l[k].A l[k].r.ws.length l[k].c) (.slice l[k].D l[k].r.ms.length l[k].d) (.slice l[k].N l[k].r.note.length l[k].n))
     have p0:=PB.c0; have p1:=PB.c1; have p2:=PB.c2; have p3:=PB.c3; have p4:=PB.c4
     have hbx : Below wr.heap.size wr (wr.alloc (.cells #[.int .u64 l[k].r.gen,.int .u64 l[k].r.seq,.slice l[k].A l[k].r.ws.length l[k].c,.slice l[k].D l[k].r.ms.length l[k].d,.slice l[k].N l[k].r.note.length l[k].n] 28)):=(Below.refl _ _).alloc (Nat.le_refl _) _
     have HAX:=Lib.hid (hA.below hbx)
     have HXR:=Lib.hid (hxr.up hbx)
     have HROW0 : Hid ((wr.alloc (.cells #[.int .u64 l[k].r.gen,.int .u64 l[k].r.seq,.slice l[k].A l[k].r.ws.length l[k].c,.slice l[k].D l[k].r.ms.length l[k].d,.slice l[k].N l[k].r.note.length l[k].n] 28)).ownsRow wr.heap.size 28 5 (.slice (some ⟨wr.heap.size,0,none⟩) 1 1) 1 [.int .u64 l[k].r.gen,.int .u64 l[k].r.seq,.slice l[k].A l[k].r.ws.length l[k].c,.slice l[k].D l[k].r.ms.length l[k].d,.slice l[k].N l[k].r.note.length l[k].n]):=World.ownsRow_lit (base:=wr.heap.size) (e:=28) (size:=5) wr #[.int .u64 l[k].r.gen,.int .u64 l[k].r.seq,.slice l[k].A l[k].r.ws.length l[k].c,.slice l[k].D l[k].r.ms.length l[k].d,.slice l[k].N l[k].r.note.length l[k].n] 1 (Nat.le_refl _) (by decide) rfl
     have HVL : Hid (∀ j,V = some j → j ≠ wr.heap.size):=fun j e=>by have:=IsT.lt (hA.log.vt e); omega
     have HSO:=Lib.hid (appS_ok2 hS HXO.out HXB.out (by omega))
     have HSN : Hid ((appS S l[k].r).l.length ≤ k + 1):=by have:=appS_len S l[k].r; unfold Hid; omega
     have HSG2 : Hid ((appS S l[k].r).gen = gen):=(appS_sec S l[k].r).2.2.trans hSg
     have HMM:=Lib.hid (appM_ok (g:=gW) (key:=0) (no:=no) (r:=l[k].r) hS.ok hS.b hmo)
     have HMV:=Lib.hid (appM_u8 (g:=gW) (key:=0) (no:=no) hS.ok HXO.out hmu)
     have HXL : Hid ((appM gW 0 no S l[k].r m).2.length ≤ 1000):=by
      have h1:=hA.ps.many.len
      have h2:=HQL.out
      unfold Hid appM
      split
      ·have:=(allK_len gW 0 (S.fr + S.used) (encR (S.num l[k].r)) no m m.ds.length (Nat.le_refl _)).2
       unfold allD; omega
      ·simp
     have HS:=Lib.hid hS
     have HMO:=Lib.hid hmo
     have HNN:=Lib.hid hN
     obtain ⟨q,hq0⟩ : ∃ q : Nat,q = S.l.length + 1:=⟨_,rfl⟩
     have HNB : Hid (∀ W,RLogM W n rb RV S → Calls Tryz.prog 31 #[.pointer (some ⟨rb,0,none⟩),.agg #[.int .u64 l[k].r.gen,.int .u64 l[k].r.seq,.slice l[k].A l[k].r.ws.length l[k].c,.slice l[k].D l[k].r.ms.length l[k].d,.slice l[k].N l[k].r.note.length l[k].n]] W fun e w'=>e = .returned (.agg #[.int .u64 S.gen,.int .u64 q,.slice l[k].A l[k].r.ws.length l[k].c,.slice l[k].D l[k].r.ms.length l[k].d,.slice l[k].N l[k].r.note.length l[k].n]) ∧ Below W.heap.size W w'):=fun W hW=>rnumbered_any l[k].r l[k].A l[k].D l[k].N l[k].c l[k].d l[k].n hW (by omega) q hq0
     have HENC : Hid (∀ W,Below w.heap.size w W → Calls Tryz.prog 30 #[.agg #[.int .u64 S.gen,.int .u64 q,.slice l[k].A l[k].r.ws.length l[k].c,.slice l[k].D l[k].r.ms.length l[k].d,.slice l[k].N l[k].r.note.length l[k].n]] W (EncPost W (S.num l[k].r))):=by
      unfold Hid; intro W hW
      have hw:=HXB.out.ws; have hm:=HXB.out.ms; have hn:=HXB.out.note
      have hrr:=HXN.out.up hW
      have:=rencode_any (S.num l[k].r) (num_ok HS.out.ok HXO.out) l[k].A l[k].D l[k].N l[k].c l[k].d l[k].n W ⟨hrr.ws,hrr.ms,hrr.note⟩ (by show l[k].r.ws.length ≤ _; omega) (by show l[k].r.ms.length ≤ _; omega) (by show l[k].r.note.length ≤ _; omega)
      rw [hq0]
      exact this
     have HA1:=hA.below hbx |>.app HS.out.ok HMO.out (by have:=HNN.out; omega) (by rw [HQL.out]; omega) l[k].r HXO.out l[k].A l[k].D l[k].N l[k].c l[k].d l[k].n HXR.out HXB.out
     rw [HQL.out] at HA1
     have HA:=Lib.hid HA1
     have HRA : Hid (∀ W V',AS w0 W n w4.heap.size pw rp PA RA pc rc qs rqs no b rb V' RV (appS S l[k].r) S (appM gW 0 no S l[k].r m).1 m → Calls Tryz.prog 32 #[.pointer (some ⟨rb,0,none⟩),.slice RA fs.length rc,.int .u64 0,.agg #[.int .u64 l[k].r.gen,.int .u64 l[k].r.seq,.slice l[k].A l[k].r.ws.length l[k].c,.slice l[k].D l[k].r.ms.length l[k].d,.slice l[k].N l[k].r.note.length l[k].n]] W fun e w'=>∃ A c V2,e = .returned (.tuple #[.slice A (appM gW 0 no S l[k].r m).2.length c,.int .i64 (appE S l[k].r)]) ∧
       w'.ownsRow W.heap.size 41 1 (.slice A (appM gW 0 no S l[k].r m).2.length c) (appM gW 0 no S l[k].r m).2.length ((appM gW 0 no S l[k].r m).2.map (Value.int .i64)) ∧ AS w0 w' n w4.heap.size pw rp PA RA pc rc qs rqs no b rb V' V2 (appS S l[k].r) (appS S l[k].r) (appM gW 0 no S l[k].r m).1 (appM gW 0 no S l[k].r m).1 ∧ KeptT (28 :: RLDT) (Bd.of n) W w'):=by
      unfold Hid; intro W V' hW
      have hwb:=hW.ps.bel
      rw [hz0] at hwb
      have:=hW.rapp HS.out.ok HMO.out (by have:=HNN.out; omega) (by rw [HRL.out]; omega) l[k].r HXO.out l[k].A l[k].D l[k].N l[k].c l[k].d l[k].n ((HXN.out.below (HB.out _ hwb) (Nat.le_refl _)).more (by omega)) HXB.out
      rw [HRL.out] at this
      exact this
     have hs0:=hS.ok.u0
     have hs1:=hS.ok.u1
     have hs2:=hS.b
     have hw1 : IntKind.i64.wrap (S.sec - S.used) = S.sec - S.used:=by rw [IntKind.wrap_i64]; omega
     have HEC : Hid (∀ ss : List Sl,ss.map Sl.xs = encL (S.num l[k].r) → _):=fun ss h=>enc_cases (S:=S) h
     have q2 : (wr.alloc (.cells #[.int .u64 l[k].r.gen,.int .u64 l[k].r.seq,.slice l[k].A l[k].r.ws.length l[k].c,.slice l[k].D l[k].r.ms.length l[k].d,.slice l[k].N l[k].r.note.length l[k].n] 28)).cell? ⟨w4.heap.size,2,none⟩ = some (.slice PA fs.length pc):=by have:=HAX.out.ps.c2; rw [HQL.out] at this; exact this
     generalize appM gW 0 no S l[k].r m = X at *
     generalize appS S l[k].r = S' at *
     generalize appE S l[k].r = er at *
     generalize l[k] = x at *
     clear hXW hxr PB hbx hA hbw hS hSl hSg hmo hN hmu HW HA1 hq0 hs0 hs1 hs2
     go_wp2_with fail
     refine HA.out.mono ?_
     rintro e w6 ⟨A6,c6,V6,rfl,ho6,hA6,hk6⟩
     have hrow6:=own_kept HROW0.out hk6 (fun j e=>by
      simp [Value.ownBlock] at e; subst e
      rintro ⟨_,h1 | h1⟩
      ·exact HasT.no (IsT.own HROW0.out) (by unfold LDT; decide) h1
      ·exact HVL.out _ h1 rfl)
     clear p0 p1 p2 p3 p4 q2
     have p0:=(World.ownsRow.cellAt hrow6 0 (by decide)).trans (show _ = some _ from rfl)
     have p1:=(World.ownsRow.cellAt hrow6 1 (by decide)).trans (show _ = some _ from rfl)
     have p2:=(World.ownsRow.cellAt hrow6 2 (by decide)).trans (show _ = some _ from rfl)
     have p3:=(World.ownsRow.cellAt hrow6 3 (by decide)).trans (show _ = some _ from rfl)
     have p4:=(World.ownsRow.cellAt hrow6 4 (by decide)).trans (show _ = some _ from rfl)
     have HROW6:=Lib.hid hrow6
     have HO6:=Lib.hid ho6
     have HA6:=Lib.hid hA6
     clear hrow6 ho6 hA6 hk6 HA HAX HROW0
     go_wp2_with fail
     refine (HNB.out _ HA6.out.rlog).mono ?_
     rintro e w7 ⟨rfl,hb7⟩
     have hbw6:=HA6.out.ps.bel
     rw [hz0] at hbw6
     have hbw7:=(HB.out _ hbw6).trans (hb7.mono (HB.out _ hbw6).size)
     have HEN:=Lib.hid (HENC.out w7 hbw7)
     have HB7:=Lib.hid hb7
     clear hb7 hbw6 hbw7 p0 p1 p2 p3 p4
     go_wp2_with fail
     refine HEN.out.mono ?_
     rintro e w8 ⟨A8,c8,ss,rfl,hss,_,hb8⟩
     have hb68 : Below w6.heap.size w6 w8:=HB7.out.trans (hb8.mono HB7.out.size)
     have HA8:=Lib.hid (HA6.out.below hb68)
     have HROW8:=Lib.hid (own_kept HROW6.out (belKept0 (S:=fun _=>False) hb68) (fun _ _ h=>h))
     have HO8:=Lib.hid (own_kept HO6.out (belKept0 (S:=fun _=>False) hb68) (fun _ _ h=>h))
     obtain ⟨AL,cL,xsL,hlmL,_⟩:=HA8.out.rlog
     obtain ⟨_,_,l2,l3,_⟩:=hlmL.cells
     have HFI:=Lib.hid (HEC.out ss hss)
     clear hss hb8 hb68 hlmL HEN HB7 HA6 HROW6 HO6 HENC HNB HEC
     generalize ss.length = L at *
     go_wp2
     go_cut [16] from 106 to 122 (fun v wx=>v = .bool (er == 0) ∧ Hid (Below w8.heap.size w8 wx))
     case first=>
      obtain ⟨h0,h1⟩ | ⟨h0,h1,h2⟩ | ⟨h0,h1,h2⟩:=HFI.out
      ·have d0 : decide ((0 : Int) < (L : Int)) = false:=decide_eq_false (by omega)
       have d0' : decide (0 < L) = false:=decide_eq_false (by omega)
       have HE:=Lib.hid h1
       clear h0 h1 HFI
       go_quiet (fail)
       have HD : Hid (Below w8.heap.size w8 (w8.drewN nq)):=below_drewN' (Below.refl _ _) _
       go_wp2_with fail
       go_meet
       exact ⟨by rw [HE.out],HD⟩
      ·have d0 : decide ((0 : Int) < (L : Int)) = true:=decide_eq_true (by omega)
       have d0' : decide (0 < L) = true:=decide_eq_true (by omega)
       have d1 : decide ((L : Int) ≤ S.sec - S.used) = true:=decide_eq_true h1
       have HE:=Lib.hid h2
       clear h0 h1 h2 HFI
       go_quiet (fail)
       have HD : Hid (Below w8.heap.size w8 (w8.drewN nq)):=below_drewN' (Below.refl _ _) _
       go_wp2_with fail
       go_meet
       exact ⟨by rw [HE.out],HD⟩
      ·have d0 : decide ((0 : Int) < (L : Int)) = true:=decide_eq_true (by omega)
       have d0' : decide (0 < L) = true:=decide_eq_true (by omega)
       have d1 : decide ((L : Int) ≤ S.sec - S.used) = false:=decide_eq_false (by omega)
       have HE:=Lib.hid h2
       clear h0 h1 h2 HFI
       go_quiet (fail)
       have HD : Hid (Below w8.heap.size w8 (w8.drewN nq)):=below_drewN' (Below.refl _ _) _
       go_wp2_with fail
       go_meet
       exact ⟨by rw [HE.out],HD⟩
     case rest=>
      obtain ⟨rfl,HBC⟩:=hcut
      have HA9:=Lib.hid (HA8.out.below HBC.out)
      have hrow9:=own_kept HROW8.out (belKept0 (S:=fun _=>False) HBC.out) (fun _ _ h=>h)
      have HO9:=Lib.hid (own_kept HO8.out (belKept0 (S:=fun _=>False) HBC.out) (fun _ _ h=>h))
      have p0:=(World.ownsRow.cellAt hrow9 0 (by decide)).trans (show _ = some _ from rfl)
      have p1:=(World.ownsRow.cellAt hrow9 1 (by decide)).trans (show _ = some _ from rfl)
      have p2:=(World.ownsRow.cellAt hrow9 2 (by decide)).trans (show _ = some _ from rfl)
      have p3:=(World.ownsRow.cellAt hrow9 3 (by decide)).trans (show _ = some _ from rfl)
      have p4:=(World.ownsRow.cellAt hrow9 4 (by decide)).trans (show _ = some _ from rfl)
      have q3 : wc.cell? ⟨w4.heap.size,3,none⟩ = some (.slice RA fs.length rc):=by have:=HA9.out.ps.c3; rw [HRL.out] at this; exact this
      have HRA9:=Lib.hid (HRA.out wc V6 HA9.out)
      clear l2 l3 HA8 HROW8 HO8 HFI HBC hrow9 HRA
      go_wp2_with fail
      refine HRA9.out.mono ?_
      rintro e w10 ⟨A10,c10,V10,rfl,ho10,hA10,hk10⟩
      have HO10:=Lib.hid ho10
      have HP10:=Lib.hid (own_ty HO9.out hk10 (by unfold RLDT; decide))
      have HA10:=Lib.hid hA10
      have hbd : Below w10.heap.size w10 w10.drew:=(Below.refl _ _).drew
      have HSE : Hid (∀ W,Below w10.heap.size w10 W → Calls Tryz.prog 33 #[.slice A6 X.2.length c6,.slice A10 X.2.length c10] W fun e w'=>e = .returned (.bool true) ∧ Below W.heap.size W w'):=fun W hW=>sameerr_any X.2 A6 A10 c6 c10 W (Rd.of_own (own_kept HP10.out (belKept0 (S:=fun _=>False) hW) (fun _ _ h=>h))) (Rd.of_own (own_kept HO10.out (belKept0 (S:=fun _=>False) hW) (fun _ _ h=>h))) HXL.out
      obtain ⟨AL,cL,xs,hrl,_⟩:=HA10.out.rlog
      have HR10:=Lib.hid hrl
      have HCE : Hid (∀ W,Below w10.heap.size w10 W → W.cell? ⟨rb,3,none⟩ = some (.int .i64 S'.used) ∧ W.cell? ⟨rb,4,none⟩ = some (.slice AL xs.length cL)):=fun W hW=>⟨(HR10.out.below0 hW).cells.2.2.2.1,(HR10.out.below0 hW).cells.2.2.2.2⟩
      have HTS : Hid (∀ r ∈ S'.l,Tiny r):=fun r hr=>(HSO.out.ok.t r hr).1
      have HSL : Hid (S'.l.length ≤ 1000):=by have:=HSO.out.ok.l; unfold Hid; omega
      have HC0 : Hid (AppC (fun W=>Below w10.heap.size w10 W) (.int .i64 S'.used) (fun v W=>∃ A c ys,v = .slice A ys.length c ∧ ys.map RS.r = S'.l ∧ RcsO W 0 A c ys) [] w10.drew):=hbd
      generalize hC : AppC (fun W=>Below w10.heap.size w10 W) (.int .i64 S'.used) (fun v W=>∃ A c ys,v = .slice A ys.length c ∧ ys.map RS.r = S'.l ∧ RcsO W 0 A c ys) = C at HC0
      have hall : ∀ h W,C h W → Below w10.heap.size w10 W:=by
       subst hC
       intro h W hW
       match h,hW with
       | [],hW=>exact hW
       | [_],hW=>exact hW.1
       | [_,_],hW=>exact hW.1
       | [_,_,_],hW=>exact hW.1
       | [_,_,_,_],hW=>exact hW.1
      have k3 : ∀ t : HeldC C,t.w.cell? ⟨rb,3,none⟩ = some (.int .i64 S'.used):=fun t=>(HCE.out _ (hall _ _ t.h)).1
      have k4 : ∀ t : HeldC C,t.w.cell? ⟨rb,4,none⟩ = some (.slice AL xs.length cL):=fun t=>(HCE.out _ (hall _ _ t.h)).2
      have HALL:=Lib.hid hall
      have HK1 : Hid (∀ W,C [] W → Calls Tryz.prog 33 #[.slice A6 X.2.length c6,.slice A10 X.2.length c10] W fun e w'=>∃ v,e = .returned v ∧ C ([] ++ [v]) w'):=by
       subst hC
       unfold Hid; intro W hW
       refine (HSE.out W hW).mono ?_
       rintro e w' ⟨he,hb⟩
       exact ⟨_,he,hW.trans (hb.mono hW.size),rfl⟩
      have HK2 : Hid (∀ v W,C [v] W → Calls Tryz.prog 24 #[.pointer (some ⟨b,0,none⟩)] W fun e w'=>∃ u,e = .returned u ∧ C ([v] ++ [u]) w'):=by
       subst hC
       unfold Hid; intro v W hW
       refine (wused_any (HA10.out.log.below0 hW.1)).mono ?_
       rintro e w' ⟨he,rfl⟩
       exact ⟨_,he,hW.1,rfl⟩
      have HK3 : Hid (∀ v u W,C [v,u] W → Calls Tryz.prog 28 #[.pointer (some ⟨b,0,none⟩)] W fun e w'=>∃ x,e = .returned x ∧ C ([v,u] ++ [x]) w'):=by
       subst hC
       unfold Hid; intro v u W hW
       refine (wrecords_any (HA10.out.log.below0 hW.1) HSL.out HTS.out).mono ?_
       rintro e w' ⟨A9,c9,ys,he,hy,ho,hb⟩
       exact ⟨_,he,hW.1.trans (hb.mono hW.1.size),A9,c9,ys,rfl,hy,ho.mono (Nat.zero_le _)⟩
      have HK4 : Hid (∀ v u A9 k9 c9 W,C [v,u,.slice A9 k9 c9] W → Calls Tryz.prog 27 #[.slice A9 k9 c9,.slice AL xs.length cL] W fun e w'=>∃ x,e = .returned x ∧ C ([v,u,.slice A9 k9 c9] ++ [x]) w'):=by
       subst hC
       unfold Hid; intro v u A9 k9 c9 W hW
       obtain ⟨hb,A8,c8,ys,e8,hy,ho⟩:=hW
       injection e8 with e1 e2 e3
       subst e1 e2 e3
       refine (sameall_any ys xs (by rw [hy,HR10.out.rec_]) (fun y hy2=>HTS.out _ (by rw [← hy]; exact List.mem_map.2 ⟨y,hy2,rfl⟩)) _ AL _ cL W ho.rd (HR10.out.below0 hb).rd (by have h7:=congrArg List.length hy; rw [List.length_map] at h7; have:=HSL.out; omega)).mono ?_
       rintro e w' ⟨he,hb2⟩
       exact ⟨_,he,hb.trans (hb2.mono hb.size),rfl⟩
      have HV : Hid ((∀ v W,C [v] W → v = .bool true) ∧ (∀ v u W,C [v,u] W → u = .int .i64 S'.used) ∧ (∀ v u y W,C [v,u,y] W → ∃ A k c,y = .slice A k c) ∧ (∀ v u y x W,C [v,u,y,x] W → x = .bool true)):=by
       subst hC
       exact ⟨fun _ _ h=>h.2,fun _ _ _ h=>h.2,fun _ _ _ _ h=>by obtain ⟨_,A8,c8,ys,e8,_⟩:=h; exact ⟨_,_,_,e8⟩,fun _ _ _ _ _ h=>h.2⟩
      have hne : Nonempty (HeldC C):=⟨⟨[],_,HC0.out⟩⟩
      clear p0 p1 p2 p3 p4 q3 ho10 hA10 hk10 HA9 HO9 hrl hbd HRA9 hC hall HSE HCE
      go_wp2
      refine wp_region_chain C [6,17,26,31] [31,26,24,17,15,9,6] (by kernel_rfl) (by kernel_rfl) (by kernel_rfl) (by kernel_rfl) HC0.out ?_
      repeat (refine wpCh_n (by rfl) (by rfl) ?_; go_big_quiet_step (fail); refine wpQuiet_nil ?_)
      refine wpCh_l (f:=33) (args:=#[.slice A6 X.2.length c6,.slice A10 X.2.length c10]) (by rfl) (by rfl) (fun W=>by simp [go_sem]) (fun W hW=>HK1.out W hW) (fun v W hW=>?_)
      obtain rfl:=HV.out.1 v W hW
      go_big_quiet_step (fail)
      refine wpQuiet_nil ?_
      repeat (refine wpCh_n (by rfl) (by rfl) ?_; go_big_quiet_step (fail); refine wpQuiet_nil ?_)
      refine wpCh_l (f:=24) (args:=#[.pointer (some ⟨b,0,none⟩)]) (by rfl) (by rfl) (fun W=>by simp [go_sem]) (fun W hW=>HK2.out _ W hW) (fun v W hW=>?_)
      obtain rfl:=HV.out.2.1 _ v W hW
      go_big_quiet_step (fail)
      refine wpQuiet_nil ?_
      repeat (refine wpCh_n (by rfl) (by rfl) ?_; go_big_quiet_step (fail); refine wpQuiet_nil ?_)
      refine wpCh_l (f:=28) (args:=#[.pointer (some ⟨b,0,none⟩)]) (by rfl) (by rfl) (fun W=>by simp [go_sem]) (fun W hW=>HK3.out _ _ W hW) (fun v W hW=>?_)
      obtain ⟨A9,k9,c9,rfl⟩:=HV.out.2.2.1 _ _ v W hW
      go_big_quiet_step (fail)
      refine wpQuiet_nil ?_
      repeat (refine wpCh_n (by rfl) (by rfl) ?_; go_big_quiet_step (fail); refine wpQuiet_nil ?_)
      refine wpCh_l (f:=27) (args:=#[.slice A9 k9 c9,.slice AL xs.length cL]) (by rfl) (by rfl) (fun W=>by simp [go_sem]) (fun W hW=>HK4.out _ _ _ _ _ W hW) (fun v W hW=>?_)
      obtain rfl:=HV.out.2.2.2 _ _ _ v W hW
      go_big_quiet_step (fail)
      refine wpQuiet_nil ?_
      repeat (refine wpCh_n (by rfl) (by rfl) ?_; go_big_quiet_step (fail); refine wpQuiet_nil ?_)
      refine wpCh_nil ?_
      intro w14 hcw
      have HB14:=Lib.hid (HALL.out _ _ hcw)
      have HD : Hid (StW2 w0 w14 n w4.heap.size pw rp PA RA pc rc qs rqs no b rb gen (k + 1)):=⟨V6,V10,S',X.1,N + 162,HA10.out.below HB14.out,HSO.out,HSN.out,HSG2.out,HMM.out,by have:=HNN.out; omega,HMV.out⟩
      clear k3 k4 hne HK1 HK2 HK3 HK4 HV HC0 hcw hW HALL
      go_wp2
      go_roundw
      case rel=>exact ⟨k + 1,hlt,by go_num,HD⟩
      case measure=>simp [intOf]; omega
    ·obtain rfl : k = l.length:=by omega
     have PB:=HP0.out _ hbw
     have p0:=PB.c0
     have p1:=PB.c1
     have p2:=PB.c2
     have p3:=PB.c3
     have p4:=PB.c4
     clear PB
     have q2 : wr.cell? ⟨w4.heap.size,2,none⟩ = some (.slice PA fs.length pc):=by have:=hA.ps.c2; rw [HQL.out] at this; exact this
     have q3 : wr.cell? ⟨w4.heap.size,3,none⟩ = some (.slice RA fs.length rc):=by have:=hA.ps.c3; rw [HRL.out] at this; exact this
     have hbd : Below wr.heap.size wr wr.drew:=(Below.refl _ _).drew
     have h18:=Ok2.small hS
     obtain ⟨AL,cL,xs,hrl0,_⟩:=hA.rlog
     have HLEN:=Lib.hid hrl0.len
     have HRW : Hid (∀ W,AS w0 W n w4.heap.size pw rp PA RA pc rc qs rqs no b rb V RV S S m m → Calls Tryz.prog 34 #[.pointer (some ⟨b,0,none⟩),.slice PA fs.length pc,.int .u64 0] W fun e w'=>∃ A c,e = .returned (.slice A (allD gW 0 S.fr (secLs S.l) no m).2.length c) ∧
       w'.ownsRow W.heap.size 41 1 (.slice A (allD gW 0 S.fr (secLs S.l) no m).2.length c) (allD gW 0 S.fr (secLs S.l) no m).2.length ((allD gW 0 S.fr (secLs S.l) no m).2.map (Value.int .i64)) ∧ AS w0 w' n w4.heap.size pw rp PA RA pc rc qs rqs no b rb V RV S S (allD gW 0 S.fr (secLs S.l) no m).1 m ∧ KeptT DAT (Bd.of n) W w'):=by
      unfold Hid; intro W hW
      have:=hW.rew hS.ok (by omega) hmo (by omega) (by rw [HQL.out]; omega)
      rw [HQL.out] at this
      exact this
     have HRR : Hid (∀ W,AS w0 W n w4.heap.size pw rp PA RA pc rc qs rqs no b rb V RV S S (allD gW 0 S.fr (secLs S.l) no m).1 m → Calls Tryz.prog 35 #[.pointer (some ⟨rb,0,none⟩),.slice RA fs.length rc,.int .u64 0] W fun e w'=>∃ A c,e = .returned (.slice A (allD gW 0 S.fr (secLs S.l) no m).2.length c) ∧
       w'.ownsRow W.heap.size 41 1 (.slice A (allD gW 0 S.fr (secLs S.l) no m).2.length c) (allD gW 0 S.fr (secLs S.l) no m).2.length ((allD gW 0 S.fr (secLs S.l) no m).2.map (Value.int .i64)) ∧ AS w0 w' n w4.heap.size pw rp PA RA pc rc qs rqs no b rb V RV S S (allD gW 0 S.fr (secLs S.l) no m).1 (allD gW 0 S.fr (secLs S.l) no m).1 ∧ KeptT RDT (Bd.of n) W w'):=by
      unfold Hid; intro W hW
      have:=hW.rrew hS.ok (by omega) hmo (by omega) (by rw [HRL.out]; omega)
      rw [HRL.out] at this
      exact this
     have HXL : Hid ((allD gW 0 S.fr (secLs S.l) no m).2.length ≤ 1000):=by
      have h1:=hA.ps.many.len
      have h2:=HQL.out
      have:=(allK_len gW 0 S.fr (secLs S.l) no m m.ds.length (Nat.le_refl _)).2
      unfold Hid allD; omega
     have HMM : Hid ((allD gW 0 S.fr (secLs S.l) no m).1.Ok 9000):=(allD_ok hmo).mono (by omega)
     have HMV : Hid ((allD gW 0 S.fr (secLs S.l) no m).1.U8):=allD_u8 (fun r hr=>(hS.ok.t r hr).2) hmu
     have HSL : Hid (S.l.length ≤ 1000):=by have:=hS.ok.l; unfold Hid; omega
     have HSGN : Hid (S.gen < 2 ^ 64):=hS.ok.g
     have HR0:=Lib.hid (hrl0.below0 hbd)
     have HA0:=Lib.hid (hA.below hbd)
     generalize allD gW 0 S.fr (secLs S.l) no m = X at *
     have HGN:=Lib.hid hSg
     have HCC : Hid (∀ W mm mm',AS w0 W n w4.heap.size pw rp PA RA pc rc qs rqs no b rb V RV S S mm mm' → W.cell? ⟨w4.heap.size,2,none⟩ = some (.slice PA fs.length pc) ∧ W.cell? ⟨w4.heap.size,3,none⟩ = some (.slice RA fs.length rc) ∧ W.cell? ⟨w.heap.size,1,none⟩ = some (.int .u64 (gen : Nat))):=by
      unfold Hid; intro W mm mm' h
      have hb:=h.ps.bel
      rw [hz0] at hb
      exact ⟨by have:=h.ps.c2; rw [HQL.out] at this; exact this,by have:=h.ps.c3; rw [HRL.out] at this; exact this,(HP0.out _ hb).c1⟩
     clear hA hbw hS hSl hSg hmo hN hmu HW hbd h18 hrl0
     clear p0 p1 p2 p3 p4 q2 q3
     go_wp2
     go_cut [187] from 166 to 187 (fun v wx=>v = .bool false ∧ Hid (StW3 w0 wx n w4.heap.size pw rp PA RA pc rc qs rqs no))
     case first=>
      have HC0 : Hid (RwC (fun W=>AS w0 W n w4.heap.size pw rp PA RA pc rc qs rqs no b rb V RV S S m m ∧ RLogMem W n rb AL cL xs S) (fun v W=>∃ A c,v = .slice A X.2.length c ∧ W.ownsRow n 41 1 (.slice A X.2.length c) X.2.length (X.2.map (Value.int .i64)) ∧ AS w0 W n w4.heap.size pw rp PA RA pc rc qs rqs no b rb V RV S S X.1 m ∧ RLogMem W n rb AL cL xs S)
        (fun v u W=>∃ A c A' c',v = .slice A X.2.length c ∧ u = .slice A' X.2.length c' ∧ W.ownsRow n 41 1 (.slice A X.2.length c) X.2.length (X.2.map (Value.int .i64)) ∧ W.ownsRow n 41 1 (.slice A' X.2.length c') X.2.length (X.2.map (Value.int .i64)) ∧ AS w0 W n w4.heap.size pw rp PA RA pc rc qs rqs no b rb V RV S S X.1 X.1 ∧ RLogMem W n rb AL cL xs S)
        (fun W=>AS w0 W n w4.heap.size pw rp PA RA pc rc qs rqs no b rb V RV S S X.1 X.1 ∧ RLogMem W n rb AL cL xs S) (.int .u64 (nextN S.l.length S.gen : Nat)) [] wr.drew):=⟨HA0.out,HR0.out⟩
      generalize hC : RwC (fun W=>AS w0 W n w4.heap.size pw rp PA RA pc rc qs rqs no b rb V RV S S m m ∧ RLogMem W n rb AL cL xs S) (fun v W=>∃ A c,v = .slice A X.2.length c ∧ W.ownsRow n 41 1 (.slice A X.2.length c) X.2.length (X.2.map (Value.int .i64)) ∧ AS w0 W n w4.heap.size pw rp PA RA pc rc qs rqs no b rb V RV S S X.1 m ∧ RLogMem W n rb AL cL xs S)
        (fun v u W=>∃ A c A' c',v = .slice A X.2.length c ∧ u = .slice A' X.2.length c' ∧ W.ownsRow n 41 1 (.slice A X.2.length c) X.2.length (X.2.map (Value.int .i64)) ∧ W.ownsRow n 41 1 (.slice A' X.2.length c') X.2.length (X.2.map (Value.int .i64)) ∧ AS w0 W n w4.heap.size pw rp PA RA pc rc qs rqs no b rb V RV S S X.1 X.1 ∧ RLogMem W n rb AL cL xs S)
        (fun W=>AS w0 W n w4.heap.size pw rp PA RA pc rc qs rqs no b rb V RV S S X.1 X.1 ∧ RLogMem W n rb AL cL xs S) (.int .u64 (nextN S.l.length S.gen : Nat)) = C at HC0
      have hall : ∀ h W,C h W → ∃ mm mm',AS w0 W n w4.heap.size pw rp PA RA pc rc qs rqs no b rb V RV S S mm mm' ∧ RLogMem W n rb AL cL xs S:=by
       subst hC
       intro h W hW
       match h,hW with
       | [],hW=>exact ⟨_,_,hW⟩
       | [_],hW=>obtain ⟨_,_,_,_,h1,h2⟩:=hW; exact ⟨_,_,h1,h2⟩
       | [_,_],hW=>obtain ⟨_,_,_,_,_,_,_,_,h1,h2⟩:=hW; exact ⟨_,_,h1,h2⟩
       | [_,_,_],hW=>exact ⟨_,_,hW.1⟩
       | [_,_,_,_],hW=>exact ⟨_,_,hW.1⟩
       | [_,_,_,_,_],hW=>exact ⟨_,_,hW.1⟩
      have k2 : ∀ t : HeldC C,t.w.cell? ⟨w4.heap.size,2,none⟩ = some (.slice PA fs.length pc):=fun t=>by obtain ⟨_,_,h,_⟩:=hall _ _ t.h; exact (HCC.out _ _ _ h).1
      have k3 : ∀ t : HeldC C,t.w.cell? ⟨w4.heap.size,3,none⟩ = some (.slice RA fs.length rc):=fun t=>by obtain ⟨_,_,h,_⟩:=hall _ _ t.h; exact (HCC.out _ _ _ h).2.1
      have k1 : ∀ t : HeldC C,t.w.cell? ⟨w.heap.size,1,none⟩ = some (.int .u64 (gen : Nat)):=fun t=>by obtain ⟨_,_,h,_⟩:=hall _ _ t.h; exact (HCC.out _ _ _ h).2.2
      have k4 : ∀ t : HeldC C,t.w.cell? ⟨rb,4,none⟩ = some (.slice AL xs.length cL):=fun t=>by obtain ⟨_,_,_,h⟩:=hall _ _ t.h; exact h.cells.2.2.2.2
      have HK1 : Hid (∀ W,C [] W → Calls Tryz.prog 34 #[.pointer (some ⟨b,0,none⟩),.slice PA fs.length pc,.int .u64 0] W fun e w'=>∃ v,e = .returned v ∧ C ([] ++ [v]) w'):=by
       subst hC
       unfold Hid; intro W hW
       refine (HRW.out W hW.1).mono ?_
       rintro e w' ⟨A6,c6,he,ho,ha,hk⟩
       exact ⟨_,he,A6,c6,rfl,own_mono ho hW.1.ps.many.low,ha,hW.2.types hk (Nat.le_refl _) (by unfold DAT; decide) (by unfold DAT; decide)⟩
      have HK2 : Hid (∀ v W,C [v] W → Calls Tryz.prog 35 #[.pointer (some ⟨rb,0,none⟩),.slice RA fs.length rc,.int .u64 0] W fun e w'=>∃ u,e = .returned u ∧ C ([v] ++ [u]) w'):=by
       subst hC
       unfold Hid; intro v W hW
       obtain ⟨A6,c6,rfl,ho6,ha6,hr6⟩:=hW
       refine (HRR.out W ha6).mono ?_
       rintro e w' ⟨A7,c7,he,ho,ha,hk⟩
       exact ⟨_,he,A6,c6,A7,c7,rfl,rfl,own_ty ho6 hk (by unfold RDT; decide),own_mono ho ha6.ps.many.low,ha,hr6.types hk (Nat.le_refl _) (by unfold RDT; decide) (by unfold RDT; decide)⟩
      have HK3 : Hid (∀ A k c A' k' c' W,C [.slice A k c,.slice A' k' c'] W → Calls Tryz.prog 33 #[.slice A k c,.slice A' k' c'] W fun e w'=>∃ u,e = .returned u ∧ C ([.slice A k c,.slice A' k' c'] ++ [u]) w'):=by
       subst hC
       unfold Hid; intro A k c A' k' c' W hW
       obtain ⟨A6,c6,A7,c7,e6,e7,ho6,ho7,ha7,hr7⟩:=hW
       injection e6 with e1 e2 e3
       injection e7 with e4 e5 e8
       subst e1 e2 e3 e4 e5 e8
       refine (sameerr_any X.2 _ _ _ _ W (Rd.of_own ho6) (Rd.of_own ho7) HXL.out).mono ?_
       rintro e w' ⟨he,hb⟩
       exact ⟨_,he,⟨ha7.below hb,hr7.below0 hb⟩,rfl⟩
      have HK4 : Hid (∀ v u z W,C [v,u,z] W → Calls Tryz.prog 25 #[.pointer (some ⟨b,0,none⟩)] W fun e w'=>∃ x,e = .returned x ∧ C ([v,u,z] ++ [x]) w'):=by
       subst hC
       unfold Hid; intro v u z W hW
       refine (wnext_any hW.1.1.log HSL.out HSGN.out).mono ?_
       rintro e w' ⟨he,hb⟩
       exact ⟨_,he,⟨hW.1.1.below hb,hW.1.2.below0 hb⟩,rfl⟩
      have HK5 : Hid (∀ v u z y W,C [v,u,z,y] W → Calls Tryz.prog 26 #[.slice AL xs.length cL,.int .u64 gen] W fun e w'=>∃ x,e = .returned x ∧ C ([v,u,z,y] ++ [x]) w'):=by
       subst hC
       unfold Hid; intro v u z y W hW
       refine (rnext_any xs.length (by have:=HLEN.out; have:=HSL.out; omega) gen hgen AL cL W).mono ?_
       rintro e w' ⟨he,rfl⟩
       refine ⟨_,he,hW.1,?_⟩
       rw [HLEN.out,HGN.out]
      have HV : Hid ((∀ v W,C [v] W → ∃ A c,v = .slice A X.2.length c) ∧ (∀ v u W,C [v,u] W → ∃ A c,u = .slice A X.2.length c) ∧ (∀ v u z W,C [v,u,z] W → z = .bool true) ∧ (∀ v u z y W,C [v,u,z,y] W → y = .int .u64 (nextN S.l.length S.gen : Nat)) ∧ (∀ v u z y x W,C [v,u,z,y,x] W → x = .int .u64 (nextN S.l.length S.gen : Nat) ∧ AS w0 W n w4.heap.size pw rp PA RA pc rc qs rqs no b rb V RV S S X.1 X.1)):=by
       subst hC
       exact ⟨fun _ _ h=>by obtain ⟨A6,c6,e6,_⟩:=h; exact ⟨_,_,e6⟩,fun _ _ _ h=>by obtain ⟨_,_,A7,c7,_,e7,_⟩:=h; exact ⟨_,_,e7⟩,fun _ _ _ _ h=>h.2,fun _ _ _ _ _ h=>h.2,fun _ _ _ _ _ _ h=>⟨h.2,h.1.1⟩⟩
      have hne : Nonempty (HeldC C):=⟨⟨[],_,HC0.out⟩⟩
      clear hC hall HRW HRR HCC HA0 HR0 HLEN HGN
      refine wp_region_chain C [3,7,8,12,19] [19,12,10,8,7,3] (by kernel_rfl) (by kernel_rfl) (by kernel_rfl) (by kernel_rfl) HC0.out ?_
      repeat (refine wpCh_n (by rfl) (by rfl) ?_; go_big_quiet_step (fail); refine wpQuiet_nil ?_)
      refine wpCh_l (f:=34) (args:=#[.pointer (some ⟨b,0,none⟩),.slice PA fs.length pc,.int .u64 0]) (by rfl) (by rfl) (fun W=>by simp [go_sem]) (fun W hW=>HK1.out W hW) (fun v W hW=>?_)
      obtain ⟨A6,c6,rfl⟩:=HV.out.1 v W hW
      go_big_quiet_step (fail)
      refine wpQuiet_nil ?_
      repeat (refine wpCh_n (by rfl) (by rfl) ?_; go_big_quiet_step (fail); refine wpQuiet_nil ?_)
      refine wpCh_l (f:=35) (args:=#[.pointer (some ⟨rb,0,none⟩),.slice RA fs.length rc,.int .u64 0]) (by rfl) (by rfl) (fun W=>by simp [go_sem]) (fun W hW=>HK2.out _ W hW) (fun v W hW=>?_)
      obtain ⟨A7,c7,rfl⟩:=HV.out.2.1 _ v W hW
      go_big_quiet_step (fail)
      refine wpQuiet_nil ?_
      repeat (refine wpCh_n (by rfl) (by rfl) ?_; go_big_quiet_step (fail); refine wpQuiet_nil ?_)
      refine wpCh_l (f:=33) (args:=#[.slice A6 X.2.length c6,.slice A7 X.2.length c7]) (by rfl) (by rfl) (fun W=>by simp [go_sem]) (fun W hW=>HK3.out _ _ _ _ _ _ W hW) (fun v W hW=>?_)
      obtain rfl:=HV.out.2.2.1 _ _ v W hW
      go_big_quiet_step (fail)
      refine wpQuiet_nil ?_
      repeat (refine wpCh_n (by rfl) (by rfl) ?_; go_big_quiet_step (fail); refine wpQuiet_nil ?_)
      refine wpCh_l (f:=25) (args:=#[.pointer (some ⟨b,0,none⟩)]) (by rfl) (by rfl) (fun W=>by simp [go_sem]) (fun W hW=>HK4.out _ _ _ W hW) (fun v W hW=>?_)
      obtain rfl:=HV.out.2.2.2.1 _ _ _ v W hW
      go_big_quiet_step (fail)
      refine wpQuiet_nil ?_
      repeat (refine wpCh_n (by rfl) (by rfl) ?_; go_big_quiet_step (fail); refine wpQuiet_nil ?_)
      refine wpCh_l (f:=26) (args:=#[.slice AL xs.length cL,.int .u64 gen]) (by rfl) (by rfl) (fun W=>by simp [go_sem]) (fun W hW=>HK5.out _ _ _ _ W hW) (fun v W hW=>?_)
      obtain rfl:=(HV.out.2.2.2.2 _ _ _ _ v W hW).1
      go_big_quiet_step (fail)
      refine wpQuiet_nil ?_
      repeat (refine wpCh_n (by rfl) (by rfl) ?_; go_big_quiet_step (fail); refine wpQuiet_nil ?_)
      refine wpCh_nil ?_
      intro w9 hcw
      have HP9:=Lib.hid (HV.out.2.2.2.2 _ _ _ _ _ _ hcw).2
      clear k1 k2 k3 k4 hne HK1 HK2 HK3 HK4 HK5 HV HC0 hcw hW
      go_wp2_with fail
      go_meet
      exact ⟨rfl,X.1,HP9.out.ps,HMM.out,HMV.out⟩
     case rest=>
      obtain ⟨rfl,HW⟩:=hcut
      clear HRW HRR HCC HA0 HR0 HLEN HGN
      have q2 : wc.cell? ⟨w4.heap.size,2,none⟩ = some (.slice PA fs.length pc):=by obtain ⟨m,h,_⟩:=HW.out; have:=h.c2; rw [HQL.out] at this; exact this
      go_wp2
      clear q2
      go_loopw [191] (fun i wr=>∃ k : Nat,k ≤ fs.length ∧ i = .int .i64 k ∧ Hid (StW3 w0 wr n w4.heap.size pw rp PA RA pc rc qs rqs no)) (fun i _=>fs.length - (intOf i).toNat)
      case atStart=>exact ⟨0,Nat.zero_le _,rfl,HW⟩
      case round=>
       obtain ⟨k,hk,rfl,HW⟩:=hrel
       obtain ⟨m2,hps,hmo,hmu⟩:=HW.out
       have HBF : Hid (Below w.heap.size w wr):=HB.out _ (by have:=hps.bel; rw [hz0] at this; exact this)
       by_cases hlt : k < fs.length
       ·obtain ⟨q,hq1⟩ : ∃ q,qs[k]? = some q:=⟨qs[k]'(by rw [HQL.out]; exact hlt),List.getElem?_eq_getElem _⟩
        obtain ⟨rq,hq2⟩ : ∃ q,rqs[k]? = some q:=⟨rqs[k]'(by rw [HRL.out]; exact hlt),List.getElem?_eq_getElem _⟩
        obtain ⟨v,hv⟩ : ∃ v,m2.ds[k]? = some v:=⟨m2.ds[k]'(by rw [← hps.many.len,HQL.out]; exact hlt),List.getElem?_eq_getElem _⟩
        obtain ⟨gp,rfl,_,_⟩:=own_at hps.ptr (by rw [HQL.out]; omega)
        obtain ⟨gr,rfl,_,_⟩:=own_at hps.rptr (by rw [HRL.out]; omega)
        have q2 : wr.cell? ⟨w4.heap.size,2,none⟩ = some (.slice (some ⟨gp,0,none⟩) fs.length pc):=by have:=hps.c2; rw [HQL.out] at this; exact this
        have q3 : wr.cell? ⟨w4.heap.size,3,none⟩ = some (.slice (some ⟨gr,0,none⟩) fs.length rc):=by have:=hps.c3; rw [HRL.out] at this; exact this
        have e1:=(World.ownsRow.cellAt hps.ptr k (by rw [HQL.out]; omega)).trans (ptrs_get hq1)
        cases hno : no k
        ·rw [hno] at e1
         simp only [Bool.false_eq_true,if_false] at e1
         obtain ⟨hF,hFl,hO⟩:=hmo k v hv
         have hdu:=hmu k v hv
         have HRA:=Lib.hid (hps.read (key:=0) (at_:=0) (N:=20) hv hq1 (by decide) hFl (by decide) (by decide))
         have HRB : Hid (∀ W mm,PS w0 W n w4.heap.size pw rp (some ⟨gp,0,none⟩) (some ⟨gr,0,none⟩) pc rc qs rqs no mm m2 → W.cell? ⟨gr,k,none⟩ = some (.pointer (some ⟨rq,0,none⟩)) ∧ W.cell? ⟨w4.heap.size,3,none⟩ = some (.slice (some ⟨gr,0,none⟩) fs.length rc) ∧
           Calls Tryz.prog 21 #[.pointer (some ⟨rq,0,none⟩),.int .u64 0,.int .i64 0,.int .i64 20] W fun e w'=>∃ A c ss,e = .returned (.tuple #[.slice A ss.length c,.int .i64 (rdAll gW v.F 0 0 (m2.dc v) 20).2.2]) ∧ ss.map Sl.xs = (rdAll gW v.F 0 0 (m2.dc v) 20).2.1 ∧ SlsB w' W.heap.size A c ss ∧
            PS w0 w' n w4.heap.size pw rp (some ⟨gp,0,none⟩) (some ⟨gr,0,none⟩) pc rc qs rqs no mm (m2.put k v.F (rdAll gW v.F 0 0 (m2.dc v) 20).1) ∧ KeptT RDT (Bd.of n) W w'):=by
          unfold Hid; intro W mm h
          have e2:=(World.ownsRow.cellAt h.rptr k (by rw [HRL.out]; omega)).trans (ptrs_get hq2)
          rw [hno] at e2
          exact ⟨e2,by have:=h.c3; rw [HRL.out] at this; exact this,h.rread (key:=0) (at_:=0) (N:=20) hv hq2 (by decide) hdu hFl (by omega) (by decide) (by decide)⟩
         have HU8 : Hid (∀ l ∈ (rdAll gW v.F 0 0 (m2.dc v) 20).2.1,U8s l):=(rdAll_u8 hdu _).2
         have HLN : Hid ((rdAll gW v.F 0 0 (m2.dc v) 20).2.1.length ≤ 1000):=by
          by_cases h0 : (rdAll gW v.F 0 0 (m2.dc v) 20).2.2 = 0
          ·have:=rdAll_len (g:=gW) (F:=v.F) (key:=0) (a:=0) (d:=m2.dc v) 20 h0
           unfold Hid; omega
          ·exact rdAll_bad 20 h0
         have HMM2 : Hid ((m2.put k v.F (rdAll gW v.F 0 0 (m2.dc v) 20).1).Ok 9000):=hmo.put hv (by rw [(rdAll_r (g:=gW) (F:=v.F) (key:=0) (a:=0) (d:=m2.dc v) 20).2]; exact hO)
         have HMV2 : Hid ((m2.put k v.F (rdAll gW v.F 0 0 (m2.dc v) 20).1).U8):=hmu.put hv (rdAll_u8 hdu _).1
         have HRA' : Hid (Calls Tryz.prog 20 #[.pointer (some ⟨q,0,none⟩),.int .u64 0,.int .i64 0,.int .i64 20] wr fun e w'=>∃ A c ss,e = .returned (.tuple #[.slice A ss.length c,.int .i64 (rdAll gW v.F 0 0 (m2.dc v) 20).2.2]) ∧ ss.map Sl.xs = (rdAll gW v.F 0 0 (m2.dc v) 20).2.1 ∧ SlsB w' wr.heap.size A c ss ∧ PS w0 w' n w4.heap.size pw rp (some ⟨gp,0,none⟩) (some ⟨gr,0,none⟩) pc rc qs rqs no (m2.put k v.F (rdAll gW v.F 0 0 (m2.dc v) 20).1) m2 ∧ KeptT DAT (Bd.of n) wr w'):=HRA.out
         generalize m2.put k v.F (rdAll gW v.F 0 0 (m2.dc v) 20).1 = m3 at *
         generalize rdAll gW v.F 0 0 (m2.dc v) 20 = R at *
         obtain ⟨D3,ls,er3⟩:=R
         simp only at *
         clear hps hmo hmu hno hq1 hq2 hv hF hFl hO hdu HRA HW
         go_wp2_with fail
         refine HRA'.out.mono ?_
         rintro e w10 ⟨A10,c10,s10,rfl,hx10,ho10,hp10,_⟩
         obtain ⟨e2,q3',hcr⟩:=HRB.out _ _ hp10
         have HCR:=Lib.hid hcr
         have HO10:=Lib.hid ho10
         have HX10:=Lib.hid hx10
         clear q2 q3 e1 hp10 ho10 hx10 HRA' hcr
         go_wp2_with fail
         refine HCR.out.mono ?_
         rintro e w11 ⟨A11,c11,s11,rfl,hx11,ho11,hp11,hk11⟩
         have hs10:=(HO10.out.kept hk11 (by unfold RDT; decide) (by unfold RDT; decide)).rd
         have HSM : Hid (Calls Tryz.prog 22 #[.slice A10 s10.length c10,.slice A11 s11.length c11] w11 fun e w'=>e = .returned (.bool true) ∧ Below w11.heap.size w11 w'):=by
          have:=qsame_any s10 s11 A10 A11 c10 c11 w11 hs10 ho11.rd (by have:=congrArg List.length HX10.out; rw [List.length_map] at this; have:=HLN.out; omega) (fun s hs=>HU8.out _ (by rw [← HX10.out]; exact List.mem_map.2 ⟨s,hs,rfl⟩)) (fun s hs=>HU8.out _ (by rw [← hx11]; exact List.mem_map.2 ⟨s,hs,rfl⟩))
          rw [HX10.out,hx11,decide_eq_true rfl] at this
          exact this
         have HP11:=Lib.hid hp11
         clear hx11 ho11 hp11 hk11 hs10 e2 q3' HRB HCR
         go_wp2_with fail
         refine HSM.out.mono ?_
         rintro e w12 ⟨rfl,hb12⟩
         have HD : Hid (StW3 w0 w12 n w4.heap.size pw rp (some ⟨gp,0,none⟩) (some ⟨gr,0,none⟩) pc rc qs rqs no):=⟨m3,HP11.out.below hb12,HMM2.out,HMV2.out⟩
         clear hb12
         go_wp2
         go_roundw
         case rel=>exact ⟨k + 1,hlt,by go_num,HD⟩
         case measure=>simp [intOf]; omega
        ·rw [hno] at e1
         simp only [if_true] at e1
         clear hps hmo hmu hno hq1 hq2 hv
         go_wp2
         go_roundw
         case rel=>exact ⟨k + 1,hlt,by go_num,HW⟩
         case measure=>simp [intOf]; omega
       ·obtain rfl : k = fs.length:=by omega
        clear hps hmo hmu
        go_wp2
        go_ret
        exact ⟨rfl,HBF.out⟩
set_option maxRecDepth 100000 in
theorem walAppend_lifted (os : Os) (started : os.Started) (H : Type) (enc : TypeId × Value → H) :
  ReturnsInHanded {} Tryz.checked os 6 .any (Rows.walAppendSpec.pre6 enc Tryz.prog Tryz.f6 Rows.walAppendRow.domain false) (Rows.walAppendSpec.post enc Tryz.prog Tryz.f6 false true false false):=by
 refine returnsInHanded_of_change (C:=Tryz.checked) own started (by kernel_rfl) Tryz.func6
  (ChangeSpec.witness6 (enc:=enc) (C:=Tryz.checked) false ⟨#[],#[.agg #[.slice none 0 0,.int .u64 0,.int .i64 0,.slice none 0 0,.int .u8 0]],[]⟩ 8 (by kernel_rfl) (by kernel_rfl) (by kernel_rfl) (by kernel_rfl)) ?_
 intro W base args ds gs before hval0 hW hcnd _
 have hval : ∀ (j : Nat) t v,Tryz.f6.params[j]? = some t → args[j]? = some v → Value.okWide Tryz.prog W .any base t v:=hval0
 have hW':=hW
 obtain ⟨p,q,hA0,hV,rfl,hfz,hnd⟩:=hW
 have hA : DataW.TrodAll enc Tryz.prog W 0 (fun _=>true) true Tryz.f6.params.toList args.toList ds p:=hA0
 rw [Tryz.params6] at hA hval
 obtain ⟨v0,vs0,d0,ds0,p0,q0,hargs,rfl,rfl,h0,r0⟩:=trodAll_cons hA
 obtain ⟨rfl,rfl,rfl⟩:=trodAll_nil r0
 obtain rfl : args = #[v0]:=by cases args; simp_all
 obtain ⟨rfl,rfl⟩:=trodVars_none hV
 have k0:=h0
 have lt0 : ∀ x ∈ p0,x.block < W.heap.size:=by obtain ⟨m,hm⟩:=k0; exact DataW.trod_lt m _ _ _ hm
 obtain ⟨fA,fs,fc,gn,sz,A,l,c,nl,hv0,hgn,hfs,hls⟩:=open_work (hval 0 _ _ rfl rfl) h0
 subst hv0
 clear hA0 hval0
 refine (walAppend_walk fs fA fc gn hgn sz l A c nl W hfs hls).mono fun e W' ⟨he,bel⟩=>?_
 subst he
 exact ⟨_,rfl,_,_,_,[],_,[],hW',trodAll_mk1 (shut_bool Tryz.underlying4 _),(trodAll_cons_mk (Below.trod laidOut (by kernel_rfl) (of_decide_eq_true (by kernel_rfl)) k0 bel lt0) trodAll_mk0),rfl,bel.frame _,fun h=>by cases h⟩
theorem walAppend_holds : Rows.WalAppendSaid:=
 OpenClaim.holds_of_wide 6 Tryz.f6 rfl rfl rfl rfl rfl rfl rfl ⟨rfl,rfl,rfl,rfl,rfl⟩ rfl rfl rfl rfl rfl (by kernel_rfl) Tryz.func6 (by kernel_rfl)
  (of_decide_eq_true (by kernel_rfl)) (by unfold Func.isWrapper; first | (rw [if_pos (by decide +kernel)]; kernel_rfl) | (rw [if_neg (by decide +kernel)]; exact ⟨rfl,rfl⟩))
  (fun os started H enc _=>walAppend_lifted os started H enc)
#print axioms walAppend_holds
end Go.Proofs.YtaggiceejcegdaaGreat
