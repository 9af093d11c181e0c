/-
  WHAT IS SHOWN: Write, Read and Flush of wal return what tegularef49 says, for disks with any faults (WalOperations). Conditions: none.
-/
import Derived.Test.YtaggiceejcegdaaGreatNc35
import Derived.BigQuiet
import Derived.ChangeKeysEq
import Derived.ChangeOld
import Derived.Deep.AppendLies
import Derived.Deep.DeepCutAuto
import Derived.Deep.Draws
import Derived.Deep.Fields
import Derived.Deep.QuietTactic
import Derived.Deep.RegionHeld3
import Derived.Deep.RegionLaw
import Derived.Deep.Slices
import Derived.Handy
import Derived.Laws.BytesArg
import Derived.Laws.Cover3
import Derived.Laws.MakeOwn
import Derived.Laws.OwnMore
import Derived.Laws.Rows
import Derived.Lib.ConvBytes
import Derived.Lib.Hide
import Derived.Lib.SmallJoins
import Derived.Lib.VarintBits
import Derived.Lib.Zigzag
import Derived.LoopIn
import Derived.LoopNIn
import Derived.Maps.AppendAt
import Derived.OpenShut
import Derived.OwnWalkIn
import Derived.ProofKit
import Derived.RangeFuncBox
import Derived.RangeFuncLeaves
import Derived.Shelf.Abstract
import Derived.Sort.QuietIn
import Derived.TacticsInMore
import Derived.WalkKit
import Derived.WalkLawsBesides
import Derived.WalkMore
import Derived.WalkSpells
import Derived.Test.YtaggiceejcegdaaGreatOd00
import Derived.Test.YtaggiceejcegdaaGreatOd01
import Derived.Test.YtaggiceejcegdaaGreatOd02
import Derived.Test.YtaggiceejcegdaaGreatOd03
import Derived.Test.YtaggiceejcegdaaGreatOd04
import Derived.Test.YtaggiceejcegdaaGreatOd05
import Derived.Test.YtaggiceejcegdaaGreatOd06
import Derived.Test.YtaggiceejcegdaaGreatOd07
import Derived.Test.YtaggiceejcegdaaGreatRows
namespace Go.Proofs.YtaggiceejcegdaaGreat
set_option linter.unusedVariables false
open Go.ChangeShapes Go.WideShapes Go.ChangeAt Go.RowKit
abbrev PSo (w W : World) (n pb pw rp : Nat) (PA RA : Option Addr) (pc rc q rq : Nat) (F : List Flt) (d dr : DC) : Prop:=PS w W n pb pw rp PA RA pc rc [q] [rq] no0 (oneD F d) (oneD F dr)
theorem PSo.cells {w W : World} {n pb pw rp : Nat} {gp gr pc rc q rq : Nat} {F : List Flt} {d dr : DC} (h : PSo w W n pb pw rp (some ⟨gp,0,none⟩) (some ⟨gr,0,none⟩) pc rc q rq F d dr) :
  W.cell? ⟨pb,2,none⟩ = some (.slice (some ⟨gp,0,none⟩) 1 pc) ∧ W.cell? ⟨pb,3,none⟩ = some (.slice (some ⟨gr,0,none⟩) 1 rc) ∧ W.cell? ⟨gp,0,none⟩ = some (.pointer (some ⟨q,0,none⟩)) ∧ W.cell? ⟨gr,0,none⟩ = some (.pointer (some ⟨rq,0,none⟩)):=
 ⟨h.c2,h.c3,(World.ownsRow.cellAt h.ptr 0 (by simp)).trans rfl,(World.ownsRow.cellAt h.rptr 0 (by simp)).trans rfl⟩
def OpC (p0 p1 p2 p3 p4 : World → Prop) (e1 e2 : Int) : List Value → World → Prop
 | [],w=>p0 w
 | [v],w=>v = .int .i64 e1 ∧ p1 w
 | [_,v],w=>v = .int .i64 e1 ∧ p2 w
 | [_,_,v],w=>v = .int .i64 e2 ∧ p3 w
 | [_,_,_,v],w=>v = .int .i64 e2 ∧ p4 w
 | _,_=>False
set_option maxRecDepth 100000 in
set_option maxHeartbeats 16000000 in
theorem walOperations_walk (x : FL) (A : Option Addr) (ss : List Sl) (c : Nat) (a N : Int) (w : World) (hf : FlsIn w x.A x.F) (hs : SecsIn w (.slice A ss.length c) A ss c) :
  Calls Tryz.prog 4 #[.slice x.A x.F.length x.c,.slice A ss.length c,.int .i64 a,.int .i64 N] w fun e w'=>e = .returned (.bool true) ∧ Below w.heap.size w w':=by
 have HF:=Lib.hid hf
 have HSR:=Lib.hid hs.rd
 have HSO:=Lib.hid hs.ok
 clear hf hs
 go_enter Tryz.func4,Tryz.ntmps4
 go_wp2_with fail
 refine (awake49_any _).mono ?_
 rintro e w1 ⟨rfl,hb1⟩
 have hrx1:=HF.out.rd.below hb1 (Nat.le_refl _) |>.more hb1.size
 have HW:=Lib.hid (wrong_any [x] (some ⟨w1.heap.size,0,none⟩) 1 _ (fl_one x w1 hrx1) (by simp) (fun y hy=>by simp at hy; subst hy; exact HF.out.n))
 have HB1 : Hid (Below w.heap.size w (w1.alloc (.cells #[.slice x.A x.F.length x.c] 48))):=hb1.alloc hb1.size _
 clear hb1 hrx1
 go_wp2_with fail
 refine HW.out.mono ?_
 rintro e w2 ⟨rfl,hb2⟩
 have HB2:=Lib.hid (HB1.out.trans (hb2.mono HB1.out.size))
 clear hb2 HB1
 obtain hw | hw : wrongL ([x].map FL.F) = true ∨ wrongL ([x].map FL.F) = false:=by cases wrongL ([x].map FL.F); exact .inr rfl; exact .inl rfl
 ·rw [hw]
  clear hw HW
  go_wp2
  go_ret
  exact ⟨rfl,HB2.out⟩
 rw [hw]
 have HWR:=Lib.hid ((wrong_no hw).2 x.F (by simp))
 clear hw HW
 by_cases h1 : (20 : Int) < (ss.length : Int)
 ·have d1 : decide ((20 : Int) < (ss.length : Int)) = true:=decide_eq_true h1
  clear h1
  go_wp2
  go_ret
  exact ⟨rfl,HB2.out⟩
 have d1 : decide ((20 : Int) < (ss.length : Int)) = false:=decide_eq_false h1
 by_cases h2 : a < -5
 ·have d2 : decide (a < -5) = true:=decide_eq_true h2
  clear h1 h2
  go_wp2
  go_ret
  exact ⟨rfl,HB2.out⟩
 have d2 : decide (a < -5) = false:=decide_eq_false h2
 by_cases h3 : 30 < a
 ·have d3 : decide (30 < a) = true:=decide_eq_true h3
  clear h1 h2 h3
  go_wp2
  go_ret
  exact ⟨rfl,HB2.out⟩
 have d3 : decide (30 < a) = false:=decide_eq_false h3
 by_cases h4 : 30 < N
 ·have d4 : decide (30 < N) = true:=decide_eq_true h4
  clear h1 h2 h3 h4
  go_wp2
  go_ret
  exact ⟨rfl,HB2.out⟩
 have d4 : decide (30 < N) = false:=decide_eq_false h4
 have HA : Hid (ss.length ≤ 20 ∧ -5 ≤ a ∧ a ≤ 30 ∧ N ≤ 30):=⟨by omega,by omega,by omega,by omega⟩
 have hl20 : ss.length ≤ 20:=by omega
 clear h1 h2 h3 h4
 go_wp2
 go_loopw [40] (fun i wr=>∃ k : Nat,k ≤ ss.length ∧ i = .int .i64 k ∧ Hid (Below w.heap.size w wr ∧ ∀ j (hj : j < ss.length),j < k → ss[j].xs.length ≤ 100)) (fun i _=>ss.length - (intOf i).toNat)
 case atStart=>exact ⟨0,Nat.zero_le _,rfl,HB2.out,fun j hj h=>by omega⟩
 case round=>
  obtain ⟨k,hk,rfl,HR⟩:=hrel
  by_cases hlt : k < ss.length
  ·have hge : (ss.map Sl.v)[k]? = some ss[k].v:=by simp [hlt]
   obtain ⟨g1,o1,rA,hg1,j1⟩:=(HSR.out.rd.below HR.out.1 (Nat.le_refl _)) k _ hge
   subst rA
   unfold Sl.v at j1
   by_cases h5 : (100 : Int) < (ss[k].xs.length : Int)
   ·have d5 : decide ((100 : Int) < (ss[k].xs.length : Int)) = true:=decide_eq_true h5
    clear h5 hge
    go_wp2
    go_ret
    exact ⟨rfl,HR.out.1⟩
   ·have d5 : decide ((100 : Int) < (ss[k].xs.length : Int)) = false:=decide_eq_false h5
    have HN : Hid (Below w.heap.size w wr ∧ ∀ j (hj : j < ss.length),j < k + 1 → ss[j].xs.length ≤ 100):=⟨HR.out.1,fun j hj h=>by
     by_cases e : j = k
     ·subst e; omega
     ·exact HR.out.2 j hj (by omega)⟩
    clear h5 hge HR
    go_wp2
    go_roundw
    case rel=>exact ⟨k + 1,hlt,by go_num,HN⟩
    case measure=>simp [intOf]; omega
  ·obtain rfl : k = ss.length:=by omega
   have HX : Hid (∀ s ∈ ss,s.xs.length ≤ 100):=fun s hs=>by
    obtain ⟨i,hi,rfl⟩:=List.mem_iff_getElem.1 hs
    exact HR.out.2 i hi hi
   have hbr:=HR.out.1
   have HT:=Lib.hid (twinsF x wr (HF.out.rd.below hbr (Nat.le_refl _) |>.more hbr.size) HWR.out)
   have HB4 : Hid (Below w.heap.size w (wr.alloc (.cells #[.slice x.A x.F.length x.c] 48))):=hbr.alloc hbr.size _
   clear hbr HR
   go_wp2_with fail
   refine HT.out.mono ?_
   rintro e w4 ⟨pw,rp,PA,pc,RA,rc,qs,rqs,rfl,hP,hR,hm,hmr,hb4⟩
   have hql : qs.length = 1:=hm.len
   have hrl : rqs.length = 1:=hmr.len
   obtain ⟨q,rfl⟩:=List.length_eq_one_iff.1 hql
   obtain ⟨rq,rfl⟩:=List.length_eq_one_iff.1 hrl
   have hps:=PS.start HB4.out hql hrl hP hR hm hmr hb4
   simp only [List.length_cons,List.length_nil,Nat.zero_add] at hps ⊢
   obtain ⟨gp,rfl,_,_⟩:=own_at hP (by simp)
   obtain ⟨gr,rfl,_,_⟩:=own_at hR (by simp)
   rw [newMS_one] at hps
   have HPS:=Lib.hid hps
   clear hP hR hm hmr hb4 HT hql hrl hps
   generalize (wr.alloc (.cells #[.slice x.A x.F.length x.c] 48)).heap.size = n at *
   go_upto_region 14 with (fail)
   generalize hw5 : w4.alloc (.cells #[.pointer (some ⟨pw,0,none⟩),.pointer (some ⟨rp,0,none⟩),.slice (some ⟨gp,0,none⟩) 1 pc,.slice (some ⟨gr,0,none⟩) 1 rc] 36) = w5 at *
   clear hw5
   have hb5 : Below w5.heap.size w5 w5.drew:=(Below.refl _ _).drew
   have HPD:=Lib.hid (HPS.out.below hb5)
   obtain ⟨q2,q3,e0,r0⟩:=PSo.cells HPS.out
   have hxs : ∀ s ∈ ss,s.xs.length ≤ 100000 ∧ s.xs.length ≤ s.c:=fun s hs=>⟨by have:=HX.out s hs; omega,(HSO.out s hs).2.1⟩
   have HXS:=Lib.hid hxs
   have HWA:=Lib.hid (HPD.out.write (key:=0) (at_:=a) (c:=c) (i:=0) (v:=⟨x.F,d0W.s,d0W.L,d0W.O⟩) (q:=q) rfl rfl HF.out.to_ HF.out.n (by show 0 + 9 * ss.length ≤ _; omega) (by have:=HA.out.2.1; omega) (by have:=HA.out.2.2.1; omega) HSR.out HXS.out (by omega))
   have HWB : Hid (∀ W d,PSo w W n w4.heap.size pw rp (some ⟨gp,0,none⟩) (some ⟨gr,0,none⟩) pc rc q rq x.F d d0W → Calls Tryz.prog 17 #[.pointer (some ⟨rq,0,none⟩),.int .u64 0,.int .i64 a,.slice A ss.length c] W fun e w'=>e = .returned (.int .i64 (wrD gW x.F 0 a (ss.map Sl.xs) d0W).2) ∧ PSo w w' n w4.heap.size pw rp (some ⟨gp,0,none⟩) (some ⟨gr,0,none⟩) pc rc q rq x.F d (wrD gW x.F 0 a (ss.map Sl.xs) d0W).1):=by
    unfold Hid; intro W d hW
    refine (hW.rwrite (key:=0) (at_:=a) (c:=c) (i:=0) (v:=⟨x.F,d0W.s,d0W.L,d0W.O⟩) (q:=rq) rfl rfl HF.out.to_ HF.out.n (by show 0 + 9 * ss.length ≤ _; omega) (by have:=HA.out.2.1; omega) (by have:=HA.out.2.2.1; omega) HSR.out HXS.out (by omega)).mono ?_
    rintro e w' ⟨he,hp,_⟩
    exact ⟨he,hp⟩
   have HWA' : Hid (Calls Tryz.prog 16 #[.pointer (some ⟨q,0,none⟩),.int .u64 0,.int .i64 a,.slice A ss.length c] w5.drew fun e w'=>e = .returned (.int .i64 (wrD gW x.F 0 a (ss.map Sl.xs) d0W).2) ∧ PSo w w' n w4.heap.size pw rp (some ⟨gp,0,none⟩) (some ⟨gr,0,none⟩) pc rc q rq x.F (wrD gW x.F 0 a (ss.map Sl.xs) d0W).1 d0W):=
    HWA.out.mono (fun e w' h=>⟨h.1,h.2.1⟩)
   have hol : (wrD gW x.F 0 a (ss.map Sl.xs) d0W).1.O.length ≤ 180:=by
    have:=wrD_len gW x.F 0 a (ss.map Sl.xs) d0W
    rw [List.length_map] at this
    have e : d0W.O.length = 0:=rfl
    omega
   have HU : Hid ((wrD gW x.F 0 a (ss.map Sl.xs) d0W).1.U8):=wrAll_u8 (fun l hl=>by obtain ⟨s,hs,rfl⟩:=List.mem_map.1 hl; exact (HSO.out s hs).1) d0W_u8 _
   clear HWA hxs HPS hb5
   generalize wrD gW x.F 0 a (ss.map Sl.xs) d0W = T at *
   obtain ⟨D1,er1⟩:=T
   simp only at *
   have HFA : Hid (∀ W,PSo w W n w4.heap.size pw rp (some ⟨gp,0,none⟩) (some ⟨gr,0,none⟩) pc rc q rq x.F D1 D1 → Calls Tryz.prog 18 #[.pointer (some ⟨q,0,none⟩),.int .u64 0] W fun e w'=>e = .returned (.int .i64 (tryD (fOne gW x.F 0) D1).2.er) ∧ PSo w w' n w4.heap.size pw rp (some ⟨gp,0,none⟩) (some ⟨gr,0,none⟩) pc rc q rq x.F (tryD (fOne gW x.F 0) D1).1 D1):=by
    unfold Hid; intro W hW
    refine (hW.flush (key:=0) (i:=0) (v:=⟨x.F,D1.s,D1.L,D1.O⟩) (q:=q) rfl rfl HF.out.n (by show D1.O.length + 9 ≤ _; omega)).mono ?_
    rintro e w' ⟨he,hp,_⟩
    exact ⟨he,hp⟩
   have HFB : Hid (∀ W d,PSo w W n w4.heap.size pw rp (some ⟨gp,0,none⟩) (some ⟨gr,0,none⟩) pc rc q rq x.F d D1 → Calls Tryz.prog 19 #[.pointer (some ⟨rq,0,none⟩),.int .u64 0] W fun e w'=>e = .returned (.int .i64 (tryD (fOne gW x.F 0) D1).2.er) ∧ PSo w w' n w4.heap.size pw rp (some ⟨gp,0,none⟩) (some ⟨gr,0,none⟩) pc rc q rq x.F d (tryD (fOne gW x.F 0) D1).1):=by
    unfold Hid; intro W d hW
    refine (hW.rflush (key:=0) (i:=0) (v:=⟨x.F,D1.s,D1.L,D1.O⟩) (q:=rq) rfl rfl HF.out.n (by show D1.O.length + 9 ≤ _; omega)).mono ?_
    rintro e w' ⟨he,hp,_⟩
    exact ⟨he,hp⟩
   have hol2 : (tryD (fOne gW x.F 0) D1).1.O.length ≤ 189:=by have:=tryD_len (fOne_len gW x.F 0) D1; omega
   have HU2 : Hid ((tryD (fOne gW x.F 0) D1).1.U8):=tryD_u8 (fun d hd=>fOne_u8 hd) HU.out
   generalize tryD (fOne gW x.F 0) D1 = T2 at *
   obtain ⟨D2,⟨er2,by2⟩⟩:=T2
   simp only at *
   have HC0 : Hid (OpC (fun W=>PSo w W n w4.heap.size pw rp (some ⟨gp,0,none⟩) (some ⟨gr,0,none⟩) pc rc q rq x.F d0W d0W ∧ W = w5.drew) (fun W=>PSo w W n w4.heap.size pw rp (some ⟨gp,0,none⟩) (some ⟨gr,0,none⟩) pc rc q rq x.F D1 d0W) (fun W=>PSo w W n w4.heap.size pw rp (some ⟨gp,0,none⟩) (some ⟨gr,0,none⟩) pc rc q rq x.F D1 D1)
     (fun W=>PSo w W n w4.heap.size pw rp (some ⟨gp,0,none⟩) (some ⟨gr,0,none⟩) pc rc q rq x.F D2 D1) (fun W=>PSo w W n w4.heap.size pw rp (some ⟨gp,0,none⟩) (some ⟨gr,0,none⟩) pc rc q rq x.F D2 D2) er1 er2 [] w5.drew):=⟨HPD.out,rfl⟩
   generalize hC : OpC (fun W=>PSo w W n w4.heap.size pw rp (some ⟨gp,0,none⟩) (some ⟨gr,0,none⟩) pc rc q rq x.F d0W d0W ∧ W = w5.drew) (fun W=>PSo w W n w4.heap.size pw rp (some ⟨gp,0,none⟩) (some ⟨gr,0,none⟩) pc rc q rq x.F D1 d0W) (fun W=>PSo w W n w4.heap.size pw rp (some ⟨gp,0,none⟩) (some ⟨gr,0,none⟩) pc rc q rq x.F D1 D1)
     (fun W=>PSo w W n w4.heap.size pw rp (some ⟨gp,0,none⟩) (some ⟨gr,0,none⟩) pc rc q rq x.F D2 D1) (fun W=>PSo w W n w4.heap.size pw rp (some ⟨gp,0,none⟩) (some ⟨gr,0,none⟩) pc rc q rq x.F D2 D2) er1 er2 = C at HC0
   have hall : ∀ h W,C h W → ∃ d dr,PSo w W n w4.heap.size pw rp (some ⟨gp,0,none⟩) (some ⟨gr,0,none⟩) pc rc q rq x.F d dr:=by
    subst hC
    intro h W hW
    match h,hW with
    | [],hW=>exact ⟨_,_,hW.1⟩
    | [_],hW=>exact ⟨_,_,hW.2⟩
    | [_,_],hW=>exact ⟨_,_,hW.2⟩
    | [_,_,_],hW=>exact ⟨_,_,hW.2⟩
    | [_,_,_,_],hW=>exact ⟨_,_,hW.2⟩
   have k2 : ∀ t : HeldC C,t.w.cell? ⟨w4.heap.size,2,none⟩ = some (.slice (some ⟨gp,0,none⟩) 1 pc):=fun t=>by obtain ⟨_,_,h⟩:=hall _ _ t.h; exact (PSo.cells h).1
   have k3 : ∀ t : HeldC C,t.w.cell? ⟨w4.heap.size,3,none⟩ = some (.slice (some ⟨gr,0,none⟩) 1 rc):=fun t=>by obtain ⟨_,_,h⟩:=hall _ _ t.h; exact (PSo.cells h).2.1
   have k4 : ∀ t : HeldC C,t.w.cell? ⟨gp,0,none⟩ = some (.pointer (some ⟨q,0,none⟩)):=fun t=>by obtain ⟨_,_,h⟩:=hall _ _ t.h; exact (PSo.cells h).2.2.1
   have k5 : ∀ t : HeldC C,t.w.cell? ⟨gr,0,none⟩ = some (.pointer (some ⟨rq,0,none⟩)):=fun t=>by obtain ⟨_,_,h⟩:=hall _ _ t.h; exact (PSo.cells h).2.2.2
   have HK1 : Hid (∀ W,C [] W → Calls Tryz.prog 16 #[.pointer (some ⟨q,0,none⟩),.int .u64 0,.int .i64 a,.slice A ss.length c] W fun e w'=>∃ v,e = .returned v ∧ C ([] ++ [v]) w'):=by
    subst hC
    unfold Hid; intro W hW
    obtain ⟨_,rfl⟩:=hW
    exact HWA'.out.mono (fun e w' h=>⟨_,h.1,rfl,h.2⟩)
   have HK2 : Hid (∀ v W,C [v] W → Calls Tryz.prog 17 #[.pointer (some ⟨rq,0,none⟩),.int .u64 0,.int .i64 a,.slice A ss.length c] W fun e w'=>∃ u,e = .returned u ∧ C ([v] ++ [u]) w'):=by
    subst hC
    unfold Hid; intro v W hW
    exact (HWB.out W _ hW.2).mono (fun e w' h=>⟨_,h.1,rfl,h.2⟩)
   have HK3 : Hid (∀ v u W,C [v,u] W → Calls Tryz.prog 18 #[.pointer (some ⟨q,0,none⟩),.int .u64 0] W fun e w'=>∃ x,e = .returned x ∧ C ([v,u] ++ [x]) w'):=by
    subst hC
    unfold Hid; intro v u W hW
    exact (HFA.out W hW.2).mono (fun e w' h=>⟨_,h.1,rfl,h.2⟩)
   have HK4 : Hid (∀ v u z W,C [v,u,z] W → Calls Tryz.prog 19 #[.pointer (some ⟨rq,0,none⟩),.int .u64 0] W fun e w'=>∃ x,e = .returned x ∧ C ([v,u,z] ++ [x]) w'):=by
    subst hC
    unfold Hid; intro v u z W hW
    exact (HFB.out W _ hW.2).mono (fun e w' h=>⟨_,h.1,rfl,h.2⟩)
   have HV : Hid ((∀ v W,C [v] W → v = .int .i64 er1) ∧ (∀ v u W,C [v,u] W → u = .int .i64 er1) ∧ (∀ v u z W,C [v,u,z] W → z = .int .i64 er2) ∧ (∀ v u z y W,C [v,u,z,y] W → y = .int .i64 er2 ∧ PSo w W n w4.heap.size pw rp (some ⟨gp,0,none⟩) (some ⟨gr,0,none⟩) pc rc q rq x.F D2 D2)):=by
    subst hC
    exact ⟨fun _ _ h=>h.1,fun _ _ _ h=>h.1,fun _ _ _ _ h=>h.1,fun _ _ _ _ _ h=>h⟩
   have hne : Nonempty (HeldC C):=⟨⟨[],_,HC0.out⟩⟩
   clear hC hall HWA' HWB HFA HFB q2 q3 e0 r0
   refine wp_region_chain C [6,13,20,25] [25,20,15,13,6] (by kernel_rfl) (by kernel_rfl) (by kernel_rfl) (by kernel_rfl) HC0.out ?_
   repeat (refine wpCh_n (by rfl) (by rfl) ?_; go_big_quiet_step (fail); refine wpQuiet_nil ?_)
   refine wpCh_l (f:=16) (args:=#[.pointer (some ⟨q,0,none⟩),.int .u64 0,.int .i64 a,.slice A ss.length c]) (by rfl) (by rfl) (fun W=>by simp [go_sem]) (fun W hW=>HK1.out W hW) (fun v W hW=>?_)
   obtain rfl:=HV.out.1 v W hW
   go_big_quiet_step (fail)
   refine wpQuiet_nil ?_
   repeat (refine wpCh_n (by rfl) (by rfl) ?_; go_big_quiet_step (fail); refine wpQuiet_nil ?_)
   refine wpCh_l (f:=17) (args:=#[.pointer (some ⟨rq,0,none⟩),.int .u64 0,.int .i64 a,.slice A ss.length c]) (by rfl) (by rfl) (fun W=>by simp [go_sem]) (fun W hW=>HK2.out _ W hW) (fun v W hW=>?_)
   obtain rfl:=HV.out.2.1 _ v W hW
   go_big_quiet_step (fail)
   refine wpQuiet_nil ?_
   repeat (refine wpCh_n (by rfl) (by rfl) ?_; go_big_quiet_step (fail); refine wpQuiet_nil ?_)
   refine wpCh_l (f:=18) (args:=#[.pointer (some ⟨q,0,none⟩),.int .u64 0]) (by rfl) (by rfl) (fun W=>by simp [go_sem]) (fun W hW=>HK3.out _ _ W hW) (fun v W hW=>?_)
   obtain rfl:=HV.out.2.2.1 _ _ v W hW
   go_big_quiet_step (fail)
   refine wpQuiet_nil ?_
   repeat (refine wpCh_n (by rfl) (by rfl) ?_; go_big_quiet_step (fail); refine wpQuiet_nil ?_)
   refine wpCh_l (f:=19) (args:=#[.pointer (some ⟨rq,0,none⟩),.int .u64 0]) (by rfl) (by rfl) (fun W=>by simp [go_sem]) (fun W hW=>HK4.out _ _ _ W hW) (fun v W hW=>?_)
   obtain rfl:=(HV.out.2.2.2 _ _ _ v W hW).1
   go_big_quiet_step (fail)
   refine wpQuiet_nil ?_
   repeat (refine wpCh_n (by rfl) (by rfl) ?_; go_big_quiet_step (fail); refine wpQuiet_nil ?_)
   refine wpCh_nil ?_
   intro wc hcw
   have HPC:=Lib.hid (HV.out.2.2.2 _ _ _ _ wc hcw).2
   clear k2 k3 k4 k5 hne HK1 HK2 HK3 HK4 HV HC0 hcw hW
   obtain ⟨q2',q3',e0',r0'⟩:=PSo.cells HPC.out
   have HRA:=Lib.hid (HPC.out.read (key:=0) (at_:=a) (N:=N) (i:=0) (v:=⟨x.F,D2.s,D2.L,D2.O⟩) (q:=q) rfl rfl (by have:=HA.out.2.2.2; omega) HF.out.n (by have:=HA.out.2.1; omega) (by have:=HA.out.2.2.1; omega))
   have HU8 : Hid (∀ l ∈ (rdAll gW x.F 0 a D2 N.toNat).2.1,U8s l):=(rdAll_u8 HU2.out _).2
   have HRL : Hid ((rdAll gW x.F 0 a D2 N.toNat).2.1.length ≤ 1000):=by
    by_cases h0 : (rdAll gW x.F 0 a D2 N.toNat).2.2 = 0
    ·have:=rdAll_len (g:=gW) (F:=x.F) (key:=0) (a:=a) (d:=D2) N.toNat h0
     unfold Hid; have:=HA.out.2.2.2; omega
    ·exact rdAll_bad N.toNat h0
   have HRB : Hid (∀ W d,PSo w W n w4.heap.size pw rp (some ⟨gp,0,none⟩) (some ⟨gr,0,none⟩) pc rc q rq x.F d D2 → Calls Tryz.prog 21 #[.pointer (some ⟨rq,0,none⟩),.int .u64 0,.int .i64 a,.int .i64 N] W fun e w'=>∃ A c ss,e = .returned (.tuple #[.slice A ss.length c,.int .i64 (rdAll gW x.F 0 a D2 N.toNat).2.2]) ∧ ss.map Sl.xs = (rdAll gW x.F 0 a D2 N.toNat).2.1 ∧ SlsB w' W.heap.size A c ss ∧
     PSo w w' n w4.heap.size pw rp (some ⟨gp,0,none⟩) (some ⟨gr,0,none⟩) pc rc q rq x.F d (rdAll gW x.F 0 a D2 N.toNat).1 ∧ KeptT RDT (Bd.of n) W w'):=by
    unfold Hid; intro W d hW
    exact hW.rread (key:=0) (at_:=a) (N:=N) (i:=0) (v:=⟨x.F,D2.s,D2.L,D2.O⟩) (q:=rq) rfl rfl (by have:=HA.out.2.2.2; omega) HU2.out HF.out.n (by show D2.O.length ≤ _; omega) (by have:=HA.out.2.1; omega) (by have:=HA.out.2.2.1; omega)
   have HRA' : Hid (Calls Tryz.prog 20 #[.pointer (some ⟨q,0,none⟩),.int .u64 0,.int .i64 a,.int .i64 N] wc fun e w'=>∃ A c ss,e = .returned (.tuple #[.slice A ss.length c,.int .i64 (rdAll gW x.F 0 a D2 N.toNat).2.2]) ∧ ss.map Sl.xs = (rdAll gW x.F 0 a D2 N.toNat).2.1 ∧ SlsB w' wc.heap.size A c ss ∧ PSo w w' n w4.heap.size pw rp (some ⟨gp,0,none⟩) (some ⟨gr,0,none⟩) pc rc q rq x.F (rdAll gW x.F 0 a D2 N.toNat).1 D2 ∧ KeptT DAT (Bd.of n) wc w'):=HRA.out
   clear HRA
   generalize rdAll gW x.F 0 a D2 N.toNat = R at *
   obtain ⟨D3,ls,er3⟩:=R
   simp only at *
   go_wp2_with fail
   refine HRA'.out.mono ?_
   rintro e w10 ⟨A10,c10,s10,rfl,hx10,ho10,hp10,_⟩
   have HP10:=Lib.hid hp10
   have HO10:=Lib.hid ho10
   have HX10:=Lib.hid hx10
   clear q2' q3' e0' r0'
   obtain ⟨q2,q3,e0,r0⟩:=PSo.cells hp10
   clear hp10 ho10 hx10 HRA'
   go_wp2_with fail
   refine (HRB.out _ _ HP10.out).mono ?_
   rintro e w11 ⟨A11,c11,s11,rfl,hx11,ho11,hp11,hk11⟩
   have hs10:=(HO10.out.kept hk11 (by unfold RDT; decide) (by unfold RDT; decide)).rd
   have HSM : Hid (Calls Tryz.prog 22 #[.slice A10 s10.length c10,.slice A11 s11.length c11] w11 fun e w'=>e = .returned (.bool true) ∧ Below w11.heap.size w11 w'):=by
    have:=qsame_any s10 s11 A10 A11 c10 c11 w11 hs10 ho11.rd (by have:=congrArg List.length HX10.out; rw [List.length_map] at this; have:=HRL.out; omega) (fun s hs=>HU8.out _ (by rw [← HX10.out]; exact List.mem_map.2 ⟨s,hs,rfl⟩)) (fun s hs=>HU8.out _ (by rw [← hx11]; exact List.mem_map.2 ⟨s,hs,rfl⟩))
    rw [HX10.out,hx11,decide_eq_true rfl] at this
    exact this
   have HBF:=Lib.hid hp11.bel
   clear hx11 ho11 hp11 hk11 hs10 q2 q3 e0 r0
   go_wp2_with fail
   refine HSM.out.mono ?_
   rintro e w12 ⟨rfl,hb12⟩
   go_wp2
   go_ret
   exact ⟨rfl,HBF.out.trans (hb12.mono HBF.out.size)⟩
set_option maxRecDepth 100000 in
theorem walOperations_lifted (os : Os) (started : os.Started) (H : Type) (enc : TypeId × Value → H) :
  ReturnsInHanded {} Tryz.checked os 4 .any (Rows.walOperationsSpec.pre6 enc Tryz.prog Tryz.f4 Rows.walOperationsRow.domain false) (Rows.walOperationsSpec.post enc Tryz.prog Tryz.f4 false true false false):=by
 refine returnsInHanded_of_change (C:=Tryz.checked) own started (by kernel_rfl) Tryz.func4
  (ChangeSpec.witness6 (enc:=enc) (C:=Tryz.checked) false ⟨#[],#[.slice none 0 0,.slice none 0 0,.int .i64 0,.int .i64 0],[]⟩ 8 (by kernel_rfl) (by kernel_rfl) (by kernel_rfl) (by kernel_rfl)) ?_
 intro W base args ds gs before hval0 hW hcnd _
 have hval : ∀ (j : Nat) t v,Tryz.f4.params[j]? = some t → args[j]? = some v → Value.okWide Tryz.prog W .any base t v:=hval0
 have hW':=hW
 obtain ⟨p,q,hA0,hV,rfl,hfz,hnd⟩:=hW
 have hA : DataW.TrodAll enc Tryz.prog W 0 (fun _=>true) true Tryz.f4.params.toList args.toList ds p:=hA0
 rw [Tryz.params4] at hA hval
 obtain ⟨v0,vs0,d0,ds0,p0,q0,hargs,rfl,rfl,h0,r0⟩:=trodAll_cons hA
 obtain ⟨v1,vs1,d1,ds1,p1,q1,rfl,rfl,rfl,h1,r1⟩:=trodAll_cons r0
 obtain ⟨v2,vs2,d2,ds2,p2,q2,rfl,rfl,rfl,h2,r2⟩:=trodAll_cons r1
 obtain ⟨v3,vs3,d3,ds3,p3,q3,rfl,rfl,rfl,h3,r3⟩:=trodAll_cons r2
 obtain ⟨rfl,rfl,rfl⟩:=trodAll_nil r3
 obtain rfl : args = #[v0,v1,v2,v3]:=by cases args; simp_all
 obtain ⟨rfl,rfl⟩:=trodVars_none hV
 have k0:=h0
 have lt0 : ∀ x ∈ p0,x.block < W.heap.size:=by obtain ⟨m,hm⟩:=k0; exact DataW.trod_lt m _ _ _ hm
 have k1:=h1
 have lt1 : ∀ x ∈ p1,x.block < W.heap.size:=by obtain ⟨m,hm⟩:=k1; exact DataW.trod_lt m _ _ _ hm
 have k2:=h2
 have lt2 : ∀ x ∈ p2,x.block < W.heap.size:=by obtain ⟨m,hm⟩:=k2; exact DataW.trod_lt m _ _ _ hm
 have k3:=h3
 have lt3 : ∀ x ∈ p3,x.block < W.heap.size:=by obtain ⟨m,hm⟩:=k3; exact DataW.trod_lt m _ _ _ hm
 obtain ⟨a0,n0,c0,rfl⟩:=Go.WideShapes.okWide_slice Tryz.underlying48 (hval 0 _ _ rfl rfl)
 obtain ⟨A0,fl,c0',hfv,hfl⟩ : ∃ A l c,(Value.slice a0 n0 c0) = .slice A l.length c ∧ FlsIn W A l:=by obtain ⟨fuel,hf⟩:=h0; exact open_fltsW hf
 obtain ⟨a1,n1,c1,rfl⟩:=Go.WideShapes.okWide_slice Tryz.underlying49 (hval 1 _ _ rfl rfl)
 obtain ⟨A1,ss,c1',hss⟩ : ∃ A ss c,SecsIn W (.slice a1 n1 c1) A ss c:=by obtain ⟨fuel,hf⟩:=h1; exact open_secs hf
 obtain ⟨a,rfl,_,_,wa⟩:=open_int Tryz.underlying3 (hval 2 _ _ rfl rfl) h2
 obtain ⟨N,rfl,_,_,wn⟩:=open_int Tryz.underlying3 (hval 3 _ _ rfl rfl) h3
 injection hfv with e1 e2 e3
 subst e1 e2 e3
 have hsv:=hss.val
 injection hsv with e1 e2 e3
 subst e1 e2 e3
 clear hA0 hval0
 refine (walOperations_walk ⟨_,fl,_⟩ _ ss _ a N W hfl hss).mono fun e W' ⟨he,bel⟩=>?_
 subst he
 exact ⟨_,rfl,_,_,_,[],_,[],hW',trodAll_mk1 (shut_bool Tryz.underlying4 _),(trodAll_cons_mk (Below.trod laidOut (by kernel_rfl) (of_decide_eq_true (by kernel_rfl)) k0 bel lt0) (trodAll_cons_mk (Below.trod laidOut (by kernel_rfl) (of_decide_eq_true (by kernel_rfl)) k1 bel lt1) (trodAll_cons_mk (Below.trod laidOut (by kernel_rfl) (of_decide_eq_true (by kernel_rfl)) k2 bel lt2) (trodAll_cons_mk (Below.trod laidOut (by kernel_rfl) (of_decide_eq_true (by kernel_rfl)) k3 bel lt3) trodAll_mk0)))),rfl,bel.frame _,fun h=>by cases h⟩
theorem walOperations_holds : Rows.WalOperationsSaid:=
 OpenClaim.holds_of_wide 4 Tryz.f4 rfl rfl rfl rfl rfl rfl rfl ⟨rfl,rfl,rfl,rfl,rfl⟩ rfl rfl rfl rfl rfl (by kernel_rfl) Tryz.func4 (by kernel_rfl)
  (of_decide_eq_true (by kernel_rfl)) (by unfold Func.isWrapper; first | (rw [if_pos (by decide +kernel)]; kernel_rfl) | (rw [if_neg (by decide +kernel)]; exact ⟨rfl,rfl⟩))
  (fun os started H enc _=>walOperations_lifted os started H enc)
#print axioms walOperations_holds
end Go.Proofs.YtaggiceejcegdaaGreat
