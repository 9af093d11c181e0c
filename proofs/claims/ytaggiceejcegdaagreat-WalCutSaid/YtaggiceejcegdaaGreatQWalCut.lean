/-
  WHAT IS SHOWN: after a power failure and a restart, the log on every disk is a prefix of the records that contains those before its last flush that was successful (WalCut). Conditions: none.
-/
import Derived.Test.YtaggiceejcegdaaGreatNc35
import Derived.BigQuiet
import Derived.ChangeKeysEq
import Derived.ChangeOld
import Derived.Deep.AppendLies
import Derived.Deep.DeepCutAuto
import Derived.Deep.Draws
import Derived.Deep.Fields
import Derived.Deep.QuietTactic
import Derived.Deep.RegionHeld3
import Derived.Deep.RegionLaw
import Derived.Deep.Slices
import Derived.Handy
import Derived.Laws.AppendOwnNone
import Derived.Laws.BytesArg
import Derived.Laws.Cover3
import Derived.Laws.MakeOwn
import Derived.Laws.OwnMore
import Derived.Laws.Rows
import Derived.Lib.ConvBytes
import Derived.Lib.Hide
import Derived.Lib.SmallJoins
import Derived.Lib.VarintBits
import Derived.Lib.Zigzag
import Derived.LoopIn
import Derived.LoopNIn
import Derived.Maps.AppendAt
import Derived.OpenShut
import Derived.OwnWalkIn
import Derived.ProofKit
import Derived.RangeFuncBox
import Derived.RangeFuncLeaves
import Derived.Shelf.Abstract
import Derived.Sort.QuietIn
import Derived.TacticsInMore
import Derived.WalkKit
import Derived.WalkLawsBesides
import Derived.WalkMore
import Derived.WalkSpells
import Derived.Test.YtaggiceejcegdaaGreatOe00
import Derived.Test.YtaggiceejcegdaaGreatOe01
import Derived.Test.YtaggiceejcegdaaGreatOe02
import Derived.Test.YtaggiceejcegdaaGreatOe03
import Derived.Test.YtaggiceejcegdaaGreatOe04
import Derived.Test.YtaggiceejcegdaaGreatOe05
import Derived.Test.YtaggiceejcegdaaGreatOe06
import Derived.Test.YtaggiceejcegdaaGreatOe07
import Derived.Test.YtaggiceejcegdaaGreatOe08
import Derived.Test.YtaggiceejcegdaaGreatRows
namespace Go.Proofs.YtaggiceejcegdaaGreat
set_option linter.unusedVariables false
open Go.ChangeShapes Go.WideShapes Go.ChangeAt Go.RowKit
theorem ptr3 {w : World} {base gp q0 q1 q2 pc : Nat} (h : w.ownsRow base 52 1 (.slice (some ⟨gp,0,none⟩) 3 pc) 3 (ptrs [q0,q1,q2] no0)) {k q : Nat} (hq : [q0,q1,q2][k]? = some q) : w.cell? ⟨gp,k,none⟩ = some (.pointer (some ⟨q,0,none⟩)):=by
 have hl:=(List.getElem?_eq_some_iff.1 hq).1
 exact (World.ownsRow.cellAt h k (by simpa using hl)).trans (ptrs_get hq)
set_option maxRecDepth 100000 in
set_option maxHeartbeats 40000000 in
theorem walCut_walk (l : List RS) (A : Option Addr) (c : Nat) (fl st k0 k1 k2 : Int) (w : World) (hl : RcsIn w (.slice A l.length c) A l c) (hst : 0 ≤ st ∧ st ≤ 255) (hk : ∀ k ∈ [k0,k1,k2],0 ≤ k ∧ k ≤ 255) :
  Calls Tryz.prog 8 #[.slice A l.length c,.int .u16 fl,.int .u8 st,.agg #[.int .u8 k0,.int .u8 k1,.int .u8 k2]] w fun e w'=>e = .returned (.bool true) ∧ Below w.heap.size w w':=by
 have HB : Hid (∀ W,Below (w.heap.size + 1) (w.alloc (.cells #[.int .u8 k0,.int .u8 k1,.int .u8 k2] 85)) W → Below w.heap.size w W):=fun W hW=>((Below.refl w.heap.size w).alloc (Nat.le_refl _) _).trans (hW.mono (by omega))
 have HP0 : Hid (∀ W,Below (w.heap.size + 1) (w.alloc (.cells #[.int .u8 k0,.int .u8 k1,.int .u8 k2] 85)) W → ∀ k x,[k0,k1,k2][k]? = some x → W.cell? ⟨w.heap.size,k,none⟩ = some (.int .u8 x)):=fun W hW k x hx=>
  (hW.cell (p:=⟨w.heap.size,k,none⟩) (by show w.heap.size < _; omega)).trans (by
    match k,hx with
    | 0,hx=>obtain rfl:=Option.some.inj hx; exact cell_new _ _ _ _ _ _ rfl rfl
    | 1,hx=>obtain rfl:=Option.some.inj hx; exact cell_new _ _ _ _ _ _ rfl rfl
    | 2,hx=>obtain rfl:=Option.some.inj hx; exact cell_new _ _ _ _ _ _ rfl rfl
    | k + 3,hx=>simp at hx)
 have HLR:=Lib.hid hl.rd
 have HLE:=Lib.hid hl.each
 have HK:=Lib.hid hk
 have hz0 : (w.alloc (.cells #[.int .u8 k0,.int .u8 k1,.int .u8 k2] 85)).heap.size = w.heap.size + 1:=by simp
 clear hl hk
 go_enter Tryz.func8,Tryz.ntmps8
 go_wp2_with fail
 refine (awake49_any _).mono ?_
 rintro e w1 ⟨rfl,hb1⟩
 rw [hz0] at hb1
 have HB1:=Lib.hid hb1
 clear hb1
 by_cases h3 : (8 : Int) < (l.length : Int)
 ·have d3 : decide ((8 : Int) < (l.length : Int)) = true:=decide_eq_true h3
  clear h3
  go_wp2
  go_ret
  exact ⟨rfl,HB.out _ HB1.out⟩
 have d3 : decide ((8 : Int) < (l.length : Int)) = false:=decide_eq_false h3
 have hl8 : l.length ≤ 8:=by omega
 clear h3
 go_wp2
 go_loopw [36] (fun i wr=>∃ k : Nat,k ≤ l.length ∧ i = .int .i64 k ∧ Hid (Below (w.heap.size + 1) (w.alloc (.cells #[.int .u8 k0,.int .u8 k1,.int .u8 k2] 85)) wr ∧ ∀ j (hj : j < l.length),j < k → briefR l[j].r = true)) (fun i _=>l.length - (intOf i).toNat)
 case atStart=>exact ⟨0,Nat.zero_le _,rfl,HB1.out,fun j hj h=>by omega⟩
 case round=>
  obtain ⟨k,hk,rfl,HW⟩:=hrel
  by_cases hlt : k < l.length
  ·have hXW:=HLR.out.up (HB.out _ HW.out.1)
   obtain ⟨g7,o7,rA,hg7,j0,j1,j2,j3,j4⟩:=hXW.rd.rs hlt
   subst rA
   have PB:=(Cells5.new wr 28 (.int .u64 l[k].r.gen) (.int .u64 l[k].r.seq) (.slice l[k].A l[k].r.ws.length l[k].c) (.slice l[k].D l[k].r.ms.length l[k].d) (.slice l[k].N l[k].r.note.length l[k].n))
   have p0:=PB.c0; have p1:=PB.c1; have p2:=PB.c2; have p3:=PB.c3; have p4:=PB.c4
   have hzr : w.heap.size + 1 ≤ wr.heap.size:=by have:=HW.out.1.size; rw [hz0] at this; exact this
   have HBX : Hid (Below (w.heap.size + 1) (w.alloc (.cells #[.int .u8 k0,.int .u8 k1,.int .u8 k2] 85)) (wr.alloc (.cells #[.int .u64 l[k].r.gen,.int .u64 l[k].r.seq,.slice l[k].A l[k].r.ws.length l[k].c,.slice l[k].D l[k].r.ms.length l[k].d,.slice l[k].N l[k].r.note.length l[k].n] 28))):=HW.out.1.alloc hzr _
   have HKB : Hid (briefR l[k].r = true → ∀ j (hj : j < l.length),j < k + 1 → briefR l[j].r = true):=fun hb j hj h=>by
    by_cases e : j = k
    ·subst e; exact hb
    ·exact HW.out.2 j hj (by omega)
   have hzx : (wr.alloc (.cells #[.int .u64 l[k].r.gen,.int .u64 l[k].r.seq,.slice l[k].A l[k].r.ws.length l[k].c,.slice l[k].D l[k].r.ms.length l[k].d,.slice l[k].N l[k].r.note.length l[k].n] 28)).heap.size = wr.heap.size + 1:=by simp
   clear hXW PB HW
   go_wp2_with fail
   refine (brief_any l[k].r l[k].A l[k].D l[k].N l[k].c l[k].d l[k].n _).mono ?_
   rintro e w6 ⟨rfl,hb6⟩
   have HB6:=Lib.hid (HBX.out.trans (hb6.mono (by rw [hzx]; omega)))
   clear p0 p1 p2 p3 p4 hb6
   obtain hs | hs : briefR l[k].r = false ∨ briefR l[k].r = true:=by cases briefR l[k].r; exact .inl rfl; exact .inr rfl
   ·rw [hs]
    clear hs HKB
    go_wp2
    go_ret
    exact ⟨rfl,HB.out _ HB6.out⟩
   have HD:=Lib.hid (HKB.out hs)
   rw [hs]
   clear hs HKB
   go_wp2
   go_roundw
   case rel=>exact ⟨k + 1,hlt,by go_num,HB6.out,HD.out⟩
   case measure=>simp [intOf]; omega
  ·obtain rfl : k = l.length:=by omega
   have HBR : Hid (∀ x ∈ l,briefR x.r = true):=fun x hx=>by
    obtain ⟨i,hi,rfl⟩:=List.mem_iff_getElem.1 hx
    exact HW.out.2 i hi hi
   have HB2:=Lib.hid HW.out.1
   have hzr : w.heap.size + 1 ≤ wr.heap.size:=by have:=HW.out.1.size; rw [hz0] at this; exact this
   have HT:=Lib.hid (twins3 wr)
   have HB3 : Hid (Below (w.heap.size + 1) (w.alloc (.cells #[.int .u8 k0,.int .u8 k1,.int .u8 k2] 85)) (wr.alloc (.cells #[.slice none 0 0,.slice none 0 0,.slice none 0 0] 48))):=HB2.out.alloc hzr _
   have hz3 : (wr.alloc (.cells #[.slice none 0 0,.slice none 0 0,.slice none 0 0] 48)).heap.size = wr.heap.size + 1:=by simp
   clear HW
   go_wp2_with fail
   refine HT.out.mono ?_
   rintro e w4 ⟨pw,rp,PA,pc,RA,rc,qs,rqs,rfl,hP,_,hm,_,hb4⟩
   have hql : qs.length = 3:=hm.len
   obtain ⟨q0,q1,q2,rfl⟩ : ∃ a b c,qs = [a,b,c]:=by
    match qs,hql with
    | [a,b,c],_=>exact ⟨a,b,c,rfl⟩
   simp only [List.length_cons,List.length_nil,Nat.zero_add] at hP ⊢
   obtain ⟨gp,rfl,_,_⟩:=own_at hP (by decide)
   have HP4:=Lib.hid hP
   have HM4:=Lib.hid hm
   have HB4:=Lib.hid hb4
   clear hP hm hb4 HT hql
   have hzp : (w4.alloc (.cells #[.pointer (some ⟨pw,0,none⟩),.pointer (some ⟨rp,0,none⟩),.slice (some ⟨gp,0,none⟩) 3 pc,.slice RA 3 rc] 36)).heap.size = w4.heap.size + 1:=by simp
   go_wp2_with fail
   refine (wnew_any 7 1 18 [] none 0 _ (RcsR.nil _ _ _) (fun x hx=>by simp at hx) (fun x hx=>by simp at hx) (by decide)).mono ?_
   intro e w5 hpost
   unfold NewPostW at hpost
   rw [show ([] : List RS).map RS.r = [] from rfl,newB_nil (by decide) (by decide),if_pos rfl] at hpost
   obtain ⟨b,V,rfl,hlm,hb5⟩:=hpost
   rw [hzp] at hlm hb5
   have hws:=WS.start (w:=(w.alloc (.cells #[.int .u8 k0,.int .u8 k1,.int .u8 k2] 85))) (v0:=.pointer (some ⟨pw,0,none⟩)) (v1:=.pointer (some ⟨rp,0,none⟩)) (v3:=.slice RA 3 rc) (qs:=[q0,q1,q2]) (by rw [hz0]; exact HB3.out) HP4.out HM4.out HB4.out hlm hb5
   obtain ⟨n,hn⟩ : ∃ n,n = (wr.alloc (.cells #[.slice none 0 0,.slice none 0 0,.slice none 0 0] 48)).heap.size:=⟨_,rfl⟩
   rw [← hn] at hws
   have HWS:=Lib.hid hws
   have c0 : w5.cell? ⟨w4.heap.size,0,none⟩ = some (.pointer (some ⟨pw,0,none⟩)):=(World.ownsRow.cellAt hws.pair 0 (by decide)).trans rfl
   have hnw : w.heap.size + 1 ≤ n:=by rw [hn,hz3]; omega
   clear hlm hb5 HP4 HM4 HB4 hws hn
   have HAR : Hid (∀ x : Int,Calls Tryz.prog 36 #[.pointer (some ⟨pw,0,none⟩),.int .i64 x] w5 fun e w'=>e = .returned (.tuple #[]) ∧ WS (w.alloc (.cells #[.int .u8 k0,.int .u8 k1,.int .u8 k2] 85)) w' n w4.heap.size b pw V (.pointer (some ⟨pw,0,none⟩)) (.pointer (some ⟨rp,0,none⟩)) (.slice RA 3 rc) (some ⟨gp,0,none⟩) pc [q0,q1,q2] no0 S7L ⟨(newMS [[],[],[]]).ds,armP (newMS [[],[],[]]).P x⟩):=by
    unfold Hid; intro x
    obtain ⟨B,hB,hp,hback⟩:=HWS.out.many.power
    refine (arm_any x hp).mono ?_
    rintro e w' ⟨he,hp',hk⟩
    exact ⟨he,HWS.out.typed (hback w' _ hp' hk) (hk.sub (us:=DAT) (by unfold DAT; decide)) hB⟩
   go_wp2_with fail
   refine (HAR.out _).mono ?_
   rintro e w6 ⟨rfl,hws6⟩
   have hbz:=hws6.bel.size
   have hcs:=(⟨hws6.below ((Below.refl _ _).alloc (Nat.le_refl _) _),World.ownsRow_lit (base:=(w.alloc (.cells #[.int .u8 k0,.int .u8 k1,.int .u8 k2] 85)).heap.size) (e:=87) (size:=3) w6 #[.int .i64 0,.int .i64 0,.int .i64 0] 1 hbz (by decide) rfl⟩ : CS (w.alloc (.cells #[.int .u8 k0,.int .u8 k1,.int .u8 k2] 85)) (w6.alloc (.cells #[.int .i64 0,.int .i64 0,.int .i64 0] 87)) n w4.heap.size b pw V (.pointer (some ⟨pw,0,none⟩)) (.pointer (some ⟨rp,0,none⟩)) (.slice RA 3 rc) (some ⟨gp,0,none⟩) pc [q0,q1,q2] S7L _ w6.heap.size [0,0,0])
   have H0 : Hid (∃ V S m sf N,CS (w.alloc (.cells #[.int .u8 k0,.int .u8 k1,.int .u8 k2] 85)) (w6.alloc (.cells #[.int .i64 0,.int .i64 0,.int .i64 0] 87)) n w4.heap.size b pw V (.pointer (some ⟨pw,0,none⟩)) (.pointer (some ⟨rp,0,none⟩)) (.slice RA 3 rc) (some ⟨gp,0,none⟩) pc [q0,q1,q2] S m w6.heap.size sf ∧ CutL S ∧ S.l.length ≤ 0 ∧ CutM S sf m ∧ sf.length = 3 ∧ m.Ok N ∧ N ≤ 200 * 0):=
    ⟨V,S7L,_,_,0,hcs,cut7,Nat.le_refl _,cutm0 _,rfl,okM3 _,Nat.le_refl _⟩
   clear c0 hws6 hcs HAR HWS hbz
   go_wp2
   go_loopw [71] (fun i wr=>∃ k : Nat,k ≤ l.length ∧ i = .int .i64 k ∧ Hid (∃ V S m sf N,CS (w.alloc (.cells #[.int .u8 k0,.int .u8 k1,.int .u8 k2] 85)) wr n w4.heap.size b pw V (.pointer (some ⟨pw,0,none⟩)) (.pointer (some ⟨rp,0,none⟩)) (.slice RA 3 rc) (some ⟨gp,0,none⟩) pc [q0,q1,q2] S m w6.heap.size sf ∧ CutL S ∧ S.l.length ≤ k ∧ CutM S sf m ∧ sf.length = 3 ∧ m.Ok N ∧ N ≤ 200 * k)) (fun i _=>l.length - (intOf i).toNat)
   case atStart=>exact ⟨0,Nat.zero_le _,rfl,H0⟩
   case round=>
    obtain ⟨k,hk,rfl,HW⟩:=hrel
    obtain ⟨V,S,m,sf,N,hC,hS,hSl,hM,hsf,hmo,hN⟩:=HW.out
    have hbw:=hC.ws.bel
    rw [hz0] at hbw
    by_cases hlt : k < l.length
    ·have hXW:=HLR.out.up (HB.out _ hbw)
     obtain ⟨g7,o7,rA,hg7,j0,j1,j2,j3,j4⟩:=hXW.rd.rs hlt
     subst rA
     have hxr:=hXW.each _ (List.getElem_mem hlt)
     have HXO:=Lib.hid (HLE.out _ (List.getElem_mem hlt)).ok
     have HXB:=Lib.hid (brief_tiny (HBR.out _ (List.getElem_mem hlt)))
     have PB:=(Cells5.new wr 28 (.int .u64 l[k].r.gen) (.int .u64 l[k].r.seq) (.slice l[k].A l[k].r.ws.length l[k].c) (.slice l[k].D l[k].r.ms.length l[k].d) (.slice l[k].N l[k].r.note.length l[k].n))
     have p0:=PB.c0; have p1:=PB.c1; have p2:=PB.c2; have p3:=PB.c3; have p4:=PB.c4
     have hbx : Below wr.heap.size wr (wr.alloc (.cells #[.int .u64 l[k].r.gen,.int .u64 l[k].r.seq,.slice l[k].A l[k].r.ws.length l[k].c,.slice l[k].D l[k].r.ms.length l[k].d,.slice l[k].N l[k].r.note.length l[k].n] 28)):=(Below.refl _ _).alloc (Nat.le_refl _) _
     have hCX:=hC.below hbx
     have z2 : (wr.alloc (.cells #[.int .u64 l[k].r.gen,.int .u64 l[k].r.seq,.slice l[k].A l[k].r.ws.length l[k].c,.slice l[k].D l[k].r.ms.length l[k].d,.slice l[k].N l[k].r.note.length l[k].n] 28)).cell? ⟨w4.heap.size,2,none⟩ = some (.slice (some ⟨gp,0,none⟩) 3 pc):=hCX.ws.cell
     have HA:=Lib.hid (hCX.app hS.ok.ok hmo (by omega) (by simp) l[k].r HXO.out l[k].A l[k].D l[k].N l[k].c l[k].d l[k].n (hxr.up hbx) HXB.out)
     have HSO:=Lib.hid (hS.app HXO.out HXB.out (by omega))
     have HSN : Hid ((appS S l[k].r).l.length ≤ k + 1):=by have:=appS_len S l[k].r; unfold Hid; omega
     have HMC:=Lib.hid (CutM.app hS HXO.out hM)
     have HMM:=Lib.hid (appM_ok (g:=gW) (key:=0) (no:=no0) (r:=l[k].r) hS.ok.ok hS.ok.b hmo)
     generalize appM gW 0 no0 S l[k].r m = X at *
     generalize appS S l[k].r = S' at *
     generalize appE S l[k].r = er at *
     generalize l[k] = x at *
     clear hXW hxr PB hbx hCX hC hS hSl hM hmo hbw HW
     go_wp2_with fail
     refine HA.out.mono ?_
     rintro e w7 ⟨A7,c7,V7,rfl,hC7⟩
     have z2' : w7.cell? ⟨w4.heap.size,2,none⟩ = some (.slice (some ⟨gp,0,none⟩) 3 pc):=hC7.ws.cell
     have HC7:=Lib.hid hC7
     have HSF:=Lib.hid hsf
     clear p0 p1 p2 p3 p4 z2 hC7 HA hsf
     obtain hb | hb : (bits .and .u16 (fl / 2 ^ k) 1 == 1) = true ∨ (bits .and .u16 (fl / 2 ^ k) 1 == 1) = false:=by cases (bits .and .u16 (fl / 2 ^ k) 1 == 1); exact .inr rfl; exact .inl rfl
     ·have HI : Hid (∃ m sf N',CS (w.alloc (.cells #[.int .u8 k0,.int .u8 k1,.int .u8 k2] 85)) w7 n w4.heap.size b pw V7 (.pointer (some ⟨pw,0,none⟩)) (.pointer (some ⟨rp,0,none⟩)) (.slice RA 3 rc) (some ⟨gp,0,none⟩) pc [q0,q1,q2] S' m w6.heap.size sf ∧ CutM S' sf m ∧ sf.length = 3 ∧ m.Ok N' ∧ N' ≤ 200 * k + 162 + 9 * 0):=⟨X.1,sf,N + 162,HC7.out,HMC.out,HSF.out,HMM.out,by omega⟩
      go_wp2
      clear z2' hb HC7 HMC HMM HSF
      go_loopw [89] (fun i wi=>∃ j : Nat,j ≤ 3 ∧ i = .int .i64 j ∧ Hid (∃ m sf N',CS (w.alloc (.cells #[.int .u8 k0,.int .u8 k1,.int .u8 k2] 85)) wi n w4.heap.size b pw V7 (.pointer (some ⟨pw,0,none⟩)) (.pointer (some ⟨rp,0,none⟩)) (.slice RA 3 rc) (some ⟨gp,0,none⟩) pc [q0,q1,q2] S' m w6.heap.size sf ∧ CutM S' sf m ∧ sf.length = 3 ∧ m.Ok N' ∧ N' ≤ 200 * k + 162 + 9 * j)) (fun i _=>3 - (intOf i).toNat)
      case atStart=>exact ⟨0,by omega,rfl,HI⟩
      case round=>
       obtain ⟨j,hj,rfl,HW⟩:=hrel
       obtain ⟨m,sf,N',hC,hM,hsf,hmo,hN'⟩:=HW.out
       by_cases hlj : j < 3
       ·obtain ⟨q,hq⟩ : ∃ q,[q0,q1,q2][j]? = some q:=⟨[q0,q1,q2][j]'(by simpa using hlj),List.getElem?_eq_getElem _⟩
        obtain ⟨s,hs⟩ : ∃ s,sf[j]? = some s:=⟨sf[j]'(by omega),List.getElem?_eq_getElem _⟩
        obtain ⟨v,hv⟩ : ∃ v,m.ds[j]? = some v:=⟨m.ds[j]'(by rw [hM.1]; omega),List.getElem?_eq_getElem _⟩
        have e1:=ptr3 hC.ws.ptr hq
        have hF:=(hM.2.2 j v s hv hs).1
        obtain ⟨_,_,hO⟩:=hmo j v hv
        have hFL:=hC.flush hv hq (by rw [hF]; simp) (by omega)
        have HOK:=Lib.hid (hmo.mono (show N' ≤ N' + 9 by omega) |>.put (d:=(tryD (fOne gW v.F 0) (m.dc v)).1) hv (by have:=tryD_len (fOne_len gW v.F 0) (m.dc v); have e9 : (m.dc v).O.length = v.O.length:=rfl; omega))
        rcases CutM.flush HSO.out hM hv hs with ⟨he,hM'⟩ | ⟨he,hM'⟩
        ·rw [he] at hFL
         have HFL:=Lib.hid hFL
         have HM':=Lib.hid hM'
         have HSS:=Lib.hid hs
         have HSF:=Lib.hid hsf
         generalize m.put j v.F (tryD (fOne gW v.F 0) (m.dc v)).1 = m' at *
         clear hC hM hsf hmo hF hO hFL he hM' hv hq hs HW
         go_wp2_with fail
         refine HFL.out.mono ?_
         rintro e w8 ⟨rfl,hC8⟩
         have HC8:=Lib.hid hC8
         have HRC : Hid (Calls Tryz.prog 28 #[.pointer (some ⟨b,0,none⟩)] w8 fun e w'=>∃ A c,e = .returned (.slice A S'.l.length c) ∧ Below w8.heap.size w8 w'):=by
          refine (wrecords_any hC8.ws.log (by have:=HSN.out; omega) (fun r hr=>(HSO.out.ok.ok.t r hr).1)).mono ?_
          rintro e w' ⟨A,c,ys,rfl,hy,_,hb⟩
          have:=congrArg List.length hy
          rw [List.length_map] at this
          exact ⟨A,c,by rw [this],hb⟩
         clear hC8 e1 HFL
         go_wp2_with fail
         refine HRC.out.mono ?_
         rintro e w9 ⟨A9,c9,rfl,hb9⟩
         have hC9:=HC8.out.below hb9
         have e2:=hC9.cell hlj HSS.out
         have f2:=hC9.sr.frozenAt j
         have hsl' : S'.l.length ≤ 100:=by have:=HSN.out; omega
         have HD : Hid (∃ m sf N',CS (w.alloc (.cells #[.int .u8 k0,.int .u8 k1,.int .u8 k2] 85)) (w9.setCell ⟨w6.heap.size,j,none⟩ (.int .i64 (S'.l.length : Nat))) n w4.heap.size b pw V7 (.pointer (some ⟨pw,0,none⟩)) (.pointer (some ⟨rp,0,none⟩)) (.slice RA 3 rc) (some ⟨gp,0,none⟩) pc [q0,q1,q2] S' m w6.heap.size sf ∧ CutM S' sf m ∧ sf.length = 3 ∧ m.Ok N' ∧ N' ≤ 200 * k + 162 + 9 * (j + 1)):=⟨m',sf.set j S'.l.length,N' + 9,hC9.note j S'.l.length,HM'.out,by rw [List.length_set]; exact HSF.out,HOK.out,by omega⟩
         clear hb9 hC9 HRC HC8
         go_wp2
         go_roundw
         case rel=>exact ⟨j + 1,hlj,by go_num,HD⟩
         case measure=>simp [intOf]; omega
        ·rw [he] at hFL
         have HFL:=Lib.hid hFL
         have HM':=Lib.hid hM'
         have HSF:=Lib.hid hsf
         generalize m.put j v.F (tryD (fOne gW v.F 0) (m.dc v)).1 = m' at *
         clear hC hM hsf hmo hF hO hFL he hM' hv hq hs HW
         go_wp2_with fail
         refine HFL.out.mono ?_
         rintro e w8 ⟨rfl,hC8⟩
         have HD : Hid (∃ m sf N',CS (w.alloc (.cells #[.int .u8 k0,.int .u8 k1,.int .u8 k2] 85)) w8 n w4.heap.size b pw V7 (.pointer (some ⟨pw,0,none⟩)) (.pointer (some ⟨rp,0,none⟩)) (.slice RA 3 rc) (some ⟨gp,0,none⟩) pc [q0,q1,q2] S' m w6.heap.size sf ∧ CutM S' sf m ∧ sf.length = 3 ∧ m.Ok N' ∧ N' ≤ 200 * k + 162 + 9 * (j + 1)):=⟨m',sf,N' + 9,hC8,HM'.out,HSF.out,HOK.out,by omega⟩
         clear hC8 e1 HFL
         go_wp2
         go_roundw
         case rel=>exact ⟨j + 1,hlj,by go_num,HD⟩
         case measure=>simp [intOf]; omega
       ·obtain rfl : j = 3:=by omega
        have HD : Hid (∃ V S m sf N,CS (w.alloc (.cells #[.int .u8 k0,.int .u8 k1,.int .u8 k2] 85)) wr n w4.heap.size b pw V (.pointer (some ⟨pw,0,none⟩)) (.pointer (some ⟨rp,0,none⟩)) (.slice RA 3 rc) (some ⟨gp,0,none⟩) pc [q0,q1,q2] S m w6.heap.size sf ∧ CutL S ∧ S.l.length ≤ k + 1 ∧ CutM S sf m ∧ sf.length = 3 ∧ m.Ok N ∧ N ≤ 200 * (k + 1)):=⟨V7,S',m,sf,N',hC,HSO.out,HSN.out,hM,hsf,hmo,by omega⟩
        clear hC hM hsf hmo HW
        go_wp2
        go_roundw
        case rel=>exact ⟨k + 1,hlt,by go_num,HD⟩
        case measure=>simp [intOf]; omega
     ·have HD : Hid (∃ V S m sf N,CS (w.alloc (.cells #[.int .u8 k0,.int .u8 k1,.int .u8 k2] 85)) w7 n w4.heap.size b pw V (.pointer (some ⟨pw,0,none⟩)) (.pointer (some ⟨rp,0,none⟩)) (.slice RA 3 rc) (some ⟨gp,0,none⟩) pc [q0,q1,q2] S m w6.heap.size sf ∧ CutL S ∧ S.l.length ≤ k + 1 ∧ CutM S sf m ∧ sf.length = 3 ∧ m.Ok N ∧ N ≤ 200 * (k + 1)):=⟨V7,S',X.1,sf,N + 162,HC7.out,HSO.out,HSN.out,HMC.out,HSF.out,HMM.out,by omega⟩
      clear HC7 HMC HMM HSF
      go_wp2
      go_roundw
      case rel=>exact ⟨k + 1,hlt,by go_num,HD⟩
      case measure=>simp [intOf]; omega
    ·obtain rfl : k = l.length:=by omega
     have HBF:=Lib.hid (HB.out _ hbw)
     have HOF:=Lib.hid hC.off
     have HC:=Lib.hid hC
     have HS:=Lib.hid hS
     have HSF:=Lib.hid hsf
     have HMO:=Lib.hid hmo
     have HMI:=Lib.hid (fun ho=>CutM.mid hM ho)
     have z0 : wr.cell? ⟨w4.heap.size,0,none⟩ = some (.pointer (some ⟨pw,0,none⟩)):=(World.ownsRow.cellAt hC.ws.pair 0 (by decide)).trans rfl
     clear hbw hC hS hM hsf hmo HW
     go_wp2_with fail
     refine HOF.out.mono ?_
     rintro e w8 ⟨rfl,hw8⟩
     subst hw8
     clear z0 HOF
     cases ho : m.P.off
     ·clear ho
      go_wp2
      go_ret
      exact ⟨rfl,HBF.out⟩
     ·have HMD:=Lib.hid (HMI.out ho)
      clear ho HMI
      have HRC:=Lib.hid (wrecords_any HC.out.ws.log (by omega) (fun r hr=>(HS.out.ok.ok.t r hr).1))
      go_wp2_with fail
      refine HRC.out.mono ?_
      rintro e w9 ⟨AY,cY,ys,rfl,hy,hoy,hb9⟩
      have HY:=Lib.hid hy
      have hC9:=HC.out.below hb9
      have z2 : w9.cell? ⟨w4.heap.size,2,none⟩ = some (.slice (some ⟨gp,0,none⟩) 3 pc):=hC9.ws.cell
      have hyl : ys.length ≤ 8:=by have:=congrArg List.length hy; rw [List.length_map] at this; omega
      have hyc : ys.length ≤ cY:=(own_cap0 hoy.own).1
      have H9 : Hid (∃ m,CS (w.alloc (.cells #[.int .u8 k0,.int .u8 k1,.int .u8 k2] 85)) w9 n w4.heap.size b pw V (.pointer (some ⟨pw,0,none⟩)) (.pointer (some ⟨rp,0,none⟩)) (.slice RA 3 rc) (some ⟨gp,0,none⟩) pc [q0,q1,q2] S m w6.heap.size sf ∧ MidM S sf 0 m ∧ m.Ok N ∧ RcsO w9 0 AY cY ys):=⟨m,hC9,HMD.out,HMO.out,hoy.mono (Nat.zero_le _)⟩
      clear hy hoy hb9 hC9 HRC HC HMD HMO
      go_wp2
      clear z2
      go_loopw [113] (fun i wi=>∃ j : Nat,j ≤ 3 ∧ i = .int .i64 j ∧ Hid (∃ m,CS (w.alloc (.cells #[.int .u8 k0,.int .u8 k1,.int .u8 k2] 85)) wi n w4.heap.size b pw V (.pointer (some ⟨pw,0,none⟩)) (.pointer (some ⟨rp,0,none⟩)) (.slice RA 3 rc) (some ⟨gp,0,none⟩) pc [q0,q1,q2] S m w6.heap.size sf ∧ MidM S sf j m ∧ m.Ok N ∧ RcsO wi 0 AY cY ys)) (fun i _=>3 - (intOf i).toNat)
      case atStart=>exact ⟨0,by omega,rfl,H9⟩
      case round=>
       obtain ⟨j,hj,rfl,HW⟩:=hrel
       obtain ⟨m,hC,hM,hmo,hoy⟩:=HW.out
       by_cases hlj : j < 3
       ·obtain ⟨q,hq⟩ : ∃ q,[q0,q1,q2][j]? = some q:=⟨[q0,q1,q2][j]'(by simpa using hlj),List.getElem?_eq_getElem _⟩
        obtain ⟨s,hs⟩ : ∃ s,sf[j]? = some s:=⟨sf[j]'(by rw [HSF.out]; omega),List.getElem?_eq_getElem _⟩
        obtain ⟨v,hv⟩ : ∃ v,m.ds[j]? = some v:=⟨m.ds[j]'(by rw [hM.1,HSF.out]; omega),List.getElem?_eq_getElem _⟩
        obtain ⟨x,hx⟩ : ∃ x,[k0,k1,k2][j]? = some x:=⟨[k0,k1,k2][j]'(by simpa using hlj),List.getElem?_eq_getElem _⟩
        have hxb:=HK.out x (List.mem_of_getElem? hx)
        have hx0:=hxb.1
        have hx1:=hxb.2
        have e1:=ptr3 hC.ws.ptr hq
        have hbw:=hC.ws.bel
        rw [hz0] at hbw
        have e2:=HP0.out _ hbw j x hx
        obtain ⟨_,_,hO⟩:=hmo j v hv
        have HR : Hid (∀ keep : Int,Calls Tryz.prog 38 #[.pointer (some ⟨q,0,none⟩),.int .i64 keep] wr fun e w'=>e = .returned (.int .i64 0) ∧ ∃ m,CS (w.alloc (.cells #[.int .u8 k0,.int .u8 k1,.int .u8 k2] 85)) w' n w4.heap.size b pw V (.pointer (some ⟨pw,0,none⟩)) (.pointer (some ⟨rp,0,none⟩)) (.slice RA 3 rc) (some ⟨gp,0,none⟩) pc [q0,q1,q2] S m w6.heap.size sf ∧ MidM S sf (j + 1) m ∧ m.Ok N ∧ RcsO w' 0 AY cY ys):=by
         unfold Hid; intro keep
         obtain ⟨he,hM'⟩:=MidM.next HS.out hM hv hs keep
         have:=hC.restart hv hq keep (by omega)
         rw [he] at this
         refine this.mono ?_
         rintro e w' ⟨he',hC',hk'⟩
         exact ⟨he',_,hC',hM',hmo.put hv (Nat.le_trans (rstO_len _ _ _) hO),hoy.types hk' (by unfold DAT; decide) (by unfold DAT; decide) (by unfold DAT; decide) (by unfold DAT; decide)⟩
        clear hC hM hmo hoy hbw hO hv hq hs hx hxb HW
        go_wp2_with fail
        refine (HR.out _).mono ?_
        rintro e w10 ⟨rfl,HD⟩
        have HD:=Lib.hid HD
        clear e1 e2 HR hx0 hx1
        go_wp2
        go_roundw
        case rel=>exact ⟨j + 1,hlj,by go_num,HD⟩
        case measure=>simp [intOf]; omega
       ·obtain rfl : j = 3:=by omega
        have z0:=(World.ownsRow.cellAt hC.ws.pair 0 (by decide)).trans (show _ = some (.pointer (some ⟨pw,0,none⟩)) from rfl)
        have HON:=Lib.hid hC.on
        have HRM:=Lib.hid (hM.on (by rw [HSF.out]; exact Nat.le_refl _))
        have HOY:=Lib.hid hoy
        clear hC hM hmo hoy HW
        go_wp2_with fail
        refine HON.out.mono ?_
        rintro e w11 ⟨rfl,hC11,hk11⟩
        have z2 : w11.cell? ⟨w4.heap.size,2,none⟩ = some (.slice (some ⟨gp,0,none⟩) 3 pc):=hC11.ws.cell
        have H11 : Hid (∃ m,CS (w.alloc (.cells #[.int .u8 k0,.int .u8 k1,.int .u8 k2] 85)) w11 n w4.heap.size b pw V (.pointer (some ⟨pw,0,none⟩)) (.pointer (some ⟨rp,0,none⟩)) (.slice RA 3 rc) (some ⟨gp,0,none⟩) pc [q0,q1,q2] S m w6.heap.size sf ∧ RestM S sf m ∧ RcsO w11 0 AY cY ys):=⟨_,hC11,HRM.out,HOY.out.types hk11 (by unfold DAT; decide) (by unfold DAT; decide) (by unfold DAT; decide) (by unfold DAT; decide)⟩
        clear z0 hC11 hk11 HON HRM HOY
        go_wp2
        clear z2
        go_loopw [132] (fun i wi=>∃ j : Nat,j ≤ 3 ∧ i = .int .i64 j ∧ Hid (∃ m,CS (w.alloc (.cells #[.int .u8 k0,.int .u8 k1,.int .u8 k2] 85)) wi n w4.heap.size b pw V (.pointer (some ⟨pw,0,none⟩)) (.pointer (some ⟨rp,0,none⟩)) (.slice RA 3 rc) (some ⟨gp,0,none⟩) pc [q0,q1,q2] S m w6.heap.size sf ∧ RestM S sf m ∧ RcsO wi 0 AY cY ys)) (fun i _=>3 - (intOf i).toNat)
        case atStart=>exact ⟨0,by omega,rfl,H11⟩
        case round=>
         obtain ⟨j,hj,rfl,HW⟩:=hrel
         obtain ⟨m,hC,hR,hoy⟩:=HW.out
         by_cases hlj : j < 3
         ·obtain ⟨q,hq⟩ : ∃ q,[q0,q1,q2][j]? = some q:=⟨[q0,q1,q2][j]'(by simpa using hlj),List.getElem?_eq_getElem _⟩
          obtain ⟨s,hs⟩ : ∃ s,sf[j]? = some s:=⟨sf[j]'(by rw [HSF.out]; omega),List.getElem?_eq_getElem _⟩
          obtain ⟨v,hv⟩ : ∃ v,m.ds[j]? = some v:=⟨m.ds[j]'(by rw [hR.1,HSF.out]; omega),List.getElem?_eq_getElem _⟩
          have e1:=ptr3 hC.ws.ptr hq
          have hF:=(hR.2.2 j v s hv hs).1
          obtain ⟨h0,hx,hR',i,g1,g2,g3⟩:=RestM.read HS.out hR hv hs
          have hRD:=hC.read hv hq (by rw [hF]; simp)
          have hln:=rdAll_len (g:=gW) (F:=v.F) (key:=0) (a:=1) (d:=m.dc v) 18 h0
          rw [h0] at hRD
          have HRD:=Lib.hid hRD
          have HX:=Lib.hid hx
          have HR':=Lib.hid hR'
          have HG3:=Lib.hid g3
          have HLN:=Lib.hid hln
          have HOY:=Lib.hid hoy
          have HSS:=Lib.hid hs
          generalize m.put j v.F (rdAll gW v.F 0 1 (m.dc v) 18).1 = m' at *
          generalize (rdAll gW v.F 0 1 (m.dc v) 18).2.1 = R at *
          clear hC hR hoy hF h0 hx hR' g3 hRD hln hv hq hs HW
          go_wp2_with fail
          refine HRD.out.mono ?_
          rintro e w12 ⟨A12,c12,ss,rfl,hxs,ho12,hC12,hk12⟩
          have HC12:=Lib.hid hC12
          have HO12:=Lib.hid (HOY.out.types hk12 (by unfold DAT; decide) (by unfold DAT; decide) (by unfold DAT; decide) (by unfold DAT; decide))
          have hsl : ss.length = 18:=by have:=congrArg List.length hxs; rw [List.length_map,HLN.out] at this; exact this
          have hcap:=own_cap0 ho12.own
          have HSC : Hid (Calls Tryz.prog 40 #[.slice A12 ss.length c12,.int .u64 7] w12 fun e w'=>∃ A c l' y,e = .returned (.tuple #[.slice A l'.length c,.int .i64 y]) ∧ l'.map RS.r = S.l.take i ∧ RcsO w' w12.heap.size A c l' ∧ Below w12.heap.size w12 w'):=by
           have:=scan_any ss (ho12.sok (by rw [hxs]; exact HX.out)) 7 A12 c12 hcap.1 (by have:=hcap.2.1; unfold maxLen at this; omega) (by omega) w12 ho12.rd
           rw [hxs] at this
           refine this.mono ?_
           rintro e w' ⟨A,c,l',he,hl',ho',hb'⟩
           exact ⟨A,c,l',_,he,hl'.trans HG3.out,ho',hb'⟩
          clear hxs ho12 hC12 hk12 hsl hcap HRD e1
          go_wp2_with fail
          refine HSC.out.mono ?_
          rintro e w13 ⟨A13,c13,l',y13,rfl,hl',ho13,hb13⟩
          have hil : l'.length = i:=by have:=congrArg List.length hl'; rw [List.length_map,List.length_take] at this; omega
          have hyl2 : ys.length = S.l.length:=by have:=congrArg List.length HY.out; rw [List.length_map] at this; exact this
          have hC13:=HC12.out.below hb13
          have e3:=hC13.cell hlj HSS.out
          have d1 : decide ((l'.length : Int) < (s : Int)) = false:=decide_eq_false (by omega)
          have d1' : decide (l'.length < s) = false:=decide_eq_false (by omega)
          have d2 : decide ((ys.length : Int) < (l'.length : Int)) = false:=decide_eq_false (by omega)
          have d2' : decide (ys.length < l'.length) = false:=decide_eq_false (by omega)
          have h13 : l'.length ≤ cY:=by omega
          have hoy13:=HO12.out.below hb13
          have HSM : Hid (Calls Tryz.prog 27 #[.slice A13 l'.length c13,.slice AY l'.length cY] w13 fun e w'=>e = .returned (.bool true) ∧ Below w13.heap.size w13 w'):=by
           have hlen : (ys.take l'.length).length = l'.length:=by rw [List.length_take]; omega
           have:=sameall_any l' (ys.take l'.length) (by rw [hl',List.map_take,HY.out,hil]) (fun x hx=>(HS.out.ok.ok.t _ (List.mem_of_mem_take (by rw [← hl']; exact List.mem_map.2 ⟨x,hx,rfl⟩))).1) A13 AY c13 cY w13 ho13.rd (hoy13.rd.take _) (by omega)
           rw [hlen] at this
           exact this
          have HC13:=Lib.hid hC13
          have HO13:=Lib.hid hoy13
          clear hl' ho13 hb13 hil hyl2 hC13 hoy13 HSC g1 g2
          go_wp2_with fail
          refine HSM.out.mono ?_
          rintro e w14 ⟨rfl,hb14⟩
          have HD : Hid (∃ m,CS (w.alloc (.cells #[.int .u8 k0,.int .u8 k1,.int .u8 k2] 85)) w14 n w4.heap.size b pw V (.pointer (some ⟨pw,0,none⟩)) (.pointer (some ⟨rp,0,none⟩)) (.slice RA 3 rc) (some ⟨gp,0,none⟩) pc [q0,q1,q2] S m w6.heap.size sf ∧ RestM S sf m ∧ RcsO w14 0 AY cY ys):=⟨m',HC13.out.below hb14,HR'.out,HO13.out.below hb14⟩
          clear hb14 e3 d1 d1' d2 d2' h13 HSM
          go_wp2
          go_roundw
          case rel=>exact ⟨j + 1,hlj,by go_num,HD⟩
          case measure=>simp [intOf]; omega
         ·obtain rfl : j = 3:=by omega
          have HBE : Hid (Below w.heap.size w wr):=HB.out _ (by have:=hC.ws.bel; rw [hz0] at this; exact this)
          clear hC hR hoy
          go_wp2
          go_ret
          exact ⟨rfl,HBE.out⟩
set_option maxRecDepth 100000 in
theorem walCut_lifted (os : Os) (started : os.Started) (H : Type) (enc : TypeId × Value → H) :
  ReturnsInHanded {} Tryz.checked os 8 .any (Rows.walCutSpec.pre6 enc Tryz.prog Tryz.f8 Rows.walCutRow.domain false) (Rows.walCutSpec.post enc Tryz.prog Tryz.f8 false true false false):=by
 refine returnsInHanded_of_change (C:=Tryz.checked) own started (by kernel_rfl) Tryz.func8
  (ChangeSpec.witness6 (enc:=enc) (C:=Tryz.checked) false ⟨#[],#[.slice none 0 0,.int .u16 0,.int .u8 0,.agg #[.int .u8 0,.int .u8 0,.int .u8 0]],[]⟩ 8 (by kernel_rfl) (by kernel_rfl) (by kernel_rfl) (by kernel_rfl)) ?_
 intro W base args ds gs before hval0 hW hcnd _
 have hval : ∀ (j : Nat) t v,Tryz.f8.params[j]? = some t → args[j]? = some v → Value.okWide Tryz.prog W .any base t v:=hval0
 have hW':=hW
 obtain ⟨p,q,hA0,hV,rfl,hfz,hnd⟩:=hW
 have hA : DataW.TrodAll enc Tryz.prog W 0 (fun _=>true) true Tryz.f8.params.toList args.toList ds p:=hA0
 rw [Tryz.params8] at hA hval
 obtain ⟨v0,vs0,d0,ds0,p0,q0,hargs,rfl,rfl,h0,r0⟩:=trodAll_cons hA
 obtain ⟨v1,vs1,d1,ds1,p1,q1,rfl,rfl,rfl,h1,r1⟩:=trodAll_cons r0
 obtain ⟨v2,vs2,d2,ds2,p2,q2,rfl,rfl,rfl,h2,r2⟩:=trodAll_cons r1
 obtain ⟨v3,vs3,d3,ds3,p3,q3,rfl,rfl,rfl,h3,r3⟩:=trodAll_cons r2
 obtain ⟨rfl,rfl,rfl⟩:=trodAll_nil r3
 obtain rfl : args = #[v0,v1,v2,v3]:=by cases args; simp_all
 obtain ⟨rfl,rfl⟩:=trodVars_none hV
 have k0:=h0
 have lt0 : ∀ x ∈ p0,x.block < W.heap.size:=by obtain ⟨m,hm⟩:=k0; exact DataW.trod_lt m _ _ _ hm
 have k1:=h1
 have lt1 : ∀ x ∈ p1,x.block < W.heap.size:=by obtain ⟨m,hm⟩:=k1; exact DataW.trod_lt m _ _ _ hm
 have k2:=h2
 have lt2 : ∀ x ∈ p2,x.block < W.heap.size:=by obtain ⟨m,hm⟩:=k2; exact DataW.trod_lt m _ _ _ hm
 have k3:=h3
 have lt3 : ∀ x ∈ p3,x.block < W.heap.size:=by obtain ⟨m,hm⟩:=k3; exact DataW.trod_lt m _ _ _ hm
 obtain ⟨a0,n0,c0,rfl⟩:=Go.WideShapes.okWide_slice Tryz.underlying22 (hval 0 _ _ rfl rfl)
 obtain ⟨A0,l,c0',hl⟩ : ∃ A l c,RcsIn W (.slice a0 n0 c0) A l c:=by obtain ⟨fuel,hf⟩:=h0; exact open_recs hf
 obtain ⟨fl,rfl,_,_,_⟩:=open_int Tryz.underlying84 (hval 1 _ _ rfl rfl) h1
 obtain ⟨st,rfl,_,_,ws⟩:=open_int Tryz.underlying5 (hval 2 _ _ rfl rfl) h2
 obtain ⟨x0,x1,x2,rfl,hx⟩:=open_u83 (hval 3 _ _ rfl rfl) h3
 have hlv:=hl.val
 injection hlv with e1 e2 e3
 subst e1 e2 e3
 clear hA0 hval0
 refine (walCut_walk l _ _ fl st x0 x1 x2 W hl (u8_of ws) hx).mono fun e W' ⟨he,bel⟩=>?_
 subst he
 exact ⟨_,rfl,_,_,_,[],_,[],hW',trodAll_mk1 (shut_bool Tryz.underlying4 _),(trodAll_cons_mk (Below.trod laidOut (by kernel_rfl) (of_decide_eq_true (by kernel_rfl)) k0 bel lt0) (trodAll_cons_mk (Below.trod laidOut (by kernel_rfl) (of_decide_eq_true (by kernel_rfl)) k1 bel lt1) (trodAll_cons_mk (Below.trod laidOut (by kernel_rfl) (of_decide_eq_true (by kernel_rfl)) k2 bel lt2) (trodAll_cons_mk (Below.trod laidOut (by kernel_rfl) (of_decide_eq_true (by kernel_rfl)) k3 bel lt3) trodAll_mk0)))),rfl,bel.frame _,fun h=>by cases h⟩
theorem walCut_holds : Rows.WalCutSaid:=
 OpenClaim.holds_of_wide 8 Tryz.f8 rfl rfl rfl rfl rfl rfl rfl ⟨rfl,rfl,rfl,rfl,rfl⟩ rfl rfl rfl rfl rfl (by kernel_rfl) Tryz.func8 (by kernel_rfl)
  (of_decide_eq_true (by kernel_rfl)) (by unfold Func.isWrapper; first | (rw [if_pos (by decide +kernel)]; kernel_rfl) | (rw [if_neg (by decide +kernel)]; exact ⟨rfl,rfl⟩))
  (fun os started H enc _=>walCut_lifted os started H enc)
#print axioms walCut_holds
end Go.Proofs.YtaggiceejcegdaaGreat
