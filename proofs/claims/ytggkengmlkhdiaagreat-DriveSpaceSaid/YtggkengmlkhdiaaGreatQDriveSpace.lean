/-
  WHAT IS SHOWN: without faults a band is free after every act, the bands are valid, and their live entries are as many as the blocks that have an entry (DriveSpace), for any case. Conditions: none.
-/
import Derived.Test.YtggkengmlkhdiaaGreatM46
import Derived.BigQuiet
import Derived.ChangeKeysEq
import Derived.ChangeOld
import Derived.Deep.AppendLies
import Derived.Deep.DeepCutAuto
import Derived.Deep.Draws
import Derived.Deep.Fields
import Derived.Deep.QuietTactic
import Derived.Deep.RegionHeld3
import Derived.Deep.RegionLaw
import Derived.Deep.Slices
import Derived.Handy
import Derived.Laws.BytesArg
import Derived.Laws.Cover3
import Derived.Laws.MakeOwn
import Derived.Laws.OwnMore
import Derived.Laws.Rows
import Derived.Lib.ConvBytes
import Derived.Lib.Hide
import Derived.Lib.SmallJoins
import Derived.Lib.VarintBits
import Derived.Maps.Ext
import Derived.Maps.OwnOps
import Derived.Maps.OwnSet
import Derived.Maps.RangeWalk
import Derived.OpenShut
import Derived.ProofKit
import Derived.Shelf.SlSortCmp.NoneTotal
import Derived.StillTailTactics
import Derived.WalkKit
import Derived.WalkLawsBesides
import Derived.WalkSpells
import Derived.Test.YtggkengmlkhdiaaGreatES00
import Derived.Test.YtggkengmlkhdiaaGreatRows
namespace Go.Proofs.YtggkengmlkhdiaaGreat
set_option linter.unusedVariables false
open Go.ChangeShapes Go.WideShapes Go.ChangeAt Go.RowKit
theorem sumN_sumF (l : List V.BI) : V.sumN l = sumF lF l:=by
 induction l with
 | nil=>rfl
 | cons b l ih=>unfold sumF; rw [← ih]; unfold V.sumN lF; simp
theorem space_ok {g : Geo} {v : DV} (h : VOk g v) : V.liveN v.bs = ((v.es.countP hasE : Nat) : Int):=by
 rw [V.liveN_eq h.val (by have:=h.bz1; omega),sumN_sumF,live_all h]
theorem count_next {es : List NE} {m : Nat} (hm : m < es.length) : (es.take (m + 1)).countP hasE = (es.take m).countP hasE + (if hasE es[m] then 1 else 0):=by
 rw [List.take_succ_eq_append_getElem hm,List.countP_append]
 simp
set_option maxRecDepth 100000 in
set_option maxHeartbeats 16000000 in
theorem driveSpace_walk (g : Geo) (nb : Int) (A0 A1 : Option Addr) (F : List Flt) (acts : List Act20) (c0 c1 : Nat) (w : World) (hc : Case20In w g nb A0 A1 F acts) :
  Calls Tryz.prog 8 #[.agg #[.int .i64 g.random,.int .i64 g.bands,.int .i64 g.tracks,.int .i64 g.sectors,.int .i64 g.overlap,.int .i64 nb,.slice A0 F.length c0,.slice A1 acts.length c1]] w fun e w'=>e = .returned (.bool true) ∧ Below w.heap.size w w':=by
 have hO0 : (w.alloc (.cells #[.int .i64 g.random,.int .i64 g.bands,.int .i64 g.tracks,.int .i64 g.sectors,.int .i64 g.overlap,.int .i64 nb,.slice A0 F.length c0,.slice A1 acts.length c1] 46)).heap[w.heap.size]? = some (.cells #[.int .i64 g.random,.int .i64 g.bands,.int .i64 g.tracks,.int .i64 g.sectors,.int .i64 g.overlap,.int .i64 nb,.slice A0 F.length c0,.slice A1 acts.length c1] 46 (0,0)):=heap_alloc_new _ _
 obtain ⟨⟨x0,x1,x2,x3,x4,x5,x6,x7⟩,⟨_,_,_,_,_,_,y6,_⟩⟩:=cells8q hO0
 have HB1 : Hid (Below w.heap.size w (w.alloc (.cells #[.int .i64 g.random,.int .i64 g.bands,.int .i64 g.tracks,.int .i64 g.sectors,.int .i64 g.overlap,.int .i64 nb,.slice none 0 0,.slice A1 acts.length c1] 46))):=(Below.refl _ _).alloc (Nat.le_refl _) _
 have HO1 : Hid ((w.alloc (.cells #[.int .i64 g.random,.int .i64 g.bands,.int .i64 g.tracks,.int .i64 g.sectors,.int .i64 g.overlap,.int .i64 nb,.slice none 0 0,.slice A1 acts.length c1] 46)).heap[w.heap.size]? = some (.cells #[.int .i64 g.random,.int .i64 g.bands,.int .i64 g.tracks,.int .i64 g.sectors,.int .i64 g.overlap,.int .i64 nb,.slice none 0 0,.slice A1 acts.length c1] 46 (0,0))):=heap_alloc_new _ _
 have HFAW : Hid (∀ W,Calls Tryz.prog 22 #[.agg #[.int .i64 g.random,.int .i64 g.bands,.int .i64 g.tracks,.int .i64 g.sectors,.int .i64 g.overlap,.int .i64 nb,.slice none 0 0,.slice A1 acts.length c1]] W fun e w'=>e = .returned (.bool (fairB g nb [] acts.length)) ∧ Below W.heap.size W w'):=fun W=>fair_any g nb [] none A1 0 c1 acts.length W hc.a.n (Rd.nil_ _ _ _) (by simp)
 have HC:=Lib.hid hc
 have HC:=Lib.hid hc
 clear hc hO0
 go_enter Tryz.func8,Tryz.ntmps8
 go_upto_region 2 with fail
 generalize (w.alloc (.cells #[.int .i64 g.random,.int .i64 g.bands,.int .i64 g.tracks,.int .i64 g.sectors,.int .i64 g.overlap,.int .i64 nb,.slice none 0 0,.slice A1 acts.length c1] 46)) = w0 at *
 clear x0 x1 x2 x3 x4 x5 x6 x7 y6
 obtain ⟨⟨x0,x1,x2,x3,x4,x5,x6,x7⟩,_⟩:=cells8q HO1.out
 go_wp2_with fail
 refine (awake20_any _).mono ?_
 rintro e w2 ⟨rfl,hb2⟩
 have HB2 : Hid (Below w.heap.size w w2):=HB1.out.trans (hb2.mono HB1.out.size)
 have HO2:=Lib.hid (belObj hb2 HO1.out (lt_of_block HO1.out))
 clear hb2 x0 x1 x2 x3 x4 x5 x6 x7
 obtain ⟨⟨x0,x1,x2,x3,x4,x5,x6,x7⟩,_⟩:=cells8q HO2.out
 have HF2:=Lib.hid (HFAW.out w2)
 go_wp2_with fail
 refine HF2.out.mono ?_
 rintro e w3 ⟨rfl,hb3⟩
 have HB3 : Hid (Below w.heap.size w w3):=HB2.out.trans (hb3.mono HB2.out.size)
 have HO3:=Lib.hid (belObj hb3 HO2.out (lt_of_block HO2.out))
 clear hb3 x0 x1 x2 x3 x4 x5 x6 x7 HF2 HFAW
 obtain ⟨⟨x0,x1,x2,x3,x4,x5,x6,x7⟩,_⟩:=cells8q HO3.out
 cases hfr : fairB g nb [] acts.length
 ·clear hfr
  go_wp2_with fail
  refine (awake20_any _).mono ?_
  rintro e w4 ⟨rfl,hb4⟩
  have HB4 : Hid (Below w.heap.size w w4):=HB3.out.trans (hb4.mono HB3.out.size)
  clear hb4
  go_wp2
  go_ret
  exact ⟨rfl,HB4.out⟩
 ·have hfr2:=hfr
  unfold fairB at hfr2
  simp only [Bool.and_eq_true,decide_eq_true_eq] at hfr2
  obtain ⟨f1,f2,f3,f4,f5,f6⟩:=hfr2
  have hnb : ∃ n : Nat,nb = n:=by
   unfold possB at f3
   simp only [Bool.and_eq_true,decide_eq_true_eq] at f3
   exact ⟨nb.toNat,by omega⟩
  obtain ⟨n,rfl⟩:=hnb
  have HS : Hid (Small g n []):=⟨(validG_iff g).1 f1,f3,by simp,fun f hf=>absurd hf (by simp),rfl⟩
  have HAL : Hid (acts.length ≤ 80):=f4
  have HSZ120 : Hid (szN g ≤ 120):=f2
  clear hfr f1 f2 f3 f4 f5 f6
  have HS0 : Hid (Calls Tryz.prog 23 #[.agg #[.int .i64 g.random,.int .i64 g.bands,.int .i64 g.tracks,.int .i64 g.sectors,.int .i64 g.overlap,.int .i64 (n : Int),.slice none 0 0,.slice A1 acts.length c1]] w3 fun e w'=>(∃ r q pw,e = .returned (.tuple #[.pointer (some ⟨r,0,none⟩),.int .i64 0]) ∧ RigM w' w3.heap.size r q pw g [] n (R0 g [] n)) ∧ Below w3.heap.size w3 w'):=fine_start HS.out RunF.nil none A1 0 c1 acts.length w3 (Rd.nil_ _ _ _)
  have HLN : Hid (w.heap.size < w3.heap.size):=lt_of_block HO3.out
  go_wp2_with fail
  refine HS0.out.mono ?_
  rintro e w4 ⟨⟨r,q,pw,rfl,p,hha,hc4,fa,fc,hs,hr0⟩,hb4⟩
  have HB4 : Hid (Below w.heap.size w w4):=HB3.out.trans (hb4.mono (Nat.le_of_lt HLN.out))
  have HO4:=Lib.hid (belObj hb4 HO3.out HLN.out)
  have HSZ : Hid (w3.heap.size ≤ w4.heap.size):=hb4.size
  have HR0 : Hid (RigM w4 w3.heap.size r q pw g [] n (R0 g [] n)):=⟨p,hha,hc4,fa,fc,hs,hr0⟩
  have HI0 : Hid (Fine g n 0 (R0 g [] n) ∧ 1 ≤ V.freeN (R0 g [] n).S.v.bs):=(fine0 HS.out RunF.nil).2
  obtain ⟨z0,z1,z2,z3,z4,z5,z6⟩:=hr0.cells
  clear hr0 hb4 HS0 x0 x1 x2 x3 x4 x5 x6 x7
  generalize R0 g [] n = RI at *
  go_wp2
  clear z0 z1 z2 z3 z4 z5 z6
  generalize w3.heap.size = N at *
  go_loopw [5,6,7,8,9,10] (fun s5 _ _ _ _ _ wr=>∃ (j : Nat) (R : RG),j ≤ acts.length ∧ s5 = .int .i64 j ∧ Hid (RigM wr N r q pw g [] n R) ∧ Hid (Fine g n j R ∧ 1 ≤ V.freeN R.S.v.bs) ∧ Hid (Below N w4 wr)) (fun s5 _ _ _ _ _ _=>acts.length - (intOf s5).toNat)
  case atStart=>exact ⟨0,RI,Nat.zero_le _,rfl,HR0,HI0,Below.refl _ _⟩
  case round=>
   obtain ⟨j,R,hj,rfl,HRX,HIX,HBX⟩:=hrel
   have HOX:=Lib.hid (belObj HBX.out HO4.out HLN.out)
   obtain ⟨⟨x0,x1,x2,x3,x4,x5,x6,x7⟩,_⟩:=cells8q HOX.out
   have HBW : Hid (Below w.heap.size w wr):=HB4.out.trans (HBX.out.mono (Nat.le_of_lt HLN.out))
   by_cases hlt : j < acts.length
   ·have ha0:=List.getElem?_eq_getElem hlt
    have hai:=HC.out.a.ok acts[j] (List.getElem_mem hlt)
    generalize acts[j] = a at ha0 hai
    have HAI:=Lib.hid hai
    obtain ⟨ga,oa,hA,_,a0,a1,a2⟩:=acts20_at (HC.out.a.rd.below HBW.out (Nat.le_refl _)) ha0
    subst hA
    have d1 : decide ((j : Int) < (acts.length : Int)) = true:=decide_eq_true (by omega)
    have d2 : decide (j < acts.length) = true:=decide_eq_true hlt
    have hji : (j : Int) < (acts.length : Int):=by omega
    have HDO:=Lib.hid (do_any (kind:=a.kind) (blk:=a.blk) (data:=a.data) hai.kd.1 (by have:=hai.data; omega) (HIX.out.1.in_ HS.out (by have:=HAL.out; omega)) HRX.out)
    clear ha0 hai
    go_wp2_with fail
    refine HDO.out.mono ?_
    rintro e w5 ⟨R5,er5,hact,rfl,hr5,hk5⟩
    obtain ⟨he0,hf5,hfr5⟩:=HIX.out.1.act HS.out RunF.nil (by have:=HAL.out; omega) (by have:=HAI.out.data; simp only; omega) hact
    subst he0
    have HI5 : Hid (Fine g n (j + 1) R5 ∧ 1 ≤ V.freeN R5.S.v.bs):=⟨hf5,hfr5 HIX.out.2⟩
    have HZX : Hid (N ≤ wr.heap.size):=Nat.le_trans HSZ.out HBX.out.size
    have HB5 : Hid (Below N w4 w5):=HBX.out.trans (hk5.below HZX.out)
    have HR5:=Lib.hid hr5
    have HZ5 : Hid (N ≤ w5.heap.size):=Nat.le_trans HSZ.out HB5.out.size
    have HO5:=Lib.hid (belObj HB5.out HO4.out HLN.out)
    clear hact hr5 hk5 hf5 hfr5 HDO HRX HIX HBX HOX HBW HZX x0 x1 x2 x3 x4 x5 x6 x7 a0 a1 a2
    obtain ⟨⟨x0,x1,x2,x3,x4,x5,x6,x7⟩,_⟩:=cells8q HO5.out
    have HVK : Hid (VOk g R5.S.v):=(HI5.out.1.in_ HS.out (by have:=HAL.out; omega)).ok
    have HES : Hid (R5.S.v.es.length = n):=HI5.out.1.good.now.c.es
    obtain ⟨p5,ha5,hc5,fa5,fc5,hs5,hr5⟩:=HR5.out
    have H5:=Lib.hid hr5
    obtain ⟨z0,z1,z2,z3,z4,z5,z6⟩:=hr5.cells
    obtain ⟨ea,ec,BA,bc,hd⟩:=hr5.drv
    have HD:=Lib.hid hd
    have HIN:=Lib.hid (info20_any (by have:=HVK.out.len64; omega) hd)
    clear hr5 hd
    go_wp2_with fail
    refine HIN.out.mono ?_
    rintro e w6 ⟨IA,ic,rfl,hio,hb6⟩
    have HIO:=Lib.hid hio
    have HB6:=Lib.hid hb6
    have HO6:=Lib.hid (belObj hb6 HO5.out (lt_of_block HO5.out))
    have hr6:=H5.out.below0 hb6
    have H6:=Lib.hid hr6
    have HD6:=Lib.hid (HD.out.below0 hb6)
    clear hio hb6 HIN x0 x1 x2 x3 x4 x5 x6 x7 z0 z1 z2 z3 z4 z5 z6 hr6
    obtain ⟨⟨x0,x1,x2,x3,x4,x5,x6,x7⟩,_⟩:=cells8q HO6.out
    go_wp2
    have HBZ : Hid (∀ W,Calls Tryz.prog 29 #[.agg #[.int .i64 g.random,.int .i64 g.bands,.int .i64 g.tracks,.int .i64 g.sectors,.int .i64 g.overlap]] W fun e w'=>e = .returned (.int .i64 (bz g)) ∧ Below W.heap.size W w'):=fun W=>by
     have:=rbz_any g W; rw [bzN_valid HS.out.vg] at this; exact this
    have HRI : Hid (∀ W,Below w6.heap.size w6 W → Rd W W.heap.size IA (V.flat R5.S.v.bs)):=fun W hW=>((Rd.of_own HIO.out).below hW (Nat.le_refl _)).more hW.size
    have HLL:=Lib.hid HVK.out.len64
    have HRV : Hid (∀ W,Below w6.heap.size w6 W → Calls Tryz.prog 28 #[.slice IA R5.S.v.bs.length ic,.int .i64 (bz g)] W fun e w'=>e = .returned (.bool true) ∧ Below W.heap.size W w'):=fun W hW=>by
     have:=V.rvalid_any (bz g) R5.S.v.bs IA ic W (HRI.out W hW) (by have:=HLL.out; omega); rw [HVK.out.val] at this; exact this
    have HRL : Hid (∀ W,Below w6.heap.size w6 W → Calls Tryz.prog 30 #[.slice IA R5.S.v.bs.length ic] W fun e w'=>e = .returned (.int .i64 ((R5.S.v.es.countP hasE : Nat) : Int)) ∧ Below W.heap.size W w'):=fun W hW=>by
     have:=V.rlive_any R5.S.v.bs IA ic W (HRI.out W hW) (by have:=HLL.out; omega); rw [space_ok HVK.out] at this; exact this
    have HRF : Hid (∀ W,Below w6.heap.size w6 W → Calls Tryz.prog 31 #[.slice IA R5.S.v.bs.length ic] W fun e w'=>e = .returned (.int .i64 (V.freeN R5.S.v.bs)) ∧ Below W.heap.size W w'):=fun W hW=>V.rfree_any R5.S.v.bs IA ic W (HRI.out W hW) (by have:=HLL.out; omega)
    have HFN:=Lib.hid HI5.out.2
    have HLB:=Lib.hid HVK.out.len
    have HBG : Hid (Below w.heap.size w w6):=HB4.out.trans ((HB5.out.trans (HB6.out.mono HZ5.out)).mono (Nat.le_of_lt HLN.out))
    clear x0 x1 x2 x3 x4 x5 x6 x7
    go_loopw [7,8,9,10] (fun s7 s8 _ _ wr=>∃ (m k : Nat),m ≤ n ∧ s8 = .int .i64 m ∧ s7 = .int .i64 k ∧ Hid ((R5.S.v.es.take m).countP hasE = k) ∧ k ≤ m ∧ Hid (Below w6.heap.size w6 wr)) (fun _ s8 _ _ _=>n - (intOf s8).toNat)
    case atStart=>exact ⟨0,0,Nat.zero_le _,rfl,rfl,rfl,Nat.le_refl _,Below.refl _ _⟩
    case round=>
     obtain ⟨m,k,hm,rfl,rfl,HK,hkm,HBI⟩:=hrel
     have HOI:=Lib.hid (belObj HBI.out HO6.out (lt_of_block HO6.out))
     obtain ⟨⟨x0,x1,x2,x3,x4,x5,x6,x7⟩,_⟩:=cells8q HOI.out
     have HNN:=Lib.hid HS.out.nn.1.2
     by_cases hlm : m < n
     ·have hme0 : m < R5.S.v.es.length:=by rw [HES.out]; exact hlm
      have hme:=List.getElem?_eq_getElem hme0
      have hct:=count_next hme0
      rw [HK.out] at hct
      generalize R5.S.v.es[m] = en at hme hct
      have hmi : (m : Int) < (n : Int):=by omega
      have hve:=version20_any (m : Int) (HD6.out.below0 HBI.out)
      rw [verX_at hme] at hve
      obtain ⟨z0,z1,z2,z3,z4,z5,z6⟩:=(H6.out.below0 HBI.out).cells
      have hn6:=HNN.out
      by_cases h0 : 0 ≤ en.adr
      ·rw [if_pos h0] at hve
       rw [show hasE en = true from decide_eq_true h0,if_pos rfl] at hct
       have HVE:=Lib.hid hve
       have HCT:=Lib.hid hct
       clear hve hct hme h0 hme0
       go_wp2_with fail
       refine HVE.out.mono ?_
       rintro e w7 ⟨rfl,hb7⟩
       have HB7 : Hid (Below w6.heap.size w6 w7):=HBI.out.trans (hb7.mono HBI.out.size)
       clear hb7 HVE x0 x1 x2 x3 x4 x5 x6 x7 z0 z1 z2 z3 z4 z5 z6
       go_wp2
       go_roundw
       case rel=>exact ⟨m + 1,k + 1,by omega,by go_num,by go_num,HCT,by omega,HB7⟩
       case measure=>simp [intOf]; omega
      ·rw [if_neg h0] at hve
       rw [show hasE en = false from decide_eq_false h0,if_neg (by decide)] at hct
       have HVE:=Lib.hid hve
       have HCT:=Lib.hid hct
       clear hve hct hme h0 hme0
       go_wp2_with fail
       refine HVE.out.mono ?_
       rintro e w7 ⟨rfl,hb7⟩
       have HB7 : Hid (Below w6.heap.size w6 w7):=HBI.out.trans (hb7.mono HBI.out.size)
       clear hb7 HVE x0 x1 x2 x3 x4 x5 x6 x7 z0 z1 z2 z3 z4 z5 z6
       go_wp2
       go_roundw
       case rel=>exact ⟨m + 1,k,by omega,by go_num,rfl,HCT,by omega,HB7⟩
       case measure=>simp [intOf]; omega
     ·obtain rfl : m = n:=by omega
      have hk0:=HK.out
      rw [← HES.out,List.take_length] at hk0
      rw [hk0] at HRL
      have hfn:=HFN.out
      have hlb:=HLB.out
      have hal:=HAL.out
      generalize V.freeN R5.S.v.bs = FN at hfn HRF
      generalize R5.S.v.bs.length = BL at *
      clear hk0
      go_wp2_with fail
      refine (HBZ.out _).mono ?_
      rintro e w7 ⟨rfl,hb7⟩
      have HB7 : Hid (Below w6.heap.size w6 w7):=HBI.out.trans (hb7.mono HBI.out.size)
      have HO7:=Lib.hid (belObj hb7 HOI.out (lt_of_block HOI.out))
      clear hb7 x0 x1 x2 x3 x4 x5 x6 x7
      obtain ⟨⟨x0,x1,x2,x3,x4,x5,x6,x7⟩,_⟩:=cells8q HO7.out
      go_wp2_with fail
      refine (HRV.out _ HB7.out).mono ?_
      rintro e w8 ⟨rfl,hb8⟩
      have HB8 : Hid (Below w6.heap.size w6 w8):=HB7.out.trans (hb8.mono HB7.out.size)
      clear hb8 x0 x1 x2 x3 x4 x5 x6 x7
      go_wp2_with fail
      refine (HRL.out _ HB8.out).mono ?_
      rintro e w9 ⟨rfl,hb9⟩
      have HB9 : Hid (Below w6.heap.size w6 w9):=HB8.out.trans (hb9.mono HB8.out.size)
      clear hb9
      go_wp2_with fail
      refine (HRF.out _ HB9.out).mono ?_
      rintro e wa ⟨rfl,hba⟩
      have HBA : Hid (Below w6.heap.size w6 wa):=HB9.out.trans (hba.mono HB9.out.size)
      have HBN : Hid (Below N w4 wa):=HB5.out.trans ((HB6.out.trans (HBA.out.mono HB6.out.size)).mono HZ5.out)
      have HRN : Hid (RigM wa N r q pw g [] m R5):=⟨_,_,_,_,_,_,H6.out.below0 HBA.out⟩
      clear hba
      go_wp2
      go_roundw
      case rel=>exact ⟨j + 1,R5,hlt,by go_num,HRN,HI5,HBN⟩
      case measure=>simp [intOf]; omega
   ·obtain rfl : j = acts.length:=by omega
    have d1 : decide ((acts.length : Int) < (acts.length : Int)) = false:=decide_eq_false (by omega)
    have d2 : decide (acts.length < acts.length) = false:=decide_eq_false (by omega)
    go_wp2
    go_ret
    exact ⟨rfl,HBW.out⟩
set_option maxRecDepth 100000 in
theorem driveSpace_lifted (os : Os) (started : os.Started) (H : Type) (enc : TypeId × Value → H) :
  ReturnsInHanded {} Tryz.checked os 8 .any (Rows.driveSpaceSpec.pre6 enc Tryz.prog Tryz.f8 Rows.driveSpaceRow.domain false) (Rows.driveSpaceSpec.post enc Tryz.prog Tryz.f8 false true false false):=by
 refine returnsInHanded_of_change (C:=Tryz.checked) own started (by kernel_rfl) Tryz.func8
  (ChangeSpec.witness6 (enc:=enc) (C:=Tryz.checked) false ⟨#[],#[.agg #[.int .i64 0,.int .i64 0,.int .i64 0,.int .i64 0,.int .i64 0,.int .i64 0,.slice none 0 0,.slice none 0 0]],[]⟩ 8 (by kernel_rfl) (by kernel_rfl) (by kernel_rfl) (by kernel_rfl)) ?_
 intro W base args ds gs before hval0 hW hcnd _
 have hval : ∀ (j : Nat) t v,Tryz.f8.params[j]? = some t → args[j]? = some v → Value.okWide Tryz.prog W .any base t v:=hval0
 have hW':=hW
 obtain ⟨p,q,hA0,hV,rfl,hfz,hnd⟩:=hW
 have hA : DataW.TrodAll enc Tryz.prog W 0 (fun _=>true) true Tryz.f8.params.toList args.toList ds p:=hA0
 rw [Tryz.params8] at hA hval
 obtain ⟨v0,vs0,d0,ds0,p0,q0,hargs,rfl,rfl,h0,r0⟩:=trodAll_cons hA
 obtain ⟨rfl,rfl,rfl⟩:=trodAll_nil r0
 obtain rfl : args = #[v0]:=by cases args; simp_all
 obtain ⟨rfl,rfl⟩:=trodVars_none hV
 have k0:=h0
 have lt0 : ∀ x ∈ p0,x.block < W.heap.size:=by obtain ⟨m,hm⟩:=k0; exact DataW.trod_lt m _ _ _ hm
 obtain ⟨g,nb,A0,A1,F,acts,c0,c1,rfl,hc⟩:=open_case20 (hval 0 _ _ rfl rfl) h0
 clear hA0 hval0
 refine (driveSpace_walk g nb A0 A1 F acts c0 c1 W hc).mono fun e W' ⟨he,bel⟩=>?_
 subst he
 exact ⟨_,rfl,_,_,_,[],_,[],hW',trodAll_mk1 (shut_bool Tryz.underlying4 _),(trodAll_cons_mk (Below.trod laidOut (by kernel_rfl) (of_decide_eq_true (by kernel_rfl)) k0 bel lt0) trodAll_mk0),rfl,bel.frame _,fun h=>by cases h⟩
theorem driveSpace_holds : Rows.DriveSpaceSaid:=
 OpenClaim.holds_of_wide 8 Tryz.f8 rfl rfl rfl rfl rfl rfl rfl ⟨rfl,rfl,rfl,rfl,rfl⟩ rfl rfl rfl rfl rfl (by kernel_rfl) Tryz.func8 (by kernel_rfl)
  (of_decide_eq_true (by kernel_rfl)) (by unfold Func.isWrapper; first | (rw [if_pos (by decide +kernel)]; kernel_rfl) | (rw [if_neg (by decide +kernel)]; exact ⟨rfl,rfl⟩))
  (fun os started H enc _=>driveSpace_lifted os started H enc)
#print axioms driveSpace_holds
end Go.Proofs.YtggkengmlkhdiaaGreat
