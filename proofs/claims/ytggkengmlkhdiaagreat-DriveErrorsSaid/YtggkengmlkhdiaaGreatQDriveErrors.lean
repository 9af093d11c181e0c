/-
  WHAT IS SHOWN: a part of the proof of DriveErrors. Conditions: none.
-/
import Derived.Test.YtggkengmlkhdiaaGreatR46
import Derived.Test.YtggkengmlkhdiaaGreatEE00
import Derived.Test.YtggkengmlkhdiaaGreatRows
namespace Go.Proofs.YtggkengmlkhdiaaGreat
set_option linter.unusedVariables false
open Go.ChangeShapes Go.WideShapes Go.ChangeAt Go.RowKit
theorem ver_pre {g:Geo} {n c:Nat} {R:RG} (h:Fine g n c R) (b ver:Int):
  (0≤b∧b < n→preE R.S.v b ver=if ver=0∨ver < (verX R.S.v b).1 then 1 else 0)∧(¬ (0≤b∧b < n)→(verX R.S.v b).1=0∧preE R.S.v b ver=2):=by
 have hes:=h.hon.es
 have hf:=h.good.now.f0
 constructor
 ·rintro ⟨h0,h1⟩
  obtain ⟨k,rfl⟩:=Int.eq_ofNat_of_zero_le h0
  have hk:k < R.S.v.es.length:=by omega
  have he:=List.getElem?_eq_getElem hk
  generalize R.S.v.es[k]=e at he
  unfold preE
  rw [if_pos hf,if_pos ⟨by omega,by omega⟩,verX_at he,Int.toNat_natCast,getD_of he]
  by_cases ha:0≤e.adr
  ·rw [if_pos ha]
  ·rw [if_neg ha,h.good.now.c.nil k e he (by omega)]; rfl
 ·intro hb
  rw [verX_no (by rw [hes]; exact hb)]
  refine ⟨rfl,?_⟩
  unfold preE
  rw [if_pos hf,if_neg (by rw [hes]; exact hb)]
theorem poss_big {g:Geo} (hg:Vg g):possB g ((g.bands - 3) * bz g+1)=false:=by
 unfold possB
 rw [bzN_valid hg]
 rw [decide_eq_false (show ¬ (g.bands - 3) * bz g+1≤(g.bands - 3) * (g.tracks * g.sectors) by unfold bz; omega)]
 simp
theorem poss_zero {g:Geo}:possB g 0=false:=by
 unfold possB
 rw [decide_eq_false (show ¬ (1:Int)≤0 by omega)]
 rfl
set_option maxRecDepth 100000 in
set_option maxHeartbeats 16000000 in
theorem driveErrors_walk (g:Geo) (nb:Int) (A0 A1:Option Addr) (F:List Flt) (acts:List Act20) (block ver:Int) (hv0:0≤ver) (hv1:ver≤18446744073709551615) (c0 c1:Nat) (w:World) (hc:Case20In w g nb A0 A1 F acts):
  Calls Tryz.prog 10 #[.agg #[.int .i64 g.random,.int .i64 g.bands,.int .i64 g.tracks,.int .i64 g.sectors,.int .i64 g.overlap,.int .i64 nb,.slice A0 F.length c0,.slice A1 acts.length c1],.int .i64 block,.int .u64 ver] w fun e w'=>e= .returned (.bool true)∧Below w.heap.size w w':=by
 have HV0:=Lib.hid hv0
 have HV1:=Lib.hid hv1
 clear hv0 hv1
 have hO0:(w.alloc (.cells #[.int .i64 g.random,.int .i64 g.bands,.int .i64 g.tracks,.int .i64 g.sectors,.int .i64 g.overlap,.int .i64 nb,.slice A0 F.length c0,.slice A1 acts.length c1] 46)).heap[w.heap.size]?=some (.cells #[.int .i64 g.random,.int .i64 g.bands,.int .i64 g.tracks,.int .i64 g.sectors,.int .i64 g.overlap,.int .i64 nb,.slice A0 F.length c0,.slice A1 acts.length c1] 46 (0,0)):=heap_alloc_new _ _
 obtain ⟨⟨x0,x1,x2,x3,x4,x5,x6,x7⟩,⟨_,_,_,_,_,_,y6,_⟩⟩:=cells8q hO0
 have HB1:Hid (Below w.heap.size w (w.alloc (.cells #[.int .i64 g.random,.int .i64 g.bands,.int .i64 g.tracks,.int .i64 g.sectors,.int .i64 g.overlap,.int .i64 nb,.slice none 0 0,.slice A1 acts.length c1] 46))):=(Below.refl _ _).alloc (Nat.le_refl _) _
 have HO1:Hid ((w.alloc (.cells #[.int .i64 g.random,.int .i64 g.bands,.int .i64 g.tracks,.int .i64 g.sectors,.int .i64 g.overlap,.int .i64 nb,.slice none 0 0,.slice A1 acts.length c1] 46)).heap[w.heap.size]?=some (.cells #[.int .i64 g.random,.int .i64 g.bands,.int .i64 g.tracks,.int .i64 g.sectors,.int .i64 g.overlap,.int .i64 nb,.slice none 0 0,.slice A1 acts.length c1] 46 (0,0))):=heap_alloc_new _ _
 have HFAW:Hid (∀ W,Calls Tryz.prog 22 #[.agg #[.int .i64 g.random,.int .i64 g.bands,.int .i64 g.tracks,.int .i64 g.sectors,.int .i64 g.overlap,.int .i64 nb,.slice none 0 0,.slice A1 acts.length c1]] W fun e w'=>e= .returned (.bool (fairB g nb [] acts.length))∧Below W.heap.size W w'):=fun W=>fair_any g nb [] none A1 0 c1 acts.length W hc.a.n (Rd.nil_ _ _ _) (by simp)
 have HC:=Lib.hid hc
 have HC:=Lib.hid hc
 clear hc hO0
 go_enter Tryz.func10,Tryz.ntmps10
 go_upto_region 2 with fail
 generalize (w.alloc (.cells #[.int .i64 g.random,.int .i64 g.bands,.int .i64 g.tracks,.int .i64 g.sectors,.int .i64 g.overlap,.int .i64 nb,.slice none 0 0,.slice A1 acts.length c1] 46))=w0 at *
 clear x0 x1 x2 x3 x4 x5 x6 x7 y6
 obtain ⟨⟨x0,x1,x2,x3,x4,x5,x6,x7⟩,_⟩:=cells8q HO1.out
 go_wp2_with fail
 refine (awake20_any _).mono ?_
 rintro e w2 ⟨rfl,hb2⟩
 have HB2:Hid (Below w.heap.size w w2):=HB1.out.trans (hb2.mono HB1.out.size)
 have HO2:=Lib.hid (belObj hb2 HO1.out (lt_of_block HO1.out))
 clear hb2 x0 x1 x2 x3 x4 x5 x6 x7
 obtain ⟨⟨x0,x1,x2,x3,x4,x5,x6,x7⟩,_⟩:=cells8q HO2.out
 have HF2:=Lib.hid (HFAW.out w2)
 go_wp2_with fail
 refine HF2.out.mono ?_
 rintro e w3 ⟨rfl,hb3⟩
 have HB3:Hid (Below w.heap.size w w3):=HB2.out.trans (hb3.mono HB2.out.size)
 have HO3:=Lib.hid (belObj hb3 HO2.out (lt_of_block HO2.out))
 clear hb3 x0 x1 x2 x3 x4 x5 x6 x7 HF2 HFAW
 obtain ⟨⟨x0,x1,x2,x3,x4,x5,x6,x7⟩,_⟩:=cells8q HO3.out
 cases hfr:fairB g nb [] acts.length
 ·clear hfr
  go_wp2_with fail
  refine (awake20_any _).mono ?_
  rintro e w4 ⟨rfl,hb4⟩
  have HB4:Hid (Below w.heap.size w w4):=HB3.out.trans (hb4.mono HB3.out.size)
  clear hb4
  go_wp2
  go_ret
  exact ⟨rfl,HB4.out⟩
 ·have hfr2:=hfr
  unfold fairB at hfr2
  simp only [Bool.and_eq_true,decide_eq_true_eq] at hfr2
  obtain ⟨f1,f2,f3,f4,f5,f6⟩:=hfr2
  have hnb:∃ n:Nat,nb=n:=by
   unfold possB at f3
   simp only [Bool.and_eq_true,decide_eq_true_eq] at f3
   exact ⟨nb.toNat,by omega⟩
  obtain ⟨n,rfl⟩:=hnb
  have HS:Hid (Small g n []):=⟨(validG_iff g).1 f1,f3,by simp,fun f hf=>absurd hf (by simp),rfl⟩
  have HAL:Hid (acts.length≤80):=f4
  have HSZ120:Hid (szN g≤120):=f2
  clear hfr f1 f2 f3 f4 f5 f6
  have HS0:Hid (Calls Tryz.prog 23 #[.agg #[.int .i64 g.random,.int .i64 g.bands,.int .i64 g.tracks,.int .i64 g.sectors,.int .i64 g.overlap,.int .i64 (n:Int),.slice none 0 0,.slice A1 acts.length c1]] w3 fun e w'=>(∃ r q pw,e= .returned (.tuple #[.pointer (some ⟨r,0,none⟩),.int .i64 0])∧RigM w' w3.heap.size r q pw g [] n (R0 g [] n))∧Below w3.heap.size w3 w'):=fine_start HS.out RunF.nil none A1 0 c1 acts.length w3 (Rd.nil_ _ _ _)
  have HLN:Hid (w.heap.size < w3.heap.size):=lt_of_block HO3.out
  go_wp2_with fail
  refine HS0.out.mono ?_
  rintro e w4 ⟨⟨r,q,pw,rfl,p,hha,hc4,fa,fc,hs,hr0⟩,hb4⟩
  have HB4:Hid (Below w.heap.size w w4):=HB3.out.trans (hb4.mono (Nat.le_of_lt HLN.out))
  have HO4:=Lib.hid (belObj hb4 HO3.out HLN.out)
  have HSZ:Hid (w3.heap.size≤w4.heap.size):=hb4.size
  have HR0:Hid (RigM w4 w3.heap.size r q pw g [] n (R0 g [] n)):=⟨p,hha,hc4,fa,fc,hs,hr0⟩
  have HI0:Hid (Fine g n 0 (R0 g [] n)∧1≤V.freeN (R0 g [] n).S.v.bs):=(fine0 HS.out RunF.nil).2
  obtain ⟨z0,z1,z2,z3,z4,z5,z6⟩:=hr0.cells
  clear hr0 hb4 HS0 x0 x1 x2 x3 x4 x5 x6 x7
  generalize R0 g [] n=RI at *
  go_wp2
  clear z0 z1 z2 z3 z4 z5 z6
  generalize w3.heap.size=N at *
  go_loopw [9] (fun s9 wr=>∃ (j:Nat) (R:RG),j≤acts.length∧s9= .int .i64 j∧Hid (RigM wr N r q pw g [] n R)∧Hid (Fine g n j R∧1≤V.freeN R.S.v.bs)∧Hid (Below N w4 wr)) (fun s9 _=>acts.length - (intOf s9).toNat)
  case atStart=>exact ⟨0,RI,Nat.zero_le _,rfl,HR0,HI0,Below.refl _ _⟩
  case round=>
   obtain ⟨j,R,hj,rfl,HRX,HIX,HBX⟩:=hrel
   have HOX:=Lib.hid (belObj HBX.out HO4.out HLN.out)
   obtain ⟨⟨x0,x1,x2,x3,x4,x5,x6,x7⟩,_⟩:=cells8q HOX.out
   have HBW:Hid (Below w.heap.size w wr):=HB4.out.trans (HBX.out.mono (Nat.le_of_lt HLN.out))
   by_cases hlt:j < acts.length
   ·have ha0:=List.getElem?_eq_getElem hlt
    have hai:=HC.out.a.ok acts[j] (List.getElem_mem hlt)
    generalize acts[j]=a at ha0 hai
    have HAI:=Lib.hid hai
    obtain ⟨ga,oa,hA,_,a0,a1,a2⟩:=acts20_at (HC.out.a.rd.below HBW.out (Nat.le_refl _)) ha0
    subst hA
    have d1:decide ((j:Int) < (acts.length:Int))=true:=decide_eq_true (by omega)
    have d2:decide (j < acts.length)=true:=decide_eq_true hlt
    have hji:(j:Int) < (acts.length:Int):=by omega
    have HDO:=Lib.hid (do_any (kind:=a.kind) (blk:=a.blk) (data:=a.data) hai.kd.1 (by have:=hai.data; omega) (HIX.out.1.in_ HS.out (by have:=HAL.out; omega)) HRX.out)
    clear ha0 hai
    go_wp2_with fail
    refine HDO.out.mono ?_
    rintro e w5 ⟨R5,er5,hact,rfl,hr5,hk5⟩
    obtain ⟨he0,hf5,hfr5⟩:=HIX.out.1.act HS.out RunF.nil (by have:=HAL.out; omega) (by have:=HAI.out.data; simp only; omega) hact
    subst he0
    have HI5:Hid (Fine g n (j+1) R5∧1≤V.freeN R5.S.v.bs):=⟨hf5,hfr5 HIX.out.2⟩
    have HZX:Hid (N≤wr.heap.size):=Nat.le_trans HSZ.out HBX.out.size
    have HB5:Hid (Below N w4 w5):=HBX.out.trans (hk5.below HZX.out)
    have HR5:=Lib.hid hr5
    have HZ5:Hid (N≤w5.heap.size):=Nat.le_trans HSZ.out HB5.out.size
    have HO5:=Lib.hid (belObj HB5.out HO4.out HLN.out)
    clear hact hr5 hk5 hf5 hfr5 HDO HRX HIX HBX HOX HBW HZX x0 x1 x2 x3 x4 x5 x6 x7 a0 a1 a2
    obtain ⟨⟨x0,x1,x2,x3,x4,x5,x6,x7⟩,_⟩:=cells8q HO5.out
    have hal:=HAL.out
    go_wp2
    go_roundw
    case rel=>exact ⟨j+1,R5,hlt,by go_num,HR5,HI5,HB5⟩
    case measure=>simp [intOf]; omega
   ·obtain rfl:j=acts.length:=by omega
    have d1:decide ((acts.length:Int) < (acts.length:Int))=false:=decide_eq_false (by omega)
    have d2:decide (acts.length < acts.length)=false:=decide_eq_false (by omega)
    have HZX:Hid (N≤wr.heap.size):=Nat.le_trans HSZ.out HBX.out.size
    obtain ⟨p,ha5,hc5,fa5,fc5,hs5,hr5⟩:=HRX.out
    have HP5:Hid (RigP wr N r p q pw g [] n R):=⟨ha5,hc5,fa5,fc5,hs5,hr5⟩
    have z2:=HP5.out.c2
    have HVE:=Lib.hid (version_rig block HP5.out)
    have HPR:=Lib.hid (ver_pre HIX.out.1 block ver)
    have HUV:Hid (VOk g R.S.v∧R.S.d.U8∧R.S.d.O.length+1100≤99000∧R.S.v.failed=0∧R.S.v.es.length=n):=⟨HIX.out.1.hon.ok,HIX.out.1.hon.u8,by have:=HIX.out.1.hon.O; have:=HAL.out; omega,HIX.out.1.good.now.f0,HIX.out.1.hon.es⟩
    clear hr5
    go_wp2_with fail
    refine HVE.out.mono ?_
    rintro e w5 ⟨rfl,hb5⟩
    have HP6:=Lib.hid (HP5.out.below hb5)
    have HB5:Hid (Below N w4 w5):=HBX.out.trans (hb5.mono HZX.out)
    have HZ5:Hid (N≤w5.heap.size):=Nat.le_trans HSZ.out HB5.out.size
    have HO5:=Lib.hid (belObj HB5.out HO4.out HLN.out)
    clear hb5 z2 HVE HOX HBW x0 x1 x2 x3 x4 x5 x6 x7 HP5 HBX HZX HRX d1 d2
    obtain ⟨⟨x0,x1,x2,x3,x4,x5,x6,x7⟩,_⟩:=cells8q HO5.out
    generalize (verX R.S.v block).1=nv at *
    generalize (verX R.S.v block).2=nh at *
    have hcase:(∃ er:Int,Hid (er≠0)∧Hid (preE R.S.v block ver=er)∧((er=1∧decide (block < 0)=false∧decide ((n:Int)≤block)=false∧(ver=0∨((ver==0)=false∧decide (ver < nv)=true)))∨(er=2∧nv=0∧Hid (¬ (0≤block∧block < R.S.v.es.length))∧(decide (block < 0)=true∨(decide (block < 0)=false∧decide ((n:Int)≤block)=true))∧(ver=0∨((ver==0)=false∧decide (ver < 0)=false)))))∨(decide (block < 0)=false∧decide ((n:Int)≤block)=false∧(ver==0)=false∧decide (ver < nv)=false):=by
     have hv0:=HV0.out
     by_cases hb:0≤block∧block < n
     ·by_cases h1:ver=0∨ver < nv
      ·have:=HPR.out.1 hb
       rw [if_pos h1] at this
       refine .inl ⟨1,Lib.hid (by decide),this,.inl ⟨rfl,decide_eq_false (by omega),decide_eq_false (by omega),?_⟩⟩
       by_cases h2:ver=0
       ·exact .inl h2
       ·exact .inr ⟨by simpa using h2,decide_eq_true (by omega)⟩
      ·exact .inr ⟨decide_eq_false (by omega),decide_eq_false (by omega),by simp; omega,decide_eq_false (by omega)⟩
     ·have:=HPR.out.2 hb
      refine .inl ⟨2,Lib.hid (by decide),this.2,.inr ⟨rfl,this.1,by rw [HUV.out.2.2.2.2]; exact hb,?_,?_⟩⟩
      ·by_cases h2:block < 0
       ·exact .inl (decide_eq_true h2)
       ·exact .inr ⟨decide_eq_false h2,decide_eq_true (by omega)⟩
      ·by_cases h2:ver=0
       ·exact .inl h2
       ·exact .inr ⟨by simpa using h2,decide_eq_false (by omega)⟩
    have HIY:Hid (Fine g n acts.length R):=HIX.out.1
    have HAL8:=Lib.hid HAL.out
    clear HIX HAL HPR hj
    rcases hcase with ⟨er,HER,HPE,hcase⟩ | ⟨e1,e2,e3,e4⟩
    case' inr=>
     go_wp2
    case' inl=>
     rcases hcase with ⟨rfl,e1,e2,h | ⟨e3,e4⟩⟩ | ⟨rfl,rfl,HNB,e1 | ⟨e1,e2⟩,h | ⟨e3,e4⟩⟩
     all_goals try subst h
     all_goals try (
      have z2:=HP6.out.c2
      have HRE:=Lib.hid (read_range block HUV.out.2.2.2.1 HNB.out HUV.out.2.1 (by simp) HP6.out)
      go_wp2_with fail
      refine HRE.out.mono ?_
      rintro e w6 ⟨rfl,hp7,hk7⟩
      have hbb:Below w6.heap.size w6 (w6.alloc (.cells #[.int .u8 0,.int .u8 0,.int .u8 0,.int .u8 0,.int .u8 0,.int .u8 0,.int .u8 0,.int .u8 0] 27)):=(Below.refl _ _).alloc (Nat.le_refl _) _
      have HP7:=Lib.hid (hp7.below hbb)
      have HB7:Hid (Below N w4 (w6.alloc (.cells #[.int .u8 0,.int .u8 0,.int .u8 0,.int .u8 0,.int .u8 0,.int .u8 0,.int .u8 0,.int .u8 0] 27))):=HB5.out.trans ((hk7.below HZ5.out).trans (hbb.mono (Nat.le_trans HZ5.out (hk7.below HZ5.out).size)))
      clear hp7 hk7 hbb HRE z2 HP6
      go_upto_region 19 with fail
      generalize (w6.alloc (.cells #[.int .u8 0,.int .u8 0,.int .u8 0,.int .u8 0,.int .u8 0,.int .u8 0,.int .u8 0,.int .u8 0] 27))=w7 at *
      have HP6:=Lib.hid HP7.out
      clear HB5 HZ5
      have HB5:=Lib.hid HB7.out
      have HZ5:Hid (N≤w7.heap.size):=Nat.le_trans HSZ.out HB5.out.size
      clear HP7 HB7 HNB)
     all_goals
      have z2:=HP6.out.c2
      have HWR:=Lib.hid (write_bad block _ 1 _ (by omega) HV0.out HV1.out HPE.out HER.out HUV.out.1 HUV.out.2.1 (by simp) (by simp) HUV.out.2.2.1 HP6.out)
      go_wp2_with fail
      refine HWR.out.mono ?_
      rintro e w6 ⟨rfl,hp7,hk7⟩
      have HP7:=Lib.hid hp7
      have HB7:Hid (Below N w4 w6):=HB5.out.trans (hk7.below HZ5.out)
      have HZ7:Hid (N≤w6.heap.size):=Nat.le_trans HSZ.out HB7.out.size
      clear hp7 hk7 HWR z2 HP6 HB5 HZ5
      have z2:=HP7.out.c2
      have HTR:=Lib.hid (trim_bad block _ _ HV0.out HV1.out HPE.out HER.out HUV.out.1 HUV.out.2.1 (by simp) (by simp) HUV.out.2.2.1 HP7.out)
      go_wp2_with fail
      refine HTR.out.mono ?_
      rintro e w7 ⟨rfl,hp8,hk8⟩
      have HB8:Hid (Below N w4 w7):=HB7.out.trans (hk8.below HZ7.out)
      have HZ8:Hid (N≤w7.heap.size):=Nat.le_trans HSZ.out HB8.out.size
      have HAA:=Lib.hid (all_rig HS.out RunF.nil HIY.out (by have:=HAL8.out; omega) hp8)
      clear hp8 hk8 HTR z2 HP7 HB7 HZ7
      go_wp2_with fail
      refine HAA.out.mono ?_
      rintro e w5 ⟨rfl,⟨R,hpn,hfn⟩,hbn⟩
      have HP6:=Lib.hid hpn
      have HIY:=Lib.hid hfn
      have HB5:Hid (Below N w4 w5):=HB8.out.trans (hbn.below HZ8.out)
      have HZ5:Hid (N≤w5.heap.size):=Nat.le_trans HSZ.out HB5.out.size
      clear hpn hfn hbn HAA HB8 HZ8 HUV
      have HUV:Hid (VOk g R.S.v∧R.S.d.U8∧R.S.d.O.length+1100≤99000∧R.S.v.failed=0∧R.S.v.es.length=n):=⟨HIY.out.hon.ok,HIY.out.hon.u8,by have:=HIY.out.hon.O; have:=HAL8.out; omega,HIY.out.good.now.f0,HIY.out.hon.es⟩
      have HO5:=Lib.hid (belObj HB5.out HO4.out HLN.out)
      clear x0 x1 x2 x3 x4 x5 x6 x7
      obtain ⟨⟨x0,x1,x2,x3,x4,x5,x6,x7⟩,_⟩:=cells8q HO5.out
      go_wp2
    all_goals
     have z1:=HP6.out.c1
     have hrl:=block_lt_of_cell z1
     have hwl:=lt_of_block HO5.out
     have s0:=Held.cell x0 hwl; have s1:=Held.cell x1 hwl; have s2:=Held.cell x2 hwl; have s3:=Held.cell x3 hwl; have s4:=Held.cell x4 hwl
     have s5:=Held.cell z1 hrl
     have hbz:=HS.out.vg.bz
     have hb0:=HS.out.vg.b0
     have hb1:=HS.out.vg.b1
     have hsz:(g.bands - 3) * bz g≤65536∧ -3072≤(g.bands - 3) * bz g:=by
      have h1:=HS.out.vg.sz
      have h2:(g.bands - 3) * bz g=g.bands * (g.tracks * g.sectors) - 3 * (g.tracks * g.sectors):=by unfold bz; rw [Int.sub_mul]
      omega
     have hw0:IntKind.i64.wrap (g.bands - 3)=g.bands - 3:=by rw [IntKind.wrap_i64]; omega
     have hw1:IntKind.i64.wrap ((g.bands - 3) * bz g)=(g.bands - 3) * bz g:=by rw [IntKind.wrap_i64]; omega
     have hw2:IntKind.i64.wrap ((g.bands - 3) * bz g+1)=(g.bands - 3) * bz g+1:=by rw [IntKind.wrap_i64]; omega
     have HBZ:Hid (∀ W,Calls Tryz.prog 29 #[.agg #[.int .i64 g.random,.int .i64 g.bands,.int .i64 g.tracks,.int .i64 g.sectors,.int .i64 g.overlap]] W fun e w'=>e= .returned (.int .i64 (bz g))∧Below W.heap.size W w'):=fun W=>by
      have:=rbz_any g W; rw [bzN_valid HS.out.vg] at this; exact this
     have HNW:Hid (∀ W,Below w5.heap.size w5 W→Calls Tryz.prog 34 #[.pointer (some ⟨q,0,none⟩),.int .u64 0,.int .i64 ((g.bands - 3) * bz g+1)] W fun e w'=>e= .returned (.tuple #[.pointer none,.int .i64 1])∧Below W.heap.size W w'):=fun W hW=>newbad_rig _ HS.out.vg (poss_big HS.out.vg) (by simp) (by have:=HUV.out.2.2.1; omega) (HP6.out.below hW)
     clear x0 x1 x2 x3 x4 x5 x6 x7 z1 hbz hb0 hb1 hsz
     have hne:Nonempty (Held (Below w5.heap.size w5)):=⟨⟨_,(Held.drew_below (Nat.le_refl _))⟩⟩
     refine wp_region_heldq (S:=(Below w5.heap.size w5)) (by kernel_rfl) (by kernel_rfl) (Held.drew_below (Nat.le_refl _)) ?_
     repeat (go_big_quiet_step ((first | (go_at_call 29; exact Calls.held_below (Nat.le_refl _) (HBZ.out _)) | (go_at_call 34; exact Calls.held_below (Nat.le_refl _) (HNW.out _ (Held.h _))))))
     refine wpQuiet_nil ?_
     intro _ hw'
     obtain ⟨sq,hw''⟩:=hw'
     subst hw''
     clear hne
     have HB9:=Lib.hid (HB5.out.trans (sq.h.mono HZ5.out))
     have HP9:=Lib.hid (HP6.out.below sq.h)
     generalize sq.w=w9 at *
     have HZ9:Hid (N≤w9.heap.size):=Nat.le_trans HSZ.out HB9.out.size
     clear s0 s1 s2 s3 s4 s5 hw0 hw1 hw2 HBZ HNW HP6 HB5 HZ5 HO5
     have z1:=HP9.out.c1
     have HOP:=Lib.hid (openbad0_rig 0 HS.out.vg poss_zero (by simp) HUV.out.2.1 HP9.out)
     go_wp2_with fail
     refine HOP.out.mono ?_
     rintro e wa ⟨rfl,hba⟩
     have HPA:=Lib.hid (HP9.out.below hba)
     have HBA:=Lib.hid (HB9.out.trans (hba.mono HZ9.out))
     have HZA:Hid (N≤wa.heap.size):=Nat.le_trans HSZ.out HBA.out.size
     clear hba z1 HOP HP9 HB9 HZ9
     have HNN:=Lib.hid (nonew_any (w:=wa) 0 1)
     go_wp2_with fail
     refine HNN.out.mono ?_
     rintro e wb ⟨rfl,hbb⟩
     have HPB:=Lib.hid (HPA.out.below hbb)
     have HBB:=Lib.hid (HBA.out.trans (hbb.mono HZA.out))
     have HZB:Hid (N≤wb.heap.size):=Nat.le_trans HSZ.out HBB.out.size
     have HOB:=Lib.hid (belObj HBB.out HO4.out HLN.out)
     clear hbb HNN HPA HBA HZA
     obtain ⟨⟨x0,x1,x2,x3,x4,x5,x6,x7⟩,_⟩:=cells8q HOB.out
     go_wp2
     have HBL:=Lib.hid (blocks_rig (HPB.out.below ((Below.refl _ _).drew)))
     have HEN:=Lib.hid HUV.out.2.2.2.2
     have HAA:=Lib.hid (all_rig HS.out RunF.nil HIY.out (by have:=HAL8.out; omega) (HPB.out.below ((Below.refl _ _).drew)))
     obtain ⟨C,hC⟩:∃ C:List Value→World→Prop,C=fun h W=>match h with
      | []=>W=wb.drew
      | [v]=>v= .int .i64 n∧W=wb.drew
      | [_,u]=>u= .bool true∧(∃ R',RigP W N r p q pw g [] n R')∧KeptT DRT (Bd.of N) wb W
      | _=>False:=⟨_,rfl⟩
     have hall:∀ t:HeldC C,t.w.cell? ⟨r,2,none⟩=some (.pointer (some ⟨p,0,none⟩))∧t.w.cell? ⟨w.heap.size,5,none⟩=some (.int .i64 n):=fun t=>by
      obtain ⟨s,W,h⟩:=t
      simp only
      subst hC
      match s,h with
      | [],h=>
        have h':W=wb.drew:=h
        rw [h']
        exact ⟨(HPB.out.below ((Below.refl _ _).drew)).c2,x5⟩
      | [v],h=>
        rw [h.2]
        exact ⟨(HPB.out.below ((Below.refl _ _).drew)).c2,x5⟩
      | [v,u],h=>
        obtain ⟨_,⟨R',h2⟩,h3⟩:=h
        exact ⟨h2.c2,((h3.below HZB.out).cell (p:=⟨w.heap.size,5,none⟩) HLN.out).trans x5⟩
     have HC0:Hid (C [] wb.drew):=by subst hC; exact rfl
     have HK1:Hid (∀ W,C [] W→Calls Tryz.prog 17 #[.pointer (some ⟨p,0,none⟩)] W fun e w'=>∃ x,e= .returned x∧C ([]++[x]) w'):=by
      subst hC
      intro W hW
      have hW':W=wb.drew:=hW
      subst hW'
      refine HBL.out.mono ?_
      rintro e w' ⟨h1,h2⟩
      rw [HEN.out] at h1
      exact ⟨_,h1,rfl,h2⟩
     have HV1:Hid (∀ v W,C [v] W→v= .int .i64 n):=by subst hC; exact fun _ _ h=>h.1
     have HK2:Hid (∀ v W,C [v] W→Calls Tryz.prog 33 #[.pointer (some ⟨r,0,none⟩)] W fun e w'=>∃ x,e= .returned x∧C ([v]++[x]) w'):=by
      subst hC
      intro v W hW
      have hW':W=wb.drew:=hW.2
      subst hW'
      refine HAA.out.mono ?_
      rintro e w' ⟨h1,⟨R',h2,_⟩,h3⟩
      exact ⟨_,h1,rfl,⟨R',h2⟩,KeptT.trans (KeptT.bel ((Below.refl _ _).drew)) h3⟩
     have HV2:Hid (∀ v u W,C [v,u] W→u= .bool true):=by subst hC; exact fun _ _ _ h=>h.1
     have HFI:Hid (∀ v u W,C [v,u] W→Below w.heap.size w W):=by
      subst hC; exact fun _ _ W h=>HB4.out.trans ((HBB.out.trans (h.2.2.below HZB.out)).mono (Nat.le_of_lt HLN.out))
     have f2:∀ t:HeldC C,t.w.cell? ⟨r,2,none⟩=some (.pointer (some ⟨p,0,none⟩)):=fun t=>(hall t).1
     have f5:∀ t:HeldC C,t.w.cell? ⟨w.heap.size,5,none⟩=some (.int .i64 n):=fun t=>(hall t).2
     have hne:Nonempty (HeldC C):=⟨⟨[],_,HC0.out⟩⟩
     clear hC hall HBL HAA x0 x1 x2 x3 x4 x5 x6 x7
     refine wp_region_chain C [15,22] [22,21,20,19,18,15] (by kernel_rfl) (by kernel_rfl) (by kernel_rfl) (by kernel_rfl) HC0.out ?_
     repeat (refine wpCh_n (by rfl) (by rfl) ?_; go_big_quiet_step (fail); refine wpQuiet_nil ?_)
     refine wpCh_l (f:=17) (args:=#[.pointer (some ⟨p,0,none⟩)]) (by rfl) (by rfl) (fun W=>by simp [go_sem]) (fun W hW=>HK1.out W hW) (fun v W hW=>?_)
     obtain rfl:=HV1.out v W hW
     go_big_quiet_step (fail)
     refine wpQuiet_nil ?_
     repeat (refine wpCh_n (by rfl) (by rfl) ?_; go_big_quiet_step (fail); refine wpQuiet_nil ?_)
     refine wpCh_l (f:=33) (args:=#[.pointer (some ⟨r,0,none⟩)]) (by rfl) (by rfl) (fun W=>by simp [go_sem]) (fun W hW=>HK2.out _ W hW) (fun u W hW=>?_)
     obtain rfl:=HV2.out _ u W hW
     go_big_quiet_step (fail)
     refine wpQuiet_nil ?_
     repeat (refine wpCh_n (by rfl) (by rfl) ?_; go_big_quiet_step (fail); refine wpQuiet_nil ?_)
     refine wpCh_nil ?_
     intro wc hcw
     have HD:=Lib.hid (HFI.out _ _ wc hcw)
     clear hcw HK1 HV1 HK2 HV2 HFI HC0 f2 f5 hne
     go_wp2
     go_ret
     exact ⟨rfl,HD.out⟩
set_option maxRecDepth 100000 in
theorem driveErrors_lifted (os:Os) (started:os.Started) (H:Type) (enc:TypeId × Value→H):
  ReturnsInHanded {} Tryz.checked os 10 .any (Rows.driveErrorsSpec.pre6 enc Tryz.prog Tryz.f10 Rows.driveErrorsRow.domain false) (Rows.driveErrorsSpec.post enc Tryz.prog Tryz.f10 false true false false):=by
 refine returnsInHanded_of_change (C:=Tryz.checked) own started (by kernel_rfl) Tryz.func10
  (ChangeSpec.witness6 (enc:=enc) (C:=Tryz.checked) false ⟨#[],#[.agg #[.int .i64 0,.int .i64 0,.int .i64 0,.int .i64 0,.int .i64 0,.int .i64 0,.slice none 0 0,.slice none 0 0],.int .i64 0,.int .u64 0],[]⟩ 8 (by kernel_rfl) (by kernel_rfl) (by kernel_rfl) (by kernel_rfl)) ?_
 intro W base args ds gs before hval0 hW hcnd _
 have hval:∀ (j:Nat) t v,Tryz.f10.params[j]?=some t→args[j]?=some v→Value.okWide Tryz.prog W .any base t v:=hval0
 have hW':=hW
 obtain ⟨p,q,hA0,hV,rfl,hfz,hnd⟩:=hW
 have hA:DataW.TrodAll enc Tryz.prog W 0 (fun _=>true) true Tryz.f10.params.toList args.toList ds p:=hA0
 rw [Tryz.params10] at hA hval
 obtain ⟨v0,vs0,d0,ds0,p0,q0,hargs,rfl,rfl,h0,r0⟩:=trodAll_cons hA
 obtain ⟨v1,vs1,d1,ds1,p1,q1,rfl,rfl,rfl,h1,r1⟩:=trodAll_cons r0
 obtain ⟨v2,vs2,d2,ds2,p2,q2,rfl,rfl,rfl,h2,r2⟩:=trodAll_cons r1
 obtain ⟨rfl,rfl,rfl⟩:=trodAll_nil r2
 obtain rfl:args=#[v0,v1,v2]:=by cases args; simp_all
 obtain ⟨rfl,rfl⟩:=trodVars_none hV
 have k0:=h0
 have lt0:∀ x∈p0,x.block < W.heap.size:=by obtain ⟨m,hm⟩:=k0; exact DataW.trod_lt m _ _ _ hm
 have k1:=h1
 have lt1:∀ x∈p1,x.block < W.heap.size:=by obtain ⟨m,hm⟩:=k1; exact DataW.trod_lt m _ _ _ hm
 have k2:=h2
 have lt2:∀ x∈p2,x.block < W.heap.size:=by obtain ⟨m,hm⟩:=k2; exact DataW.trod_lt m _ _ _ hm
 obtain ⟨g,nb,A0,A1,F,acts,c0,c1,rfl,hc⟩:=open_case20 (hval 0 _ _ rfl rfl) h0
 obtain ⟨block,rfl,_,_,_⟩:=open_int Tryz.underlying3 (hval 1 _ _ rfl rfl) h1
 obtain ⟨ver,rfl,_,_,wv⟩:=open_int Tryz.underlying23 (hval 2 _ _ rfl rfl) h2
 clear hA0 hval0
 refine (driveErrors_walk g nb A0 A1 F acts block ver (u64_of wv).1 (u64_of wv).2 c0 c1 W hc).mono fun e W' ⟨he,bel⟩=>?_
 subst he
 exact ⟨_,rfl,_,_,_,[],_,[],hW',trodAll_mk1 (shut_bool Tryz.underlying4 _),(trodAll_cons_mk (Below.trod laidOut (by kernel_rfl) (of_decide_eq_true (by kernel_rfl)) k0 bel lt0) (trodAll_cons_mk (Below.trod laidOut (by kernel_rfl) (of_decide_eq_true (by kernel_rfl)) k1 bel lt1) (trodAll_cons_mk (Below.trod laidOut (by kernel_rfl) (of_decide_eq_true (by kernel_rfl)) k2 bel lt2) trodAll_mk0))),rfl,bel.frame _,fun h=>by cases h⟩
theorem driveErrors_holds:Rows.DriveErrorsSaid:=
 OpenClaim.holds_of_wide 10 Tryz.f10 rfl rfl rfl rfl rfl rfl rfl ⟨rfl,rfl,rfl,rfl,rfl⟩ rfl rfl rfl rfl rfl (by kernel_rfl) Tryz.func10 (by kernel_rfl)
  (of_decide_eq_true (by kernel_rfl)) (by unfold Func.isWrapper; first | (rw [if_pos (by decide+kernel)]; kernel_rfl) | (rw [if_neg (by decide+kernel)]; exact ⟨rfl,rfl⟩))
  (fun os started H enc _=>driveErrors_lifted os started H enc)
#print axioms driveErrors_holds
end Go.Proofs.YtggkengmlkhdiaaGreat
