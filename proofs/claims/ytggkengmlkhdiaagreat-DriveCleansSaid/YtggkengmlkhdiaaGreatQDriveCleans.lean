/-
  WHAT IS SHOWN: DriveCleans and what it needs. Conditions: none.
-/
import Derived.Test.YtggkengmlkhdiaaGreatM46
import Derived.Test.YtggkengmlkhdiaaGreatEC00
import Derived.Test.YtggkengmlkhdiaaGreatRows
namespace Go.Proofs.YtggkengmlkhdiaaGreat
set_option linter.unusedVariables false
open Go.ChangeShapes Go.WideShapes Go.ChangeAt Go.RowKit
theorem Fine.clean {g : Geo} {n c : Nat} {R : RG} (hS : Small g n []) (h : Fine g n c R) (hc : c ≤ 1000) (hf : 1 ≤ V.freeN R.S.v.bs) (hO : R.S.d.O.length ≤ 82160) {S' : ST} {m e : Int} (hr : CleanMR g [] 0 R.S (S',m,e)) :
  Fine g n (c + 1) { R with S:=S' } ∧ 1 ≤ V.freeN S'.v.bs ∧ S'.d.O.length ≤ 82160 ∧
   ((e = 9 ∧ ∀ (k : Nat) (hk : k < S'.v.bs.length),(k : Int) ≠ V.openB S'.v.bs (bz g) → S'.v.bs[k].used ≠ 0 → S'.v.bs[k].live = bz g) ∨
     (e = 0 ∧ 0 ≤ m ∧ m < bz g ∧ meaB (bz g) S'.v.bs < meaB (bz g) R.S.v.bs)):=by
 have hn:=hS.nn
 have hact : ActR g [] n ⟨2,0,0⟩ R { R with S:=S' } (if e = 9 then 0 else e):=by
  unfold ActR
  rw [if_pos ⟨by show (0 : Int) ≤ 0; omega,by show (0 : Int) < n; omega⟩]
  exact .inr (.inr (.inl ⟨rfl,S',m,e,hr,rfl,rfl⟩))
 obtain ⟨he,hF,hfr⟩:=h.act hS RunF.nil hc ⟨by show (0 : Int) ≤ 0; omega,by show (0 : Int) < 256; omega⟩ hact
 have hg:=h.good
 have htm : R.S.v.time < 18446744073500000000:=by have:=hg.tm; omega
 refine ⟨hF,hfr hf,?_⟩
 rcases cleanMR_on RunF.nil hg.now hg.snap hg.flok hg.room htm hr with ⟨⟨h1,h2,h3⟩ | ⟨h1,h2,h3,_,h5⟩,_⟩ | ⟨h1,h2⟩
 ·simp only at h1 h2
  subst h2
  exact ⟨hO,.inl ⟨h1,victim_none hg.now.c.ok hf h3⟩⟩
 ·simp only at h1 h2 h3 h5
  subst h1
  refine ⟨?_,.inr ⟨rfl,h2,h3,h5⟩⟩
  unfold CleanMR at hr
  rw [if_pos hg.now.f0] at hr
  split at hr
  ·rename_i hv
   obtain ⟨k,hk1,hvi⟩:=victim_told hg.now.c.ok hv
   rw [hk1] at hr
   have:=(clean_told hg.now.c.ok hvi.hk hr).1.O1
   omega
  ·have h6:=congrArg Prod.fst hr
   simp only at h6
   subst h6
   exact hO
 ·have:=h2.armed; rw [h.un] at this; cases this
set_option maxRecDepth 100000 in
set_option maxHeartbeats 16000000 in
theorem driveCleans_walk (g : Geo) (nb : Int) (A0 A1 : Option Addr) (F : List Flt) (acts : List Act20) (c0 c1 : Nat) (w : World) (hc : Case20In w g nb A0 A1 F acts) :
  Calls Tryz.prog 9 #[.agg #[.int .i64 g.random,.int .i64 g.bands,.int .i64 g.tracks,.int .i64 g.sectors,.int .i64 g.overlap,.int .i64 nb,.slice A0 F.length c0,.slice A1 acts.length c1]] w fun e w'=>e = .returned (.bool true) ∧ Below w.heap.size w w':=by
 have hO0 : (w.alloc (.cells #[.int .i64 g.random,.int .i64 g.bands,.int .i64 g.tracks,.int .i64 g.sectors,.int .i64 g.overlap,.int .i64 nb,.slice A0 F.length c0,.slice A1 acts.length c1] 46)).heap[w.heap.size]? = some (.cells #[.int .i64 g.random,.int .i64 g.bands,.int .i64 g.tracks,.int .i64 g.sectors,.int .i64 g.overlap,.int .i64 nb,.slice A0 F.length c0,.slice A1 acts.length c1] 46 (0,0)):=heap_alloc_new _ _
 obtain ⟨⟨x0,x1,x2,x3,x4,x5,x6,x7⟩,⟨_,_,_,_,_,_,y6,_⟩⟩:=cells8q hO0
 have HB1 : Hid (Below w.heap.size w (w.alloc (.cells #[.int .i64 g.random,.int .i64 g.bands,.int .i64 g.tracks,.int .i64 g.sectors,.int .i64 g.overlap,.int .i64 nb,.slice none 0 0,.slice A1 acts.length c1] 46))):=(Below.refl _ _).alloc (Nat.le_refl _) _
 have HO1 : Hid ((w.alloc (.cells #[.int .i64 g.random,.int .i64 g.bands,.int .i64 g.tracks,.int .i64 g.sectors,.int .i64 g.overlap,.int .i64 nb,.slice none 0 0,.slice A1 acts.length c1] 46)).heap[w.heap.size]? = some (.cells #[.int .i64 g.random,.int .i64 g.bands,.int .i64 g.tracks,.int .i64 g.sectors,.int .i64 g.overlap,.int .i64 nb,.slice none 0 0,.slice A1 acts.length c1] 46 (0,0))):=heap_alloc_new _ _
 have HFAW : Hid (∀ W,Calls Tryz.prog 22 #[.agg #[.int .i64 g.random,.int .i64 g.bands,.int .i64 g.tracks,.int .i64 g.sectors,.int .i64 g.overlap,.int .i64 nb,.slice none 0 0,.slice A1 acts.length c1]] W fun e w'=>e = .returned (.bool (fairB g nb [] acts.length)) ∧ Below W.heap.size W w'):=fun W=>fair_any g nb [] none A1 0 c1 acts.length W hc.a.n (Rd.nil_ _ _ _) (by simp)
 have HC:=Lib.hid hc
 have HC:=Lib.hid hc
 clear hc hO0
 go_enter Tryz.func9,Tryz.ntmps9
 go_upto_region 2 with fail
 generalize (w.alloc (.cells #[.int .i64 g.random,.int .i64 g.bands,.int .i64 g.tracks,.int .i64 g.sectors,.int .i64 g.overlap,.int .i64 nb,.slice none 0 0,.slice A1 acts.length c1] 46)) = w0 at *
 clear x0 x1 x2 x3 x4 x5 x6 x7 y6
 obtain ⟨⟨x0,x1,x2,x3,x4,x5,x6,x7⟩,_⟩:=cells8q HO1.out
 go_wp2_with fail
 refine (awake20_any _).mono ?_
 rintro e w2 ⟨rfl,hb2⟩
 have HB2 : Hid (Below w.heap.size w w2):=HB1.out.trans (hb2.mono HB1.out.size)
 have HO2:=Lib.hid (belObj hb2 HO1.out (lt_of_block HO1.out))
 clear hb2 x0 x1 x2 x3 x4 x5 x6 x7
 obtain ⟨⟨x0,x1,x2,x3,x4,x5,x6,x7⟩,_⟩:=cells8q HO2.out
 have HF2:=Lib.hid (HFAW.out w2)
 go_wp2_with fail
 refine HF2.out.mono ?_
 rintro e w3 ⟨rfl,hb3⟩
 have HB3 : Hid (Below w.heap.size w w3):=HB2.out.trans (hb3.mono HB2.out.size)
 have HO3:=Lib.hid (belObj hb3 HO2.out (lt_of_block HO2.out))
 clear hb3 x0 x1 x2 x3 x4 x5 x6 x7 HF2 HFAW
 obtain ⟨⟨x0,x1,x2,x3,x4,x5,x6,x7⟩,_⟩:=cells8q HO3.out
 cases hfr : fairB g nb [] acts.length
 ·clear hfr
  go_wp2_with fail
  refine (awake20_any _).mono ?_
  rintro e w4 ⟨rfl,hb4⟩
  have HB4 : Hid (Below w.heap.size w w4):=HB3.out.trans (hb4.mono HB3.out.size)
  clear hb4
  go_wp2
  go_ret
  exact ⟨rfl,HB4.out⟩
 ·have hfr2:=hfr
  unfold fairB at hfr2
  simp only [Bool.and_eq_true,decide_eq_true_eq] at hfr2
  obtain ⟨f1,f2,f3,f4,f5,f6⟩:=hfr2
  have hnb : ∃ n : Nat,nb = n:=by
   unfold possB at f3
   simp only [Bool.and_eq_true,decide_eq_true_eq] at f3
   exact ⟨nb.toNat,by omega⟩
  obtain ⟨n,rfl⟩:=hnb
  have HS : Hid (Small g n []):=⟨(validG_iff g).1 f1,f3,by simp,fun f hf=>absurd hf (by simp),rfl⟩
  have HAL : Hid (acts.length ≤ 80):=f4
  have HSZ120 : Hid (szN g ≤ 120):=f2
  clear hfr f1 f2 f3 f4 f5 f6
  have HS0 : Hid (Calls Tryz.prog 23 #[.agg #[.int .i64 g.random,.int .i64 g.bands,.int .i64 g.tracks,.int .i64 g.sectors,.int .i64 g.overlap,.int .i64 (n : Int),.slice none 0 0,.slice A1 acts.length c1]] w3 fun e w'=>(∃ r q pw,e = .returned (.tuple #[.pointer (some ⟨r,0,none⟩),.int .i64 0]) ∧ RigM w' w3.heap.size r q pw g [] n (R0 g [] n)) ∧ Below w3.heap.size w3 w'):=fine_start HS.out RunF.nil none A1 0 c1 acts.length w3 (Rd.nil_ _ _ _)
  have HLN : Hid (w.heap.size < w3.heap.size):=lt_of_block HO3.out
  go_wp2_with fail
  refine HS0.out.mono ?_
  rintro e w4 ⟨⟨r,q,pw,rfl,p,hha,hc4,fa,fc,hs,hr0⟩,hb4⟩
  have HB4 : Hid (Below w.heap.size w w4):=HB3.out.trans (hb4.mono (Nat.le_of_lt HLN.out))
  have HO4:=Lib.hid (belObj hb4 HO3.out HLN.out)
  have HSZ : Hid (w3.heap.size ≤ w4.heap.size):=hb4.size
  have HR0 : Hid (RigM w4 w3.heap.size r q pw g [] n (R0 g [] n)):=⟨p,hha,hc4,fa,fc,hs,hr0⟩
  have HI0 : Hid (Fine g n 0 (R0 g [] n) ∧ 1 ≤ V.freeN (R0 g [] n).S.v.bs):=(fine0 HS.out RunF.nil).2
  obtain ⟨z0,z1,z2,z3,z4,z5,z6⟩:=hr0.cells
  clear hr0 hb4 HS0 x0 x1 x2 x3 x4 x5 x6 x7
  generalize R0 g [] n = RI at *
  go_wp2
  clear z0 z1 z2 z3 z4 z5 z6
  generalize w3.heap.size = N at *
  go_loopw [5] (fun s5 wr=>∃ (j : Nat) (R : RG),j ≤ acts.length ∧ s5 = .int .i64 j ∧ Hid (RigM wr N r q pw g [] n R) ∧ Hid (Fine g n j R ∧ 1 ≤ V.freeN R.S.v.bs) ∧ Hid (Below N w4 wr)) (fun s5 _=>acts.length - (intOf s5).toNat)
  case atStart=>exact ⟨0,RI,Nat.zero_le _,rfl,HR0,HI0,Below.refl _ _⟩
  case round=>
   obtain ⟨j,R,hj,rfl,HRX,HIX,HBX⟩:=hrel
   have HOX:=Lib.hid (belObj HBX.out HO4.out HLN.out)
   obtain ⟨⟨x0,x1,x2,x3,x4,x5,x6,x7⟩,_⟩:=cells8q HOX.out
   have HBW : Hid (Below w.heap.size w wr):=HB4.out.trans (HBX.out.mono (Nat.le_of_lt HLN.out))
   by_cases hlt : j < acts.length
   ·have ha0:=List.getElem?_eq_getElem hlt
    have hai:=HC.out.a.ok acts[j] (List.getElem_mem hlt)
    generalize acts[j] = a at ha0 hai
    have HAI:=Lib.hid hai
    obtain ⟨ga,oa,hA,_,a0,a1,a2⟩:=acts20_at (HC.out.a.rd.below HBW.out (Nat.le_refl _)) ha0
    subst hA
    have d1 : decide ((j : Int) < (acts.length : Int)) = true:=decide_eq_true (by omega)
    have d2 : decide (j < acts.length) = true:=decide_eq_true hlt
    have hji : (j : Int) < (acts.length : Int):=by omega
    have HDO:=Lib.hid (do_any (kind:=a.kind) (blk:=a.blk) (data:=a.data) hai.kd.1 (by have:=hai.data; omega) (HIX.out.1.in_ HS.out (by have:=HAL.out; omega)) HRX.out)
    clear ha0 hai
    go_wp2_with fail
    refine HDO.out.mono ?_
    rintro e w5 ⟨R5,er5,hact,rfl,hr5,hk5⟩
    obtain ⟨he0,hf5,hfr5⟩:=HIX.out.1.act HS.out RunF.nil (by have:=HAL.out; omega) (by have:=HAI.out.data; simp only; omega) hact
    subst he0
    have HI5 : Hid (Fine g n (j + 1) R5 ∧ 1 ≤ V.freeN R5.S.v.bs):=⟨hf5,hfr5 HIX.out.2⟩
    have HZX : Hid (N ≤ wr.heap.size):=Nat.le_trans HSZ.out HBX.out.size
    have HB5 : Hid (Below N w4 w5):=HBX.out.trans (hk5.below HZX.out)
    have HR5:=Lib.hid hr5
    have HZ5 : Hid (N ≤ w5.heap.size):=Nat.le_trans HSZ.out HB5.out.size
    have HO5:=Lib.hid (belObj HB5.out HO4.out HLN.out)
    clear hact hr5 hk5 hf5 hfr5 HDO HRX HIX HBX HOX HBW HZX x0 x1 x2 x3 x4 x5 x6 x7 a0 a1 a2
    obtain ⟨⟨x0,x1,x2,x3,x4,x5,x6,x7⟩,_⟩:=cells8q HO5.out
    have hal:=HAL.out
    go_wp2
    go_roundw
    case rel=>exact ⟨j + 1,R5,hlt,by go_num,HR5,HI5,HB5⟩
    case measure=>simp [intOf]; omega
   ·obtain rfl : j = acts.length:=by omega
    have d1 : decide ((acts.length : Int) < (acts.length : Int)) = false:=decide_eq_false (by omega)
    have d2 : decide (acts.length < acts.length) = false:=decide_eq_false (by omega)
    have HBZ : Hid (∀ W,Calls Tryz.prog 29 #[.agg #[.int .i64 g.random,.int .i64 g.bands,.int .i64 g.tracks,.int .i64 g.sectors,.int .i64 g.overlap]] W fun e w'=>e = .returned (.int .i64 (bz g)) ∧ Below W.heap.size W w'):=fun W=>by
     have:=rbz_any g W; rw [bzN_valid HS.out.vg] at this; exact this
    have HZX : Hid (N ≤ wr.heap.size):=Nat.le_trans HSZ.out HBX.out.size
    go_wp2_with fail
    refine (HBZ.out _).mono ?_
    rintro e w5 ⟨rfl,hb5⟩
    have HB5 : Hid (Below N w4 w5):=HBX.out.trans (hb5.mono HZX.out)
    have HR5 : Hid (RigM w5 N r q pw g [] n R):=by
     obtain ⟨p5,ha5,hc5,fa5,fc5,hs5,hr5⟩:=HRX.out
     exact ⟨p5,ha5,hc5,fa5,fc5,hs5,hr5.below0 hb5⟩
    clear hb5 x0 x1 x2 x3 x4 x5 x6 x7 d1 d2 HOX HBW HZX
    go_wp2
    have HT0 : Hid (∃ R : RG,RigM w5 N r q pw g [] n R ∧ (Fine g n (80 + 0) R ∧ 1 ≤ V.freeN R.S.v.bs) ∧ R.S.d.O.length ≤ 82160 ∧ meaB (bz g) R.S.v.bs + (0 : Nat) ≤ 121):=by
     have hal:=HAL.out
     have h1:=HIX.out.1
     have hm:=h1.hon.ok.meaM
     have hl:=h1.hon.ok.len
     have hz:=HSZ120.out
     rw [szN_valid HS.out.vg] at hz
     rw [hl] at hm
     have hr0:=HS.out.vg.r0
     have hO:=h1.hon.O
     refine ⟨R,HR5.out,⟨⟨?_,?_,h1.un⟩,HIX.out.2⟩,by omega,?_⟩
     ·exact ⟨h1.good.now,h1.good.snap,h1.good.flok,h1.good.room,h1.good.vers,by have:=h1.good.tm; omega⟩
     ·exact ⟨h1.hon.ok,h1.hon.u8,h1.hon.good,h1.hon.es,h1.hon.hl,h1.hon.fl,by have:=h1.hon.nx; omega,by omega,fun l hl=>by have:=h1.hon.hn l hl; omega⟩
     ·unfold bz at hm ⊢; omega
    have HLN5 : Hid (w.heap.size < w5.heap.size):=Nat.lt_of_lt_of_le HLN.out (Nat.le_trans HSZ.out HB5.out.size)
    clear HRX HIX HBX HR5 hj HAL HSZ120
    go_loopw [7,8,9,10,11,12] (fun s7 _ _ _ _ _ wr=>∃ (i : Nat),i ≤ 121 ∧ s7 = .int .i64 i ∧ Hid (∃ R : RG,RigM wr N r q pw g [] n R ∧ (Fine g n (80 + i) R ∧ 1 ≤ V.freeN R.S.v.bs) ∧ R.S.d.O.length ≤ 82160 ∧ meaB (bz g) R.S.v.bs + i ≤ 121) ∧ Hid (Below N w4 wr)) (fun s7 _ _ _ _ _ _=>200 - (intOf s7).toNat)
    case atStart=>exact ⟨0,by omega,rfl,HT0,HB5⟩
    case round=>
     obtain ⟨i,hi,rfl,HT,HBX⟩:=hrel
     obtain ⟨R,hrm,hfi,hO,hme⟩:=HT.out
     obtain ⟨p5,ha5,hc5,fa5,fc5,hs5,hr5⟩:=hrm
     obtain ⟨z0,z1,z2,z3,z4,z5,z6⟩:=hr5.cells
     obtain ⟨ea,ec,BA,bc,hd⟩:=hr5.drv
     have HZX : Hid (N ≤ wr.heap.size):=Nat.le_trans HSZ.out HBX.out.size
     have HC5:=Lib.hid (cleanm20_any hfi.1.hon.ok hfi.1.hon.u8 (fun f hf=>absurd hf (by simp)) (by simp) (by omega) hd)
     have HFC : Hid (∀ S' m e,CleanMR g [] 0 R.S (S',m,e) → _):=fun S' m e hr=>Fine.clean HS.out hfi.1 (by omega) hfi.2 hO hr
     have HH5:=Lib.hid hr5
     have HM1:=Lib.hid hfi.1.hon.ok.mea1
     have HME:=Lib.hid hme
     unfold CleanMPost at HC5
     clear hr5 hd hfi hO hme HT
     have hi2 : (i : Int) < 200:=by omega
     go_wp2_with fail
     refine HC5.out.mono ?_
     rintro e w6 ⟨⟨S',m,er⟩,hcr,rfl,BA1,bc1,hd1,hk1⟩
     obtain ⟨hf6,hfr6,hO6,hcs⟩:=HFC.out S' m er hcr
     have hr6:=HH5.out.drive ⟨ea,ec,BA1,bc1,hd1⟩ hk1
     have HB6 : Hid (Below N w4 w6):=HBX.out.trans ((hk1.sub drt_rgt).below HZX.out)
     have HF6:=Lib.hid (And.intro hf6 hfr6)
     have HO6:=Lib.hid hO6
     have HR6 : Hid (RigM w6 N r q pw g [] n { R with S:=S' }):=⟨p5,ha5,hc5,fa5,fc5,hs5,hr6⟩
     have HZ6 : Hid (N ≤ w6.heap.size):=Nat.le_trans HSZ.out HB6.out.size
     simp only
     clear hcr hd1 hk1 hf6 hfr6 hO6 HFC HC5 z0 z1 z2 z3 z4 z5 z6
     rcases hcs with ⟨rfl,hno⟩ | ⟨rfl,hm0,hm1,hme6⟩
     ·have HNO:=Lib.hid hno
      have HVK:=Lib.hid HF6.out.1.hon.ok
      have hl64:=HVK.out.len64
      obtain ⟨z0,z1,z2,z3,z4,z5,z6⟩:=hr6.cells
      obtain ⟨ea6,ec6,BA6,bc6,hd6⟩:=hr6.drv
      have HIN:=Lib.hid (info20_any (by simp only at hl64 ⊢; omega) hd6)
      clear hno hr6 hd6
      go_wp2_with fail
      refine HIN.out.mono ?_
      rintro e w7 ⟨IA,ic,rfl,hio,hb7⟩
      have HRI : Hid (∀ W,Below w7.heap.size w7 W → Rd W W.heap.size IA (V.flat S'.v.bs)):=fun W hW=>((Rd.of_own hio).below hW (Nat.le_refl _)).more hW.size
      have HB7:=Lib.hid hb7
      have HOP : Hid (∀ W,Below w7.heap.size w7 W → Calls Tryz.prog 32 #[.slice IA S'.v.bs.length ic,.int .i64 (bz g)] W fun e w'=>e = .returned (.int .i64 (V.openB S'.v.bs (bz g))) ∧ Below W.heap.size W w'):=fun W hW=>V.ropen_any (bz g) S'.v.bs IA ic W (HRI.out W hW) (by omega)
      clear hio hb7 HIN z0 z1 z2 z3 z4 z5 z6
      go_wp2_with fail
      refine (HOP.out _ (Below.refl _ _)).mono ?_
      rintro e w8 ⟨rfl,hb8⟩
      have HB8 : Hid (Below w6.heap.size w6 w8):=HB7.out.trans (hb8.mono HB7.out.size)
      have HRD:=Lib.hid (HRI.out w8 hb8)
      have HR8 : Hid (RigM w8 N r q pw g [] n { R with S:=S' }):=by
       obtain ⟨p8,ha8,hc8,fa8,fc8,hs8,hr8⟩:=HR6.out
       exact ⟨p8,ha8,hc8,fa8,fc8,hs8,hr8.below0 HB8.out⟩
      have HB9 : Hid (Below N w4 w8):=HB6.out.trans (HB8.out.mono HZ6.out)
      have HAL8:=Lib.hid (fine_all HS.out RunF.nil HF6.out.1 (by omega) HR8.out)
      have HZ8 : Hid (N ≤ w8.heap.size):=Nat.le_trans HSZ.out HB9.out.size
      generalize V.openB S'.v.bs (bz g) = OB at *
      clear hb8 HOP HRI
      go_wp2
      go_loopw [12] (fun s12 wr=>∃ k : Nat,k ≤ S'.v.bs.length ∧ s12 = .int .i64 k ∧ wr = w8) (fun s12 _=>S'.v.bs.length - (intOf s12).toNat)
      case atStart=>exact ⟨0,Nat.zero_le _,rfl,rfl⟩
      case round=>
       obtain ⟨k,hk,rfl,rfl⟩:=hrel
       by_cases hlt : k < S'.v.bs.length
       ·have hno:=HNO.out k hlt
        have hbk:=List.getElem?_eq_getElem hlt
        generalize S'.v.bs[k] = bb at hno hbk
        obtain ⟨gi,oi,hA,hgi,j0,j1,_,_⟩:=Rd.band HRD.out hbk
        subst hA
        have hki : (k : Int) < (S'.v.bs.length : Int):=by omega
        clear hbk
        obtain ⟨bu,bl,ba,bw⟩:=bb
        simp only at hno j0 j1
        by_cases hu : bu = 0
        ·subst hu
         clear hno
         go_wp2
         go_roundw
         case rel=>exact ⟨k + 1,hlt,by go_num,by trivial⟩
         case measure=>simp [intOf]; omega
        ·by_cases ho : (k : Int) = OB
         ·subst ho
          clear hno
          go_wp2
          go_roundw
          case rel=>exact ⟨k + 1,hlt,by go_num,by trivial⟩
          case measure=>simp [intOf]; omega
         ·have hlv:=hno ho hu
          subst hlv
          clear hno
          go_wp2
          go_roundw
          case rel=>exact ⟨k + 1,hlt,by go_num,by trivial⟩
          case measure=>simp [intOf]; omega
       ·obtain rfl : k = S'.v.bs.length:=by omega
        have d1 : decide ((S'.v.bs.length : Int) < (S'.v.bs.length : Int)) = false:=decide_eq_false (by omega)
        have d2 : decide (S'.v.bs.length < S'.v.bs.length) = false:=decide_eq_false (by omega)
        go_wp2_with fail
        refine HAL8.out.mono ?_
        rintro e w9 ⟨rfl,_,hk9⟩
        have HBF : Hid (Below w.heap.size w w9):=HB4.out.trans ((HB9.out.trans (hk9.below HZ8.out)).mono (Nat.le_of_lt HLN.out))
        clear hk9
        go_wp2
        go_ret
        exact ⟨rfl,HBF.out⟩
     ·have HM6:=Lib.hid hme6
      clear hme6 hr6
      have hz:=HS.out.vg.bz
      go_wp2
      go_roundw
      case rel=>
       have h1:=HME.out
       have h2:=HM6.out
       have h3:=HF6.out.1.hon.ok.mea1
       simp only at h3
       refine ⟨i + 1,by omega,by go_num,⟨{ R with S:=S' },HR6.out,HF6.out,HO6.out,by simp only; omega⟩,HB6⟩
      case measure=>simp [intOf]; omega
set_option maxRecDepth 100000 in
theorem driveCleans_lifted (os : Os) (started : os.Started) (H : Type) (enc : TypeId × Value → H) :
  ReturnsInHanded {} Tryz.checked os 9 .any (Rows.driveCleansSpec.pre6 enc Tryz.prog Tryz.f9 Rows.driveCleansRow.domain false) (Rows.driveCleansSpec.post enc Tryz.prog Tryz.f9 false true false false):=by
 refine returnsInHanded_of_change (C:=Tryz.checked) own started (by kernel_rfl) Tryz.func9
  (ChangeSpec.witness6 (enc:=enc) (C:=Tryz.checked) false ⟨#[],#[.agg #[.int .i64 0,.int .i64 0,.int .i64 0,.int .i64 0,.int .i64 0,.int .i64 0,.slice none 0 0,.slice none 0 0]],[]⟩ 8 (by kernel_rfl) (by kernel_rfl) (by kernel_rfl) (by kernel_rfl)) ?_
 intro W base args ds gs before hval0 hW hcnd _
 have hval : ∀ (j : Nat) t v,Tryz.f9.params[j]? = some t → args[j]? = some v → Value.okWide Tryz.prog W .any base t v:=hval0
 have hW':=hW
 obtain ⟨p,q,hA0,hV,rfl,hfz,hnd⟩:=hW
 have hA : DataW.TrodAll enc Tryz.prog W 0 (fun _=>true) true Tryz.f9.params.toList args.toList ds p:=hA0
 rw [Tryz.params9] at hA hval
 obtain ⟨v0,vs0,d0,ds0,p0,q0,hargs,rfl,rfl,h0,r0⟩:=trodAll_cons hA
 obtain ⟨rfl,rfl,rfl⟩:=trodAll_nil r0
 obtain rfl : args = #[v0]:=by cases args; simp_all
 obtain ⟨rfl,rfl⟩:=trodVars_none hV
 have k0:=h0
 have lt0 : ∀ x ∈ p0,x.block < W.heap.size:=by obtain ⟨m,hm⟩:=k0; exact DataW.trod_lt m _ _ _ hm
 obtain ⟨g,nb,A0,A1,F,acts,c0,c1,rfl,hc⟩:=open_case20 (hval 0 _ _ rfl rfl) h0
 clear hA0 hval0
 refine (driveCleans_walk g nb A0 A1 F acts c0 c1 W hc).mono fun e W' ⟨he,bel⟩=>?_
 subst he
 exact ⟨_,rfl,_,_,_,[],_,[],hW',trodAll_mk1 (shut_bool Tryz.underlying4 _),(trodAll_cons_mk (Below.trod laidOut (by kernel_rfl) (of_decide_eq_true (by kernel_rfl)) k0 bel lt0) trodAll_mk0),rfl,bel.frame _,fun h=>by cases h⟩
theorem driveCleans_holds : Rows.DriveCleansSaid:=
 OpenClaim.holds_of_wide 9 Tryz.f9 rfl rfl rfl rfl rfl rfl rfl ⟨rfl,rfl,rfl,rfl,rfl⟩ rfl rfl rfl rfl rfl (by kernel_rfl) Tryz.func9 (by kernel_rfl)
  (of_decide_eq_true (by kernel_rfl)) (by unfold Func.isWrapper; first | (rw [if_pos (by decide +kernel)]; kernel_rfl) | (rw [if_neg (by decide +kernel)]; exact ⟨rfl,rfl⟩))
  (fun os started H enc _=>driveCleans_lifted os started H enc)
#print axioms driveCleans_holds
end Go.Proofs.YtggkengmlkhdiaaGreat
