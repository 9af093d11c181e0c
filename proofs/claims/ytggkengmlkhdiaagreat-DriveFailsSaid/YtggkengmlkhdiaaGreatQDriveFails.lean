/-
  WHAT IS SHOWN: DriveFails and what it needs. Conditions: none.
-/
import Derived.Test.YtggkengmlkhdiaaGreatM46
import Derived.Test.YtggkengmlkhdiaaGreatEF00
import Derived.Test.YtggkengmlkhdiaaGreatRows
namespace Go.Proofs.YtggkengmlkhdiaaGreat
set_option linter.unusedVariables false
open Go.ChangeShapes Go.WideShapes Go.ChangeAt Go.RowKit
set_option maxRecDepth 100000 in
set_option maxHeartbeats 16000000 in
theorem driveFails_walk (g : Geo) (nb : Int) (A0 A1 : Option Addr) (F : List Flt) (acts : List Act20) (key : Int) (c0 c1 : Nat) (w : World) (hc : Case20In w g nb A0 A1 F acts) :
  Calls Tryz.prog 7 #[.agg #[.int .i64 g.random,.int .i64 g.bands,.int .i64 g.tracks,.int .i64 g.sectors,.int .i64 g.overlap,.int .i64 nb,.slice A0 F.length c0,.slice A1 acts.length c1],.int .u64 key] w fun e w'=>e = .returned (.bool true) ∧ Below w.heap.size w w':=by
 have hO0 : (w.alloc (.cells #[.int .i64 g.random,.int .i64 g.bands,.int .i64 g.tracks,.int .i64 g.sectors,.int .i64 g.overlap,.int .i64 nb,.slice A0 F.length c0,.slice A1 acts.length c1] 46)).heap[w.heap.size]? = some (.cells #[.int .i64 g.random,.int .i64 g.bands,.int .i64 g.tracks,.int .i64 g.sectors,.int .i64 g.overlap,.int .i64 nb,.slice A0 F.length c0,.slice A1 acts.length c1] 46 (0,0)):=heap_alloc_new _ _
 obtain ⟨⟨x0,x1,x2,x3,x4,x5,x6,x7⟩,⟨_,_,_,_,_,_,y6,_⟩⟩:=cells8q hO0
 have HB1 : Hid (Below w.heap.size w (w.alloc (.cells #[.int .i64 g.random,.int .i64 g.bands,.int .i64 g.tracks,.int .i64 g.sectors,.int .i64 g.overlap,.int .i64 nb,.slice none 0 0,.slice A1 acts.length c1] 46))):=(Below.refl _ _).alloc (Nat.le_refl _) _
 have HO1 : Hid ((w.alloc (.cells #[.int .i64 g.random,.int .i64 g.bands,.int .i64 g.tracks,.int .i64 g.sectors,.int .i64 g.overlap,.int .i64 nb,.slice none 0 0,.slice A1 acts.length c1] 46)).heap[w.heap.size]? = some (.cells #[.int .i64 g.random,.int .i64 g.bands,.int .i64 g.tracks,.int .i64 g.sectors,.int .i64 g.overlap,.int .i64 nb,.slice none 0 0,.slice A1 acts.length c1] 46 (0,0))):=heap_alloc_new _ _
 have HFAW : Hid (∀ W,Calls Tryz.prog 22 #[.agg #[.int .i64 g.random,.int .i64 g.bands,.int .i64 g.tracks,.int .i64 g.sectors,.int .i64 g.overlap,.int .i64 nb,.slice none 0 0,.slice A1 acts.length c1]] W fun e w'=>e = .returned (.bool (fairB g nb [] acts.length)) ∧ Below W.heap.size W w'):=fun W=>fair_any g nb [] none A1 0 c1 acts.length W hc.a.n (Rd.nil_ _ _ _) (by simp)
 have HC:=Lib.hid hc
 have HC:=Lib.hid hc
 clear hc hO0
 go_enter Tryz.func7,Tryz.ntmps7
 go_upto_region 2 with fail
 generalize (w.alloc (.cells #[.int .i64 g.random,.int .i64 g.bands,.int .i64 g.tracks,.int .i64 g.sectors,.int .i64 g.overlap,.int .i64 nb,.slice none 0 0,.slice A1 acts.length c1] 46)) = w0 at *
 clear x0 x1 x2 x3 x4 x5 x6 x7 y6
 obtain ⟨⟨x0,x1,x2,x3,x4,x5,x6,x7⟩,_⟩:=cells8q HO1.out
 go_wp2_with fail
 refine (awake20_any _).mono ?_
 rintro e w2 ⟨rfl,hb2⟩
 have HB2 : Hid (Below w.heap.size w w2):=HB1.out.trans (hb2.mono HB1.out.size)
 have HO2:=Lib.hid (belObj hb2 HO1.out (lt_of_block HO1.out))
 clear hb2 x0 x1 x2 x3 x4 x5 x6 x7
 obtain ⟨⟨x0,x1,x2,x3,x4,x5,x6,x7⟩,_⟩:=cells8q HO2.out
 have HF2:=Lib.hid (HFAW.out w2)
 go_wp2_with fail
 refine HF2.out.mono ?_
 rintro e w3 ⟨rfl,hb3⟩
 have HB3 : Hid (Below w.heap.size w w3):=HB2.out.trans (hb3.mono HB2.out.size)
 have HO3:=Lib.hid (belObj hb3 HO2.out (lt_of_block HO2.out))
 clear hb3 x0 x1 x2 x3 x4 x5 x6 x7 HF2 HFAW
 obtain ⟨⟨x0,x1,x2,x3,x4,x5,x6,x7⟩,_⟩:=cells8q HO3.out
 cases hfr : fairB g nb [] acts.length
 ·clear hfr
  go_wp2_with fail
  refine (awake20_any _).mono ?_
  rintro e w4 ⟨rfl,hb4⟩
  have HB4 : Hid (Below w.heap.size w w4):=HB3.out.trans (hb4.mono HB3.out.size)
  clear hb4
  go_wp2
  go_ret
  exact ⟨rfl,HB4.out⟩
 ·by_cases hkey : key = 0
  ·subst hkey
   clear hfr
   go_wp2_with fail
   refine (awake20_any _).mono ?_
   rintro e w4 ⟨rfl,hb4⟩
   have HB4 : Hid (Below w.heap.size w w4):=HB3.out.trans (hb4.mono HB3.out.size)
   clear hb4
   go_wp2
   go_ret
   exact ⟨rfl,HB4.out⟩
  ·have hfr2:=hfr
   unfold fairB at hfr2
   simp only [Bool.and_eq_true,decide_eq_true_eq] at hfr2
   obtain ⟨f1,f2,f3,f4,f5,f6⟩:=hfr2
   have hnb : ∃ n : Nat,nb = n:=by
    unfold possB at f3
    simp only [Bool.and_eq_true,decide_eq_true_eq] at f3
    exact ⟨nb.toNat,by omega⟩
   obtain ⟨n,rfl⟩:=hnb
   have HS : Hid (Small g n []):=⟨(validG_iff g).1 f1,f3,by simp,fun f hf=>absurd hf (by simp),rfl⟩
   have HAL : Hid (acts.length ≤ 80):=f4
   have HSZ120 : Hid (szN g ≤ 120):=f2
   clear hfr f1 f2 f3 f4 f5 f6
   have HKEY:=Lib.hid hkey
   have HS0 : Hid (Calls Tryz.prog 23 #[.agg #[.int .i64 g.random,.int .i64 g.bands,.int .i64 g.tracks,.int .i64 g.sectors,.int .i64 g.overlap,.int .i64 (n : Int),.slice none 0 0,.slice A1 acts.length c1]] w3 fun e w'=>(∃ r q pw,e = .returned (.tuple #[.pointer (some ⟨r,0,none⟩),.int .i64 0]) ∧ RigM w' w3.heap.size r q pw g [] n (R0 g [] n)) ∧ Below w3.heap.size w3 w'):=fine_start HS.out RunF.nil none A1 0 c1 acts.length w3 (Rd.nil_ _ _ _)
   have HLN : Hid (w.heap.size < w3.heap.size):=lt_of_block HO3.out
   go_wp2_with fail
   refine HS0.out.mono ?_
   rintro e w4 ⟨⟨r,q,pw,rfl,p,hha,hc4,fa,fc,hs,hr0⟩,hb4⟩
   have HB4 : Hid (Below w.heap.size w w4):=HB3.out.trans (hb4.mono (Nat.le_of_lt HLN.out))
   have HO4:=Lib.hid (belObj hb4 HO3.out HLN.out)
   have HSZ : Hid (w3.heap.size ≤ w4.heap.size):=hb4.size
   have HR0 : Hid (RigM w4 w3.heap.size r q pw g [] n (R0 g [] n)):=⟨p,hha,hc4,fa,fc,hs,hr0⟩
   have HI0 : Hid (Fine g n 0 (R0 g [] n) ∧ 1 ≤ V.freeN (R0 g [] n).S.v.bs):=(fine0 HS.out RunF.nil).2
   obtain ⟨z0,z1,z2,z3,z4,z5,z6⟩:=hr0.cells
   clear hr0 hb4 HS0 x0 x1 x2 x3 x4 x5 x6 x7
   generalize R0 g [] n = RI at *
   go_wp2
   clear z0 z1 z2 z3 z4 z5 z6
   generalize w3.heap.size = N at *
   clear hkey
   go_loopw [7] (fun s7 wr=>∃ (j : Nat) (R : RG),j ≤ acts.length ∧ s7 = .int .i64 j ∧ Hid (RigM wr N r q pw g [] n R) ∧ Hid (Fine g n j R ∧ 1 ≤ V.freeN R.S.v.bs) ∧ Hid (Below N w4 wr)) (fun s7 _=>acts.length - (intOf s7).toNat)
   case atStart=>exact ⟨0,RI,Nat.zero_le _,rfl,HR0,HI0,Below.refl _ _⟩
   case round=>
    obtain ⟨j,R,hj,rfl,HRX,HIX,HBX⟩:=hrel
    have HOX:=Lib.hid (belObj HBX.out HO4.out HLN.out)
    obtain ⟨⟨x0,x1,x2,x3,x4,x5,x6,x7⟩,_⟩:=cells8q HOX.out
    have HBW : Hid (Below w.heap.size w wr):=HB4.out.trans (HBX.out.mono (Nat.le_of_lt HLN.out))
    by_cases hlt : j < acts.length
    ·have ha0:=List.getElem?_eq_getElem hlt
     have hai:=HC.out.a.ok acts[j] (List.getElem_mem hlt)
     generalize acts[j] = a at ha0 hai
     have HAI:=Lib.hid hai
     obtain ⟨ga,oa,hA,_,a0,a1,a2⟩:=acts20_at (HC.out.a.rd.below HBW.out (Nat.le_refl _)) ha0
     subst hA
     have d1 : decide ((j : Int) < (acts.length : Int)) = true:=decide_eq_true (by omega)
     have d2 : decide (j < acts.length) = true:=decide_eq_true hlt
     have hji : (j : Int) < (acts.length : Int):=by omega
     have HDO:=Lib.hid (do_any (kind:=a.kind) (blk:=a.blk) (data:=a.data) hai.kd.1 (by have:=hai.data; omega) (HIX.out.1.in_ HS.out (by have:=HAL.out; omega)) HRX.out)
     clear ha0 hai
     go_wp2_with fail
     refine HDO.out.mono ?_
     rintro e w5 ⟨R5,er5,hact,rfl,hr5,hk5⟩
     obtain ⟨he0,hf5,hfr5⟩:=HIX.out.1.act HS.out RunF.nil (by have:=HAL.out; omega) (by have:=HAI.out.data; simp only; omega) hact
     subst he0
     have HI5 : Hid (Fine g n (j + 1) R5 ∧ 1 ≤ V.freeN R5.S.v.bs):=⟨hf5,hfr5 HIX.out.2⟩
     have HZX : Hid (N ≤ wr.heap.size):=Nat.le_trans HSZ.out HBX.out.size
     have HB5 : Hid (Below N w4 w5):=HBX.out.trans (hk5.below HZX.out)
     have HR5:=Lib.hid hr5
     have HZ5 : Hid (N ≤ w5.heap.size):=Nat.le_trans HSZ.out HB5.out.size
     have HO5:=Lib.hid (belObj HB5.out HO4.out HLN.out)
     clear hact hr5 hk5 hf5 hfr5 HDO HRX HIX HBX HOX HBW HZX x0 x1 x2 x3 x4 x5 x6 x7 a0 a1 a2
     obtain ⟨⟨x0,x1,x2,x3,x4,x5,x6,x7⟩,_⟩:=cells8q HO5.out
     have hal:=HAL.out
     go_wp2
     go_roundw
     case rel=>exact ⟨j + 1,R5,hlt,by go_num,HR5,HI5,HB5⟩
     case measure=>simp [intOf]; omega
    ·obtain rfl : j = acts.length:=by omega
     have d1 : decide ((acts.length : Int) < (acts.length : Int)) = false:=decide_eq_false (by omega)
     have d2 : decide (acts.length < acts.length) = false:=decide_eq_false (by omega)
     have HZX : Hid (N ≤ wr.heap.size):=Nat.le_trans HSZ.out HBX.out.size
     obtain ⟨p,ha5,hc5,fa5,fc5,hs5,hr5⟩:=HRX.out
     have HP5 : Hid (RigP wr N r p q pw g [] n R):=⟨ha5,hc5,fa5,fc5,hs5,hr5⟩
     have z1:=HP5.out.c1
     have HFE:=Lib.hid (FencA.of HS.out.vg HIX.out.1 (by have:=HIX.out.1.hon.O; have:=HAL.out; omega) HKEY.out)
     have HA5 : Hid (Calls Tryz.prog 26 #[.pointer (some ⟨q,0,none⟩),.int .u64 key] wr fun e w'=>e = .returned (.int .i64 (stE R.S.d.s R.S.d.P)) ∧ RigP w' N r p q pw g [] n (acqR R key) ∧ KeptT RGT (Bd.of N) wr w'):=acq_rig key HP5.out
     clear hr5
     go_wp2_with fail
     refine HA5.out.mono ?_
     rintro e w5 ⟨rfl,hp6,hk6⟩
     have HP6:=Lib.hid hp6
     have HB5 : Hid (Below N w4 w5):=HBX.out.trans (hk6.below HZX.out)
     have HZ5 : Hid (N ≤ w5.heap.size):=Nat.le_trans HSZ.out HB5.out.size
     have HO5:=Lib.hid (belObj HB5.out HO4.out HLN.out)
     clear hp6 hk6 z1 HA5 HOX HBW x0 x1 x2 x3 x4 x5 x6 x7
     obtain ⟨⟨x0,x1,x2,x3,x4,x5,x6,x7⟩,_⟩:=cells8q HO5.out
     go_wp2
     have HO7 : Hid ((opnR g [] (acqR R key)).S.d.O.length + 9 ≤ 99000 ∧ (flushR g [] 0 (opnR g [] (acqR R key)).S).2 = 17):=⟨HFE.out.o7,HFE.out.e7⟩
     have H9 : Hid ((acqR (fluR g [] (opnR g [] (acqR R key))) 0).S.v.failed = 17 ∧ VOk g (acqR (fluR g [] (opnR g [] (acqR R key))) 0).S.v ∧ (acqR (fluR g [] (opnR g [] (acqR R key))) 0).S.d.U8 ∧ (acqR (fluR g [] (opnR g [] (acqR R key))) 0).S.d.O.length + 1100 ≤ 99000):=⟨HFE.out.f9,HFE.out.v9,HFE.out.u9,HFE.out.o9⟩
     have HOPN : Hid (∀ W,RigP W N r p q pw g [] n (acqR R key) → Calls Tryz.prog 27 #[.pointer (some ⟨q,0,none⟩),.int .u64 0,.int .i64 n] W fun e w'=>e = .returned (.tuple #[.pointer none,.int .i64 17]) ∧ RigP w' N r p q pw g [] n (opnR g [] (acqR R key)) ∧ KeptT RGT (Bd.of N) W w'):=fun W hW=>openbad_rig HS.out.vg HS.out.p HFE.out.u6 (by simp) HFE.out.e6 hW
     clear HFE HIX HBX HRX HKEY HP5 HAL
     generalize acqR R key = R6 at *
     generalize opnR g [] R6 = R7 at *
     obtain ⟨C,hC⟩ : ∃ C : List Value → World → Prop,C = fun h W=>match h with
      | []=>W = w5.drew
      | [v]=>v = .tuple #[.pointer none,.int .i64 17] ∧ RigP W N r p q pw g [] n R7 ∧ KeptT RGT (Bd.of N) w5 W
      | _=>False:=⟨_,rfl⟩
     have hall : ∀ t : HeldC C,t.w.cell? ⟨r,1,none⟩ = some (.pointer (some ⟨q,0,none⟩)) ∧ t.w.cell? ⟨w.heap.size,5,none⟩ = some (.int .i64 n):=fun t=>by
      obtain ⟨s,W,h⟩:=t
      simp only
      subst hC
      match s,h with
      | [],h=>
        have h' : W = w5.drew:=h
        rw [h']
        exact ⟨(HP6.out.below ((Below.refl _ _).drew)).c1,x5⟩
      | [v],h=>exact ⟨h.2.1.c1,((h.2.2.below HZ5.out).cell (p:=⟨w.heap.size,5,none⟩) HLN.out).trans x5⟩
     have HC0 : Hid (C [] w5.drew):=by subst hC; exact rfl
     have HK1 : Hid (∀ W,C [] W → Calls Tryz.prog 27 #[.pointer (some ⟨q,0,none⟩),.int .u64 0,.int .i64 n] W fun e w'=>∃ x,e = .returned x ∧ C ([] ++ [x]) w'):=by
      subst hC
      intro W hW
      have hW' : W = w5.drew:=hW
      subst hW'
      refine (HOPN.out _ (HP6.out.below ((Below.refl _ _).drew))).mono ?_
      rintro e w' ⟨h1,h2,h3⟩
      exact ⟨_,h1,rfl,h2,KeptT.trans (KeptT.bel ((Below.refl _ _).drew)) h3⟩
     have HV1 : Hid (∀ v W,C [v] W → v = .tuple #[.pointer none,.int .i64 17] ∧ RigP W N r p q pw g [] n R7 ∧ KeptT RGT (Bd.of N) w5 W):=by subst hC; exact fun _ _ h=>h
     have f1 : ∀ t : HeldC C,t.w.cell? ⟨r,1,none⟩ = some (.pointer (some ⟨q,0,none⟩)):=fun t=>(hall t).1
     have f3 : ∀ t : HeldC C,t.w.cell? ⟨w.heap.size,5,none⟩ = some (.int .i64 n):=fun t=>(hall t).2
     have hne : Nonempty (HeldC C):=⟨⟨[],_,HC0.out⟩⟩
     clear hC hall HOPN x0 x1 x2 x3 x4 x5 x6 x7
     refine wp_region_chain C [6] [6] (by kernel_rfl) (by kernel_rfl) (by kernel_rfl) (by kernel_rfl) HC0.out ?_
     repeat (refine wpCh_n (by rfl) (by rfl) ?_; go_big_quiet_step (fail); refine wpQuiet_nil ?_)
     refine wpCh_l (f:=27) (args:=#[.pointer (some ⟨q,0,none⟩),.int .u64 0,.int .i64 (n : Int)]) (by rfl) (by rfl) (fun W=>by simp [go_sem]) (fun W hW=>HK1.out W hW) (fun v W hW=>?_)
     obtain ⟨rfl,_⟩:=HV1.out v W hW
     go_big_quiet_step (fail)
     refine wpQuiet_nil ?_
     repeat (refine wpCh_n (by rfl) (by rfl) ?_; go_big_quiet_step (fail); refine wpQuiet_nil ?_)
     refine wpCh_nil ?_
     intro w7 hw7
     obtain ⟨_,hp7,hk7⟩:=HV1.out _ _ hw7
     have HP7:=Lib.hid hp7
     have HB7 : Hid (Below N w4 w7):=HB5.out.trans (hk7.below HZ5.out)
     have HZ7 : Hid (N ≤ w7.heap.size):=Nat.le_trans HSZ.out HB7.out.size
     clear hp7 hk7 hw7 HK1 HV1 HC0 f1 f3 hne HP6 HB5 HZ5 HO5
     have z2:=HP7.out.c2
     have HFL : Hid (Calls Tryz.prog 21 #[.pointer (some ⟨p,0,none⟩)] w7 fun e w'=>e = .returned (.int .i64 17) ∧ RigP w' N r p q pw g [] n (fluR g [] R7) ∧ KeptT RGT (Bd.of N) w7 w'):=by
      have:=flush_rig (by simp) HO7.out.1 HP7.out
      rw [HO7.out.2] at this
      exact this
     go_wp2_with fail
     refine HFL.out.mono ?_
     rintro e w8 ⟨rfl,hp8,hk8⟩
     have HP8:=Lib.hid hp8
     have HB8 : Hid (Below N w4 w8):=HB7.out.trans (hk8.below HZ7.out)
     have HZ8 : Hid (N ≤ w8.heap.size):=Nat.le_trans HSZ.out HB8.out.size
     clear hp8 hk8 z2 HFL HP7 HB7 HZ7 HO7
     generalize fluR g [] R7 = R8 at *
     have z1:=HP8.out.c1
     have HA8 : Hid (Calls Tryz.prog 26 #[.pointer (some ⟨q,0,none⟩),.int .u64 0] w8 fun e w'=>e = .returned (.int .i64 (stE R8.S.d.s R8.S.d.P)) ∧ RigP w' N r p q pw g [] n (acqR R8 0) ∧ KeptT RGT (Bd.of N) w8 w'):=acq_rig 0 HP8.out
     go_wp2_with fail
     refine HA8.out.mono ?_
     rintro e w9 ⟨rfl,hp9,hk9⟩
     have HP9:=Lib.hid hp9
     have HB9 : Hid (Below N w4 w9):=HB8.out.trans (hk9.below HZ8.out)
     have HZ9 : Hid (N ≤ w9.heap.size):=Nat.le_trans HSZ.out HB9.out.size
     clear hp9 hk9 z1 HA8 HP8 HB8 HZ8
     generalize acqR R8 0 = R9 at *
     have z2:=HP9.out.c2
     have HRE:=Lib.hid (read_failed 0 H9.out.1 H9.out.2.2.1 (by simp) HP9.out)
     go_wp2_with fail
     refine HRE.out.mono ?_
     rintro e wa ⟨rfl,hpa,hka⟩
     have HPA:=Lib.hid hpa
     have HBA : Hid (Below N w4 wa):=HB9.out.trans (hka.below HZ9.out)
     have HZA : Hid (N ≤ wa.heap.size):=Nat.le_trans HSZ.out HBA.out.size
     clear hpa hka z2 HRE HP9 HB9 HZ9
     have hbb : Below wa.heap.size wa (wa.alloc (.cells #[.int .u8 0,.int .u8 0,.int .u8 0,.int .u8 0,.int .u8 0,.int .u8 0,.int .u8 0,.int .u8 0] 27)):=(Below.refl _ _).alloc (Nat.le_refl _) _
     have HPb:=Lib.hid (HPA.out.below hbb)
     have HBb : Hid (Below N w4 (wa.alloc (.cells #[.int .u8 0,.int .u8 0,.int .u8 0,.int .u8 0,.int .u8 0,.int .u8 0,.int .u8 0,.int .u8 0] 27))):=HBA.out.trans (hbb.mono HZA.out)
     have HZb : Hid (N ≤ (wa.alloc (.cells #[.int .u8 0,.int .u8 0,.int .u8 0,.int .u8 0,.int .u8 0,.int .u8 0,.int .u8 0,.int .u8 0] 27)).heap.size):=Nat.le_trans HSZ.out HBb.out.size
     clear hbb HPA HBA HZA
     have z2:=HPb.out.c2
     have HCC:=Lib.hid (clean_failed H9.out.1 H9.out.2.1 H9.out.2.2.1 (by simp) (by simp) H9.out.2.2.2 HPb.out)
     go_wp2_with fail
     refine HCC.out.mono ?_
     rintro e wc ⟨rfl,hpx,hkx⟩
     have HPc:=Lib.hid hpx
     have HBc : Hid (Below N w4 wc):=HBb.out.trans (hkx.below HZb.out)
     have HZc : Hid (N ≤ wc.heap.size):=Nat.le_trans HSZ.out HBc.out.size
     clear hpx hkx z2 HCC HPb HBb HZb
     have z2:=HPc.out.c2
     have HCC:=Lib.hid (write_failed 0 1152921504606846976 (by omega) (by omega) H9.out.1 H9.out.2.1 H9.out.2.2.1 (by simp) (by simp) H9.out.2.2.2 HPc.out)
     go_wp2_with fail
     refine HCC.out.mono ?_
     rintro e wd ⟨rfl,hpx,hkx⟩
     have HPd:=Lib.hid hpx
     have HBd : Hid (Below N w4 wd):=HBc.out.trans (hkx.below HZc.out)
     have HZd : Hid (N ≤ wd.heap.size):=Nat.le_trans HSZ.out HBd.out.size
     clear hpx hkx z2 HCC HPc HBc HZc
     have z2:=HPd.out.c2
     have HCC:=Lib.hid (trim_failed 0 1152921504606846976 (by omega) (by omega) H9.out.1 H9.out.2.1 H9.out.2.2.1 (by simp) (by simp) H9.out.2.2.2 HPd.out)
     go_wp2_with fail
     refine HCC.out.mono ?_
     rintro e we ⟨rfl,hpx,hkx⟩
     have HPe:=Lib.hid hpx
     have HBe : Hid (Below N w4 we):=HBd.out.trans (hkx.below HZd.out)
     have HZe : Hid (N ≤ we.heap.size):=Nat.le_trans HSZ.out HBe.out.size
     clear hpx hkx z2 HCC HPd HBd HZd
     have z2:=HPe.out.c2
     have HCC:=Lib.hid (flush_failed H9.out.1 (by simp) (by have:=H9.out.2.2.2; omega) HPe.out)
     go_wp2_with fail
     refine HCC.out.mono ?_
     rintro e wf ⟨rfl,hpx,hkx⟩
     have HPf:=Lib.hid hpx
     have HBf : Hid (Below N w4 wf):=HBe.out.trans (hkx.below HZe.out)
     have HZf : Hid (N ≤ wf.heap.size):=Nat.le_trans HSZ.out HBf.out.size
     clear hpx hkx z2 HCC HPe HBe HZe
     have HBF : Hid (Below w.heap.size w wf):=HB4.out.trans (HBf.out.mono (Nat.le_of_lt HLN.out))
     go_wp2
     go_ret
     exact ⟨rfl,HBF.out⟩
set_option maxRecDepth 100000 in
theorem driveFails_lifted (os : Os) (started : os.Started) (H : Type) (enc : TypeId × Value → H) :
  ReturnsInHanded {} Tryz.checked os 7 .any (Rows.driveFailsSpec.pre6 enc Tryz.prog Tryz.f7 Rows.driveFailsRow.domain false) (Rows.driveFailsSpec.post enc Tryz.prog Tryz.f7 false true false false):=by
 refine returnsInHanded_of_change (C:=Tryz.checked) own started (by kernel_rfl) Tryz.func7
  (ChangeSpec.witness6 (enc:=enc) (C:=Tryz.checked) false ⟨#[],#[.agg #[.int .i64 0,.int .i64 0,.int .i64 0,.int .i64 0,.int .i64 0,.int .i64 0,.slice none 0 0,.slice none 0 0],.int .u64 0],[]⟩ 8 (by kernel_rfl) (by kernel_rfl) (by kernel_rfl) (by kernel_rfl)) ?_
 intro W base args ds gs before hval0 hW hcnd _
 have hval : ∀ (j : Nat) t v,Tryz.f7.params[j]? = some t → args[j]? = some v → Value.okWide Tryz.prog W .any base t v:=hval0
 have hW':=hW
 obtain ⟨p,q,hA0,hV,rfl,hfz,hnd⟩:=hW
 have hA : DataW.TrodAll enc Tryz.prog W 0 (fun _=>true) true Tryz.f7.params.toList args.toList ds p:=hA0
 rw [Tryz.params7] at hA hval
 obtain ⟨v0,vs0,d0,ds0,p0,q0,hargs,rfl,rfl,h0,r0⟩:=trodAll_cons hA
 obtain ⟨v1,vs1,d1,ds1,p1,q1,rfl,rfl,rfl,h1,r1⟩:=trodAll_cons r0
 obtain ⟨rfl,rfl,rfl⟩:=trodAll_nil r1
 obtain rfl : args = #[v0,v1]:=by cases args; simp_all
 obtain ⟨rfl,rfl⟩:=trodVars_none hV
 have k0:=h0
 have lt0 : ∀ x ∈ p0,x.block < W.heap.size:=by obtain ⟨m,hm⟩:=k0; exact DataW.trod_lt m _ _ _ hm
 have k1:=h1
 have lt1 : ∀ x ∈ p1,x.block < W.heap.size:=by obtain ⟨m,hm⟩:=k1; exact DataW.trod_lt m _ _ _ hm
 obtain ⟨g,nb,A0,A1,F,acts,c0,c1,rfl,hc⟩:=open_case20 (hval 0 _ _ rfl rfl) h0
 obtain ⟨key,rfl,_,_,_⟩:=open_int Tryz.underlying23 (hval 1 _ _ rfl rfl) h1
 clear hA0 hval0
 refine (driveFails_walk g nb A0 A1 F acts key c0 c1 W hc).mono fun e W' ⟨he,bel⟩=>?_
 subst he
 exact ⟨_,rfl,_,_,_,[],_,[],hW',trodAll_mk1 (shut_bool Tryz.underlying4 _),(trodAll_cons_mk (Below.trod laidOut (by kernel_rfl) (of_decide_eq_true (by kernel_rfl)) k0 bel lt0) (trodAll_cons_mk (Below.trod laidOut (by kernel_rfl) (of_decide_eq_true (by kernel_rfl)) k1 bel lt1) trodAll_mk0)),rfl,bel.frame _,fun h=>by cases h⟩
theorem driveFails_holds : Rows.DriveFailsSaid:=
 OpenClaim.holds_of_wide 7 Tryz.f7 rfl rfl rfl rfl rfl rfl rfl ⟨rfl,rfl,rfl,rfl,rfl⟩ rfl rfl rfl rfl rfl (by kernel_rfl) Tryz.func7 (by kernel_rfl)
  (of_decide_eq_true (by kernel_rfl)) (by unfold Func.isWrapper; first | (rw [if_pos (by decide +kernel)]; kernel_rfl) | (rw [if_neg (by decide +kernel)]; exact ⟨rfl,rfl⟩))
  (fun os started H enc _=>driveFails_lifted os started H enc)
#print axioms driveFails_holds
end Go.Proofs.YtggkengmlkhdiaaGreat
