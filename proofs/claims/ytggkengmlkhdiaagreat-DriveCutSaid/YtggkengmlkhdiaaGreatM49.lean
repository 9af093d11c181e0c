/-
  WHAT IS SHOWN: cut of a rig returns true, and leaves a rig whose drive shows the histories, with nothing pending. Conditions: the rig lies in memory; the case is small; the disk has no faults but slow ones.
-/
import Derived.Test.YtggkengmlkhdiaaGreatM48
namespace Go.Proofs.YtggkengmlkhdiaaGreat
set_option linter.unusedVariables false
open Go.RowKit
section
variable {w:World} {N r p q pw:Nat} {g:Geo} {F:List Flt} {n c:Nat} {R:RG}
theorem RigQ.flush (hF:F.length≤9223372036854775807) (hO:R.S.d.O.length+9≤99000) (h:RigQ w N r p q pw g F n R):
  Calls Tryz.prog 21 #[.pointer (some ⟨p,0,none⟩)] w fun e w'=>e= .returned (.int .i64 (flushR g F 0 R.S).2)∧RigQ w' N r p q pw g F n { R with S:=(flushR g F 0 R.S).1 }∧KeptT RGT (Bd.of N) w w':=by
 obtain ⟨ha,hc,fa,fc,hs,HH⟩:=h
 obtain ⟨ea,ec,BA,bc,hd⟩:=HH.drv
 refine (flush20_any (key:=0) hF hO hd).mono ?_
 rintro e w' ⟨rfl,h1,h2⟩
 exact ⟨rfl,⟨ha,hc,fa,fc,hs,HH.drive ⟨ea,ec,BA,bc,h1⟩ h2⟩,h2.sub drt_rgt⟩
theorem RigQ.low (h:RigQ w N r p q pw g F n R):N≤w.heap.size:=by
 obtain ⟨ha,hc,fa,fc,hs,HH⟩:=h
 exact Nat.le_of_lt (Nat.lt_of_le_of_lt HH.low HH.lt)
theorem rise0 (g:Geo) (F:List Flt) (n:Nat):Rise (R0 g F n).hist (R0 g F n).next:=by
 intro l hl
 have:l=[]:=List.eq_of_mem_replicate hl
 subst this
 exact ⟨List.Pairwise.nil,fun w hw=>by simp at hw⟩
theorem small_n (hS:Small g n F) (hsz:szN g≤120):n≤120:=by
 have h1:=hS.nn.2
 have h2:=szN_valid hS.vg
 have h3:=hS.vg.r0
 have h4:=hS.vg.bz.1
 have h5:bz g=g.tracks * g.sectors:=rfl
 rw [← h5] at h2
 have h6:(g.bands - 3) * bz g=g.bands * bz g - 3 * bz g:=Int.sub_mul _ _ _
 omega
def CutQ20 (w:World) (N r q pw:Nat) (g:Geo) (F:List Flt) (n c:Nat) (e:Ending) (w':World):Prop:=
 e= .returned (.bool true)∧(∃ R',RigM w' N r q pw g F n R'∧Fine g n c R'∧Rise R'.hist R'.next∧R'.S.d.O=[])∧KeptT RGT (Bd.of N) w w'
set_option maxRecDepth 100000 in
set_option maxHeartbeats 16000000 in
theorem cut_any (hS:Small g n F) (hR:RunF F) (hsz:szN g≤120) {acts:List Act20} {A1:Option Addr} {c1:Nat} (m keep:Int) (hc:c+acts.length≤480) (hU:Fine g n c R) (hri:Rise R.hist R.next) (hA:Rd w N A1 (flatA20 acts)) (hok:∀ a∈acts,Act20In a) (h:RigM w N r q pw g F n R):
  Calls Tryz.prog 35 #[.pointer (some ⟨r,0,none⟩),.slice A1 acts.length c1,.int .i64 m,.int .i64 keep] w (CutQ20 w N r q pw g F n (c+acts.length)):=by
 have HS:=Lib.hid hS
 have HR:=Lib.hid hR
 have HSZ:=Lib.hid hsz
 have HC:=Lib.hid hc
 have hal480:acts.length≤480:=by omega
 have HA:=Lib.hid hA
 have HOK:=Lib.hid hok
 have HFN:Hid (F.length≤9223372036854775807):=by have:=hS.F40; unfold Hid; omega
 obtain ⟨p,hq⟩:=h
 have HQ0:Hid (RigQ w N r p q pw g F n R):=hq
 have HU0:=Lib.hid (hU.up hri)
 have HN:Hid (N≤w.heap.size):=HQ0.out.low
 have HAR:=Lib.hid (arm_rig m HQ0.out)
 have HUA:=Lib.hid (HU0.out.arm m)
 clear hS hR hsz hc hA hok hU hri hq
 obtain ⟨x0,x1,x2,x3,_⟩:=HQ0.out.c
 go_enter Tryz.func35,Tryz.ntmps35
 go_wp2_with fail
 refine HAR.out.mono ?_
 rintro e w1 ⟨rfl,hr1,hk1⟩
 have HR1:Hid (RigM w1 N r q pw g F n (armR R m)):=hr1.m
 have HK1:=Lib.hid hk1
 clear hr1 hk1 HAR x0 x1 x2 x3
 generalize armR R m=RA at *
 go_wp2
 go_loopw [9,10] (fun i _ wr=>∃ (j:Nat) (R1:RG),j≤acts.length∧i= .int .i64 j∧Hid (RigM wr N r q pw g F n R1)∧Hid (Up g n (c+j) R1)∧Hid (KeptT RGT (Bd.of N) w wr)) (fun i _ _=>acts.length - (intOf i).toNat)
 case atStart=>exact ⟨0,RA,Nat.zero_le _,rfl,HR1.out,HUA.out,HK1.out⟩
 case round=>
  obtain ⟨j,R1,hj,rfl,HM,HU,HK⟩:=hrel
  by_cases hlt:j < acts.length
  ·have ha0:=List.getElem?_eq_getElem hlt
   have hai:=HOK.out acts[j] (List.getElem_mem hlt)
   generalize acts[j]=a at ha0 hai
   have HAI:=Lib.hid hai
   obtain ⟨ga,oa,hA,_,a0,a1,a2⟩:=acts20_at (HA.out.below (HK.out.below HN.out) (Nat.le_refl _)) ha0
   subst hA
   have d1:decide ((j:Int) < (acts.length:Int))=true:=decide_eq_true (by omega)
   have d2:decide (j < acts.length)=true:=decide_eq_true hlt
   have hji:(j:Int) < (acts.length:Int):=by omega
   have hin:RigIn g F n R1:=hon_inS HU.out.hon (by have:=HC.out; omega) HSZ.out HS.out.F64 HS.out.F40 HS.out.p
   have HDO:=Lib.hid (do_any (kind:=a.kind) (blk:=a.blk) (data:=a.data) hai.kd.1 (by have:=hai.data; omega) hin HM.out)
   clear ha0 hai hin
   go_wp2_with fail
   refine HDO.out.mono ?_
   rintro e w5 ⟨R5,er5,hact,rfl,hr5,hk5⟩
   have HR5:=Lib.hid hr5
   have HK5:=Lib.hid (HK.out.trans hk5)
   have hpo:=HU.out.act HS.out HR.out (by have:=HC.out; omega) (by have:=HAI.out.data; simp only; omega) hact
   clear hact hr5 hk5 HDO a0 a1 a2
   rcases hpo with ⟨he0,hu5,_⟩ | ⟨he0,hg5⟩
   ·subst he0
    have HU5:=Lib.hid hu5
    clear hu5
    go_wp2
    go_roundw
    case rel=>exact ⟨j+1,R5,hlt,by go_num,HR5.out,HU5.out,HK5.out⟩
    case measure=>simp [intOf]; omega
   ·subst he0
    have HG:=Lib.hid hg5
    obtain ⟨p5,hq5⟩:=HR5.out
    have HQ5:Hid (RigQ w5 N r p5 q pw g F n R5):=hq5
    have HOF:=Lib.hid (off_rig HQ5.out)
    rw [hg5.down.off] at HOF
    have hin5:R5.S.d.O.length≤100000:=by
     have:=(hon_inS HG.out.hon (by have:=HC.out; omega) HSZ.out HS.out.F64 HS.out.F40 HS.out.p).O; omega
    have HRS:=Lib.hid (rst_rig keep HG.out.down hin5 HQ5.out)
    have HBA:=Lib.hid (HG.out.back HR.out keep)
    obtain ⟨x0,x1,x2,x3,_⟩:=HQ5.out.c
    clear hq5 hg5 hin5
    go_wp2_with fail
    refine HOF.out.mono ?_
    rintro e w6 ⟨rfl,rfl⟩
    go_wp2_with fail
    refine HRS.out.mono ?_
    rintro e w6 ⟨rfl,hr6,hk6⟩
    have HQ6:=Lib.hid hr6
    have HK6:=Lib.hid (HK5.out.trans hk6)
    have HON:=Lib.hid (on_rig hr6)
    clear hr6 hk6 HOF HRS x0 x1 x2 x3
    obtain ⟨x0,x1,x2,x3,_⟩:=HQ6.out.c
    go_wp2_with fail
    refine HON.out.mono ?_
    rintro e w7 ⟨rfl,hr7,hk7⟩
    have HQ7:Hid (RigQ w7 N r p5 q pw g F n { R5 with S:=⟨R5.S.v,rstD g R5.S.d keep⟩ }):=hr7
    have HK7:=Lib.hid (HK6.out.trans hk7)
    clear hr7 hk7 HON HQ6 HK6 x0 x1 x2 x3
    obtain ⟨x0,x1,x2,x3,_⟩:=HQ7.out.c
    have HOP:Hid (∀ W,RigQ W N r p5 q pw g F n { R5 with S:=⟨R5.S.v,rstD g R5.S.d keep⟩ }→Calls Tryz.prog 27 #[.pointer (some ⟨q,0,none⟩),.int .u64 0,.int .i64 (n:Int)] W (OpenQ W N r p5 q pw g F n { R5 with S:=⟨R5.S.v,rstD g R5.S.d keep⟩ })):=fun W hW=>
     open_rig HS.out.vg HS.out.p HBA.out.1 HFN.out HBA.out.2.1 hW
    have HQD:Hid (RigQ w7.drew N r p5 q pw g F n { R5 with S:=⟨R5.S.v,rstD g R5.S.d keep⟩ }):=by
     obtain ⟨ha,hc',fa,fc,hs,hh⟩:=HQ7.out
     exact ⟨ha,hc',fa,fc,hs,hh.below0 ((Below.refl _ _).drew)⟩
    obtain ⟨C,hC⟩:∃ C:List Value→World→Prop,C=fun h W=>match h with
     | []=>W=w7.drew
     | [v]=>OpenQ w7.drew N r p5 q pw g F n { R5 with S:=⟨R5.S.v,rstD g R5.S.d keep⟩ } (.returned v) W
     | _=>False:=⟨_,rfl⟩
    have hall:∀ t:HeldC C,∃ R9,RigQ t.w N r p5 q pw g F n R9:=fun t=>by
     obtain ⟨s,W,h⟩:=t
     simp only
     subst hC
     match s,h with
     | [],h=>have h':W=w7.drew:=h; rw [h']; exact ⟨_,HQD.out⟩
     | [v],h=>
       obtain ⟨p',v',_,_,h3,_⟩:=(h:OpenQ _ _ _ _ _ _ _ _ _ _ _ _)
       exact ⟨_,h3⟩
    have HC0:Hid (C [] w7.drew):=by subst hC; exact rfl
    have HK1':Hid (∀ W,C [] W→Calls Tryz.prog 27 #[.pointer (some ⟨q,0,none⟩),.int .u64 0,.int .i64 (n:Int)] W fun e w'=>∃ x,e= .returned x∧C ([]++[x]) w'):=by
     subst hC
     intro W hW
     have hW':W=w7.drew:=hW
     subst hW'
     refine (HOP.out _ HQD.out).mono ?_
     rintro e w' ⟨p',vv,h1,rfl,h3⟩
     exact ⟨_,rfl,⟨p',vv,h1,rfl,h3⟩⟩
    have HV1:Hid (∀ v W,C [v] W→OpenQ w7.drew N r p5 q pw g F n { R5 with S:=⟨R5.S.v,rstD g R5.S.d keep⟩ } (.returned v) W):=by subst hC; exact fun _ _ h=>h
    have f1:∀ t:HeldC C,t.w.cell? ⟨r,1,none⟩=some (.pointer (some ⟨q,0,none⟩)):=fun t=>by obtain ⟨_,h⟩:=hall t; exact h.c.2.1
    have f3:∀ t:HeldC C,t.w.cell? ⟨r,3,none⟩=some (.int .i64 n):=fun t=>by obtain ⟨_,h⟩:=hall t; exact h.c.2.2.2.1
    have hne:Nonempty (HeldC C):=⟨⟨[],_,HC0.out⟩⟩
    clear hC hall HOP x0 x1 x2 x3
    go_wp2_with fail
    refine wp_region_chain C [8] [8] (by kernel_rfl) (by kernel_rfl) (by kernel_rfl) (by kernel_rfl) HC0.out ?_
    repeat (refine wpCh_n (by rfl) (by rfl) ?_; go_big_quiet_step (fail); refine wpQuiet_nil ?_)
    refine wpCh_l (f:=27) (args:=#[.pointer (some ⟨q,0,none⟩),.int .u64 0,.int .i64 (n:Int)]) (by rfl) (by rfl) (fun W=>by simp [go_sem]) (fun W hW=>HK1'.out W hW) (fun v W hW=>?_)
    obtain ⟨p',vv,hov,hev,_⟩:=HV1.out v W hW
    injection hev with hev
    subst hev
    go_big_quiet_step (fail)
    refine wpQuiet_nil ?_
    repeat (refine wpCh_n (by rfl) (by rfl) ?_; go_big_quiet_step (fail); refine wpQuiet_nil ?_)
    refine wpCh_nil ?_
    intro w8 hw8
    obtain ⟨p2,v2,hov2,he2,hq8,hq9,hk8,hk9⟩:=HV1.out _ _ hw8
    injection he2 with he2
    have he3:Value.pointer (some ⟨p',0,none⟩)=Value.pointer (some ⟨p2,0,none⟩):=by
     injection he2 with he2; injection he2 with he2; injection he2 with he2
    injection he3 with he3; injection he3 with he3; injection he3 with he3
    subst he3
    obtain ⟨_,_,y2,_,z2⟩:=hq8.c
    have HB8:=Lib.hid (HBA.out.2.2 v2 hov2)
    have HQ9:=Lib.hid hq9
    have HK9:Hid (KeptT RGT (Bd.of N) w (w8.setCell ⟨r,2,none⟩ (.pointer (some ⟨p',0,none⟩)))):=(HK7.out.thenBelow ((Below.refl _ _).drew)).trans hk9
    have HEN:=Lib.hid (entries_any HR.out HFN.out HS.out.nn.1.2 (by have:=HC.out; omega) HB8.out hq9.m)
    clear hw8 hov hov2 hq8 hq9 hk8 hk9 HK1' HV1 HC0 f1 f3 hne HQ7 HQD HBA
    go_wp2_with fail
    refine HEN.out.mono ?_
    rintro e wa ⟨rfl,⟨S9,hra,hba,hsv⟩,hka⟩
    have HRA:Hid (∃ R',RigM wa N r q pw g F n R'∧Fine g n (c+acts.length) R'∧Rise R'.hist R'.next∧R'.S.d.O=[]):=by
     have h1:=hba.done
     have h2:=(h1.mono (show c+j+1≤c+acts.length by omega)).fine hba.un
     simp only at h2 h1 hra hsv
     rw [hsv] at h2 h1
     exact ⟨_,hra,h2,h1.rise,hba.O⟩
    have HKA:=Lib.hid (HK9.out.trans hka)
    clear hra hba hsv hka HEN
    go_wp2
    go_ret
    exact ⟨rfl,HRA.out,HKA.out⟩
  ·obtain rfl:j=acts.length:=by omega
   have d1:decide ((acts.length:Int) < (acts.length:Int))=false:=decide_eq_false (by omega)
   have d2:decide (acts.length < acts.length)=false:=decide_eq_false (by omega)
   obtain ⟨p5,hq5⟩:=HM.out
   have HQ5:Hid (RigQ wr N r p5 q pw g F n R1):=hq5
   have HOF:=Lib.hid (off_rig HQ5.out)
   rw [HU.out.off] at HOF
   have HAM:=Lib.hid (arm_rig (-1) HQ5.out)
   have HF1:=Lib.hid HU.out.disarm
   have hri:Rise (armR R1 (-1)).hist (armR R1 (-1)).next:=HU.out.rise
   have HRI:=Lib.hid hri
   have HIN:=Lib.hid (hon_inS HF1.out.hon (by have:=HC.out; omega) HSZ.out HS.out.F64 HS.out.F40 HS.out.p)
   obtain ⟨x0,x1,x2,x3,_⟩:=HQ5.out.c
   clear hq5 hri
   go_wp2_with fail
   refine HOF.out.mono ?_
   rintro e w6 ⟨rfl,rfl⟩
   go_wp2_with fail
   refine HAM.out.mono ?_
   rintro e w6 ⟨rfl,hr6,hk6⟩
   generalize armR R1 (-1)=R6 at *
   have HQ6:=Lib.hid hr6
   have HK6:=Lib.hid (HK.out.trans hk6)
   have hff:=HF1.out.flush HR.out
   have hfl:=HQ6.out.flush HFN.out (by have:=HIN.out.O; omega)
   rw [hff.1] at hfl
   have HFF:=Lib.hid hff.2
   have HFL:=Lib.hid hfl
   clear hr6 hk6 HOF HAM hff hfl x0 x1 x2 x3
   obtain ⟨x0,x1,x2,x3,_⟩:=HQ6.out.c
   go_wp2_with fail
   refine HFL.out.mono ?_
   rintro e w7 ⟨rfl,hr7,hk7⟩
   have HQ7:=Lib.hid hr7
   have HK7:=Lib.hid (HK6.out.trans hk7)
   have HAL:=Lib.hid (fine_all HS.out HR.out HFF.out.1 (by have:=HC.out; omega) hr7.m)
   clear hr7 hk7 HFL x0 x1 x2 x3
   go_wp2_with fail
   refine HAL.out.mono ?_
   rintro e w8 ⟨rfl,⟨R8,hr8,hf8,_,hh8,hn8,ho8⟩,hk8⟩
   have HRA:Hid (∃ R',RigM w8 N r q pw g F n R'∧Fine g n (c+acts.length) R'∧Rise R'.hist R'.next∧R'.S.d.O=[]):=by
    refine ⟨R8,hr8,hf8,?_,ho8.trans HFF.out.2⟩
    rw [hh8,hn8]; exact HRI.out
   have HKA:=Lib.hid (HK7.out.trans (hk8.sub drt_rgt))
   clear hr8 hf8 hh8 hn8 ho8 hk8 HAL
   go_wp2
   go_ret
   exact ⟨rfl,HRA.out,HKA.out⟩
end
end Go.Proofs.YtggkengmlkhdiaaGreat
