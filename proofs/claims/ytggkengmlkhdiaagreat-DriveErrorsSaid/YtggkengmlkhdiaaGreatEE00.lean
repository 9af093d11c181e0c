/-
  WHAT IS SHOWN: a part of the proof of DriveErrors. Conditions: none.
-/
import Derived.Test.YtggkengmlkhdiaaGreatR46
namespace Go.Proofs.YtggkengmlkhdiaaGreat
set_option linter.unusedVariables false
open Go.RowKit
section
variable {w w':World} {B:Bd} {p q pw:Nat} {g:Geo} {F:List Flt} {key:Int} {S:ST} {ea ec:Nat} {BA:Option Addr} {bc:Nat}
set_option maxRecDepth 100000
set_option maxHeartbeats 4000000
theorem blocks20_any (h:Drv w B p q pw g F key S ea ec BA bc):Calls Tryz.prog 17 #[.pointer (some ⟨p,0,none⟩)] w fun e w'=>e= .returned (.int .i64 S.v.es.length)∧w'=w:=by
 have c2:=h.cells.2.2.1
 clear h
 go_enter Tryz.func17,Tryz.ntmps17
 go_wp2
 go_ret
 exact ⟨rfl,rfl⟩
end
end Go.Proofs.YtggkengmlkhdiaaGreat
namespace Go.Proofs.YtggkengmlkhdiaaGreat
set_option linter.unusedVariables false
open Go.ChangeShapes Go.WideShapes Go.ChangeAt Go.RowKit Go.Deep
theorem u64_of {x:Int} (h:(Lit.int .u64 x).wf=true):0≤x∧x≤18446744073709551615:=by
 simp [Lit.wf,IntKind.min,IntKind.max,IntKind.signed,IntKind.bits] at h
 exact ⟨by omega,by omega⟩
section
variable {H:Type} {enc:TypeId × Value→H} {w:World} {base:Nat} {spare:Nat→Bool} {held:Bool}
end
end Go.Proofs.YtggkengmlkhdiaaGreat
namespace Go.Proofs.YtggkengmlkhdiaaGreat
set_option linter.unusedVariables false
open Go.RowKit
def LastIs (g:Geo) (F:List Flt) (S:ST) (b:Nat) (l:List Wr):Prop:=
 match l.getLast? with
 | none=>verX S.v b=(0,false)∧readE20 g F 0 S b=9
 | some w=>verX S.v b=(w.ver,true)∧(if w.trim=true then readE20 g F 0 S b=9∧readX20 g F 0 S b=noEnt else readE20 g F 0 S b=0∧(readX20 g F 0 S b).ver=w.ver∧(readX20 g F 0 S b).dt=w.dt)
section
variable {w:World} {N r q pw:Nat} {g:Geo} {F:List Flt} {n:Nat} {R:RG}
set_option maxRecDepth 100000 in
set_option maxHeartbeats 16000000 in
theorem last_yes {b:Nat} {l:List Wr} (hb:b < n) (hl:R.hist[b]?=some l) (hll:l.length≤1000000) (hi:LastIs g F R.S b l) (hu8:R.S.d.U8) (hF:F.length≤9223372036854775807) (h:RigM w N r q pw g F n R):
  Calls Tryz.prog 54 #[.pointer (some ⟨r,0,none⟩),.int .i64 b] w fun e w'=>e= .returned (.bool true)∧RigM w' N r q pw g F n { R with S:=readS20 g F 0 R.S b }∧KeptT DRT (Bd.of N) w w':=by
 obtain ⟨p,ha,hc,fa,fc,hs,h⟩:=h
 have H0:=Lib.hid h
 obtain ⟨ea,ec,BA,bc,hd⟩:=h.drv
 have HVE:=Lib.hid (version20_any (b:Int) hd)
 have HRD:Hid (∀ W,Below w.heap.size w W→Calls Tryz.prog 14 #[.pointer (some ⟨p,0,none⟩),.int .i64 (b:Int)] W (ReadTo20 W (Bd.of N) p q pw g F 0 R.S ea ec (b:Int))):=fun W hW=>read20_any (key:=0) (b:Int) hu8 hF (hd.below0 hW)
 have hbl:b < hs.length:=by
  have:=(List.getElem?_eq_some_iff.1 hl).1
  rw [h.hl]; exact this
 have HKK:=Lib.hid (List.getElem?_eq_getElem hbl)
 generalize hs[b]=k at HKK
 have hkl:k.xs=l:=by
  have h1:=h.hh
  have h2:R.hist[b]?=some k.xs:=by rw [← h1,List.getElem?_map,HKK.out]; rfl
  rw [hl] at h2; injection h2 with h2; exact h2.symm
 subst hkl
 have hl8:=readX_len (g:=g) (F:=F) (key:=0) (b:=(b:Int)) (S:=R.S)
 obtain ⟨dd0,dd1,dd2,dd3,dd4,dd5,dd6,dd7,hdt⟩:=len8 hl8
 have HFI:Hid (∀ W S',DrvTo w (Bd.of N) p q pw g F 0 S' ea ec W→RigM W N r q pw g F n { R with S:=S' }∧KeptT DRT (Bd.of N) w W):=fun W S' ⟨BA1,bc1,h1,h2⟩=>⟨⟨p,ha,hc,fa,fc,hs,H0.out.drive ⟨ea,ec,BA1,bc1,h1⟩ h2⟩,h2⟩
 have HLT:Hid (N≤w.heap.size):=Nat.le_of_lt (Nat.lt_of_le_of_lt h.low h.lt)
 unfold LastIs at hi
 have HLI:=Lib.hid hi
 unfold ReadTo20 at HRD
 have HLL:=Lib.hid hll
 obtain ⟨x0,x1,x2,x3,x4,x5,x6⟩:=h.cells
 clear hd hi h hl8 hl hll
 rw [hdt] at HRD HLI
 simp only [List.map_cons,List.map_nil] at HRD
 generalize hVX:verX R.S.v (b:Int)=VX at *
 generalize readE20 g F 0 R.S (b:Int)=rer at *
 have HX0:Hid (readX20 g F 0 R.S (b:Int)=noEnt→(readX20 g F 0 R.S (b:Int)).ver=0∧[dd0,dd1,dd2,dd3,dd4,dd5,dd6,dd7]=zeros8):=fun hh=>by
  rw [← hdt,hh]; exact ⟨rfl,rfl⟩
 generalize readX20 g F 0 R.S (b:Int)=rx at *
 generalize readS20 g F 0 R.S (b:Int)=S6 at *
 obtain ⟨vx,hx⟩:=VX
 clear hVX hdt
 obtain ⟨rv,hrv⟩:∃ rv,rx.ver=rv:=⟨_,rfl⟩
 rw [hrv] at HRD HLI HX0
 simp only at HVE
 go_enter Tryz.func54,Tryz.ntmps54
 go_wp2_with fail
 refine HVE.out.mono ?_
 rintro e w1 ⟨rfl,hb1⟩
 have HB1:=Lib.hid hb1
 have HR1:=Lib.hid (HRD.out w1 hb1)
 have h1:=H0.out.below0 hb1
 clear x0 x1 x2 x3 x4 x5 x6 HVE HRD hb1
 obtain ⟨x0,x1,x2,x3,x4,x5,x6⟩:=h1.cells
 clear h1
 go_wp2_with fail
 refine HR1.out.mono ?_
 rintro e w6 ⟨rfl,hto6⟩
 have HT6:=Lib.hid (hto6.from HB1.out)
 clear hto6 HR1 HB1 x0 x1 x2 x3 x4 x5 x6
 have HR6:=Lib.hid (HFI.out w6 S6 HT6.out)
 obtain ⟨BA6,bc6,hd6,hk6⟩:=HT6.out
 have HG6:=Lib.hid (H0.out.drive ⟨ea,ec,BA6,bc6,hd6⟩ hk6)
 clear hd6 hk6 HT6
 have hX7:(w6.alloc (.cells #[.int .u8 dd0,.int .u8 dd1,.int .u8 dd2,.int .u8 dd3,.int .u8 dd4,.int .u8 dd5,.int .u8 dd6,.int .u8 dd7] 27)).heap[w6.heap.size]?=some (.cells #[.int .u8 dd0,.int .u8 dd1,.int .u8 dd2,.int .u8 dd3,.int .u8 dd4,.int .u8 dd5,.int .u8 dd6,.int .u8 dd7] 27 (0,0)):=heap_alloc_new _ _
 have hB7:Below w6.heap.size w6 (w6.alloc (.cells #[.int .u8 dd0,.int .u8 dd1,.int .u8 dd2,.int .u8 dd3,.int .u8 dd4,.int .u8 dd5,.int .u8 dd6,.int .u8 dd7] 27)):=(Below.refl _ _).alloc (Nat.le_refl _) _
 have HR7:=Lib.hid (HG6.out.below0 hB7)
 have HX7:=Lib.hid hX7
 have HK7:Hid (KeptT DRT (Bd.of N) w (w6.alloc (.cells #[.int .u8 dd0,.int .u8 dd1,.int .u8 dd2,.int .u8 dd3,.int .u8 dd4,.int .u8 dd5,.int .u8 dd6,.int .u8 dd7] 27))):=HR6.out.2.thenBelow hB7
 have HFN:Hid (∀ W,Below (w6.alloc (.cells #[.int .u8 dd0,.int .u8 dd1,.int .u8 dd2,.int .u8 dd3,.int .u8 dd4,.int .u8 dd5,.int .u8 dd6,.int .u8 dd7] 27)).heap.size (w6.alloc (.cells #[.int .u8 dd0,.int .u8 dd1,.int .u8 dd2,.int .u8 dd3,.int .u8 dd4,.int .u8 dd5,.int .u8 dd6,.int .u8 dd7] 27)) W→RigM W N r q pw g F n { R with S:=S6 }∧KeptT DRT (Bd.of N) w W):=fun W hW=>⟨⟨p,ha,hc,fa,fc,hs,HR7.out.below0 hW⟩,HK7.out.thenBelow hW⟩
 clear hX7 hB7 HR6 HG6 HFI
 go_upto_region 3 with fail
 generalize (w6.alloc (.cells #[.int .u8 dd0,.int .u8 dd1,.int .u8 dd2,.int .u8 dd3,.int .u8 dd4,.int .u8 dd5,.int .u8 dd6,.int .u8 dd7] 27))=w7 at *
 generalize w6.heap.size=b7 at *
 obtain ⟨z0,z1,z2,z3,z4,z5,z6⟩:=HR7.out.cells
 have hcb:=HR7.out.hist.cell HKK.out
 unfold Hs.v at hcb
 cases hg:k.xs.getLast? with
 | none=>
   have hnil:k.xs=[]:=List.getLast?_eq_none_iff.1 hg
   have HLJ:=HLI.out
   rw [hg] at HLJ
   obtain ⟨j1,j2⟩:=HLJ
   injection j1 with j1 j3
   subst j1; subst j2; subst j3
   have hk0:k.xs.length=0:=by rw [hnil]; rfl
   rw [hk0] at hcb
   clear hnil hg hk0
   go_wp2
   go_ret
   exact ⟨rfl,(HFN.out w7 (Below.refl _ _)).1,(HFN.out w7 (Below.refl _ _)).2⟩
 | some x=>
   obtain ⟨m,hm⟩:∃ m,k.xs.length=m+1:=by
    cases hx:k.xs with
    | nil=>rw [hx] at hg; cases hg
    | cons a t=>exact ⟨t.length,rfl⟩
   have hxm:k.xs[m]?=some x:=by
    rw [List.getLast?_eq_getElem?,hm] at hg; exact hg
   obtain ⟨gk,q0,q1,q2,q3,q4,q5,q6,q7,hA,hw⟩:=HR7.out.hist.wr HKK.out hxm
   obtain ⟨hdt,m0,m1,m2,m3,m4,m5,m6,m7,m8,m9⟩:=hw
   have hgl:gk < w7.heap.size:=block_lt_of_cell m0
   have hrl:r < w7.heap.size:=HR7.out.lt
   have hal:ha < w7.heap.size:=(IsT.own HR7.out.hist.own).lt
   obtain ⟨L,hL⟩:∃ L,k.xs.length=L:=⟨_,rfl⟩
   rw [hA,hL] at hcb
   have HLJ:=HLI.out
   rw [hg] at HLJ
   obtain ⟨j1,j2⟩:=HLJ
   injection j1 with j1 j3
   subst j1; subst j3
   have HJ2:=Lib.hid j2
   have HDT:=Lib.hid hdt
   have hbl:b < hs.length:=(List.getElem?_eq_some_iff.1 HKK.out).1
   have hml:m≤1000000:=by have:=HLL.out; omega
   have e0:((L:Int)==0)=false:=by simp; omega
   have e1:(L==0)=false:=by simp; omega
   have hwr:IntKind.i64.wrap ((L:Int) - 1)=(m:Int):=by rw [IntKind.wrap_i64]; omega
   have hmL:(m:Int) < (L:Int):=by omega
   have hmN:m < L:=by omega
   have hm0:(0:Int)≤(m:Int):=by omega
   have HFC:Hid (∀ W:World,Below w7.heap.size w7 W→W.heap[b7]?=some (.cells #[.int .u8 dd0,.int .u8 dd1,.int .u8 dd2,.int .u8 dd3,.int .u8 dd4,.int .u8 dd5,.int .u8 dd6,.int .u8 dd7] 27 (0,0))):=fun W hW=>belObj hW HX7.out (lt_of_block HX7.out)
   clear hg hxm j2 hdt hA hm hL
   go_upto_region 5 with fail
   go_cut [10] (fun s10 wx=>∃ b8,s10= .pointer (some ⟨b8,0,none⟩)∧Hid (wx.heap[b8]?=some (.cells #[.int .u64 x.ver,.int .u8 q0,.int .u8 q1,.int .u8 q2,.int .u8 q3,.int .u8 q4,.int .u8 q5,.int .u8 q6,.int .u8 q7,.bool x.trim] 64 (0,0))∧Below w7.heap.size w7 wx))
   case first=>
    go_region_held3 (fun W=>W.cell? ⟨r,4,none⟩=some (.slice (some ⟨ha,0,none⟩) hs.length hc)∧W.cell? ⟨ha,b,none⟩=some (.slice (some ⟨gk,0,none⟩) L k.c)∧W.cell? ⟨gk,m * 10,none⟩=some (.int .u64 x.ver)∧W.cell? ⟨gk,m * 10+1,none⟩=some (.int .u8 q0)∧W.cell? ⟨gk,m * 10+2,none⟩=some (.int .u8 q1)∧W.cell? ⟨gk,m * 10+3,none⟩=some (.int .u8 q2)∧W.cell? ⟨gk,m * 10+4,none⟩=some (.int .u8 q3)∧W.cell? ⟨gk,m * 10+5,none⟩=some (.int .u8 q4)∧W.cell? ⟨gk,m * 10+6,none⟩=some (.int .u8 q5)∧W.cell? ⟨gk,m * 10+7,none⟩=some (.int .u8 q6)∧W.cell? ⟨gk,m * 10+8,none⟩=some (.int .u8 q7)∧W.cell? ⟨gk,m * 10+9,none⟩=some (.bool x.trim))
     (first | (refine ⟨?_,?_,?_,?_,?_,?_,?_,?_,?_,?_,?_,?_⟩ <;> assumption) | (simp (maxDischargeDepth:=20) [World.cell?_alloc_some, *]; done))
     (fail)
    all_goals (go_wp2_with fail; go_meet)
    exact ⟨_,rfl,heap_alloc_new w7 _,((Below.refl _ _).alloc (Nat.le_refl _) _).drew⟩
   case rest=>
    obtain ⟨b8,rfl,H8⟩:=hcut
    obtain ⟨⟨p0,p1,p2,p3,p4,p5,p6,p7,p8,p9⟩,_⟩:=cells10w H8.out.1
    obtain ⟨⟨y0,y1,y2,y3,y4,y5,y6,y7⟩,_⟩:=cells8q (HFC.out _ H8.out.2)
    have HFZ:=Lib.hid (HFN.out _ H8.out.2)
    clear m0 m1 m2 m3 m4 m5 m6 m7 m8 m9 z0 z1 z2 z3 z4 z5 z6 hcb hgl hrl hal
    obtain ⟨tr,htr⟩:∃ tr,x.trim=tr:=⟨_,rfl⟩
    have HJ3:=HJ2.out
    rw [htr] at HJ3 p9
    clear HJ2
    cases tr
    ·simp only [Bool.false_eq_true,if_false] at HJ3
     obtain ⟨rfl,h2,h3⟩:=HJ3
     subst h2
     have hbe:∀ W:World,(Op.equalIn 10000 27 (.agg #[.int .u8 dd0,.int .u8 dd1,.int .u8 dd2,.int .u8 dd3,.int .u8 dd4,.int .u8 dd5,.int .u8 dd6,.int .u8 dd7]) (.agg #[.int .u8 q0,.int .u8 q1,.int .u8 q2,.int .u8 q3,.int .u8 q4,.int .u8 q5,.int .u8 q6,.int .u8 q7])).run Tryz.prog W= .ok true W:=fun W=>by
      rw [blk_eql,decide_eq_true (h3.trans HDT.out)]
     clear h3 htr
     go_wp2
     go_ret
     exact ⟨rfl,HFZ.out.1,HFZ.out.2⟩
    ·simp only [if_true] at HJ3
     obtain ⟨rfl,h2⟩:=HJ3
     obtain ⟨h3,h4⟩:=HX0.out h2
     have hbe:∀ W:World,(Op.equalIn 10000 27 (.agg #[.int .u8 dd0,.int .u8 dd1,.int .u8 dd2,.int .u8 dd3,.int .u8 dd4,.int .u8 dd5,.int .u8 dd6,.int .u8 dd7]) (.agg #[.int .u8 0,.int .u8 0,.int .u8 0,.int .u8 0,.int .u8 0,.int .u8 0,.int .u8 0,.int .u8 0])).run Tryz.prog W= .ok true W:=fun W=>by
      have h5:[dd0,dd1,dd2,dd3,dd4,dd5,dd6,dd7]=[0,0,0,0,0,0,0,0]:=h4
      rw [blk_eql,decide_eq_true h5]
     subst h3
     clear h2 h4 htr
     go_wp2
     go_ret
     exact ⟨rfl,HFZ.out.1,HFZ.out.2⟩
theorem LastIs.of (hR:RunF F) (h:NowS g n R.hist R.S) (hu:R.S.d.P.armed=false) {b:Nat} (hb:b < n) {l:List Wr} (hl:R.hist[b]?=some l):LastIs g F R.S b l:=(read20_on hR h hu hb hl).2.2.2.2.2
set_option maxRecDepth 100000 in
set_option maxHeartbeats 16000000 in
theorem all_yes {c:Nat} (hR:RunF F) (hF:F.length≤9223372036854775807) (hn:n≤65536) (hG:GoodR g n c R) (hH:HonI g n c R) (hl:R.hist.length=n) (hll:∀ l∈R.hist,l.length≤1000000) (hu:R.S.d.P.armed=false) (h:RigM w N r q pw g F n R):
  Calls Tryz.prog 33 #[.pointer (some ⟨r,0,none⟩)] w fun e w'=>e= .returned (.bool true)∧(∃ S',RigM w' N r q pw g F n { R with S:=S' }∧GoodR g n c { R with S:=S' }∧S'.d.P.armed=false∧S'.v=R.S.v∧HonI g n c { R with S:=S' })∧KeptT DRT (Bd.of N) w w':=by
 have HH0:=Lib.hid hH
 have H0:=Lib.hid h
 have HG0:=Lib.hid hG
 have HU0:=Lib.hid hu
 have HHL:=Lib.hid hl
 have HLL:=Lib.hid hll
 have HR:=Lib.hid hR
 clear hR hG hH hl hu hll h
 go_enter Tryz.func33,Tryz.ntmps33
 go_wp2
 go_loopw [3] (fun i wr=>∃ (j:Nat) (S':ST),j≤n∧i= .int .i64 j∧Hid (RigM wr N r q pw g F n { R with S:=S' })∧Hid (GoodR g n c { R with S:=S' })∧Hid (S'.d.P.armed=false∧S'.v=R.S.v∧HonI g n c { R with S:=S' })∧Hid (KeptT DRT (Bd.of N) w wr)) (fun i _=>n - (intOf i).toNat)
 case atStart=>exact ⟨0,R.S,Nat.zero_le _,rfl,H0.out,HG0.out,⟨HU0.out,rfl,HH0.out⟩,KeptT.refl _ _ _⟩
 case round=>
  obtain ⟨j,S',hj,rfl,HM,HG,HS,HK⟩:=hrel
  obtain ⟨p,ha,hc,fa,fc,hs,hm⟩:=HM.out
  obtain ⟨x0,x1,x2,x3,x4,x5,x6⟩:=hm.cells
  clear hm
  by_cases hlt:j < n
  ·have d1:decide ((j:Int) < (n:Int))=true:=decide_eq_true (by omega)
   have d2:decide (j < n)=true:=decide_eq_true hlt
   have hh:=List.getElem?_eq_getElem (show j < R.hist.length by rw [HHL.out]; exact hlt)
   have hml:=HLL.out _ (List.getElem_mem (show j < R.hist.length by rw [HHL.out]; exact hlt))
   generalize R.hist[j]'(by rw [HHL.out]; exact hlt)=l at hh hml
   have hli:LastIs g F S' j l:=LastIs.of (R:={ R with S:=S' }) HR.out HG.out.now HS.out.1 hlt hh
   have HLA:=Lib.hid (last_yes (R:={ R with S:=S' }) hlt hh hml hli HG.out.now.u8 hF HM.out)
   have hrd:=HG.out.read HR.out HHL.out HS.out.1 hlt
   have hro:=hon_rd (F:=F) (b:=(j:Int)) HS.out.2.2
   have HRD:=Lib.hid hrd
   have HRO:=Lib.hid hro
   clear hh hml hli hrd hro
   go_wp2_with fail
   refine HLA.out.mono ?_
   rintro e w2 ⟨rfl,hm2,hk2⟩
   have HX:Hid (RigM w2 N r q pw g F n { R with S:=readS20 g F 0 S' j }∧KeptT DRT (Bd.of N) w w2):=⟨hm2,HK.out.trans hk2⟩
   clear hm2 hk2 HLA x0 x1 x2 x3 x4 x5 x6
   go_wp2
   go_roundw
   case rel=>exact ⟨j+1,readS20 g F 0 S' j,hlt,by go_num,HX.out.1,HRD.out.1,⟨HRD.out.2.1,HRD.out.2.2.trans HS.out.2.1,HRO.out⟩,HX.out.2⟩
   case measure=>simp [intOf]; omega
  ·obtain rfl:j=n:=by omega
   have d1:decide ((j:Int) < (j:Int))=false:=decide_eq_false (by omega)
   have d2:decide (j < j)=false:=decide_eq_false (by omega)
   go_wp2
   go_ret
   exact ⟨rfl,⟨S',HM.out,HG.out,HS.out⟩,HK.out⟩
end
end Go.Proofs.YtggkengmlkhdiaaGreat
namespace Go.Proofs.YtggkengmlkhdiaaGreat
set_option linter.unusedVariables false
open Go.RowKit
structure Fine (g:Geo) (n c:Nat) (R:RG):Prop where
 good:GoodR g n c R
 hon:HonI g n c R
 un:R.S.d.P.armed=false
structure Small (g:Geo) (n:Nat) (F:List Flt):Prop where
 vg:Vg g
 p:possB g n=true
 F40:F.length≤40
 F64:∀ f∈F,I64 f.to_
 vf:validF F=true
section
variable {g:Geo} {F:List Flt} {n c:Nat} {R R':RG} {a:Act20} {er:Int}
theorem Small.nn (h:Small g n F):(1≤n∧n≤65536)∧(n:Int)≤(g.bands - 3) * bz g:=by
 have:=h.p
 unfold possB at this
 rw [bzN_valid h.vg] at this
 simp only [Bool.and_eq_true,decide_eq_true_eq] at this
 exact ⟨⟨by omega,by omega⟩,this.2.2⟩
theorem Fine.act (hS:Small g n F) (hR:RunF F) (h:Fine g n c R) (hc:c≤1000) (hd:0≤a.data∧a.data < 256) (hr:ActR g F n a R R' er):er=0∧Fine g n (c+1) R'∧(1≤V.freeN R.S.v.bs→1≤V.freeN R'.S.v.bs):=by
 obtain ⟨hn,hnb⟩:=hS.nn
 have hh:=act_hon hR.noTear hn hd hc h.hon hr
 rcases act_on hR h.good h.hon hc hnb hn hd hr with ⟨h1,h2,h3,h4⟩ | ⟨_,h2,_⟩
 ·exact ⟨h1,⟨h2,hh,h3.trans h.un⟩,h4⟩
 ·have:=h2.armed; rw [h.un] at this; cases this
theorem Fine.in_ (hS:Small g n F) (h:Fine g n c R) (hc:c≤80):RigIn g F n R:=hon_in h.hon hc hS.F64 hS.F40 hS.p
theorem fine0 (hS:Small g n F) (hR:RunF F):(newDD g F 0 (d0N g)).2=0∧Fine g n 0 (R0 g F n)∧1≤V.freeN (R0 g F n).S.v.bs:=by
 obtain ⟨h1,h2,h3,h4⟩:=good0 (F:=F) hR hS.vg hS.nn.1
 exact ⟨h1,⟨h2,hon0 hS.vg hS.nn.1 h1,h3⟩,h4⟩
end
section
variable {w:World} {N r q pw:Nat} {g:Geo} {F:List Flt} {n c:Nat} {R:RG}
theorem fine_all (hS:Small g n F) (hR:RunF F) (hF:Fine g n c R) (hc:c≤1000) (h:RigM w N r q pw g F n R):
  Calls Tryz.prog 33 #[.pointer (some ⟨r,0,none⟩)] w fun e w'=>e= .returned (.bool true)∧(∃ R',RigM w' N r q pw g F n R'∧Fine g n c R'∧R'.S.v=R.S.v∧R'.hist=R.hist∧R'.next=R.next)∧KeptT DRT (Bd.of N) w w':=by
 refine (all_yes hR (by have:=hS.F40; omega) hS.nn.1.2 hF.good hF.hon hF.hon.hl (fun l hl=>by have:=hF.hon.hn l hl; omega) hF.un h).mono ?_
 rintro e w' ⟨h1,⟨S',h2,h3,h4,h5,h6⟩,h7⟩
 exact ⟨h1,⟨{ R with S:=S' },h2,⟨h3,h6,h4⟩,h5,rfl,rfl⟩,h7⟩
end
end Go.Proofs.YtggkengmlkhdiaaGreat
namespace Go.Proofs.YtggkengmlkhdiaaGreat
set_option linter.unusedVariables false
open Go.RowKit
theorem fine_start {g:Geo} {n:Nat} {F:List Flt} (hS:Small g n F) (hR:RunF F) (A0 A1:Option Addr) (c0 c1 m:Nat) (w:World) (hr:Rd w w.heap.size A0 (flatF F)):
  Calls Tryz.prog 23 #[.agg #[.int .i64 g.random,.int .i64 g.bands,.int .i64 g.tracks,.int .i64 g.sectors,.int .i64 g.overlap,.int .i64 (n:Int),.slice A0 F.length c0,.slice A1 m c1]] w fun e w'=>(∃ r q pw,e= .returned (.tuple #[.pointer (some ⟨r,0,none⟩),.int .i64 0])∧RigM w' w.heap.size r q pw g F n (R0 g F n))∧Below w.heap.size w w':=by
 refine (start_any g n F A0 A1 c0 c1 m w hS.vg hS.p hr hS.vf (by have:=hS.F40; omega)).mono ?_
 rintro e w' ⟨hb,hpo⟩
 rw [if_pos (fine0 hS hR).1] at hpo
 exact ⟨hpo,hb⟩
end Go.Proofs.YtggkengmlkhdiaaGreat
namespace Go.Proofs.YtggkengmlkhdiaaGreat
set_option linter.unusedVariables false
open Go.RowKit
structure FencD (d:DC):Prop where
 dead:d.s.dead=false
 off:d.P.off=false
 seen:d.s.seen=d.P.fails
 un:d.P.armed=false
 key:d.s.key≠0
end Go.Proofs.YtggkengmlkhdiaaGreat
namespace Go.Proofs.YtggkengmlkhdiaaGreat
set_option linter.unusedVariables false
open Go.RowKit
section
variable {w:World} {N r p q pw:Nat} {g:Geo} {F:List Flt} {n:Nat} {R:RG}
def RigP (w:World) (N r p q pw:Nat) (g:Geo) (F:List Flt) (n:Nat) (R:RG):Prop:=∃ ha hc fa fc hs,Rig w N r p q pw ha hc fa fc g F n R hs
theorem RigP.below {w':World} (h:RigP w N r p q pw g F n R) (hb:Below w.heap.size w w'):RigP w' N r p q pw g F n R:=by
 obtain ⟨ha,hc,fa,fc,hs,h⟩:=h
 exact ⟨ha,hc,fa,fc,hs,h.below0 hb⟩
theorem RigP.c1 (h:RigP w N r p q pw g F n R):w.cell? ⟨r,1,none⟩=some (.pointer (some ⟨q,0,none⟩)):=by
 obtain ⟨ha,hc,fa,fc,hs,h⟩:=h
 exact h.cells.2.1
theorem RigP.c2 (h:RigP w N r p q pw g F n R):w.cell? ⟨r,2,none⟩=some (.pointer (some ⟨p,0,none⟩)):=by
 obtain ⟨ha,hc,fa,fc,hs,h⟩:=h
 exact h.cells.2.2.1
theorem RigP.to {w':World} {S':ST} {ea ec:Nat} {ha hc fa fc:Nat} {hs:List Hs} (HH:Rig w N r p q pw ha hc fa fc g F n R hs) (h:DrvTo w (Bd.of N) p q pw g F 0 S' ea ec w'):RigP w' N r p q pw g F n { R with S:=S' }∧KeptT RGT (Bd.of N) w w':=by
 obtain ⟨BA,bc,h1,h2⟩:=h
 exact ⟨⟨ha,hc,fa,fc,hs,HH.drive ⟨ea,ec,BA,bc,h1⟩ h2⟩,h2.sub drt_rgt⟩
end
end Go.Proofs.YtggkengmlkhdiaaGreat
namespace Go.Proofs.YtggkengmlkhdiaaGreat
set_option linter.unusedVariables false
open Go.RowKit
section
variable {w:World} {N r p q pw:Nat} {g:Geo} {F:List Flt} {n:Nat} {R:RG}
theorem nogeo_any:Calls Tryz.prog 57 #[.pointer none] w fun e w'=>e= .returned (.agg #[.int .i64 0,.int .i64 0,.int .i64 0,.int .i64 0,.int .i64 0])∧Below w.heap.size w w':=by
 go_enter Tryz.func57,Tryz.ntmps57
 go_wp2
 exact bodyPost_ret (v:=.agg #[.int .i64 0,.int .i64 0,.int .i64 0,.int .i64 0,.int .i64 0]) (by simp [results,Tryz.results57,go_sem]) rfl ⟨rfl,(Below.refl _ _).alloc (Nat.le_refl _) _⟩
theorem nocreate_any (key n:Int):Calls Tryz.prog 56 #[.pointer none,.int .u64 key,.int .i64 n] w fun e w'=>e= .returned (.tuple #[.pointer none,.int .i64 1])∧Below w.heap.size w w':=by
 have HG:=Lib.hid (nogeo_any (w:=w))
 go_enter Tryz.func56,Tryz.ntmps56
 go_wp2_with fail
 refine HG.out.mono ?_
 rintro e w1 ⟨rfl,hb1⟩
 go_upto_region 2 with fail
 have hb2:Below w.heap.size w (w1.alloc (.cells #[.int .i64 0,.int .i64 0,.int .i64 0,.int .i64 0,.int .i64 0] 42)):=hb1.alloc hb1.size _
 have HB2:=Lib.hid hb2
 clear hb2 hb1
 generalize (w1.alloc (.cells #[.int .i64 0,.int .i64 0,.int .i64 0,.int .i64 0,.int .i64 0] 42))=w2 at *
 go_quiet (fail)
 go_wp2
 exact bodyPost_ret (v:=.tuple #[.pointer none,.int .i64 1]) (by simp [results,Tryz.results56,go_sem]) rfl ⟨rfl,below_drewN HB2.out _⟩
theorem nonew_any (key n:Int):Calls Tryz.prog 34 #[.pointer none,.int .u64 key,.int .i64 n] w fun e w'=>e= .returned (.tuple #[.pointer none,.int .i64 1])∧Below w.heap.size w w':=by
 have HCR:=Lib.hid (fun W=>nocreate_any (w:=W) key n)
 have hb0:Below w.heap.size w ((w.alloc (.cells #[.pointer none] 54)).alloc (.cells #[.int .u64 key] 23)):=((Below.refl _ _).alloc (Nat.le_refl _) _).alloc (by simp) _
 have HB0:=Lib.hid hb0
 have HX0:Hid (((w.alloc (.cells #[.pointer none] 54)).alloc (.cells #[.int .u64 key] 23)).heap[w.heap.size]?=some (.cells #[.pointer none] 54 (0,0))):=belObj ((Below.refl (w.heap.size+1) _).alloc (by simp) _) (heap_alloc_new _ _) (Nat.lt_succ_self _)
 have HX1:Hid (((w.alloc (.cells #[.pointer none] 54)).alloc (.cells #[.int .u64 key] 23)).heap[w.heap.size+1]?=some (.cells #[.int .u64 key] 23 (0,0))):=by
  have:=heap_alloc_new (w.alloc (.cells #[.pointer none] 54)) (.cells #[.int .u64 key] 23)
  unfold Hid
  simpa using this
 clear hb0
 go_enter Tryz.func34,Tryz.ntmps34
 go_upto_region 1 with fail
 generalize ((w.alloc (.cells #[.pointer none] 54)).alloc (.cells #[.int .u64 key] 23))=w1 at *
 have x0:=dcell_one HX0.out
 have x1:=dcell_one HX1.out
 go_wp2_with fail
 refine (HCR.out _).mono ?_
 rintro e w2 ⟨rfl,hb2⟩
 have HB2:Hid (Below w.heap.size w w2):=HB0.out.trans (hb2.mono HB0.out.size)
 clear hb2 x0 x1
 go_wp2
 exact bodyPost_ret (v:=.tuple #[.pointer none,.int .i64 1]) (by simp [results,Tryz.results34,go_sem]) rfl ⟨rfl,HB2.out⟩
theorem version_rig (b:Int) (h:RigP w N r p q pw g F n R):Calls Tryz.prog 13 #[.pointer (some ⟨p,0,none⟩),.int .i64 b] w fun e w'=>e= .returned (.tuple #[.int .u64 (verX R.S.v b).1,.bool (verX R.S.v b).2])∧Below w.heap.size w w':=by
 obtain ⟨ha,hc,fa,fc,hs,HH⟩:=h
 obtain ⟨ea,ec,BA,bc,hd⟩:=HH.drv
 exact version20_any b hd
theorem blocks_rig (h:RigP w N r p q pw g F n R):Calls Tryz.prog 17 #[.pointer (some ⟨p,0,none⟩)] w fun e w'=>e= .returned (.int .i64 R.S.v.es.length)∧w'=w:=by
 obtain ⟨ha,hc,fa,fc,hs,HH⟩:=h
 obtain ⟨ea,ec,BA,bc,hd⟩:=HH.drv
 exact blocks20_any hd
theorem newbad_rig (m:Int) (hg:Vg g) (hp:possB g m=false) (hF:F.length≤9223372036854775807) (hO:R.S.d.O.length+600≤99000) (h:RigP w N r p q pw g F n R):Calls Tryz.prog 34 #[.pointer (some ⟨q,0,none⟩),.int .u64 0,.int .i64 m] w fun e w'=>e= .returned (.tuple #[.pointer none,.int .i64 1])∧Below w.heap.size w w':=by
 obtain ⟨ha,hc,fa,fc,hs,HH⟩:=h
 obtain ⟨ea,ec,BA,bc,hd⟩:=HH.drv
 refine (new20_any (key:=0) m hg hF hO hd.dsk).mono ?_
 rintro e w' hh
 unfold NewPost20 at hh
 rw [hp,if_neg (by decide)] at hh
 exact hh
theorem openbad0_rig (m:Int) (hg:Vg g) (hp:possB g m=false) (hF:F.length≤9223372036854775807) (hu:R.S.d.U8) (h:RigP w N r p q pw g F n R):Calls Tryz.prog 27 #[.pointer (some ⟨q,0,none⟩),.int .u64 0,.int .i64 m] w fun e w'=>e= .returned (.tuple #[.pointer none,.int .i64 1])∧Below w.heap.size w w':=by
 obtain ⟨ha,hc,fa,fc,hs,HH⟩:=h
 obtain ⟨ea,ec,BA,bc,hd⟩:=HH.drv
 refine (opendr_any (key:=0) m hg hd.dsk hu hF).mono ?_
 rintro e w' hh
 unfold OpenPost at hh
 rw [hp,if_neg (by decide)] at hh
 exact hh
theorem read_range (b:Int) (hf:R.S.v.failed=0) (hb:¬ (0≤b∧b < R.S.v.es.length)) (hu:R.S.d.U8) (hF:F.length≤9223372036854775807) (h:RigP w N r p q pw g F n R):
  Calls Tryz.prog 14 #[.pointer (some ⟨p,0,none⟩),.int .i64 b] w fun e w'=>e= .returned (.tuple #[.int .u64 0,.agg #[.int .u8 0,.int .u8 0,.int .u8 0,.int .u8 0,.int .u8 0,.int .u8 0,.int .u8 0,.int .u8 0],.int .i64 2])∧RigP w' N r p q pw g F n R∧KeptT RGT (Bd.of N) w w':=by
 obtain ⟨ha,hc,fa,fc,hs,HH⟩:=h
 obtain ⟨ea,ec,BA,bc,hd⟩:=HH.drv
 have hno:¬ readsB R.S b:=fun hh=>hb hh.2.1
 have e1:readE20 g F 0 R.S b=2:=by unfold readE20; rw [if_pos hf,if_neg hb]
 have e2:readX20 g F 0 R.S b=noEnt:=by unfold readX20; rw [if_neg (fun hh=>hno hh.1)]
 have e3:readS20 g F 0 R.S b=R.S:=by unfold readS20; rw [if_neg hno]
 refine (read20_any (key:=0) b hu hF hd).mono ?_
 rintro e w' ⟨h1,h2⟩
 rw [e1,e2] at h1
 rw [e3] at h2
 exact ⟨h1,RigP.to HH h2⟩
theorem write_bad (b ver d0 er:Int) (hd0:0≤d0∧d0 < 256) (h1:0≤ver) (h2:ver≤18446744073709551615) (hp:preE R.S.v b ver=er) (h0:er≠0) (hv:VOk g R.S.v) (hu:R.S.d.U8) (hF:F.length≤9223372036854775807) (h64:∀ f∈F,I64 f.to_) (hO:R.S.d.O.length+1100≤99000) (h:RigP w N r p q pw g F n R):
  Calls Tryz.prog 19 #[.pointer (some ⟨p,0,none⟩),.int .i64 b,.int .u64 ver,.agg #[.int .u8 d0,.int .u8 0,.int .u8 0,.int .u8 0,.int .u8 0,.int .u8 0,.int .u8 0,.int .u8 0]] w fun e w'=>e= .returned (.int .i64 er)∧RigP w' N r p q pw g F n R∧KeptT RGT (Bd.of N) w w':=by
 obtain ⟨ha,hc,fa,fc,hs,HH⟩:=h
 obtain ⟨ea,ec,BA,bc,hd⟩:=HH.drv
 have hu8:U8s [d0,0,0,0,0,0,0,0]:=fun y hy=>by
  simp only [List.mem_cons,List.not_mem_nil,or_false] at hy
  rcases hy with rfl | rfl | rfl | rfl | rfl | rfl | rfl | rfl <;> omega
 refine (write20_any (key:=0) b ver d0 0 0 0 0 0 0 0 ⟨.inl rfl,h1,h2,rfl,hu8⟩ hv hu h64 hF hO hd).mono ?_
 rintro e w' ⟨x,hx,rfl,h2⟩
 unfold WriteR at hx
 simp only at hx
 rw [hp,if_neg h0] at hx
 subst hx
 exact ⟨rfl,RigP.to HH h2⟩
theorem trim_bad (b ver er:Int) (h1:0≤ver) (h2:ver≤18446744073709551615) (hp:preE R.S.v b ver=er) (h0:er≠0) (hv:VOk g R.S.v) (hu:R.S.d.U8) (hF:F.length≤9223372036854775807) (h64:∀ f∈F,I64 f.to_) (hO:R.S.d.O.length+1100≤99000) (h:RigP w N r p q pw g F n R):
  Calls Tryz.prog 20 #[.pointer (some ⟨p,0,none⟩),.int .i64 b,.int .u64 ver] w fun e w'=>e= .returned (.int .i64 er)∧RigP w' N r p q pw g F n R∧KeptT RGT (Bd.of N) w w':=by
 obtain ⟨ha,hc,fa,fc,hs,HH⟩:=h
 obtain ⟨ea,ec,BA,bc,hd⟩:=HH.drv
 refine (trim20_any (key:=0) b ver ⟨.inr ⟨rfl,rfl⟩,h1,h2,rfl,zeros8_u8⟩ hv hu h64 hF hO hd).mono ?_
 rintro e w' ⟨x,hx,rfl,h2⟩
 unfold WriteR at hx
 simp only at hx
 rw [hp,if_neg h0] at hx
 subst hx
 exact ⟨rfl,RigP.to HH h2⟩
theorem all_rig {c:Nat} (hS:Small g n F) (hR:RunF F) (hF:Fine g n c R) (hc:c≤1000) (h:RigP w N r p q pw g F n R):
  Calls Tryz.prog 33 #[.pointer (some ⟨r,0,none⟩)] w fun e w'=>e= .returned (.bool true)∧(∃ R',RigP w' N r p q pw g F n R'∧Fine g n c R')∧KeptT DRT (Bd.of N) w w':=by
 obtain ⟨ha,hc',fa,fc,hs,HH⟩:=h
 refine (fine_all hS hR hF hc ⟨p,ha,hc',fa,fc,hs,HH⟩).mono ?_
 rintro e w' ⟨h1,⟨R',⟨p',a1,a2,a3,a4,a5,hr'⟩,h3,_⟩,h4⟩
 have k1:w'.cell? ⟨r,2,none⟩=some (.pointer (some ⟨p,0,none⟩)):=(World.ownsRow.cellAt (own_ty HH.obj h4 (by unfold DRT; decide)) 2 (by decide)).trans rfl
 have k2:=hr'.cells.2.2.1
 rw [k1] at k2
 injection k2 with k2; injection k2 with k2; injection k2 with k2; injection k2 with k2
 subst k2
 exact ⟨h1,⟨R',⟨a1,a2,a3,a4,a5,hr'⟩,h3⟩,h4⟩
end
end Go.Proofs.YtggkengmlkhdiaaGreat
