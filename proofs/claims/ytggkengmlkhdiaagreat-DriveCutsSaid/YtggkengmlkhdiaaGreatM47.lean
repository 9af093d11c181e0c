/-
  WHAT IS SHOWN: last and all of a rig return true when its drive shows the histories. plays of tegulalaw20 returns true for a small case whose faults are slow ones, never more than eight in a row. plain facts, of no program: a rig whose power fails at an act, the disk that is restarted, and the histories that are cut to what is shown then. Conditions: as each theorem names them.
-/
import Derived.Test.YtggkengmlkhdiaaGreatM46
namespace Go.Proofs.YtggkengmlkhdiaaGreat
set_option linter.unusedVariables false
open Go.RowKit
def LastIs (g:Geo) (F:List Flt) (S:ST) (b:Nat) (l:List Wr):Prop:=
 match l.getLast? with
 | none=>verX S.v b=(0,false)∧readE20 g F 0 S b=9
 | some w=>verX S.v b=(w.ver,true)∧(if w.trim=true then readE20 g F 0 S b=9∧readX20 g F 0 S b=noEnt else readE20 g F 0 S b=0∧(readX20 g F 0 S b).ver=w.ver∧(readX20 g F 0 S b).dt=w.dt)
section
variable {w:World} {N r q pw:Nat} {g:Geo} {F:List Flt} {n:Nat} {R:RG}
set_option maxRecDepth 100000 in
set_option maxHeartbeats 16000000 in
theorem last_yes {b:Nat} {l:List Wr} (hb:b < n) (hl:R.hist[b]?=some l) (hll:l.length≤1000000) (hi:LastIs g F R.S b l) (hu8:R.S.d.U8) (hF:F.length≤9223372036854775807) (h:RigM w N r q pw g F n R):
  Calls Tryz.prog 54 #[.pointer (some ⟨r,0,none⟩),.int .i64 b] w fun e w'=>e= .returned (.bool true)∧RigM w' N r q pw g F n { R with S:=readS20 g F 0 R.S b }∧KeptT DRT (Bd.of N) w w':=by
 obtain ⟨p,ha,hc,fa,fc,hs,h⟩:=h
 have H0:=Lib.hid h
 obtain ⟨ea,ec,BA,bc,hd⟩:=h.drv
 have HVE:=Lib.hid (version20_any (b:Int) hd)
 have HRD:Hid (∀ W,Below w.heap.size w W→Calls Tryz.prog 14 #[.pointer (some ⟨p,0,none⟩),.int .i64 (b:Int)] W (ReadTo20 W (Bd.of N) p q pw g F 0 R.S ea ec (b:Int))):=fun W hW=>read20_any (key:=0) (b:Int) hu8 hF (hd.below0 hW)
 have hbl:b < hs.length:=by
  have:=(List.getElem?_eq_some_iff.1 hl).1
  rw [h.hl]; exact this
 have HKK:=Lib.hid (List.getElem?_eq_getElem hbl)
 generalize hs[b]=k at HKK
 have hkl:k.xs=l:=by
  have h1:=h.hh
  have h2:R.hist[b]?=some k.xs:=by rw [← h1,List.getElem?_map,HKK.out]; rfl
  rw [hl] at h2; injection h2 with h2; exact h2.symm
 subst hkl
 have hl8:=readX_len (g:=g) (F:=F) (key:=0) (b:=(b:Int)) (S:=R.S)
 obtain ⟨dd0,dd1,dd2,dd3,dd4,dd5,dd6,dd7,hdt⟩:=len8 hl8
 have HFI:Hid (∀ W S',DrvTo w (Bd.of N) p q pw g F 0 S' ea ec W→RigM W N r q pw g F n { R with S:=S' }∧KeptT DRT (Bd.of N) w W):=fun W S' ⟨BA1,bc1,h1,h2⟩=>⟨⟨p,ha,hc,fa,fc,hs,H0.out.drive ⟨ea,ec,BA1,bc1,h1⟩ h2⟩,h2⟩
 have HLT:Hid (N≤w.heap.size):=Nat.le_of_lt (Nat.lt_of_le_of_lt h.low h.lt)
 unfold LastIs at hi
 have HLI:=Lib.hid hi
 unfold ReadTo20 at HRD
 have HLL:=Lib.hid hll
 obtain ⟨x0,x1,x2,x3,x4,x5,x6⟩:=h.cells
 clear hd hi h hl8 hl hll
 rw [hdt] at HRD HLI
 simp only [List.map_cons,List.map_nil] at HRD
 generalize hVX:verX R.S.v (b:Int)=VX at *
 generalize readE20 g F 0 R.S (b:Int)=rer at *
 have HX0:Hid (readX20 g F 0 R.S (b:Int)=noEnt→(readX20 g F 0 R.S (b:Int)).ver=0∧[dd0,dd1,dd2,dd3,dd4,dd5,dd6,dd7]=zeros8):=fun hh=>by
  rw [← hdt,hh]; exact ⟨rfl,rfl⟩
 generalize readX20 g F 0 R.S (b:Int)=rx at *
 generalize readS20 g F 0 R.S (b:Int)=S6 at *
 obtain ⟨vx,hx⟩:=VX
 clear hVX hdt
 obtain ⟨rv,hrv⟩:∃ rv,rx.ver=rv:=⟨_,rfl⟩
 rw [hrv] at HRD HLI HX0
 simp only at HVE
 go_enter Tryz.func54,Tryz.ntmps54
 go_wp2_with fail
 refine HVE.out.mono ?_
 rintro e w1 ⟨rfl,hb1⟩
 have HB1:=Lib.hid hb1
 have HR1:=Lib.hid (HRD.out w1 hb1)
 have h1:=H0.out.below0 hb1
 clear x0 x1 x2 x3 x4 x5 x6 HVE HRD hb1
 obtain ⟨x0,x1,x2,x3,x4,x5,x6⟩:=h1.cells
 clear h1
 go_wp2_with fail
 refine HR1.out.mono ?_
 rintro e w6 ⟨rfl,hto6⟩
 have HT6:=Lib.hid (hto6.from HB1.out)
 clear hto6 HR1 HB1 x0 x1 x2 x3 x4 x5 x6
 have HR6:=Lib.hid (HFI.out w6 S6 HT6.out)
 obtain ⟨BA6,bc6,hd6,hk6⟩:=HT6.out
 have HG6:=Lib.hid (H0.out.drive ⟨ea,ec,BA6,bc6,hd6⟩ hk6)
 clear hd6 hk6 HT6
 have hX7:(w6.alloc (.cells #[.int .u8 dd0,.int .u8 dd1,.int .u8 dd2,.int .u8 dd3,.int .u8 dd4,.int .u8 dd5,.int .u8 dd6,.int .u8 dd7] 27)).heap[w6.heap.size]?=some (.cells #[.int .u8 dd0,.int .u8 dd1,.int .u8 dd2,.int .u8 dd3,.int .u8 dd4,.int .u8 dd5,.int .u8 dd6,.int .u8 dd7] 27 (0,0)):=heap_alloc_new _ _
 have hB7:Below w6.heap.size w6 (w6.alloc (.cells #[.int .u8 dd0,.int .u8 dd1,.int .u8 dd2,.int .u8 dd3,.int .u8 dd4,.int .u8 dd5,.int .u8 dd6,.int .u8 dd7] 27)):=(Below.refl _ _).alloc (Nat.le_refl _) _
 have HR7:=Lib.hid (HG6.out.below0 hB7)
 have HX7:=Lib.hid hX7
 have HK7:Hid (KeptT DRT (Bd.of N) w (w6.alloc (.cells #[.int .u8 dd0,.int .u8 dd1,.int .u8 dd2,.int .u8 dd3,.int .u8 dd4,.int .u8 dd5,.int .u8 dd6,.int .u8 dd7] 27))):=HR6.out.2.thenBelow hB7
 have HFN:Hid (∀ W,Below (w6.alloc (.cells #[.int .u8 dd0,.int .u8 dd1,.int .u8 dd2,.int .u8 dd3,.int .u8 dd4,.int .u8 dd5,.int .u8 dd6,.int .u8 dd7] 27)).heap.size (w6.alloc (.cells #[.int .u8 dd0,.int .u8 dd1,.int .u8 dd2,.int .u8 dd3,.int .u8 dd4,.int .u8 dd5,.int .u8 dd6,.int .u8 dd7] 27)) W→RigM W N r q pw g F n { R with S:=S6 }∧KeptT DRT (Bd.of N) w W):=fun W hW=>⟨⟨p,ha,hc,fa,fc,hs,HR7.out.below0 hW⟩,HK7.out.thenBelow hW⟩
 clear hX7 hB7 HR6 HG6 HFI
 go_upto_region 3 with fail
 generalize (w6.alloc (.cells #[.int .u8 dd0,.int .u8 dd1,.int .u8 dd2,.int .u8 dd3,.int .u8 dd4,.int .u8 dd5,.int .u8 dd6,.int .u8 dd7] 27))=w7 at *
 generalize w6.heap.size=b7 at *
 obtain ⟨z0,z1,z2,z3,z4,z5,z6⟩:=HR7.out.cells
 have hcb:=HR7.out.hist.cell HKK.out
 unfold Hs.v at hcb
 cases hg:k.xs.getLast? with
 | none=>
   have hnil:k.xs=[]:=List.getLast?_eq_none_iff.1 hg
   have HLJ:=HLI.out
   rw [hg] at HLJ
   obtain ⟨j1,j2⟩:=HLJ
   injection j1 with j1 j3
   subst j1; subst j2; subst j3
   have hk0:k.xs.length=0:=by rw [hnil]; rfl
   rw [hk0] at hcb
   clear hnil hg hk0
   go_wp2
   go_ret
   exact ⟨rfl,(HFN.out w7 (Below.refl _ _)).1,(HFN.out w7 (Below.refl _ _)).2⟩
 | some x=>
   obtain ⟨m,hm⟩:∃ m,k.xs.length=m+1:=by
    cases hx:k.xs with
    | nil=>rw [hx] at hg; cases hg
    | cons a t=>exact ⟨t.length,rfl⟩
   have hxm:k.xs[m]?=some x:=by
    rw [List.getLast?_eq_getElem?,hm] at hg; exact hg
   obtain ⟨gk,q0,q1,q2,q3,q4,q5,q6,q7,hA,hw⟩:=HR7.out.hist.wr HKK.out hxm
   obtain ⟨hdt,m0,m1,m2,m3,m4,m5,m6,m7,m8,m9⟩:=hw
   have hgl:gk < w7.heap.size:=block_lt_of_cell m0
   have hrl:r < w7.heap.size:=HR7.out.lt
   have hal:ha < w7.heap.size:=(IsT.own HR7.out.hist.own).lt
   obtain ⟨L,hL⟩:∃ L,k.xs.length=L:=⟨_,rfl⟩
   rw [hA,hL] at hcb
   have HLJ:=HLI.out
   rw [hg] at HLJ
   obtain ⟨j1,j2⟩:=HLJ
   injection j1 with j1 j3
   subst j1; subst j3
   have HJ2:=Lib.hid j2
   have HDT:=Lib.hid hdt
   have hbl:b < hs.length:=(List.getElem?_eq_some_iff.1 HKK.out).1
   have hml:m≤1000000:=by have:=HLL.out; omega
   have e0:((L:Int)==0)=false:=by simp; omega
   have e1:(L==0)=false:=by simp; omega
   have hwr:IntKind.i64.wrap ((L:Int) - 1)=(m:Int):=by rw [IntKind.wrap_i64]; omega
   have hmL:(m:Int) < (L:Int):=by omega
   have hmN:m < L:=by omega
   have hm0:(0:Int)≤(m:Int):=by omega
   have HFC:Hid (∀ W:World,Below w7.heap.size w7 W→W.heap[b7]?=some (.cells #[.int .u8 dd0,.int .u8 dd1,.int .u8 dd2,.int .u8 dd3,.int .u8 dd4,.int .u8 dd5,.int .u8 dd6,.int .u8 dd7] 27 (0,0))):=fun W hW=>belObj hW HX7.out (lt_of_block HX7.out)
   clear hg hxm j2 hdt hA hm hL
   go_upto_region 5 with fail
   go_cut [10] (fun s10 wx=>∃ b8,s10= .pointer (some ⟨b8,0,none⟩)∧Hid (wx.heap[b8]?=some (.cells #[.int .u64 x.ver,.int .u8 q0,.int .u8 q1,.int .u8 q2,.int .u8 q3,.int .u8 q4,.int .u8 q5,.int .u8 q6,.int .u8 q7,.bool x.trim] 64 (0,0))∧Below w7.heap.size w7 wx))
   case first=>
    go_region_held3 (fun W=>W.cell? ⟨r,4,none⟩=some (.slice (some ⟨ha,0,none⟩) hs.length hc)∧W.cell? ⟨ha,b,none⟩=some (.slice (some ⟨gk,0,none⟩) L k.c)∧W.cell? ⟨gk,m * 10,none⟩=some (.int .u64 x.ver)∧W.cell? ⟨gk,m * 10+1,none⟩=some (.int .u8 q0)∧W.cell? ⟨gk,m * 10+2,none⟩=some (.int .u8 q1)∧W.cell? ⟨gk,m * 10+3,none⟩=some (.int .u8 q2)∧W.cell? ⟨gk,m * 10+4,none⟩=some (.int .u8 q3)∧W.cell? ⟨gk,m * 10+5,none⟩=some (.int .u8 q4)∧W.cell? ⟨gk,m * 10+6,none⟩=some (.int .u8 q5)∧W.cell? ⟨gk,m * 10+7,none⟩=some (.int .u8 q6)∧W.cell? ⟨gk,m * 10+8,none⟩=some (.int .u8 q7)∧W.cell? ⟨gk,m * 10+9,none⟩=some (.bool x.trim))
     (first | (refine ⟨?_,?_,?_,?_,?_,?_,?_,?_,?_,?_,?_,?_⟩ <;> assumption) | (simp (maxDischargeDepth:=20) [World.cell?_alloc_some, *]; done))
     (fail)
    all_goals (go_wp2_with fail; go_meet)
    exact ⟨_,rfl,heap_alloc_new w7 _,((Below.refl _ _).alloc (Nat.le_refl _) _).drew⟩
   case rest=>
    obtain ⟨b8,rfl,H8⟩:=hcut
    obtain ⟨⟨p0,p1,p2,p3,p4,p5,p6,p7,p8,p9⟩,_⟩:=cells10w H8.out.1
    obtain ⟨⟨y0,y1,y2,y3,y4,y5,y6,y7⟩,_⟩:=cells8q (HFC.out _ H8.out.2)
    have HFZ:=Lib.hid (HFN.out _ H8.out.2)
    clear m0 m1 m2 m3 m4 m5 m6 m7 m8 m9 z0 z1 z2 z3 z4 z5 z6 hcb hgl hrl hal
    obtain ⟨tr,htr⟩:∃ tr,x.trim=tr:=⟨_,rfl⟩
    have HJ3:=HJ2.out
    rw [htr] at HJ3 p9
    clear HJ2
    cases tr
    ·simp only [Bool.false_eq_true,if_false] at HJ3
     obtain ⟨rfl,h2,h3⟩:=HJ3
     subst h2
     have hbe:∀ W:World,(Op.equalIn 10000 27 (.agg #[.int .u8 dd0,.int .u8 dd1,.int .u8 dd2,.int .u8 dd3,.int .u8 dd4,.int .u8 dd5,.int .u8 dd6,.int .u8 dd7]) (.agg #[.int .u8 q0,.int .u8 q1,.int .u8 q2,.int .u8 q3,.int .u8 q4,.int .u8 q5,.int .u8 q6,.int .u8 q7])).run Tryz.prog W= .ok true W:=fun W=>by
      rw [blk_eql,decide_eq_true (h3.trans HDT.out)]
     clear h3 htr
     go_wp2
     go_ret
     exact ⟨rfl,HFZ.out.1,HFZ.out.2⟩
    ·simp only [if_true] at HJ3
     obtain ⟨rfl,h2⟩:=HJ3
     obtain ⟨h3,h4⟩:=HX0.out h2
     have hbe:∀ W:World,(Op.equalIn 10000 27 (.agg #[.int .u8 dd0,.int .u8 dd1,.int .u8 dd2,.int .u8 dd3,.int .u8 dd4,.int .u8 dd5,.int .u8 dd6,.int .u8 dd7]) (.agg #[.int .u8 0,.int .u8 0,.int .u8 0,.int .u8 0,.int .u8 0,.int .u8 0,.int .u8 0,.int .u8 0])).run Tryz.prog W= .ok true W:=fun W=>by
      have h5:[dd0,dd1,dd2,dd3,dd4,dd5,dd6,dd7]=[0,0,0,0,0,0,0,0]:=h4
      rw [blk_eql,decide_eq_true h5]
     subst h3
     clear h2 h4 htr
     go_wp2
     go_ret
     exact ⟨rfl,HFZ.out.1,HFZ.out.2⟩
theorem LastIs.of (hR:RunF F) (h:NowS g n R.hist R.S) (hu:R.S.d.P.armed=false) {b:Nat} (hb:b < n) {l:List Wr} (hl:R.hist[b]?=some l):LastIs g F R.S b l:=(read20_on hR h hu hb hl).2.2.2.2.2
set_option maxRecDepth 100000 in
set_option maxHeartbeats 16000000 in
theorem all_yes {c:Nat} (hR:RunF F) (hF:F.length≤9223372036854775807) (hn:n≤65536) (hG:GoodR g n c R) (hH:HonK g n c R) (hl:R.hist.length=n) (hll:∀ l∈R.hist,l.length≤1000000) (hu:R.S.d.P.armed=false) (h:RigM w N r q pw g F n R):
  Calls Tryz.prog 33 #[.pointer (some ⟨r,0,none⟩)] w fun e w'=>e= .returned (.bool true)∧(∃ S',RigM w' N r q pw g F n { R with S:=S' }∧GoodR g n c { R with S:=S' }∧S'.d.P.armed=false∧(S'.v=R.S.v∧S'.d.O=R.S.d.O)∧HonK g n c { R with S:=S' })∧KeptT DRT (Bd.of N) w w':=by
 have HH0:=Lib.hid hH
 have H0:=Lib.hid h
 have HG0:=Lib.hid hG
 have HU0:=Lib.hid hu
 have HHL:=Lib.hid hl
 have HLL:=Lib.hid hll
 have HR:=Lib.hid hR
 clear hR hG hH hl hu hll h
 go_enter Tryz.func33,Tryz.ntmps33
 go_wp2
 go_loopw [3] (fun i wr=>∃ (j:Nat) (S':ST),j≤n∧i= .int .i64 j∧Hid (RigM wr N r q pw g F n { R with S:=S' })∧Hid (GoodR g n c { R with S:=S' })∧Hid (S'.d.P.armed=false∧(S'.v=R.S.v∧S'.d.O=R.S.d.O)∧HonK g n c { R with S:=S' })∧Hid (KeptT DRT (Bd.of N) w wr)) (fun i _=>n - (intOf i).toNat)
 case atStart=>exact ⟨0,R.S,Nat.zero_le _,rfl,H0.out,HG0.out,⟨HU0.out,⟨rfl,rfl⟩,HH0.out⟩,KeptT.refl _ _ _⟩
 case round=>
  obtain ⟨j,S',hj,rfl,HM,HG,HS,HK⟩:=hrel
  obtain ⟨p,ha,hc,fa,fc,hs,hm⟩:=HM.out
  obtain ⟨x0,x1,x2,x3,x4,x5,x6⟩:=hm.cells
  clear hm
  by_cases hlt:j < n
  ·have d1:decide ((j:Int) < (n:Int))=true:=decide_eq_true (by omega)
   have d2:decide (j < n)=true:=decide_eq_true hlt
   have hh:=List.getElem?_eq_getElem (show j < R.hist.length by rw [HHL.out]; exact hlt)
   have hml:=HLL.out _ (List.getElem_mem (show j < R.hist.length by rw [HHL.out]; exact hlt))
   generalize R.hist[j]'(by rw [HHL.out]; exact hlt)=l at hh hml
   have hli:LastIs g F S' j l:=LastIs.of (R:={ R with S:=S' }) HR.out HG.out.now HS.out.1 hlt hh
   have HLA:=Lib.hid (last_yes (R:={ R with S:=S' }) hlt hh hml hli HG.out.now.u8 hF HM.out)
   have hrd:=HG.out.read HR.out HHL.out HS.out.1 hlt
   have hro:=honK_rd (F:=F) (b:=(j:Int)) HS.out.2.2
   have HRD:=Lib.hid hrd
   have HRO:=Lib.hid hro
   clear hh hml hli hrd hro
   go_wp2_with fail
   refine HLA.out.mono ?_
   rintro e w2 ⟨rfl,hm2,hk2⟩
   have HX:Hid (RigM w2 N r q pw g F n { R with S:=readS20 g F 0 S' j }∧KeptT DRT (Bd.of N) w w2):=⟨hm2,HK.out.trans hk2⟩
   clear hm2 hk2 HLA x0 x1 x2 x3 x4 x5 x6
   go_wp2
   go_roundw
   case rel=>exact ⟨j+1,readS20 g F 0 S' j,hlt,by go_num,HX.out.1,HRD.out.1,⟨HRD.out.2.1,⟨HRD.out.2.2.1.trans HS.out.2.1.1,HRD.out.2.2.2.trans HS.out.2.1.2⟩,HRO.out⟩,HX.out.2⟩
   case measure=>simp [intOf]; omega
  ·obtain rfl:j=n:=by omega
   have d1:decide ((j:Int) < (j:Int))=false:=decide_eq_false (by omega)
   have d2:decide (j < j)=false:=decide_eq_false (by omega)
   go_wp2
   go_ret
   exact ⟨rfl,⟨S',HM.out,HG.out,HS.out⟩,HK.out⟩
end
end Go.Proofs.YtggkengmlkhdiaaGreat
namespace Go.Proofs.YtggkengmlkhdiaaGreat
set_option linter.unusedVariables false
open Go.RowKit
structure Fine (g:Geo) (n c:Nat) (R:RG):Prop where
 good:GoodR g n c R
 hon:HonK g n c R
 un:R.S.d.P.armed=false
structure Small (g:Geo) (n:Nat) (F:List Flt):Prop where
 vg:Vg g
 p:possB g n=true
 F40:F.length≤40
 F64:∀ f∈F,I64 f.to_
 vf:validF F=true
section
variable {g:Geo} {F:List Flt} {n c:Nat} {R R':RG} {a:Act20} {er:Int}
theorem Small.nn (h:Small g n F):(1≤n∧n≤65536)∧(n:Int)≤(g.bands - 3) * bz g:=by
 have:=h.p
 unfold possB at this
 rw [bzN_valid h.vg] at this
 simp only [Bool.and_eq_true,decide_eq_true_eq] at this
 exact ⟨⟨by omega,by omega⟩,this.2.2⟩
theorem Fine.act (hS:Small g n F) (hR:RunF F) (h:Fine g n c R) (hc:c≤1000) (hd:0≤a.data∧a.data < 256) (hr:ActR g F n a R R' er):er=0∧Fine g n (c+1) R'∧(1≤V.freeN R.S.v.bs→1≤V.freeN R'.S.v.bs):=by
 obtain ⟨hn,hnb⟩:=hS.nn
 have hh:=act_honK hn hd hc h.hon hr
 rcases act_on hR h.good h.hon hc hnb hn hd hr with ⟨h1,h2,h3,h4⟩ | ⟨_,h2,_⟩
 ·exact ⟨h1,⟨h2,hh,h3.trans h.un⟩,h4⟩
 ·have:=h2.armed; rw [h.un] at this; cases this
theorem Fine.mono (h:Fine g n c R) {k:Nat} (hc:c≤k):Fine g n k R:=
 ⟨⟨h.good.now,h.good.snap.mono (by omega),h.good.flok,h.good.room,h.good.vers,by have:=h.good.tm; omega⟩,
   ⟨h.hon.ok,h.hon.u8,h.hon.es,h.hon.hl,h.hon.fl,by have:=h.hon.nx; omega,Nat.le_trans h.hon.O (Nat.mul_le_mul_left _ hc),fun l hl=>by have:=h.hon.hn l hl; omega⟩,h.un⟩
theorem Fine.inS (hS:Small g n F) (h:Fine g n c R) (hc:c≤500) (hsz:szN g≤120):RigIn g F n R:=hon_inS h.hon hc hsz hS.F64 hS.F40 hS.p
theorem fine0 (hS:Small g n F) (hR:RunF F):(newDD g F 0 (d0N g)).2=0∧Fine g n 0 (R0 g F n)∧1≤V.freeN (R0 g F n).S.v.bs:=by
 obtain ⟨h1,h2,h3,h4⟩:=good0 (F:=F) hR hS.vg hS.nn.1
 exact ⟨h1,⟨h2,(hon0 hS.vg hS.nn.1 h1).k,h3⟩,h4⟩
end
section
variable {w:World} {N r q pw:Nat} {g:Geo} {F:List Flt} {n c:Nat} {R:RG}
theorem fine_all (hS:Small g n F) (hR:RunF F) (hF:Fine g n c R) (hc:c≤1000) (h:RigM w N r q pw g F n R):
  Calls Tryz.prog 33 #[.pointer (some ⟨r,0,none⟩)] w fun e w'=>e= .returned (.bool true)∧(∃ R',RigM w' N r q pw g F n R'∧Fine g n c R'∧R'.S.v=R.S.v∧R'.hist=R.hist∧R'.next=R.next∧R'.S.d.O=R.S.d.O)∧KeptT DRT (Bd.of N) w w':=by
 refine (all_yes hR (by have:=hS.F40; omega) hS.nn.1.2 hF.good hF.hon hF.hon.hl (fun l hl=>by have:=hF.hon.hn l hl; omega) hF.un h).mono ?_
 rintro e w' ⟨h1,⟨S',h2,h3,h4,h5,h6⟩,h7⟩
 exact ⟨h1,⟨{ R with S:=S' },h2,⟨h3,h6,h4⟩,h5.1,rfl,rfl,h5.2⟩,h7⟩
end
end Go.Proofs.YtggkengmlkhdiaaGreat
namespace Go.Proofs.YtggkengmlkhdiaaGreat
set_option linter.unusedVariables false
open Go.RowKit
def Rise (H:List (List Wr)) (m:Int):Prop:=∀ l∈H,l.Pairwise (fun a b=>a.ver < b.ver)∧∀ w∈l,w.ver≤m
theorem Rise.add {H:List (List Wr)} {b:Nat} {w:Wr} {m:Int} (h:Rise H m) (hw:w.ver=m+1):Rise (addH H b w) (m+1):=by
 intro l hl
 unfold addH at hl
 rcases List.mem_or_eq_of_mem_set hl with h1 | rfl
 ·exact ⟨(h l h1).1,fun u hu=>by have:=(h l h1).2 u hu; omega⟩
 ·have hg:(H.getD b []).Pairwise (fun a b=>a.ver < b.ver)∧∀ w∈H.getD b [],w.ver≤m:=by
   unfold List.getD
   cases e:H[b]? with
   | none=>exact ⟨List.Pairwise.nil,fun w hw=>by simp at hw⟩
   | some l=>exact h l (List.mem_of_getElem? e)
  refine ⟨List.pairwise_append.2 ⟨hg.1,List.pairwise_singleton _ _,fun a ha u hu=>?_⟩,fun u hu=>?_⟩
  ·have:=hg.2 a ha
   simp only [List.mem_singleton] at hu
   subst hu; omega
  ·rcases List.mem_append.1 hu with h1 | h1
   ·have:=hg.2 u h1; omega
   ·simp only [List.mem_singleton] at h1
    subst h1; omega
theorem rise_act {g:Geo} {F:List Flt} {n:Nat} {a:Act20} {R R':RG} {er:Int} (h:Rise R.hist R.next) (hr:ActR g F n a R R' er):Rise R'.hist R'.next:=by
 unfold ActR at hr
 split at hr
 ·rcases hr with ⟨_,S',_,rfl⟩ | ⟨_,S',_,rfl⟩ | ⟨_,S',m,e,_,_,rfl⟩ | ⟨_,_,rfl⟩ | ⟨_,_,hr⟩
  ·exact h.add rfl
  ·exact h.add rfl
  ·exact h
  ·exact h
  ·rcases hr with ⟨_,v,_,rfl⟩ | ⟨_,rfl⟩
   ·exact h
   ·exact h
 ·obtain ⟨rfl,_⟩:=hr; exact h
structure Up (g:Geo) (n c:Nat) (R:RG):Prop where
 good:GoodR g n c R
 hon:HonK g n c R
 rise:Rise R.hist R.next
structure Gone (g:Geo) (n c:Nat) (R:RG):Prop where
 down:DownD R.S.d
 snap:Snap g n R.hist R.fl (67300000 * c) R.S.d
 hon:HonK g n c R
 rise:Rise R.hist R.next
section
variable {g:Geo} {F:List Flt} {n c:Nat} {R R':RG} {a:Act20} {er:Int}
theorem Up.act (hS:Small g n F) (hR:RunF F) (h:Up g n c R) (hc:c≤1000) (hd:0≤a.data∧a.data < 256) (hr:ActR g F n a R R' er):
  (er=0∧Up g n (c+1) R'∧R'.S.d.P.armed=R.S.d.P.armed)∨(er=13∧Gone g n (c+1) R'):=by
 obtain ⟨hn,hnb⟩:=hS.nn
 have hh:=act_honK hn hd hc h.hon hr
 have hv:=rise_act h.rise hr
 rcases act_on hR h.good h.hon hc hnb hn hd hr with ⟨h1,h2,h3,_⟩ | ⟨h1,h2,_,_⟩
 ·exact .inl ⟨h1,⟨h2,hh,hv⟩,h3⟩
 ·exact .inr ⟨h1,h2.down,h2.snap,hh,hv⟩
theorem Up.fine (h:Up g n c R) (hu:R.S.d.P.armed=false):Fine g n c R:=⟨h.good,h.hon,hu⟩
theorem Fine.up (h:Fine g n c R) (hr:Rise R.hist R.next):Up g n c R:=⟨h.good,h.hon,hr⟩
theorem Up.mono (h:Up g n c R) {k:Nat} (hc:c≤k):Up g n k R:=
 ⟨⟨h.good.now,h.good.snap.mono (by omega),h.good.flok,h.good.room,h.good.vers,by have:=h.good.tm; omega⟩,
   ⟨h.hon.ok,h.hon.u8,h.hon.es,h.hon.hl,h.hon.fl,by have:=h.hon.nx; omega,Nat.le_trans h.hon.O (Nat.mul_le_mul_left _ hc),fun l hl=>by have:=h.hon.hn l hl; omega⟩,h.rise⟩
def armR (R:RG) (m:Int):RG:={ R with S:=⟨R.S.v,⟨R.S.d.s,armP R.S.d.P m,R.S.d.L,R.S.d.O⟩⟩ }
theorem Up.off (h:Up g n c R):R.S.d.P.off=false:=h.good.now.live.off
theorem armP_on {P:Pow} (h:P.off=false) (m:Int):armP P m=⟨P.off,decide (0≤m),m,P.fails⟩:=by
 unfold armP; rw [h]; rfl
theorem Up.arm (h:Up g n c R) (m:Int):Up g n c (armR R m):=by
 have he:=armP_on h.off m
 have hl:=h.good.now.live
 have hlv:LiveD (armR R m).S.d:=by
  unfold armR
  refine ⟨hl.dead,?_,?_,hl.key,hl.ops⟩
  ·simp only; rw [he]; exact hl.off
  ·simp only; rw [he]; exact hl.seen
 exact ⟨⟨⟨h.good.now.c,h.good.now.fit,hlv,h.good.now.f0,h.good.now.sh,h.good.now.u8⟩,h.good.snap.same rfl rfl,h.good.flok,h.good.room,h.good.vers,h.good.tm⟩,
  ⟨h.hon.ok,h.hon.u8,h.hon.es,h.hon.hl,h.hon.fl,h.hon.nx,h.hon.O,h.hon.hn⟩,h.rise⟩
theorem Up.disarm (h:Up g n c R):Fine g n c (armR R (-1)):=by
 refine (h.arm (-1)).fine ?_
 unfold armR
 simp only
 rw [armP_on h.off]; rfl
theorem Fine.flush (hR:RunF F) (h:Fine g n c R):(flushR g F 0 R.S).2=0∧Fine g n c { R with S:=(flushR g F 0 R.S).1 }∧(flushR g F 0 R.S).1.d.O=[]:=by
 have htm:=h.good.tm
 rcases flushR_on (fl:=R.fl) hR h.good.now h.good.snap h.good.room htm with ⟨q1,q2,q3,q4,q5,q6⟩ | ⟨_,p2⟩
 ·refine ⟨q1,⟨⟨q2,Snap.flushed q6 ⟨_,q2.c,by rw [q4]; exact h.good.room,q2.sh.p h.good.flok,by rw [q4]; exact htm⟩,h.good.flok,by simp only; rw [q4]; exact h.good.room,h.good.vers,by simp only; rw [q4]; exact htm⟩,⟨?_,q2.u8,?_,h.hon.hl,h.hon.fl,h.hon.nx,by simp only; rw [q6]; exact Nat.zero_le _,h.hon.hn⟩,q5.trans h.un⟩,q6⟩
  ·simp only; rw [q4]; exact h.hon.ok
  ·simp only; rw [q4]; exact h.hon.es
 ·have:=p2.armed; rw [h.un] at this; cases this
theorem Fine.note (h:Fine g n c R) (hO:R.S.d.O=[]):Fine g n c { R with fl:=lensH R.hist }:=by
 have hf:FlOk R.hist (lensH R.hist):=by
  intro b l f hl hf
  unfold lensH at hf
  rw [List.getElem?_map,hl] at hf
  injection hf with hf
  have hf2:(l.length:Int)=f:=hf
  omega
 exact ⟨⟨h.good.now,Snap.flushed hO ⟨_,h.good.now.c,h.good.room,h.good.now.sh.p hf,h.good.tm⟩,hf,h.good.room,h.good.vers,h.good.tm⟩,
  ⟨h.hon.ok,h.hon.u8,h.hon.es,h.hon.hl,by simp only [lensH,List.length_map]; exact h.hon.hl,h.hon.nx,h.hon.O,h.hon.hn⟩,h.un⟩
def rstD (g:Geo) (d:DC) (keep:Int):DC:=⟨{ d.s with seen:=d.P.fails },{ d.P with off:=false },playL g d.L (d.O.take (cutN keep d.O.length)),[]⟩
theorem rst_down {d:DC} (h:DownD d) (keep:Int):rstE d.s d.P=0∧rstS d.s d.P={ d.s with seen:=d.P.fails }∧rstLM g d.s d.P d.L d.O keep=playL g d.L (d.O.take (cutN keep d.O.length))∧rstO d.s d.P d.O=[]:=by
 have e:rstE d.s d.P=0:=by unfold rstE; simp [h.dead,h.off]
 unfold rstS rstLM rstO
 rw [e]
 exact ⟨rfl,rfl,rfl,rfl⟩
end
def cutL (e:NE) (l:List Wr):List Wr:=if 0≤e.adr then l.take (l.findIdx (fun w=>decide (w.ver=e.ver))+1) else []
def cutH (es:List NE) (H:List (List Wr)):List (List Wr):=List.zipWith cutL es H
theorem cutH_at {es:List NE} {H:List (List Wr)} {b:Nat} {e:NE} {l:List Wr} (he:es[b]?=some e) (hl:H[b]?=some l):(cutH es H)[b]?=some (cutL e l):=by
 unfold cutH; rw [List.getElem?_zipWith,he,hl]
theorem cutH_of {es:List NE} {H:List (List Wr)} {b:Nat} {m:List Wr} (h:(cutH es H)[b]?=some m):∃ e l,es[b]?=some e∧H[b]?=some l∧m=cutL e l:=by
 unfold cutH at h
 rw [List.getElem?_zipWith] at h
 cases he:es[b]? with
 | none=>rw [he] at h; cases h
 | some e=>
   cases hl:H[b]? with
   | none=>rw [he,hl] at h; cases h
   | some l=>rw [he,hl] at h; injection h with h; exact ⟨e,l,rfl,rfl,h.symm⟩
theorem cutL_sub (e:NE) (l:List Wr):∃ m,cutL e l=l.take m:=by
 unfold cutL
 split
 ·exact ⟨_,rfl⟩
 ·exact ⟨0,rfl⟩
structure CutAt (M:List Sec) (e:NE) (l:List Wr) (m:Nat):Prop where
 eq:cutL e l=l.take m
 le:m≤l.length
 sh:Shows1 e M (cutL e l)
 no:e.adr < 0→m=0
 at_:0≤e.adr→1≤m∧∃ w,l[m - 1]?=some w∧w.ver=e.ver
 far:0≤e.adr→∀ (j:Nat) (w:Wr),j+1 < m→l[j]?=some w→w.ver≠e.ver
theorem cut_at {M:List Sec} {e:NE} {l:List Wr} {m:Nat} (hr:l.Pairwise (fun a b=>a.ver < b.ver)) (hm:m≤l.length) (hs:Shows1 e M (l.take m)):∃ k,k=(if 0≤e.adr then m else 0)∧CutAt M e l k:=by
 by_cases h0:0≤e.adr
 ·refine ⟨m,by rw [if_pos h0],?_⟩
  have hs':=hs
  unfold Shows1 at hs'
  cases hg:(l.take m).getLast? with
  | none=>rw [hg] at hs'; simp only at hs'; omega
  | some w=>
    rw [hg] at hs'
    have hne:l.take m≠[]:=fun h=>by rw [h] at hg; cases hg
    have hm1:1≤m:=by
     rcases Nat.eq_zero_or_pos m with h | h
     ·subst h; exact absurd rfl hne
     ·exact h
    have hw:l[m - 1]?=some w:=by
     rw [List.getLast?_eq_getElem?,List.length_take,Nat.min_eq_left hm,List.getElem?_take_of_lt (by omega)] at hg
     exact hg
    have hlt:m - 1 < l.length:=by omega
    have hwe:l[m - 1]=w:=(List.getElem?_eq_some_iff.1 hw).2
    have hfar:∀ (j:Nat) (hj:j < m - 1),(l[j]'(by omega)).ver≠e.ver:=fun j hj=>by
     have:=(List.pairwise_iff_getElem.1 hr) j (m - 1) (by omega) hlt hj
     rw [hwe,← hs'.2.1] at this; omega
    have hfi:l.findIdx (fun w=>decide (w.ver=e.ver))=m - 1:=by
     rw [List.findIdx_eq hlt]
     refine ⟨by rw [hwe]; exact decide_eq_true hs'.2.1.symm,fun j hj=>decide_eq_false (hfar j hj)⟩
    have heq:cutL e l=l.take m:=by
     unfold cutL
     rw [if_pos h0,hfi,show m - 1+1=m by omega]
    refine ⟨heq,hm,by rw [heq]; exact hs,fun h=>by omega,fun _=>⟨hm1,w,hw,hs'.2.1.symm⟩,fun _ j u hj hu=>?_⟩
    have:=hfar j (by omega)
    rw [(List.getElem?_eq_some_iff.1 hu).2] at this; exact this
 ·refine ⟨0,by rw [if_neg h0],?_⟩
  have heq:cutL e l=l.take 0:=by unfold cutL; rw [if_neg h0]; rfl
  have hs':=hs
  unfold Shows1 at hs'
  cases hg:(l.take m).getLast? with
  | none=>
    rw [hg] at hs'
    refine ⟨heq,Nat.zero_le _,?_,fun _=>rfl,fun h=>absurd h h0,fun h=>absurd h h0⟩
    rw [heq]; exact hs'
  | some w=>rw [hg] at hs'; exact absurd hs'.1 h0
section
variable {g:Geo} {F:List Flt} {n c:Nat} {R R':RG} {v:DV} {M:List Sec} {H:List (List Wr)} {fl:List Int} {m:Int}
theorem ShowsP.cut (h:ShowsP v M H fl) (hr:Rise H m) (hlen:fl.length=H.length) {b:Nat} {e:NE} {l:List Wr} (he:v.es[b]?=some e) (hl:H[b]?=some l):∃ k,CutAt M e l k∧∀ f,fl[b]?=some f→f≤k:=by
 have hbl:=(List.getElem?_eq_some_iff.1 hl).1
 have hf:=List.getElem?_eq_getElem (show b < fl.length by omega)
 obtain ⟨k,k1,k2,k3⟩:=h b e l _ he hl hf
 obtain ⟨k',hk',hc⟩:=cut_at (hr l (List.mem_of_getElem? hl)).1 k2 k3
 refine ⟨k',hc,fun f hf2=>?_⟩
 rw [hf] at hf2; injection hf2 with hf2; rw [← hf2]
 by_cases h0:0≤e.adr
 ·rw [if_pos h0] at hk'; omega
 ·unfold Shows1 at k3
  cases hg:(l.take k).getLast? with
  | some w=>rw [hg] at k3; exact absurd k3.1 h0
  | none=>
    have hnil:l.take k=[]:=List.getLast?_eq_none_iff.1 hg
    have:(l.take k).length=0:=by rw [hnil]; rfl
    rw [List.length_take] at this
    omega
theorem ShowsP.cutS (h:ShowsP v M H fl) (hr:Rise H m) (hlen:fl.length=H.length):Shows v M (cutH v.es H):=by
 intro b e l he hl
 obtain ⟨e',l',he',hl',rfl⟩:=cutH_of hl
 rw [he] at he'; injection he' with he'; subst he'
 obtain ⟨k,hc,_⟩:=h.cut hr hlen he hl'
 exact hc.sh
theorem Rise.cut (h:Rise H m) (es:List NE):Rise (cutH es H) m:=by
 intro l hl
 obtain ⟨b,hb,rfl⟩:=List.getElem_of_mem hl
 obtain ⟨e,l,_,hl',he⟩:=cutH_of (List.getElem?_eq_getElem hb)
 obtain ⟨k,hk⟩:=cutL_sub e l
 rw [he,hk]
 have:=h l (List.mem_of_getElem? hl')
 exact ⟨this.1.sublist (List.take_sublist _ _),fun w hw=>this.2 w (List.mem_of_mem_take hw)⟩
structure Back (g:Geo) (n c:Nat) (R:RG):Prop where
 now:NowS g n (cutH R.S.v.es R.hist) R.S
 sp:ShowsP R.S.v (R.S.d.M g) R.hist R.fl
 O:R.S.d.O=[]
 un:R.S.d.P.armed=false
 room:Roomy g R.S.v
 tm:R.S.v.time≤67300000 * c
 hon:HonK g n c R
 rise:Rise R.hist R.next
theorem Back.cut (h:Back g n c R) {b:Nat} {e:NE} {l:List Wr} (he:R.S.v.es[b]?=some e) (hl:R.hist[b]?=some l):∃ k,CutAt (R.S.d.M g) e l k∧∀ f,R.fl[b]?=some f→f≤k:=
 h.sp.cut h.rise (h.hon.fl.trans h.hon.hl.symm) he hl
theorem Back.hl (h:Back g n c R):(cutH R.S.v.es R.hist).length=n:=by
 unfold cutH; rw [List.length_zipWith,h.hon.es,h.hon.hl]; omega
theorem Back.read (hR:RunF F) (h:Back g n c R) {b:Nat} (hb:b < n):Back g n c { R with S:=readS20 g F 0 R.S b }∧(readS20 g F 0 R.S b).v=R.S.v:=by
 have hh:=List.getElem?_eq_getElem (show b < (cutH R.S.v.es R.hist).length by rw [h.hl]; exact hb)
 obtain ⟨h1,h2,h3,h4,h5,_⟩:=read20_on hR h.now h.un hb hh
 refine ⟨⟨by simp only; rw [h2]; exact h1,?_,h4.trans h.O,h5,by simp only; rw [h2]; exact h.room,by simp only; rw [h2]; exact h.tm,honK_rd h.hon,h.rise⟩,h2⟩
 show ShowsP (readS20 g F 0 R.S b).v ((readS20 g F 0 R.S b).d.M g) R.hist R.fl
 rw [h2,DC.M_same h3 h4]; exact h.sp
theorem Gone.back (hR:RunF F) (h:Gone g n c R) (keep:Int):(rstD g R.S.d keep).U8∧(rdS20 g F 0 (rstD g R.S.d keep) (nSec g)).2.2=0∧∀ v,OpenV g n (rdS20 g F 0 (rstD g R.S.d keep) (nSec g)).2.1 v→Back g n c { R with S:=⟨v,(rdS20 g F 0 (rstD g R.S.d keep) (nSec g)).1⟩ }:=by
 obtain ⟨v0,hc,hro,hsp,htm⟩:=h.snap (cutN keep R.S.d.O.length) (cutN_le _ _)
 have hu8:=h.hon.u8
 have hu:(rstD g R.S.d keep).U8:=⟨SecU.play _ hu8.1 (fun o ho=>hu8.2 o (List.mem_of_mem_take ho)),fun o ho=>by unfold rstD at ho; simp at ho⟩
 have hlv:LiveD (rstD g R.S.d keep):=⟨h.down.dead,rfl,rfl,h.down.key,h.down.ops⟩
 have hM:(rstD g R.S.d keep).M g=playL g R.S.d.L (R.S.d.O.take (cutN keep R.S.d.O.length)):=rfl
 have hun:(rstD g R.S.d keep).P.armed=false:=h.down.un
 rw [← hM] at hc hsp
 have hL:(rstD g R.S.d keep).L=(rstD g R.S.d keep).M g:=rfl
 have hO:(rstD g R.S.d keep).O=[]:=rfl
 generalize rstD g R.S.d keep=d2 at *
 have hfit:Fit g d2.L:=by rw [hL]; exact hc.fit
 rcases open_on hR hc hlv hfit hu with ⟨q1,q2,q3⟩ | ⟨_,p2,_⟩
 ·refine ⟨hu,q1,fun v hv=>?_⟩
  obtain ⟨hsv,hci⟩:=q3 v hv
  have hM2:(rdS20 g F 0 d2 (nSec g)).1.M g=d2.M g:=DC.M_same q2.L q2.O
  have hu2:(rdS20 g F 0 d2 (nSec g)).1.U8:=rdS20_u8 hu _
  have hsp2:ShowsP v (d2.M g) R.hist R.fl:=fun b e l f he hl hf=>hsp b e l f (by rw [← hsv.es]; exact he) hl hf
  have hsh:=hsp2.cutS h.rise (h.hon.fl.trans h.hon.hl.symm)
  have hes:=hci.es
  refine ⟨⟨?_,?_,q2.live,hsv.failed,?_,hu2⟩,?_,q2.O.trans hO,q2.armed.trans hun,hsv.roomy hro,by have:=hsv.time; simp only; omega,⟨hci.ok,hu2,hes,h.hon.hl,h.hon.fl,h.hon.nx,?_,h.hon.hn⟩,h.rise⟩
  ·simp only; rw [hM2]; exact hci
  ·simp only; exact hfit.len (by rw [q2.L])
  ·simp only; rw [hM2]; exact hsh
  ·simp only; rw [hM2]; exact hsp2
  ·simp only; rw [q2.O,hO]; exact Nat.zero_le _
 ·rw [hun] at p2; cases p2
theorem Back.done (h:Back g n c R):Up g n c { R with hist:=cutH R.S.v.es R.hist }:=by
 have hri:=h.rise.cut R.S.v.es
 have hflok:FlOk (cutH R.S.v.es R.hist) R.fl:=fun b l f hl hf=>by
  obtain ⟨e,l',he,hl',rfl⟩:=cutH_of hl
  obtain ⟨k,hc,hfk⟩:=h.cut he hl'
  have:=hfk f hf
  rw [hc.eq,List.length_take]
  have:=hc.le
  omega
 refine ⟨⟨h.now,Snap.flushed h.O ⟨_,h.now.c,h.room,h.now.sh.p hflok,h.tm⟩,hflok,h.room,fun l hl w hw=>(hri l hl).2 w hw,h.tm⟩,
  ⟨h.hon.ok,h.hon.u8,h.hon.es,h.hl,h.hon.fl,h.hon.nx,h.hon.O,fun l hl=>?_⟩,hri⟩
 obtain ⟨b,hb,rfl⟩:=List.getElem_of_mem hl
 obtain ⟨e,l,_,hl',he⟩:=cutH_of (List.getElem?_eq_getElem hb)
 obtain ⟨k,hk⟩:=cutL_sub e l
 rw [he,hk,List.length_take]
 have:=h.hon.hn l (List.mem_of_getElem? hl')
 omega
def cutJ (es:List NE) (H:List (List Wr)) (j:Nat):List (List Wr):=(cutH es H).take j++H.drop j
theorem cutJ_zero (es:List NE) (H:List (List Wr)):cutJ es H 0=H:=by simp [cutJ]
theorem cutJ_all {es:List NE} {H:List (List Wr)} (hl:es.length=H.length):cutJ es H H.length=cutH es H:=by
 have:(cutH es H).length=H.length:=by unfold cutH; rw [List.length_zipWith]; omega
 unfold cutJ
 rw [List.take_of_length_le (by omega),List.drop_eq_nil_of_le (by omega),List.append_nil]
theorem cutJ_at {es:List NE} {H:List (List Wr)} (hl:es.length=H.length) {j:Nat} (hj:j < H.length):(cutJ es H j)[j]?=H[j]?:=by
 have hlen:(cutH es H).length=H.length:=by unfold cutH; rw [List.length_zipWith]; omega
 unfold cutJ
 rw [List.getElem?_append_right (by rw [List.length_take]; omega),List.length_take,List.getElem?_drop]
 congr 1; omega
theorem cutJ_len {es:List NE} {H:List (List Wr)} (hl:es.length=H.length) (j:Nat):(cutJ es H j).length=H.length:=by
 have hlen:(cutH es H).length=H.length:=by unfold cutH; rw [List.length_zipWith]; omega
 unfold cutJ
 simp only [List.length_append,List.length_take,List.length_drop]; omega
theorem cutJ_set {es:List NE} {H:List (List Wr)} (hl:es.length=H.length) {j:Nat} {e:NE} {l:List Wr} (he:es[j]?=some e) (hh:H[j]?=some l):(cutJ es H j).set j (cutL e l)=cutJ es H (j+1):=by
 have hlt:j < H.length:=(List.getElem?_eq_some_iff.1 hh).1
 have hlen:(cutH es H).length=H.length:=by unfold cutH; rw [List.length_zipWith]; omega
 have ec:=cutH_at he hh
 unfold cutJ
 apply List.ext_getElem?
 intro i
 rw [List.getElem?_set]
 by_cases hij:j=i
 ·subst hij
  rw [if_pos rfl,if_pos (by simp only [List.length_append,List.length_take,List.length_drop]; omega),List.getElem?_append_left (by rw [List.length_take]; omega),List.getElem?_take_of_lt (by omega),ec]
 ·rw [if_neg hij]
  by_cases h1:i < j
  ·rw [List.getElem?_append_left (by rw [List.length_take]; omega),List.getElem?_append_left (by rw [List.length_take]; omega),List.getElem?_take_of_lt h1,List.getElem?_take_of_lt (by omega)]
  ·rw [List.getElem?_append_right (by rw [List.length_take]; omega),List.getElem?_append_right (by rw [List.length_take]; omega),List.length_take,List.length_take,List.getElem?_drop,List.getElem?_drop]
   congr 1; omega
theorem cutJ_next {es:List NE} {H:List (List Wr)} (hl:es.length=H.length) {j:Nat} {e:NE} {l:List Wr} (he:es[j]?=some e) (hh:H[j]?=some l):(cutJ es H (j+1))[j]?=some (cutL e l):=by
 have hlt:j < H.length:=(List.getElem?_eq_some_iff.1 hh).1
 rw [← cutJ_set hl he hh,List.getElem?_set_self (by rw [cutJ_len hl]; exact hlt)]
end
end Go.Proofs.YtggkengmlkhdiaaGreat
