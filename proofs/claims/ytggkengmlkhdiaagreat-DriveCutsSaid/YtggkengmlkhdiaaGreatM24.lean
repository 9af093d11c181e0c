/-
  WHAT IS SHOWN: what fetch of drive returns and leaves. Conditions: the drive lies in memory.
-/
import Derived.Test.YtggkengmlkhdiaaGreatM21
import Derived.Test.YtggkengmlkhdiaaGreatM23
namespace Go.Proofs.YtggkengmlkhdiaaGreat
set_option linter.unusedVariables false
open Go.RowKit
theorem decX_len (xs:List Int):(decX xs).dt.length=8:=by
 unfold decX
 split
 ·rename_i h
  have hl:xs.length=37:=by
   unfold decE at h
   split at h
   ·rename_i h2; exact h2
   ·omega
  simp [entOf,hl]
 ·rfl
theorem tryD_u8r {g:Geo} {F:List Flt} {key a:Int} {d:DC} (h:d.U8):U8s (tryD (rOne g F key a) d).2.by_∧(tryD (rOne g F key a) d).1.U8:=
 ⟨(rOne_u8 (callN_u8 (fun d hd=>(rOne_u8 hd).1) h _)).2,callN_u8 (fun d hd=>(rOne_u8 hd).1) h _⟩
theorem readB_short {L:List Sec} (h:ShortB L) (a:Int):(readB L a).length≤64:=by
 unfold readB
 split
 ·unfold List.getD
  cases e:L[a.toNat]? with
  | none=>simp [blankS]
  | some s=>exact h s (List.mem_of_getElem? e)
 ·simp
theorem rOne_short {g:Geo} {F:List Flt} {key a:Int} {d:DC} (h:ShortB d.L):(rOne g F key a d).2.by_.length≤64:=by
 unfold rOne dRdB rdB
 simp only
 repeat' split
 all_goals first | exact Nat.zero_le _ | exact readB_short (short_play _ h) _
theorem tryD_short {g:Geo} {F:List Flt} {key:Int} {d:DC} (h:ShortB d.L) (a:Int):(tryD (rOne g F key a) d).2.by_.length≤64:=by
 unfold tryD ansN
 exact rOne_short (by rw [(callN_r _).1]; exact h)
section
variable {w w':World} {B:Bd} {p q pw:Nat} {g:Geo} {F:List Flt} {key:Int} {S:ST} {ea ec:Nat} {BA:Option Addr} {bc:Nat}
structure BoxF (w:World) (n m:Nat) (kind ver adr:Int):Prop where
 r:w.heap[n]?=some (.cells #[.int .i64 0,.int .i64 0,.int .u64 0,.int .u8 0,.int .u8 0,.int .u8 0,.int .u8 0,.int .u8 0,.int .u8 0,.int .u8 0,.int .u8 0] 89 (0,0))
 n:w.heap[m]?=some (.cells #[.int .i64 kind,.int .u64 ver,.int .i64 adr] 84 (0,0))
theorem BoxF.new (w:World) (kind ver adr:Int):BoxF ((w.alloc (.cells #[.int .i64 0,.int .i64 0,.int .u64 0,.int .u8 0,.int .u8 0,.int .u8 0,.int .u8 0,.int .u8 0,.int .u8 0,.int .u8 0,.int .u8 0] 89)).alloc (.cells #[.int .i64 kind,.int .u64 ver,.int .i64 adr] 84)) w.heap.size (w.alloc (.cells #[.int .i64 0,.int .i64 0,.int .u64 0,.int .u8 0,.int .u8 0,.int .u8 0,.int .u8 0,.int .u8 0,.int .u8 0,.int .u8 0,.int .u8 0] 89)).heap.size kind ver adr:=by
 constructor
 ·exact belObj (B:=w.heap.size+1) ((Below.refl _ _).alloc (by simp) _) (heap_alloc_new w _) (by omega)
 ·exact heap_alloc_new _ _
theorem BoxF.types {n m:Nat} {kind ver adr:Int} {ts:List TypeId} {C:Bd} (h:BoxF w n m kind ver adr) (hk:KeptT ts C w w') (h1:89 ∉ ts) (h2:84 ∉ ts):BoxF w' n m kind ver adr:=
 ⟨Kept.obj hk h.r (KeptT.no (IsT.of h.r) h1),Kept.obj hk h.n (KeptT.no (IsT.of h.n) h2)⟩
theorem BoxF.cells {n m:Nat} {kind ver adr:Int} (h:BoxF w n m kind ver adr):w.cell? ⟨m,0,none⟩=some (.int .i64 kind)∧w.cell? ⟨m,1,none⟩=some (.int .u64 ver)∧w.cell? ⟨m,2,none⟩=some (.int .i64 adr):=
 ⟨by rw [cell_of_row _ _ _ _ _ _ h.n]; rfl,by rw [cell_of_row _ _ _ _ _ _ h.n]; rfl,by rw [cell_of_row _ _ _ _ _ _ h.n]; rfl⟩
set_option maxRecDepth 100000 in
set_option maxHeartbeats 8000000 in
theorem fetch20_any (b:Nat) (hb:b < S.v.es.length) (hu8:S.d.U8) (hn:F.length≤9223372036854775807) (h:Drv w B p q pw g F key S ea ec BA bc):
  Calls Tryz.prog 39 #[.pointer (some ⟨p,0,none⟩),.int .i64 b] w fun e w'=>e= .returned (.tuple #[entV (ftX g F key S b),.int .i64 (ftE g F key S b)])∧Drv w' B p q pw g F key ⟨S.v,(rdX g F key S b).1⟩ ea ec BA bc∧KeptT DAT B w w':=by
 have hne:=List.getElem?_eq_getElem hb
 generalize S.v.es[b]=n at hne
 obtain ⟨e0,e1,e2⟩:=h.entry hne
 have c2:=h.cells.2.2.1
 have hbl:(b:Int) < S.v.es.length:=by omega
 have HRD:Hid (rdX g F key S b=tryD (rOne g F key n.adr) S.d):=by unfold Hid rdX; rw [getD_of hne]
 have HFE:Hid (∀ er,(rdX g F key S b).2.er=er→∀ ys,(rdX g F key S b).2.by_=ys→ftE g F key S b=(if er=0 then (if holdsB n b ys=true then 0 else 15) else er)∧ftX g F key S b=(if ftE g F key S b=0 then decX ys else noEnt)):=by
  intro er h1 ys h2
  refine ⟨?_,?_⟩
  ·unfold ftE; rw [h1,h2,getD_of hne]
  ·unfold ftX; rw [h2]
 have hu:=tryD_u8r (g:=g) (F:=F) (key:=key) (a:=n.adr) hu8
 have PB:=BoxF.new w n.kind n.ver n.adr
 have hbl0:Below w.heap.size w ((w.alloc (.cells #[.int .i64 0,.int .i64 0,.int .u64 0,.int .u8 0,.int .u8 0,.int .u8 0,.int .u8 0,.int .u8 0,.int .u8 0,.int .u8 0,.int .u8 0] 89)).alloc (.cells #[.int .i64 n.kind,.int .u64 n.ver,.int .i64 n.adr] 84)):=((Below.refl _ _).alloc (Nat.le_refl _) _).alloc (by simp) _
 have HSE:=Lib.hid (sector_any n.adr (h.below0 hbl0) hn)
 unfold Hid SecPost20 at HSE
 rw [← HRD.out] at HSE hu
 have HSE':=Lib.hid HSE
 have hblA:Below w.heap.size w (w.alloc (.cells #[.int .i64 0,.int .i64 0,.int .u64 0,.int .u8 0,.int .u8 0,.int .u8 0,.int .u8 0,.int .u8 0,.int .u8 0,.int .u8 0,.int .u8 0] 89)):=(Below.refl _ _).alloc (Nat.le_refl _) _
 have hhA:=h.below0 hblA
 have a0:=(hhA.entry hne).1
 have a1:=(hhA.entry hne).2.1
 have a2:=(hhA.entry hne).2.2
 have a3:=hhA.cells.2.2.1
 have hsb:=h.dsk.s
 clear HSE h hb hne hblA hhA e0 e1 e2 c2
 have hys:(rdX g F key S b).2.by_.length≤64:=by rw [HRD.out]; exact tryD_short hsb n.adr
 rcases hR:rdX g F key S b with ⟨d',⟨er,ys⟩⟩
 rw [hR] at HSE' hu HFE hys
 simp only at HSE' hu hys
 have HU:=Lib.hid hu.1
 have HYL:Hid (ys.length≤64):=hys
 clear hys
 obtain ⟨HE1,HE2⟩:=HFE.out er rfl ys rfl
 have HFE1:=Lib.hid HE1
 have HFE2:=Lib.hid HE2
 clear hu HFE hR HE1 HE2
 generalize ftE g F key S b=fe at *
 generalize ftX g F key S b=fx at *
 go_enter Tryz.func39,Tryz.ntmps39
 go_upto_region 1 with fail
 generalize (w.alloc (.cells #[.int .i64 0,.int .i64 0,.int .u64 0,.int .u8 0,.int .u8 0,.int .u8 0,.int .u8 0,.int .u8 0,.int .u8 0,.int .u8 0,.int .u8 0] 89))=wA at *
 go_wp2_with fail
 generalize (wA.alloc (.cells #[.int .i64 n.kind,.int .u64 n.ver,.int .i64 n.adr] 84))=w0 at *
 refine HSE'.out.mono ?_
 rintro e w1 ⟨A,c,rfl,hby,hd1,hk1⟩
 have HD1:=Lib.hid hd1
 have HK1:Hid (KeptT DAT B w w1):=(KeptT.bel hbl0).trans hk1
 have HB1:=Lib.hid (PB.types hk1 (by unfold DAT; decide) (by unfold DAT; decide))
 have HLT:Hid (w.heap.size < w1.heap.size):=lt_of_block HB1.out.r
 clear HSE' hd1 hk1 PB hbl0 a0 a1 a2 a3 HRD hsb
 have HFIN:Hid (∀ W,Kept (fun k=>k=w.heap.size) w1 W→Drv W B p q pw g F key ⟨S.v,d'⟩ ea ec BA bc∧KeptT DAT B w W):=by
  intro W hk
  have hkT:KeptT [89] (Bd.of 0) w1 W:=KeptT.of hk (fun k _ e=>by have e':k=w.heap.size:=e; subst e'; exact ⟨⟨Nat.zero_le _,fun h=>h⟩,HasT.mem (IsT.of HB1.out.r) (by simp)⟩)
  exact ⟨HD1.out.types hkT (by decide),Kept.trans HK1.out hk (fun i hi e=>by have e':i=w.heap.size:=e; omega)⟩
 by_cases her:er=0
 ·subst her
  obtain ⟨A',c',e',hr,hcp⟩:=hby
  injection e' with e1 _ e3
  subst e1; subst e3
  have hl:=HYL.out
  obtain ⟨hc1,hc2⟩:=hcp.2 (by omega)
  have HDE:=Lib.hid (decode_any ys HU.out A c w1 hr.rd (by omega) hc1 hc2)
  have HYB:Hid (∀ z,decX ys=z→∀ dz,decE ys=dz→holdsB n b ys=(decide (dz=0) && (decide (z.kind=n.kind) && (decide (z.blk=(b:Int)) && decide (z.ver=n.ver))))):=by
   intro z hz dz hdz; unfold holdsB; rw [hz,hdz]
  have hdl:=decX_len ys
  rcases hX:decX ys with ⟨k1,b1,v1,dt⟩
  rw [hX] at hdl HDE HFE2
  obtain ⟨f0,f1,f2,f3,f4,f5,f6,f7,rfl⟩:=len8 hdl
  have HHB:=Lib.hid (HYB.out _ hX _ rfl)
  simp only at HHB
  generalize decE ys=de at *
  generalize decT ys=dt at *
  generalize holdsB n b ys=hh at *
  have HDE':Hid (Calls Tryz.prog 69 #[.slice A ys.length c] w1 fun e w'=>e= .returned (.tuple #[.agg #[.int .i64 k1,.int .i64 b1,.int .u64 v1,.int .u8 f0,.int .u8 f1,.int .u8 f2,.int .u8 f3,.int .u8 f4,.int .u8 f5,.int .u8 f6,.int .u8 f7],.int .u64 dt,.int .i64 de])∧Below w1.heap.size w1 w'):=HDE
  clear HDE hX hdl HYB hr hcp hl
  go_wp2_with fail
  refine HDE'.out.mono ?_
  rintro e w2 ⟨rfl,hb2⟩
  have HB2:=Lib.hid (hb2)
  have hBF2:BoxF w2 w.heap.size wA.heap.size n.kind n.ver n.adr:=HB1.out.types (C:=Bd.of 0) (ts:=[]) (KeptT.bel hb2) (by simp) (by simp)
  have HBF2:=Lib.hid hBF2
  clear hb2 HDE'
  go_upto_region 6 with fail
  have HK9:Hid (∀ W,Kept (fun k=>k=w.heap.size) (w2.alloc (.cells #[.int .i64 k1,.int .i64 b1,.int .u64 v1,.int .u8 f0,.int .u8 f1,.int .u8 f2,.int .u8 f3,.int .u8 f4,.int .u8 f5,.int .u8 f6,.int .u8 f7] 89)) W→Drv W B p q pw g F key ⟨S.v,d'⟩ ea ec BA bc∧KeptT DAT B w W):=by
   intro W hk
   refine HFIN.out W (Kept.trans (belKept0 (S:=fun k=>k=w.heap.size) (HB2.out.trans (((Below.refl w2.heap.size w2).alloc (Nat.le_refl _) (.cells #[.int .i64 k1,.int .i64 b1,.int .u64 v1,.int .u8 f0,.int .u8 f1,.int .u8 f2,.int .u8 f3,.int .u8 f4,.int .u8 f5,.int .u8 f6,.int .u8 f7] 89)).mono HB2.out.size))) hk (fun _ _ h=>h))
  have hb9:Below w2.heap.size w2 (w2.alloc (.cells #[.int .i64 k1,.int .i64 b1,.int .u64 v1,.int .u8 f0,.int .u8 f1,.int .u8 f2,.int .u8 f3,.int .u8 f4,.int .u8 f5,.int .u8 f6,.int .u8 f7] 89)):=(Below.refl _ _).alloc (Nat.le_refl _) _
  have hBF9:BoxF (w2.alloc (.cells #[.int .i64 k1,.int .i64 b1,.int .u64 v1,.int .u8 f0,.int .u8 f1,.int .u8 f2,.int .u8 f3,.int .u8 f4,.int .u8 f5,.int .u8 f6,.int .u8 f7] 89)) w.heap.size wA.heap.size n.kind n.ver n.adr:=hBF2.types (C:=Bd.of 0) (ts:=[]) (KeptT.bel hb9) (by simp) (by simp)
  have hO9:(w2.alloc (.cells #[.int .i64 k1,.int .i64 b1,.int .u64 v1,.int .u8 f0,.int .u8 f1,.int .u8 f2,.int .u8 f3,.int .u8 f4,.int .u8 f5,.int .u8 f6,.int .u8 f7] 89)).heap[w2.heap.size]?=some (.cells #[.int .i64 k1,.int .i64 b1,.int .u64 v1,.int .u8 f0,.int .u8 f1,.int .u8 f2,.int .u8 f3,.int .u8 f4,.int .u8 f5,.int .u8 f6,.int .u8 f7] 89 (0,0)):=heap_alloc_new _ _
  generalize (w2.alloc (.cells #[.int .i64 k1,.int .i64 b1,.int .u64 v1,.int .u8 f0,.int .u8 f1,.int .u8 f2,.int .u8 f3,.int .u8 f4,.int .u8 f5,.int .u8 f6,.int .u8 f7] 89))=w9 at *
  obtain ⟨⟨p0,p1,p2,p3,p4,p5,p6,p7,p8,p9,p10⟩,⟨q0,q1,q2,q3,q4,q5,q6,q7,q8,q9,q10⟩⟩:=cells11 hBF9.r
  obtain ⟨⟨o0,o1,o2,o3,o4,o5,o6,o7,o8,o9,o10⟩,_⟩:=cells11 hO9
  obtain ⟨m0,m1,m2⟩:=hBF9.cells
  have hSZ:=set11 (l:=[_,_,_,_,_,_,_,_,_,_,_]) hBF9.r rfl (.int .i64 0) (.int .i64 0) (.int .u64 0) (.int .u8 0) (.int .u8 0) (.int .u8 0) (.int .u8 0) (.int .u8 0) (.int .u8 0) (.int .u8 0) (.int .u8 0)
  have hSY:=set11 (l:=[_,_,_,_,_,_,_,_,_,_,_]) hBF9.r rfl (.int .i64 k1) (.int .i64 b1) (.int .u64 v1) (.int .u8 f0) (.int .u8 f1) (.int .u8 f2) (.int .u8 f3) (.int .u8 f4) (.int .u8 f5) (.int .u8 f6) (.int .u8 f7)
  have HSZ:=Lib.hid hSZ.1
  have HSY:=Lib.hid hSY.1
  have HFZ:=Lib.hid (HK9.out _ hSZ.2)
  have HFY:=Lib.hid (HK9.out _ hSY.2)
  clear hSZ hSY hBF9 hO9 hb9 HK9 hBF2
  by_cases hd0:de=0
  ·have dd:(de !=0)=false:=by simp [hd0]
   by_cases hk:k1=n.kind
   ·have dk:(k1 !=n.kind)=false:=by simp [hk]
    by_cases hbb:b1=(b:Int)
    ·have db:(b1 !=(b:Int))=false:=by simp [hbb]
     by_cases hvv:v1=n.ver
     ·have dv:(v1 !=n.ver)=false:=by simp [hvv]
      have HF:Hid (fe=0∧fx=⟨k1,b1,v1,[f0,f1,f2,f3,f4,f5,f6,f7]⟩):=by
       have h1:hh=true:=by rw [HHB.out,hd0,hk,hbb,hvv]; simp
       have h2:fe=0:=by rw [HFE1.out]; simp [h1]
       exact ⟨h2,by rw [HFE2.out,if_pos h2]⟩
      clear hd0 hk hbb hvv
      go_wp2
      obtain ⟨⟨r0,r1,r2,r3,r4,r5,r6,r7,r8,r9,r10⟩,_⟩:=cells11 HSY.out
      generalize (((((((((((w9.setCell ⟨w.heap.size,0,none⟩ (.int .i64 k1)).setCell ⟨w.heap.size,1,none⟩ (.int .i64 b1)).setCell ⟨w.heap.size,2,none⟩ (.int .u64 v1)).setCell ⟨w.heap.size,3,none⟩ (.int .u8 f0)).setCell ⟨w.heap.size,4,none⟩ (.int .u8 f1)).setCell ⟨w.heap.size,5,none⟩ (.int .u8 f2)).setCell ⟨w.heap.size,6,none⟩ (.int .u8 f3)).setCell ⟨w.heap.size,7,none⟩ (.int .u8 f4)).setCell ⟨w.heap.size,8,none⟩ (.int .u8 f5)).setCell ⟨w.heap.size,9,none⟩ (.int .u8 f6)).setCell ⟨w.heap.size,10,none⟩ (.int .u8 f7))=w10 at *
      clear p0 p1 p2 p3 p4 p5 p6 p7 p8 p9 p10 q0 q1 q2 q3 q4 q5 q6 q7 q8 q9 q10 o0 o1 o2 o3 o4 o5 o6 o7 o8 o9 o10 m0 m1 m2
      refine bodyPost_ret (by simp [results,Tryz.results39,go_sem, *]; rfl) rfl ?_
      rw [HF.out.1,HF.out.2]
      exact ⟨rfl,HFY.out⟩
     ·have dv:(v1 !=n.ver)=true:=by simpa using hvv
      have h1:hh=false:=by rw [HHB.out,decide_eq_false hvv]; simp
      clear hd0 hk hbb hvv
      have HF:Hid (fe=15∧fx=noEnt):=by
       have h2:fe=15:=by rw [HFE1.out]; simp [h1]
       exact ⟨h2,by rw [HFE2.out,if_neg (by omega)]⟩
      clear h1
      go_wp2
      obtain ⟨⟨r0,r1,r2,r3,r4,r5,r6,r7,r8,r9,r10⟩,_⟩:=cells11 HSZ.out
      generalize (((((((((((w9.setCell ⟨w.heap.size,0,none⟩ (.int .i64 0)).setCell ⟨w.heap.size,1,none⟩ (.int .i64 0)).setCell ⟨w.heap.size,2,none⟩ (.int .u64 0)).setCell ⟨w.heap.size,3,none⟩ (.int .u8 0)).setCell ⟨w.heap.size,4,none⟩ (.int .u8 0)).setCell ⟨w.heap.size,5,none⟩ (.int .u8 0)).setCell ⟨w.heap.size,6,none⟩ (.int .u8 0)).setCell ⟨w.heap.size,7,none⟩ (.int .u8 0)).setCell ⟨w.heap.size,8,none⟩ (.int .u8 0)).setCell ⟨w.heap.size,9,none⟩ (.int .u8 0)).setCell ⟨w.heap.size,10,none⟩ (.int .u8 0))=w10 at *
      clear p0 p1 p2 p3 p4 p5 p6 p7 p8 p9 p10 q0 q1 q2 q3 q4 q5 q6 q7 q8 q9 q10 o0 o1 o2 o3 o4 o5 o6 o7 o8 o9 o10 m0 m1 m2
      refine bodyPost_ret (by simp [results,Tryz.results39,go_sem, *]; rfl) rfl ?_
      rw [HF.out.1,HF.out.2]
      exact ⟨rfl,HFZ.out⟩
    ·have db:(b1 !=(b:Int))=true:=by simpa using hbb
     have h1:hh=false:=by rw [HHB.out,decide_eq_false hbb]; simp
     clear hd0 hk hbb
     have HF:Hid (fe=15∧fx=noEnt):=by
      have h2:fe=15:=by rw [HFE1.out]; simp [h1]
      exact ⟨h2,by rw [HFE2.out,if_neg (by omega)]⟩
     clear h1
     go_wp2
     obtain ⟨⟨r0,r1,r2,r3,r4,r5,r6,r7,r8,r9,r10⟩,_⟩:=cells11 HSZ.out
     generalize (((((((((((w9.setCell ⟨w.heap.size,0,none⟩ (.int .i64 0)).setCell ⟨w.heap.size,1,none⟩ (.int .i64 0)).setCell ⟨w.heap.size,2,none⟩ (.int .u64 0)).setCell ⟨w.heap.size,3,none⟩ (.int .u8 0)).setCell ⟨w.heap.size,4,none⟩ (.int .u8 0)).setCell ⟨w.heap.size,5,none⟩ (.int .u8 0)).setCell ⟨w.heap.size,6,none⟩ (.int .u8 0)).setCell ⟨w.heap.size,7,none⟩ (.int .u8 0)).setCell ⟨w.heap.size,8,none⟩ (.int .u8 0)).setCell ⟨w.heap.size,9,none⟩ (.int .u8 0)).setCell ⟨w.heap.size,10,none⟩ (.int .u8 0))=w10 at *
     clear p0 p1 p2 p3 p4 p5 p6 p7 p8 p9 p10 q0 q1 q2 q3 q4 q5 q6 q7 q8 q9 q10 o0 o1 o2 o3 o4 o5 o6 o7 o8 o9 o10 m0 m1 m2
     refine bodyPost_ret (by simp [results,Tryz.results39,go_sem, *]; rfl) rfl ?_
     rw [HF.out.1,HF.out.2]
     exact ⟨rfl,HFZ.out⟩
   ·have dk:(k1 !=n.kind)=true:=by simpa using hk
    have h1:hh=false:=by rw [HHB.out,decide_eq_false hk]; simp
    clear hd0 hk
    have HF:Hid (fe=15∧fx=noEnt):=by
     have h2:fe=15:=by rw [HFE1.out]; simp [h1]
     exact ⟨h2,by rw [HFE2.out,if_neg (by omega)]⟩
    clear h1
    go_wp2
    obtain ⟨⟨r0,r1,r2,r3,r4,r5,r6,r7,r8,r9,r10⟩,_⟩:=cells11 HSZ.out
    generalize (((((((((((w9.setCell ⟨w.heap.size,0,none⟩ (.int .i64 0)).setCell ⟨w.heap.size,1,none⟩ (.int .i64 0)).setCell ⟨w.heap.size,2,none⟩ (.int .u64 0)).setCell ⟨w.heap.size,3,none⟩ (.int .u8 0)).setCell ⟨w.heap.size,4,none⟩ (.int .u8 0)).setCell ⟨w.heap.size,5,none⟩ (.int .u8 0)).setCell ⟨w.heap.size,6,none⟩ (.int .u8 0)).setCell ⟨w.heap.size,7,none⟩ (.int .u8 0)).setCell ⟨w.heap.size,8,none⟩ (.int .u8 0)).setCell ⟨w.heap.size,9,none⟩ (.int .u8 0)).setCell ⟨w.heap.size,10,none⟩ (.int .u8 0))=w10 at *
    clear p0 p1 p2 p3 p4 p5 p6 p7 p8 p9 p10 q0 q1 q2 q3 q4 q5 q6 q7 q8 q9 q10 o0 o1 o2 o3 o4 o5 o6 o7 o8 o9 o10 m0 m1 m2
    refine bodyPost_ret (by simp [results,Tryz.results39,go_sem, *]; rfl) rfl ?_
    rw [HF.out.1,HF.out.2]
    exact ⟨rfl,HFZ.out⟩
  ·have dd:(de !=0)=true:=by simpa using hd0
   have h1:hh=false:=by rw [HHB.out,decide_eq_false hd0]; simp
   clear hd0
   have HF:Hid (fe=15∧fx=noEnt):=by
    have h2:fe=15:=by rw [HFE1.out]; simp [h1]
    exact ⟨h2,by rw [HFE2.out,if_neg (by omega)]⟩
   clear h1
   go_wp2
   obtain ⟨⟨r0,r1,r2,r3,r4,r5,r6,r7,r8,r9,r10⟩,_⟩:=cells11 HSZ.out
   generalize (((((((((((w9.setCell ⟨w.heap.size,0,none⟩ (.int .i64 0)).setCell ⟨w.heap.size,1,none⟩ (.int .i64 0)).setCell ⟨w.heap.size,2,none⟩ (.int .u64 0)).setCell ⟨w.heap.size,3,none⟩ (.int .u8 0)).setCell ⟨w.heap.size,4,none⟩ (.int .u8 0)).setCell ⟨w.heap.size,5,none⟩ (.int .u8 0)).setCell ⟨w.heap.size,6,none⟩ (.int .u8 0)).setCell ⟨w.heap.size,7,none⟩ (.int .u8 0)).setCell ⟨w.heap.size,8,none⟩ (.int .u8 0)).setCell ⟨w.heap.size,9,none⟩ (.int .u8 0)).setCell ⟨w.heap.size,10,none⟩ (.int .u8 0))=w10 at *
   clear p0 p1 p2 p3 p4 p5 p6 p7 p8 p9 p10 q0 q1 q2 q3 q4 q5 q6 q7 q8 q9 q10 o0 o1 o2 o3 o4 o5 o6 o7 o8 o9 o10 m0 m1 m2
   refine bodyPost_ret (by simp [results,Tryz.results39,go_sem, *]; rfl) rfl ?_
   rw [HF.out.1,HF.out.2]
   exact ⟨rfl,HFZ.out⟩
 ·have HF:Hid (fe=er∧fx=noEnt):=by
   have h1:fe=er:=by rw [HFE1.out,if_neg her]
   exact ⟨h1,by rw [HFE2.out,if_neg (by omega)]⟩
  have hner:(er !=0)=true:=by simpa using her
  obtain ⟨⟨p0,p1,p2,p3,p4,p5,p6,p7,p8,p9,p10⟩,⟨q0,q1,q2,q3,q4,q5,q6,q7,q8,q9,q10⟩⟩:=cells11 HB1.out.r
  have hS:=set11 (l:=[_,_,_,_,_,_,_,_,_,_,_]) HB1.out.r rfl (.int .i64 0) (.int .i64 0) (.int .u64 0) (.int .u8 0) (.int .u8 0) (.int .u8 0) (.int .u8 0) (.int .u8 0) (.int .u8 0) (.int .u8 0) (.int .u8 0)
  have HS:=Lib.hid hS.1
  have HF2:=Lib.hid (HFIN.out _ hS.2)
  clear hS hby her
  go_wp2
  obtain ⟨⟨r0,r1,r2,r3,r4,r5,r6,r7,r8,r9,r10⟩,_⟩:=cells11 HS.out
  generalize (((((((((((w1.setCell ⟨w.heap.size,0,none⟩ (.int .i64 0)).setCell ⟨w.heap.size,1,none⟩ (.int .i64 0)).setCell ⟨w.heap.size,2,none⟩ (.int .u64 0)).setCell ⟨w.heap.size,3,none⟩ (.int .u8 0)).setCell ⟨w.heap.size,4,none⟩ (.int .u8 0)).setCell ⟨w.heap.size,5,none⟩ (.int .u8 0)).setCell ⟨w.heap.size,6,none⟩ (.int .u8 0)).setCell ⟨w.heap.size,7,none⟩ (.int .u8 0)).setCell ⟨w.heap.size,8,none⟩ (.int .u8 0)).setCell ⟨w.heap.size,9,none⟩ (.int .u8 0)).setCell ⟨w.heap.size,10,none⟩ (.int .u8 0))=w3 at *
  clear p0 p1 p2 p3 p4 p5 p6 p7 p8 p9 p10 q0 q1 q2 q3 q4 q5 q6 q7 q8 q9 q10
  refine bodyPost_ret (by simp [results,Tryz.results39,go_sem, *]; rfl) rfl ?_
  rw [HF.out.1,HF.out.2]
  exact ⟨rfl,HF2.out⟩
end
end Go.Proofs.YtggkengmlkhdiaaGreat
