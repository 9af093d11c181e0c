/-
  WHAT IS SHOWN: what do of a rig returns and leaves for a trim, and for any act. what Valid of tegularef13 returns. what Possible of tegularef20 and fair of tegulalaw20 return. Conditions: as each theorem names them.
-/
import Derived.Test.YtggkengmlkhdiaaGreatM43
import Derived.Test.YtggkengmlkhdiaaGreatM03
namespace Go.Proofs.YtggkengmlkhdiaaGreat
set_option linter.unusedVariables false
open Go.RowKit
section
variable {w:World} {N r q pw:Nat} {g:Geo} {F:List Flt} {n:Nat} {R:RG}
set_option maxRecDepth 100000 in
set_option maxHeartbeats 8000000 in
theorem do_trim {b:Nat} {data:Int} (hb:b < n) (hi:RigIn g F n R) (h:RigM w N r q pw g F n R):
  Calls Tryz.prog 24 #[.pointer (some ⟨r,0,none⟩),.agg #[.int .u8 1,.int .i64 b,.int .u8 data]] w (DoP20 w N r q pw g F n ⟨1,b,data⟩ R):=by
 obtain ⟨p,ha,hc,fa,fc,hs,h⟩:=h
 have HP:Hid (∀ er S' W,WriteR g F 0 R.S (tEnt b (R.next+1)) (S',er)→RigM W N r q pw g F n ⟨S',addH R.hist b (tWr (R.next+1)),R.fl,R.next+1⟩→KeptT RGT (Bd.of N) w W→DoP20 w N r q pw g F n ⟨1,b,data⟩ R (.returned (.int .i64 er)) W):=by
  intro er S' W h1 h3 h4
  refine ⟨_,er,?_,rfl,h3,h4⟩
  unfold ActR
  simp only
  rw [if_pos ⟨by omega,by omega⟩,Int.toNat_natCast]
  exact .inr (.inl ⟨trivial,S',h1,rfl⟩)
 have d1:decide ((b:Int) < 0)=false:=decide_eq_false (by omega)
 have d2:decide ((n:Int)≤(b:Int))=false:=decide_eq_false (by omega)
 have HI:=Lib.hid hi
 have HBN:=Lib.hid hb
 obtain ⟨nx,hnx⟩:∃ nx,R.next+1=nx:=⟨_,rfl⟩
 have hwr:IntKind.u64.wrap (R.next+1)=nx:=by rw [← hnx,IntKind.wrap_u64]; have:=hi.nx; omega
 have HNX:Hid (0≤nx∧nx≤1000001):=by have:=hi.nx; exact ⟨by omega,by omega⟩
 have hbl:b < hs.length:=by rw [h.hl,hi.hl]; exact hb
 have HK:=Lib.hid (List.getElem?_eq_getElem hbl)
 generalize hs[b]=k at HK
 rw [hnx] at HP
 have d3:decide (n≤b)=false:=decide_eq_false (by omega)
 clear hb hi hbl hnx
 have hbl0:Below w.heap.size w (w.alloc (.cells #[.int .u8 1,.int .i64 (b:Int),.int .u8 data] 61)):=(Below.refl _ _).alloc (Nat.le_refl _) _
 have hO:(w.alloc (.cells #[.int .u8 1,.int .i64 (b:Int),.int .u8 data] 61)).heap[w.heap.size]?=some (.cells #[.int .u8 1,.int .i64 (b:Int),.int .u8 data] 61 (0,0)):=heap_alloc_new _ _
 have HH:=Lib.hid (h.below0 hbl0)
 have HB0:=Lib.hid hbl0
 have HO:=Lib.hid hO
 obtain ⟨o0,o1,o2⟩:=cells3A hO
 obtain ⟨x0,x1,x2,x3,x4,x5,x6⟩:=HH.out.cells
 clear hbl0 hO h
 go_enter Tryz.func24,Tryz.ntmps24
 go_upto_region 1 with fail
 generalize (w.alloc (.cells #[.int .u8 1,.int .i64 (b:Int),.int .u8 data] 61))=w0 at *
 have HS6:=Lib.hid (HH.out.setNext nx)
 have y6:=HH.out.free 6
 generalize DoP20 w N r q pw g F n ⟨1,b,data⟩ R=PP at *
 generalize R.next=nx0 at *
 go_upto_region 12 with fail
 have HKA:Hid (KeptT RGT (Bd.of N) w (w0.setCell ⟨r,6,none⟩ (.int .u64 nx))):=(KeptT.bel HB0.out).trans HS6.out.2
 have HR1:=Lib.hid HS6.out.1
 have HO1:Hid ((w0.setCell ⟨r,6,none⟩ (.int .u64 nx)).heap[w.heap.size]?=some (.cells #[.int .u8 1,.int .i64 (b:Int),.int .u8 data] 61 (0,0))):=Kept.obj HS6.out.2 HO.out (KeptT.no (IsT.of HO.out) (by unfold RGT; decide))
 clear HS6 HO HB0 HH hwr x0 x1 x2 x3 x4 x5 x6 y6 o0 o1 o2
 generalize (w0.setCell ⟨r,6,none⟩ (.int .u64 nx))=w1 at *
 have HR2:=Lib.hid HR1.out
 have HKB:=Lib.hid HKA.out
 have hkl:k.xs.length≤1000000:=by
  refine HI.out.hn k.xs ?_
  have:R.hist[b]?=some k.xs:=by rw [← HR1.out.hh,List.getElem?_map,HK.out]; rfl
  exact List.mem_of_getElem? this
 have HKL:=Lib.hid hkl
 clear hkl HR1 HKA HO1
 obtain ⟨tmp,htmp⟩:∃ tmp:Obj,tmp= .cells #[.int .u64 nx,.int .u8 0,.int .u8 0,.int .u8 0,.int .u8 0,.int .u8 0,.int .u8 0,.int .u8 0,.int .u8 0,.bool true] 64:=⟨_,rfl⟩
 obtain ⟨C,hC⟩:∃ C:List Value→World→Prop,C=fun h W=>match h with
  | []=>W=w1.drew
  | [v]=>v= .slice (some ⟨w1.heap.size,0,none⟩) 1 1∧W=w1.drew.alloc tmp
  | [_,u]=>∃ gb cap,u= .slice (some ⟨gb,0,none⟩) (k.xs.length+1) cap∧W.ownsRow N 64 10 (.slice (some ⟨gb,0,none⟩) (k.xs.length+1) cap) (k.xs.length+1) (flatW k.xs++(tWr nx).cells)∧(w1.drew.alloc tmp).grownBy W k.v.ownBlock∧(k.v.ownBlock=some gb∨gb=w1.heap.size+1)
  | [_,_,_]=>∃ hs',Rig W N r p q pw ha hc fa fc g F n ⟨R.S,addH R.hist b (tWr nx),R.fl,nx⟩ hs'∧KeptT RGT (Bd.of N) w1 W
  | _=>False:=⟨_,rfl⟩
 have hall:∀ t:HeldL C 2,∀ j,j < w1.heap.size→some j≠k.v.ownBlock→t.w.heap[j]?=w1.heap[j]?:=fun t j hj hne=>by
  obtain ⟨s,W,h,l⟩:=t
  simp only
  subst hC
  match s,h,l with
  | [],h,_=>have h':W=w1.drew:=h; rw [h']; rfl
  | [v],h,_=>
    have h':W=w1.drew.alloc tmp:=h.2
    rw [h']; exact heap_alloc_old w1.drew _ hj
  | [_,_],h,_=>
    obtain ⟨gb,cap,_,_,hg,_⟩:=h
    rw [hg.block j (by simp; omega) hne]; exact heap_alloc_old w1.drew _ hj
 have HC0:Hid (C [] w1.drew):=by subst hC; exact rfl
 have hne1:Nonempty (HeldL C 2):=⟨⟨[],_,HC0.out,by simp⟩⟩
 have hne2:Nonempty (HeldC C):=⟨⟨[],_,HC0.out⟩⟩
 obtain ⟨x0,x1,x2,x3,x4,x5,x6⟩:=HR2.out.cells
 have hcb:=HR2.out.hist.cell HK.out
 have hkT:∀ j t,IsT t w1 j→t≠64→some j≠k.v.ownBlock:=fun j t ht hne e=>by
  rcases (HR2.out.hist.each b k HK.out).2 with ⟨h2,_⟩ | ⟨g',cp,cur,h2,_,h4,_⟩
  ·rw [h2] at e; cases e
  ·rw [h2] at e; injection e with e; subst e
   exact hne (ht.same (IsT.of h4))
 have f4:∀ t:HeldL C 2,t.w.cell? ⟨r,4,none⟩=some (.slice (some ⟨ha,0,none⟩) hs.length hc):=fun t=>(World.cell?_of_block (w:=w1) (a:=⟨r,4,none⟩) (hall t r HR2.out.lt (hkT r _ (IsT.own HR2.out.obj) (by decide)))).trans x4
 have fb:∀ t:HeldL C 2,t.w.cell? ⟨ha,b,none⟩=some (.slice k.A k.xs.length k.c):=fun t=>(World.cell?_of_block (w:=w1) (a:=⟨ha,b,none⟩) (hall t ha (IsT.own HR2.out.hist.own).lt (hkT ha _ (IsT.own HR2.out.hist.own) (by decide)))).trans hcb
 have f6:∀ t:HeldL C 2,t.w.cell? ⟨r,6,none⟩=some (.int .u64 nx):=fun t=>(World.cell?_of_block (w:=w1) (a:=⟨r,6,none⟩) (hall t r HR2.out.lt (hkT r _ (IsT.own HR2.out.obj) (by decide)))).trans x6
 have HV0:Hid (∀ W,C [] W→W=w1.drew):=by subst hC; exact fun _ h=>h
 have HV1:Hid (∀ W,W=w1.drew→C ([]++[.slice (some ⟨w1.heap.size,0,none⟩) 1 1]) (W.alloc (.cells #[.int .u64 nx,.int .u8 0,.int .u8 0,.int .u8 0,.int .u8 0,.int .u8 0,.int .u8 0,.int .u8 0,.int .u8 0,.bool true] 64))):=by
  subst hC
  intro W hW
  subst hW
  exact ⟨rfl,by rw [htmp]⟩
 have HV2:Hid (∀ v W,C [v] W→v= .slice (some ⟨w1.heap.size,0,none⟩) 1 1∧W=w1.drew.alloc tmp):=by subst hC; exact fun _ _ h=>h
 have HV3:Hid (∃ gb cap W',(Builtin.append_ #[62,62] 62 #[k.v,.slice (some ⟨w1.heap.size,0,none⟩) 1 1]).run Tryz.prog (w1.drew.alloc tmp)= .ok (.slice (some ⟨gb,0,none⟩) (k.xs.length+1) cap) W'∧C ([.slice (some ⟨w1.heap.size,0,none⟩) 1 1]++[.slice (some ⟨gb,0,none⟩) (k.xs.length+1) cap]) W'):=by
  subst hC
  obtain ⟨gb,cap,W',h1,h2,h3,h4⟩:=happ (x:=tWr nx) HR2.out HK.out rfl HKL.out (#[.int .u64 nx,.int .u8 0,.int .u8 0,.int .u8 0,.int .u8 0,.int .u8 0,.int .u8 0,.int .u8 0,.int .u8 0,.bool true]) rfl
  rw [htmp]
  exact ⟨gb,cap,W',h1,gb,cap,rfl,h2,h3,h4⟩
 have HV4:Hid (∀ u v W,C [u,v] W→∃ gb cap,v= .slice (some ⟨gb,0,none⟩) (k.xs.length+1) cap):=by
  subst hC
  intro u v W h
  obtain ⟨gb,cap,h1,_⟩:=h
  exact ⟨gb,cap,h1⟩
 have HV5:Hid (∀ u gb cap W,C [u,.slice (some ⟨gb,0,none⟩) (k.xs.length+1) cap] W→W.cell? ⟨ha,b,none⟩=some (.slice k.A k.xs.length k.c)∧W.frozen? ⟨ha,b,none⟩=false∧C ([u,.slice (some ⟨gb,0,none⟩) (k.xs.length+1) cap]++[undef]) (W.setCell ⟨ha,b,none⟩ (.slice (some ⟨gb,0,none⟩) (k.xs.length+1) cap))):=by
  subst hC
  intro u gb cap W h
  obtain ⟨gb',cap',h1,h2,h3,h4⟩:=h
  injection h1 with h1 _ h1'
  injection h1 with h1
  injection h1 with h1
  subst h1; subst h1'
  have hb0:Below w1.heap.size w1 (w1.drew.alloc tmp):=((Below.refl _ _).drew).alloc (Nat.le_refl _) _
  have hWA:=HR2.out.below0 hb0
  have hlt:ha < (w1.drew.alloc tmp).heap.size:=(IsT.own hWA.hist.own).lt
  have hne:=hkT ha _ (IsT.own HR2.out.hist.own) (by decide)
  have hpu:=hWA.push (x:=tWr nx) (H:=w1.heap.size+1) HK.out rfl (by simp) h2 h3 h4
  refine ⟨(h3.cell_far ⟨ha,b,none⟩ hlt hne).trans (hWA.hist.cell HK.out),(h3.frozen_far ⟨ha,b,none⟩ hlt hne).trans (hWA.hist.free b),_,hpu.1,KeptT.trans (KeptT.bel hb0) hpu.2⟩
 have HV6:Hid (∀ u v x W,C [u,v,x] W→∃ hs',Rig W N r p q pw ha hc fa fc g F n ⟨R.S,addH R.hist b (tWr nx),R.fl,nx⟩ hs'∧KeptT RGT (Bd.of N) w1 W):=by subst hC; exact fun _ _ _ _ h=>h
 clear hC hall hkT hcb
 have hbl:b < hs.length:=(List.getElem?_eq_some_iff.1 HK.out).1
 go_wp2_with fail
 refine wp_region_chainL C 20 [17,18] [20,18,17] [0,1,2,3,4,5,6,7,8,9,10,11,12,13,14,15,16,19] (by kernel_rfl) (by kernel_rfl) (by kernel_rfl) (by kernel_rfl) (by kernel_rfl) HC0.out ?_
 repeat (first | (refine wpCh_nl 2 (by rfl) (by rfl) (by rfl) ?_; go_big_quiet_step (fail); refine wpQuiet_nil ?_) | (refine wpCh_n (by rfl) (by rfl) ?_; go_big_quiet_step (fail); refine wpQuiet_nil ?_))
 refine wpCh_v (by rfl) (by rfl) (fun W hW=>⟨.slice (some ⟨w1.heap.size,0,none⟩) 1 1,_,?_,HV1.out W (HV0.out W hW)⟩) (fun v W hW=>?_)
 ·have:=HV0.out W hW
  subst this
  simp [go_sem]
 obtain ⟨rfl,hWe⟩:=HV2.out v W hW
 clear hWe
 go_big_quiet_step (fail)
 refine wpQuiet_nil ?_
 refine wpCh_v (by rfl) (by rfl) (fun W hW=>?_) (fun v W hW=>?_)
 ·obtain ⟨gb,cap,W',h1,h2⟩:=HV3.out
  obtain ⟨_,rfl⟩:=HV2.out _ W hW
  refine ⟨_,W',?_,h2⟩
  exact append_at rfl rfl rfl h1
 obtain ⟨gb,cap,rfl⟩:=HV4.out _ v W hW
 go_big_quiet_step (fail)
 refine wpQuiet_nil ?_
 repeat (first | (refine wpCh_nl 2 (by rfl) (by rfl) (by rfl) ?_; go_big_quiet_step (fail); refine wpQuiet_nil ?_) | (refine wpCh_n (by rfl) (by rfl) ?_; go_big_quiet_step (fail); refine wpQuiet_nil ?_))
 refine wpCh_s (by rfl) (by rfl) rfl (fun W hW=>⟨W.setCell ⟨ha,b,none⟩ (.slice (some ⟨gb,0,none⟩) (k.xs.length+1) cap),?_,(HV5.out _ _ _ W hW).2.2⟩) (fun v W hW=>?_)
 ·obtain ⟨k1,k2,_⟩:=HV5.out _ _ _ W hW
  simp [go_sem, *]
 refine wpCh_nil ?_
 intro w3 hw3
 obtain ⟨hs',hr3,hk3⟩:=HV6.out _ _ _ w3 hw3
 have HR3:=Lib.hid hr3
 have HK3:=Lib.hid (HKB.out.trans hk3)
 clear hw3 hr3 hk3 HV0 HV1 HV2 HV3 HV4 HV5 HV6 HC0 hne1 hne2 f4 fb f6 hbl HR2 HKB x0 x1 x2 x3 x4 x5 x6 htmp
 obtain ⟨ea,ec,BA,bc,hd⟩:=HR3.out.drv
 have hxk:KindOk ⟨2,b,nx,zeros8⟩:=by
  have:=HNX.out
  exact ⟨.inr ⟨rfl,rfl⟩,by simp only; omega,by simp only; omega,rfl,zeros8_u8⟩
 have HWR:Hid (∀ W,Below w3.heap.size w3 W→Calls Tryz.prog 20 #[.pointer (some ⟨p,0,none⟩),.int .i64 (b:Int),.int .u64 nx] W (PutPost W (Bd.of N) p q pw g F 0 R.S ea ec ⟨2,b,nx,zeros8⟩)):=fun W hW=>
  trim20_any b nx hxk HI.out.ok HI.out.u8 HI.out.F64 HI.out.Fn HI.out.O (hd.below0 hW)
 have HKD:Hid (∀ W,KeptT DRT (Bd.of N) w3 W→W.cell? ⟨r,2,none⟩=some (.pointer (some ⟨p,0,none⟩))∧W.cell? ⟨r,6,none⟩=some (.int .u64 nx)):=fun W hW=>by
  have h1:=own_ty HR3.out.obj hW (by unfold DRT; decide)
  exact ⟨(World.ownsRow.cellAt h1 2 (by decide)).trans rfl,(World.ownsRow.cellAt h1 6 (by decide)).trans rfl⟩
 clear hd hxk
 obtain ⟨C,hC⟩:∃ C:List Value→World→Prop,C=fun h W=>match h with
  | []=>W=w3.drew
  | [v]=>∃ rr:ST × Int,WriteR g F 0 R.S (tEnt b nx) rr∧v= .int .i64 rr.2∧DrvTo w3 (Bd.of N) p q pw g F 0 rr.1 ea ec W
  | _=>False:=⟨_,rfl⟩
 have hall:∀ t:HeldC C,KeptT DRT (Bd.of N) w3 t.w:=fun t=>by
  obtain ⟨s,W,h⟩:=t
  simp only
  subst hC
  match s,h with
  | [],h=>have h':W=w3.drew:=h; rw [h']; exact (KeptT.refl _ _ w3).drew
  | [v],h=>
    obtain ⟨rr,_,_,_,_,_,hk⟩:=h
    exact hk
 have HC0:Hid (C [] w3.drew):=by subst hC; exact rfl
 have HK1:Hid (∀ W,C [] W→Calls Tryz.prog 20 #[.pointer (some ⟨p,0,none⟩),.int .i64 (b:Int),.int .u64 nx] W fun e w'=>∃ x,e= .returned x∧C ([]++[x]) w'):=by
  subst hC
  intro W hW
  have hW':W=w3.drew:=hW
  subst hW'
  refine (HWR.out _ ((Below.refl _ _).drew)).mono ?_
  rintro e w' ⟨rr,h1,h2,h3⟩
  exact ⟨_,h2,rr,h1,rfl,h3.from ((Below.refl _ _).drew)⟩
 have HV1:Hid (∀ v W,C [v] W→∃ rr:ST × Int,WriteR g F 0 R.S (tEnt b nx) rr∧v= .int .i64 rr.2∧DrvTo w3 (Bd.of N) p q pw g F 0 rr.1 ea ec W):=by subst hC; exact fun _ _ h=>h
 have f2:∀ t:HeldC C,t.w.cell? ⟨r,2,none⟩=some (.pointer (some ⟨p,0,none⟩)):=fun t=>(HKD.out _ (hall t)).1
 have f6:∀ t:HeldC C,t.w.cell? ⟨r,6,none⟩=some (.int .u64 nx):=fun t=>(HKD.out _ (hall t)).2
 have hne:Nonempty (HeldC C):=⟨⟨[],_,HC0.out⟩⟩
 clear hC hall HWR
 go_wp2_with fail
 refine wp_region_chain C [9] [9] (by kernel_rfl) (by kernel_rfl) (by kernel_rfl) (by kernel_rfl) HC0.out ?_
 repeat (refine wpCh_n (by rfl) (by rfl) ?_; go_big_quiet_step (fail); refine wpQuiet_nil ?_)
 refine wpCh_l (f:=20) (args:=#[.pointer (some ⟨p,0,none⟩),.int .i64 (b:Int),.int .u64 nx]) (by rfl) (by rfl) (fun W=>by simp [go_sem]) (fun W hW=>HK1.out W hW) (fun v W hW=>?_)
 obtain ⟨⟨S',er⟩,_,rfl,_⟩:=HV1.out v W hW
 go_big_quiet_step (fail)
 refine wpQuiet_nil ?_
 repeat (refine wpCh_n (by rfl) (by rfl) ?_; go_big_quiet_step (fail); refine wpQuiet_nil ?_)
 refine wpCh_nil ?_
 intro w4 hw4
 obtain ⟨⟨S2,er2⟩,hwr,he4,BA4,bc4,hd4,hk4⟩:=HV1.out _ w4 hw4
 injection he4 with _ he4
 simp only at he4
 subst he4
 have HX:=Lib.hid (HP.out er S2 w4 hwr ⟨p,ha,hc,fa,fc,hs',HR3.out.drive ⟨ea,ec,BA4,bc4,hd4⟩ hk4⟩ (HK3.out.trans (hk4.sub drt_rgt)))
 clear hw4 hwr hd4 hk4 HV1 HK1 HC0 HKD f2 f6 hne
 go_wp2
 exact HX.out
theorem do_any {kind blk data:Int} (hk:0≤kind) (hd:0≤data∧data < 256) (hi:RigIn g F n R) (h:RigM w N r q pw g F n R):
  Calls Tryz.prog 24 #[.pointer (some ⟨r,0,none⟩),.agg #[.int .u8 kind,.int .i64 blk,.int .u8 data]] w (DoP20 w N r q pw g F n ⟨kind,blk,data⟩ R):=by
 by_cases hb:0≤blk∧blk < n
 ·obtain ⟨b,rfl⟩:=Int.eq_ofNat_of_zero_le hb.1
  have hbn:b < n:=by omega
  rcases (by omega:kind=0∨kind=1∨kind=2∨kind=3∨4≤kind) with rfl | rfl | rfl | rfl | h4
  ·exact do_write hbn hd hi h
  ·exact do_trim hbn hi h
  ·exact do_clean hbn hi h
  ·exact do_flush hbn hi h
  ·exact do_open hbn h4 hi h
 ·exact do_out hb h
end
end Go.Proofs.YtggkengmlkhdiaaGreat
namespace Go.Proofs.YtggkengmlkhdiaaGreat
set_option linter.unusedVariables false
open Go.RowKit
theorem last_ge (l:List Flt):∀ k,k≤l.length→(∀ j (hj:j < l.length),j < k→okF (lastF l j) l[j]=true)→ -1≤lastF l k
 | 0,_,_=>by unfold lastF; simp
 | k+1,hk,h=>by
   have h0:=last_ge l k (by omega) (fun j hj hjk=>h j hj (by omega))
   have h1:=h k (by omega) (by omega)
   rw [lastF_succ l k (by omega)]
   unfold okF at h1
   simp at h1
   omega
set_option maxRecDepth 100000 in
set_option maxHeartbeats 8000000 in
theorem rfvalid_any (l:List Flt) (A:Option Addr) (c:Nat) (w:World) (hl:Rd w w.heap.size A (flatF l)) (hn:l.length≤9223372036854775807):
  Calls Tryz.prog 53 #[.slice A l.length c] w fun e w'=>e= .returned (.bool (validF l))∧Below w.heap.size w w':=by
 have HR:=Lib.hid hl
 clear hl
 go_enter Tryz.func53,Tryz.ntmps53
 go_wp2
 go_loopw [3] (fun s3 wr=>∃ k:Nat,k≤l.length∧s3= .int .i64 k∧Below w.heap.size w wr∧Hid (∀ j (hj:j < l.length),j < k→okF (lastF l j) l[j]=true)) (fun v _=>l.length - (intOf v).toNat)
 case atStart=>exact ⟨0,Nat.zero_le _,rfl,Below.refl _ _,by unfold Hid; intro j _ h; omega⟩
 case round=>
  obtain ⟨k,hk,rfl,hbr,HA⟩:=hrel
  by_cases hlt:k < l.length
  ·obtain ⟨go,oo,rfl,hgo,c0,c1,c2⟩:=flt_at (HR.out.below hbr (Nat.le_refl _)) hlt
   have HN:Hid (okF (lastF l k) l[k]=false→validF l=false):=validF_not hlt
   have HY:Hid (okF (lastF l k) l[k]=true→∀ j (hj:j < l.length),j < k+1→okF (lastF l j) l[j]=true):=by
    unfold Hid; intro h j hj hj2
    by_cases e:j=k
    ·subst e; exact h
    ·exact HA.out j hj (by omega)
   have hbn:∀ o n,Below w.heap.size w ((wr.alloc o).drewN n):=fun o n=>(hbr.alloc hbr.size o).trans (((Kept.refl (fun _=>False) (wr.alloc o)).drewN n).below0.mono (Nat.le_trans hbr.size (by simp)))
   have HBN:=Lib.hid hbn
   have hgw:go < wr.heap.size:=Nat.lt_of_lt_of_le hgo hbr.size
   have k0:(0:Int)≤k:=by omega
   have k1:(k:Int) < l.length:=by omega
   clear hbn
   have hlg:=last_ge l k hk HA.out
   cases k with
   | zero=>
     have hla:lastF l 0= -1:=rfl
     rw [hla] at HN HY
     simp only [Nat.zero_mul,Nat.add_zero] at c0 c1 c2
     generalize l[0]=f at *
     have n0:(wr.alloc (.cells #[.int .i64 f.at_,.int .i64 f.kind,.int .i64 f.to_] 49)).cell? ⟨wr.heap.size,0,none⟩=some (.int .i64 f.at_):=cell_new _ _ _ _ _ _ rfl rfl
     have n1:(wr.alloc (.cells #[.int .i64 f.at_,.int .i64 f.kind,.int .i64 f.to_] 49)).cell? ⟨wr.heap.size,1,none⟩=some (.int .i64 f.kind):=cell_new _ _ _ _ _ _ rfl rfl
     have n2:(wr.alloc (.cells #[.int .i64 f.at_,.int .i64 f.kind,.int .i64 f.to_] 49)).cell? ⟨wr.heap.size,2,none⟩=some (.int .i64 f.to_):=cell_new _ _ _ _ _ _ rfl rfl
     clear hla hlg
     by_cases h1:f.at_ < 0
     ·have HF:=Lib.hid (HN.out (by unfold okF; simp; omega))
      have d1:decide (f.at_ < 0)=true:=decide_eq_true h1
      clear h1
      go_wp2
      go_quiet (fail)
      go_wp2
      go_ret
      exact ⟨by rw [HF.out]; rfl,HBN.out _ _⟩
     have d1:decide (f.at_ < 0)=false:=decide_eq_false h1
     have h1':¬ (f.at_≤ -1):=by omega
     have HO:Hid (okF (-1) f=(!decide (f.kind < 1) && (!decide (7 < f.kind) && (!decide (f.to_ < 0) && (decide (f.to_=0) || (decide (f.kind=3) || decide (f.kind=5))))))):=by unfold Hid okF; rw [decide_eq_false h1']; rfl
     clear h1 h1'
     by_cases h3:f.kind < 1
     ·have d3:decide (f.kind < 1)=true:=decide_eq_true h3
      have HF:=Lib.hid (HN.out (by rw [HO.out,d3]; rfl))
      clear h3
      go_wp2
      go_quiet (fail)
      go_wp2
      go_ret
      exact ⟨by rw [HF.out]; rfl,HBN.out _ _⟩
     have d3:decide (f.kind < 1)=false:=decide_eq_false h3
     by_cases h4:7 < f.kind
     ·have d4:decide (7 < f.kind)=true:=decide_eq_true h4
      have HF:=Lib.hid (HN.out (by rw [HO.out,d3,d4]; rfl))
      clear h3 h4
      go_wp2
      go_quiet (fail)
      go_wp2
      go_ret
      exact ⟨by rw [HF.out]; rfl,HBN.out _ _⟩
     have d4:decide (7 < f.kind)=false:=decide_eq_false h4
     by_cases h5:f.to_ < 0
     ·have d5:decide (f.to_ < 0)=true:=decide_eq_true h5
      have HF:=Lib.hid (HN.out (by rw [HO.out,d3,d4,d5]; rfl))
      clear h3 h4 h5
      go_wp2
      go_quiet (fail)
      go_wp2
      go_ret
      exact ⟨by rw [HF.out]; rfl,HBN.out _ _⟩
     have d5:decide (f.to_ < 0)=false:=decide_eq_false h5
     by_cases h6:f.to_=0
     ·have HF:=Lib.hid (HY.out (by rw [HO.out,d3,d4,d5,decide_eq_true h6]; rfl))
      have e6:(f.to_ !=0)=false:=by simpa using h6
      clear h3 h4 h5 h6
      go_wp2
      go_quiet (fail)
      go_wp2
      go_roundw
      case rel=>exact ⟨1,by omega,by go_num,HBN.out _ _,HF.out⟩
      case measure=>simp [intOf]; omega
     have e6:(f.to_ !=0)=true:=by simpa using h6
     by_cases h7:f.kind=3
     ·have HF:=Lib.hid (HY.out (by rw [HO.out,d3,d4,d5,decide_eq_true h7]; simp))
      have e7:(f.kind !=3)=false:=by simpa using h7
      clear h3 h4 h5 h6 h7
      go_wp2
      go_quiet (fail)
      go_wp2
      go_roundw
      case rel=>exact ⟨1,by omega,by go_num,HBN.out _ _,HF.out⟩
      case measure=>simp [intOf]; omega
     have e7:(f.kind !=3)=true:=by simpa using h7
     by_cases h8:f.kind=5
     ·have HF:=Lib.hid (HY.out (by rw [HO.out,d3,d4,d5,decide_eq_true h8]; simp))
      have e8:(f.kind !=5)=false:=by simpa using h8
      clear h3 h4 h5 h6 h7 h8
      go_wp2
      go_quiet (fail)
      go_wp2
      go_roundw
      case rel=>exact ⟨1,by omega,by go_num,HBN.out _ _,HF.out⟩
      case measure=>simp [intOf]; omega
     have e8:(f.kind !=5)=true:=by simpa using h8
     have HF:=Lib.hid (HN.out (by rw [HO.out,d3,d4,d5,decide_eq_false h6,decide_eq_false h7,decide_eq_false h8]; rfl))
     clear h3 h4 h5 h6 h7 h8
     go_wp2
     go_quiet (fail)
     go_wp2
     go_ret
     exact ⟨by rw [HF.out]; rfl,HBN.out _ _⟩
   | succ m=>
     have hml:m < l.length:=by omega
     obtain ⟨go',oo',e',_,b0,_,_⟩:=flt_at (HR.out.below hbr (Nat.le_refl _)) hml
     injection e' with e'; injection e' with e1' e2'; subst e1'; subst e2'
     rw [lastF_succ l m hml] at HN HY hlg
     generalize l[m+1]=f at *
     generalize l[m].at_=prev at *
     have n0:(wr.alloc (.cells #[.int .i64 f.at_,.int .i64 f.kind,.int .i64 f.to_] 49)).cell? ⟨wr.heap.size,0,none⟩=some (.int .i64 f.at_):=cell_new _ _ _ _ _ _ rfl rfl
     have n1:(wr.alloc (.cells #[.int .i64 f.at_,.int .i64 f.kind,.int .i64 f.to_] 49)).cell? ⟨wr.heap.size,1,none⟩=some (.int .i64 f.kind):=cell_new _ _ _ _ _ _ rfl rfl
     have n2:(wr.alloc (.cells #[.int .i64 f.at_,.int .i64 f.kind,.int .i64 f.to_] 49)).cell? ⟨wr.heap.size,2,none⟩=some (.int .i64 f.to_):=cell_new _ _ _ _ _ _ rfl rfl
     have b0':(wr.alloc (.cells #[.int .i64 f.at_,.int .i64 f.kind,.int .i64 f.to_] 49)).cell? ⟨go,oo+m * 3,none⟩=some (.int .i64 prev):=(World.cell?_alloc_lt _ _ ⟨go,oo+m * 3,none⟩ hgw).trans b0
     have m0:(0:Int)≤m:=by omega
     have m1:(m:Int) < l.length:=by omega
     have mp:decide ((0:Int) < (m:Int)+1)=true:=decide_eq_true (by omega)
     by_cases h1:f.at_ < 0
     ·have HF:=Lib.hid (HN.out (by unfold okF; simp; omega))
      have d1:decide (f.at_ < 0)=true:=decide_eq_true h1
      clear h1
      go_wp2
      go_quiet (fail)
      go_wp2
      go_ret
      exact ⟨by rw [HF.out]; rfl,HBN.out _ _⟩
     have d1:decide (f.at_ < 0)=false:=decide_eq_false h1
     by_cases h2:f.at_≤prev
     ·have HF:=Lib.hid (HN.out (by unfold okF; simp [h2]))
      have d2:decide (f.at_≤prev)=true:=decide_eq_true h2
      clear h1 h2
      go_wp2
      go_quiet (fail)
      go_wp2
      go_ret
      exact ⟨by rw [HF.out]; rfl,HBN.out _ _⟩
     have d2:decide (f.at_≤prev)=false:=decide_eq_false h2
     have HO:Hid (okF prev f=(!decide (f.kind < 1) && (!decide (7 < f.kind) && (!decide (f.to_ < 0) && (decide (f.to_=0) || (decide (f.kind=3) || decide (f.kind=5))))))):=by unfold Hid okF; rw [decide_eq_false h2]; rfl
     clear h1 h2 hlg
     by_cases h3:f.kind < 1
     ·have d3:decide (f.kind < 1)=true:=decide_eq_true h3
      have HF:=Lib.hid (HN.out (by rw [HO.out,d3]; rfl))
      clear h3
      go_wp2
      go_quiet (fail)
      go_wp2
      go_ret
      exact ⟨by rw [HF.out]; rfl,HBN.out _ _⟩
     have d3:decide (f.kind < 1)=false:=decide_eq_false h3
     by_cases h4:7 < f.kind
     ·have d4:decide (7 < f.kind)=true:=decide_eq_true h4
      have HF:=Lib.hid (HN.out (by rw [HO.out,d3,d4]; rfl))
      clear h3 h4
      go_wp2
      go_quiet (fail)
      go_wp2
      go_ret
      exact ⟨by rw [HF.out]; rfl,HBN.out _ _⟩
     have d4:decide (7 < f.kind)=false:=decide_eq_false h4
     by_cases h5:f.to_ < 0
     ·have d5:decide (f.to_ < 0)=true:=decide_eq_true h5
      have HF:=Lib.hid (HN.out (by rw [HO.out,d3,d4,d5]; rfl))
      clear h3 h4 h5
      go_wp2
      go_quiet (fail)
      go_wp2
      go_ret
      exact ⟨by rw [HF.out]; rfl,HBN.out _ _⟩
     have d5:decide (f.to_ < 0)=false:=decide_eq_false h5
     by_cases h6:f.to_=0
     ·have HF:=Lib.hid (HY.out (by rw [HO.out,d3,d4,d5,decide_eq_true h6]; rfl))
      have e6:(f.to_ !=0)=false:=by simpa using h6
      clear h3 h4 h5 h6
      go_wp2
      go_quiet (fail)
      go_wp2
      go_roundw
      case rel=>exact ⟨(m+1+1),by omega,by go_num,HBN.out _ _,HF.out⟩
      case measure=>simp [intOf]; omega
     have e6:(f.to_ !=0)=true:=by simpa using h6
     by_cases h7:f.kind=3
     ·have HF:=Lib.hid (HY.out (by rw [HO.out,d3,d4,d5,decide_eq_true h7]; simp))
      have e7:(f.kind !=3)=false:=by simpa using h7
      clear h3 h4 h5 h6 h7
      go_wp2
      go_quiet (fail)
      go_wp2
      go_roundw
      case rel=>exact ⟨(m+1+1),by omega,by go_num,HBN.out _ _,HF.out⟩
      case measure=>simp [intOf]; omega
     have e7:(f.kind !=3)=true:=by simpa using h7
     by_cases h8:f.kind=5
     ·have HF:=Lib.hid (HY.out (by rw [HO.out,d3,d4,d5,decide_eq_true h8]; simp))
      have e8:(f.kind !=5)=false:=by simpa using h8
      clear h3 h4 h5 h6 h7 h8
      go_wp2
      go_quiet (fail)
      go_wp2
      go_roundw
      case rel=>exact ⟨(m+1+1),by omega,by go_num,HBN.out _ _,HF.out⟩
      case measure=>simp [intOf]; omega
     have e8:(f.kind !=5)=true:=by simpa using h8
     have HF:=Lib.hid (HN.out (by rw [HO.out,d3,d4,d5,decide_eq_false h6,decide_eq_false h7,decide_eq_false h8]; rfl))
     clear h3 h4 h5 h6 h7 h8
     go_wp2
     go_quiet (fail)
     go_wp2
     go_ret
     exact ⟨by rw [HF.out]; rfl,HBN.out _ _⟩
  ·have HF:Hid (validF l=true):=validF_of (fun j hj=>HA.out j hj (by omega))
   go_wp2
   go_ret
   exact ⟨by rw [HF.out]; rfl,hbr⟩
end Go.Proofs.YtggkengmlkhdiaaGreat
namespace Go.Proofs.YtggkengmlkhdiaaGreat
set_option linter.unusedVariables false
open Go.RowKit
set_option maxRecDepth 100000 in
set_option maxHeartbeats 8000000 in
theorem poss_any (g:Geo) (n:Int) (hg:Vg g) (w:World):Calls Tryz.prog 52 #[.agg #[.int .i64 g.random,.int .i64 g.bands,.int .i64 g.tracks,.int .i64 g.sectors,.int .i64 g.overlap],.int .i64 n] w fun e w'=>e= .returned (.bool (possB g n))∧Below w.heap.size w w':=by
 have hz:=hg.bz
 have hb0:=hg.b0
 have hb1:=hg.b1
 have HB:Hid (∀ W,Calls Tryz.prog 29 #[.agg #[.int .i64 g.random,.int .i64 g.bands,.int .i64 g.tracks,.int .i64 g.sectors,.int .i64 g.overlap]] W fun e w'=>e= .returned (.int .i64 (g.tracks * g.sectors))∧Below W.heap.size W w'):=fun W=>by
  have:=rbz_any g W; rw [bzN_valid hg] at this; exact this
 have HP:Hid (∀ b:Bool,(decide (1≤n) && (decide (n≤65536) && decide (n≤(g.bands - 3) * (g.tracks * g.sectors))))=b→possB g n=b):=fun b h=>by
  unfold possB; rw [bzN_valid hg]; exact h
 have hbl0:Below w.heap.size w (w.alloc (.cells #[.int .i64 g.random,.int .i64 g.bands,.int .i64 g.tracks,.int .i64 g.sectors,.int .i64 g.overlap] 42)):=((Below.refl _ _).alloc (Nat.le_refl _) _)
 have hO:(w.alloc (.cells #[.int .i64 g.random,.int .i64 g.bands,.int .i64 g.tracks,.int .i64 g.sectors,.int .i64 g.overlap] 42)).heap[w.heap.size]?=some (.cells #[.int .i64 g.random,.int .i64 g.bands,.int .i64 g.tracks,.int .i64 g.sectors,.int .i64 g.overlap] 42 (0,0)):=heap_alloc_new _ _
 have PG:Cells5 (w.alloc (.cells #[.int .i64 g.random,.int .i64 g.bands,.int .i64 g.tracks,.int .i64 g.sectors,.int .i64 g.overlap] 42)) w.heap.size (.int .i64 g.random) (.int .i64 g.bands) (.int .i64 g.tracks) (.int .i64 g.sectors) (.int .i64 g.overlap):=Cells5.new w 42 _ _ _ _ _
 have hz1:w.heap.size < (w.alloc (.cells #[.int .i64 g.random,.int .i64 g.bands,.int .i64 g.tracks,.int .i64 g.sectors,.int .i64 g.overlap] 42)).heap.size:=by simp
 clear hO hg
 generalize g.tracks * g.sectors=Z at *
 have hm:0≤(g.bands - 3) * Z+3 * Z∧(g.bands - 3) * Z≤65536:=by
  have e:(g.bands - 3) * Z=g.bands * Z - 3 * Z:=by rw [Int.sub_mul]
  have h1:=mul_lim (a:=g.bands) (b:=Z) (A:=64) (B:=1024) (by omega) (by omega) (by omega) (by omega)
  omega
 have hw1:IntKind.i64.wrap (g.bands - 3)=g.bands - 3:=by rw [IntKind.wrap_i64]; omega
 have hw2:IntKind.i64.wrap ((g.bands - 3) * Z)=(g.bands - 3) * Z:=by rw [IntKind.wrap_i64]; omega
 generalize hPZ:(g.bands - 3) * Z=PZ at *
 have HPZ:=Lib.hid hPZ
 clear hm
 by_cases h1:1≤n
 ·have e1:decide (1≤n)=true:=decide_eq_true h1
  by_cases h2:n≤65536
  ·have e2:decide (n≤65536)=true:=decide_eq_true h2
   have HQ:Hid (possB g n=decide (n≤PZ)):=HP.out _ (by rw [e1,e2]; rfl)
   go_enter Tryz.func52,Tryz.ntmps52
   go_upto_region 1 with fail
   generalize (w.alloc (.cells #[.int .i64 g.random,.int .i64 g.bands,.int .i64 g.tracks,.int .i64 g.sectors,.int .i64 g.overlap] 42))=w0 at *
   have s0:=Held.cell PG.c0 hz1; have s1:=Held.cell PG.c1 hz1; have s2:=Held.cell PG.c2 hz1; have s3:=Held.cell PG.c3 hz1; have s4:=Held.cell PG.c4 hz1
   have HX:=Lib.hid hbl0
   clear hbl0 hz hb0 hb1 h1 h2
   have hne:Nonempty (Held (Below w0.heap.size w0)):=⟨⟨_,(Held.drew_below (Nat.le_refl _))⟩⟩
   refine wp_region_heldq (S:=(Below w0.heap.size w0)) (by kernel_rfl) (by kernel_rfl) (Held.drew_below (Nat.le_refl _)) ?_
   repeat (go_big_quiet_step ((go_at_call 29; exact Calls.held_below (Nat.le_refl _) (HB.out _))))
   refine wpQuiet_nil ?_
   intro _ hw'
   obtain ⟨sq,hw''⟩:=hw'
   subst hw''
   clear hne
   go_wp2
   go_ret
   exact ⟨by rw [HQ.out]; rfl,HX.out.trans (sq.h.mono HX.out.size)⟩
  ·have e2:decide (n≤65536)=false:=decide_eq_false h2
   have HQ:Hid (possB g n=false):=HP.out _ (by rw [e1,e2]; rfl)
   go_enter Tryz.func52,Tryz.ntmps52
   go_upto_region 1 with fail
   generalize (w.alloc (.cells #[.int .i64 g.random,.int .i64 g.bands,.int .i64 g.tracks,.int .i64 g.sectors,.int .i64 g.overlap] 42))=w0 at *
   have s0:=Held.cell PG.c0 hz1; have s1:=Held.cell PG.c1 hz1; have s2:=Held.cell PG.c2 hz1; have s3:=Held.cell PG.c3 hz1; have s4:=Held.cell PG.c4 hz1
   have HX:=Lib.hid hbl0
   clear hbl0 hz hb0 hb1 h1 h2
   have hne:Nonempty (Held (Below w0.heap.size w0)):=⟨⟨_,(Held.drew_below (Nat.le_refl _))⟩⟩
   refine wp_region_heldq (S:=(Below w0.heap.size w0)) (by kernel_rfl) (by kernel_rfl) (Held.drew_below (Nat.le_refl _)) ?_
   repeat (go_big_quiet_step ((go_at_call 29; exact Calls.held_below (Nat.le_refl _) (HB.out _))))
   refine wpQuiet_nil ?_
   intro _ hw'
   obtain ⟨sq,hw''⟩:=hw'
   subst hw''
   clear hne
   go_wp2
   go_ret
   exact ⟨by rw [HQ.out]; rfl,HX.out.trans (sq.h.mono HX.out.size)⟩
 ·have e1:decide (1≤n)=false:=decide_eq_false h1
  have HQ:Hid (possB g n=false):=HP.out _ (by rw [e1]; rfl)
  go_enter Tryz.func52,Tryz.ntmps52
  go_upto_region 1 with fail
  generalize (w.alloc (.cells #[.int .i64 g.random,.int .i64 g.bands,.int .i64 g.tracks,.int .i64 g.sectors,.int .i64 g.overlap] 42))=w0 at *
  have s0:=Held.cell PG.c0 hz1; have s1:=Held.cell PG.c1 hz1; have s2:=Held.cell PG.c2 hz1; have s3:=Held.cell PG.c3 hz1; have s4:=Held.cell PG.c4 hz1
  have HX:=Lib.hid hbl0
  clear hbl0 hz hb0 hb1 h1
  have hne:Nonempty (Held (Below w0.heap.size w0)):=⟨⟨_,(Held.drew_below (Nat.le_refl _))⟩⟩
  refine wp_region_heldq (S:=(Below w0.heap.size w0)) (by kernel_rfl) (by kernel_rfl) (Held.drew_below (Nat.le_refl _)) ?_
  repeat (go_big_quiet_step ((go_at_call 29; exact Calls.held_below (Nat.le_refl _) (HB.out _))))
  refine wpQuiet_nil ?_
  intro _ hw'
  obtain ⟨sq,hw''⟩:=hw'
  subst hw''
  clear hne
  go_wp2
  go_ret
  exact ⟨by rw [HQ.out]; rfl,HX.out.trans (sq.h.mono HX.out.size)⟩
def fairB (g:Geo) (nb:Int) (F:List Flt) (m:Nat):Bool:=validG g && (decide (szN g≤120) && (possB g nb && (decide (m≤80) && (decide (F.length≤40) && validF F))))
set_option maxRecDepth 100000 in
set_option maxHeartbeats 8000000 in
theorem fair_any (g:Geo) (nb:Int) (F:List Flt) (A0 A1:Option Addr) (c0 c1 m:Nat) (w:World) (hm:m≤9223372036854775807) (hr:Rd w w.heap.size A0 (flatF F)) (hn:F.length≤9223372036854775807):
  Calls Tryz.prog 22 #[.agg #[.int .i64 g.random,.int .i64 g.bands,.int .i64 g.tracks,.int .i64 g.sectors,.int .i64 g.overlap,.int .i64 nb,.slice A0 F.length c0,.slice A1 m c1]] w fun e w'=>e= .returned (.bool (fairB g nb F m))∧Below w.heap.size w w':=by
 have HB0:Hid (Below w.heap.size w (w.alloc (.cells #[.int .i64 g.random,.int .i64 g.bands,.int .i64 g.tracks,.int .i64 g.sectors,.int .i64 g.overlap,.int .i64 nb,.slice A0 F.length c0,.slice A1 m c1] 46))):=(Below.refl _ _).alloc (Nat.le_refl _) _
 have HO0:Hid ((w.alloc (.cells #[.int .i64 g.random,.int .i64 g.bands,.int .i64 g.tracks,.int .i64 g.sectors,.int .i64 g.overlap,.int .i64 nb,.slice A0 F.length c0,.slice A1 m c1] 46)).heap[w.heap.size]?=some (.cells #[.int .i64 g.random,.int .i64 g.bands,.int .i64 g.tracks,.int .i64 g.sectors,.int .i64 g.overlap,.int .i64 nb,.slice A0 F.length c0,.slice A1 m c1] 46 (0,0))):=heap_alloc_new _ _
 have HV:Hid (∀ W,Below w.heap.size w W→Calls Tryz.prog 53 #[.slice A0 F.length c0] W fun e w'=>e= .returned (.bool (validF F))∧Below W.heap.size W w'):=fun W hW=>rfvalid_any F A0 c0 W ((hr.below hW (Nat.le_refl _)).more hW.size) hn
 obtain ⟨⟨x0,x1,x2,x3,x4,x5,x6,x7⟩,_⟩:=cells8q HO0.out
 have HM:Hid (m≤9223372036854775807∧F.length≤9223372036854775807):=⟨hm,hn⟩
 have HQ:Hid (∀ b,(validG g && (decide (szN g≤120) && (possB g nb && (decide (m≤80) && (decide (F.length≤40) && validF F)))))=b→fairB g nb F m=b):=fun b h=>h
 clear hr hm hn
 go_enter Tryz.func22,Tryz.ntmps22
 go_upto_region 1 with fail
 generalize (w.alloc (.cells #[.int .i64 g.random,.int .i64 g.bands,.int .i64 g.tracks,.int .i64 g.sectors,.int .i64 g.overlap,.int .i64 nb,.slice A0 F.length c0,.slice A1 m c1] 46))=w0 at *
 go_wp2_with fail
 refine (rgvalid_any g _).mono ?_
 rintro e w1 ⟨rfl,hb1⟩
 have HB1:Hid (Below w.heap.size w w1):=HB0.out.trans (hb1.mono HB0.out.size)
 have HO1:=Lib.hid (belObj hb1 HO0.out (lt_of_block HO0.out))
 clear hb1 x0 x1 x2 x3 x4 x5 x6 x7
 obtain ⟨⟨x0,x1,x2,x3,x4,x5,x6,x7⟩,_⟩:=cells8q HO1.out
 cases hv:validG g
 ·have HE:Hid (fairB g nb F m=false):=HQ.out _ (by rw [hv]; rfl)
  clear hv
  go_wp2
  go_ret
  exact ⟨by rw [HE.out]; rfl,HB1.out⟩
 ·have HG:=Lib.hid ((validG_iff g).1 hv)
  have HVG:=Lib.hid hv
  clear hv
  go_wp2_with fail
  refine (rsz_any g _).mono ?_
  rintro e w2 ⟨rfl,hb2⟩
  have HB2:Hid (Below w.heap.size w w2):=HB1.out.trans (hb2.mono HB1.out.size)
  have HO2:=Lib.hid (belObj hb2 HO1.out (lt_of_block HO1.out))
  clear hb2 x0 x1 x2 x3 x4 x5 x6 x7
  obtain ⟨⟨x0,x1,x2,x3,x4,x5,x6,x7⟩,_⟩:=cells8q HO2.out
  have HVZ:=HVG.out
  by_cases h2:szN g≤120
  ·have e2:decide (szN g≤120)=true:=decide_eq_true h2
   have HE2:=Lib.hid e2
   generalize szN g=z at *
   clear h2 HVZ
   go_wp2_with fail
   refine (poss_any g nb HG.out _).mono ?_
   rintro e w3 ⟨rfl,hb3⟩
   have HB3:Hid (Below w.heap.size w w3):=HB2.out.trans (hb3.mono HB2.out.size)
   have HO3:=Lib.hid (belObj hb3 HO2.out (lt_of_block HO2.out))
   clear hb3 x0 x1 x2 x3 x4 x5 x6 x7
   obtain ⟨⟨x0,x1,x2,x3,x4,x5,x6,x7⟩,_⟩:=cells8q HO3.out
   cases hp:possB g nb
   ·have HE:Hid (fairB g nb F m=false):=HQ.out _ (by rw [HVG.out,HE2.out,hp]; rfl)
    clear hp
    go_wp2
    go_ret
    exact ⟨by rw [HE.out]; rfl,HB3.out⟩
   ·have HPP:=Lib.hid hp
    clear hp
    by_cases h4:m≤80
    ·have HE4:Hid (decide (m≤80)=true):=decide_eq_true h4
     have e4:decide ((m:Int)≤80)=true:=decide_eq_true (by omega)
     by_cases h5:F.length≤40
     ·have HE5:Hid (decide (F.length≤40)=true):=decide_eq_true h5
      have e5:decide ((F.length:Int)≤40)=true:=decide_eq_true (by omega)
      have HW3:=Lib.hid (HV.out _ HB3.out)
      clear e2
      go_wp2_with fail
      refine HW3.out.mono ?_
      rintro e w4 ⟨rfl,hb4⟩
      have HE:Hid (fairB g nb F m=validF F):=HQ.out _ (by rw [HVG.out,HE2.out,HPP.out,HE4.out,HE5.out]; rfl)
      have HB4:Hid (Below w.heap.size w w4):=HB3.out.trans (hb4.mono HB3.out.size)
      clear hb4
      go_wp2
      go_ret
      exact ⟨by rw [HE.out]; rfl,HB4.out⟩
     ·have HE5:Hid (decide (F.length≤40)=false):=decide_eq_false h5
      have e5:decide ((F.length:Int)≤40)=false:=decide_eq_false (by omega)
      have HE:Hid (fairB g nb F m=false):=HQ.out _ (by rw [HVG.out,HE2.out,HPP.out,HE4.out,HE5.out]; rfl)
      clear e2
      go_wp2
      go_ret
      exact ⟨by rw [HE.out]; rfl,HB3.out⟩
    ·have HE4:Hid (decide (m≤80)=false):=decide_eq_false h4
     have e4:decide ((m:Int)≤80)=false:=decide_eq_false (by omega)
     have HE:Hid (fairB g nb F m=false):=HQ.out _ (by rw [HVG.out,HE2.out,HPP.out,HE4.out]; rfl)
     clear e2
     go_wp2
     go_ret
     exact ⟨by rw [HE.out]; rfl,HB3.out⟩
  ·have e2:decide (szN g≤120)=false:=decide_eq_false h2
   have HE:Hid (fairB g nb F m=false):=HQ.out _ (by rw [HVG.out,e2]; rfl)
   generalize szN g=z at *
   clear h2 HVZ
   go_wp2
   go_ret
   exact ⟨by rw [HE.out]; rfl,HB2.out⟩
end Go.Proofs.YtggkengmlkhdiaaGreat
