/-
  WHAT IS SHOWN: what perform of disk returns and leaves with the closures of Flush and Erase. what Flush and Erase of disk return and leave. what only of tegulalaw14 returns: the acts that are operations, with the key 0. Conditions: as each theorem names them.
-/
import Derived.Test.YtggkengmlkhdiaaGreatM08
import Derived.Deep.AppendLies
namespace Go.Proofs.YtggkengmlkhdiaaGreat
set_option linter.unusedVariables false
open Go.RowKit
section
variable {w w':World} {B:Bd} {q pw p:Nat} {g:Geo} {F:List Flt} {s:DS} {P:Pow} {LM:List Sec} {O:List OpV} {FA:Option Addr} {fc:Nat}
set_option maxRecDepth 100000 in
set_option maxHeartbeats 4000000 in
theorem flushperf_any {w0:World} (key:Int) (bd:Nat) (Q:Int→World→Prop) (ho:w.ownsRow B.n 109 16 (.slice (some ⟨q,0,none⟩) 1 1) 1 (dObj g s p pw FA F.length fc)) (hqx:¬ B.X q) (hp:PowM w B pw P) (hk:KeptT DPT B w0 w) (hc:CacheM w0 B p g LM O) (hfl:RdT w0 49 FA (flatF F)) (hn:F.length≤9223372036854775807) (hB:B.top≤w.heap.size)
  (HW:∀ W,Mid w0 W B q pw g F.length fc p FA (begD F s P key).s (begD F s P key).P→KeptT DPT B w W→(begD F s P key).er=0→Calls Tryz.prog 88 #[(begD F s P key).f.val,.pointer (some ⟨bd,0,none⟩)] W fun e w'=>∃ er,e= .returned (.int .i64 er)∧Q er w'):
  Calls Tryz.prog 87 #[.pointer (some ⟨q,0,none⟩),.int .u64 key,.func (.func 88) #[] #[.pointer (some ⟨bd,0,none⟩)]] w (PerfPost w0 w B q pw g F.length fc p FA (begD F s P key) Q):=by
 have h:=Dsk.of ho hqx hc hfl hk
 have HST:=Lib.hid (dstate_any h hp)
 have HSK:Hid (∀ W,Below w.heap.size w W→Mid w0 W B q pw g F.length fc p FA s P∧KeptT DPT B w W):=by
  unfold Hid; intro W hW; exact ⟨⟨(h.below0 hW).obj,hp.below0 hW,hk.thenBelow hW,hqx⟩,KeptT.bel hW⟩
 have HPC:Hid (∀ W,Below w.heap.size w W→Calls Tryz.prog 118 #[.pointer (some ⟨pw,0,none⟩)] W fun e w'=>e= .returned (.bool (!(callP P).off))∧Mid w0 w' B q pw g F.length fc p FA s (callP P)∧KeptT DPT B w w'):=by
  unfold Hid; intro W hW
  refine (pcall_any (hp.below0 hW)).mono ?_
  rintro e w' ⟨rfl,hp',hk'⟩
  have hkd:KeptT DPT B W w':=hk'.sub (by unfold DPT; decide)
  exact ⟨rfl,⟨own_kept (h.below0 hW).obj hk' (fun k e=>by simp [Value.ownBlock] at e; subst e; exact KeptT.no (IsT.own (h.below0 hW).obj) (by decide)),hp',(hk.thenBelow hW).trans hkd,hqx⟩,(KeptT.bel hW).trans hkd⟩
 have HCE:Hid (∀ W s' P',Mid w0 W B q pw g F.length fc p FA s' P'→W.cell? ⟨q,4,none⟩=some (.int .i64 s'.ops)∧W.cell? ⟨q,11,none⟩=some (.slice FA F.length fc)∧W.cell? ⟨q,12,none⟩=some (.pointer (some ⟨pw,0,none⟩))∧W.cell? ⟨q,14,none⟩=some (.int .u64 s'.key)∧W.cell? ⟨q,15,none⟩=some (.bool s'.dead)∧W.frozen? ⟨q,4,none⟩=false∧W.frozen? ⟨q,15,none⟩=false):=by
  unfold Hid; intro W s' P' hm
  have h':=Dsk.of hm.o hm.x hc hfl hm.k
  exact ⟨(h'.cell 4 (by decide)).trans rfl,(h'.cell 11 (by decide)).trans rfl,(h'.cell 12 (by decide)).trans rfl,(h'.cell 14 (by decide)).trans rfl,(h'.cell 15 (by decide)).trans rfl,h'.free 4,h'.free 15⟩
 have HAT:Hid (∀ W s' P',Mid w0 W B q pw g F.length fc p FA s' P'→Calls Tryz.prog 119 #[.slice FA F.length fc,.int .i64 s'.ops] W (AtPost W (atF F s'.ops))):=by
  unfold Hid; intro W s' P' hm; exact fat_any F s'.ops FA fc W (Dsk.of hm.o hm.x hc hfl hm.k).fl.rd hn
 have HBM:Hid (∀ W W' s' P',Mid w0 W B q pw g F.length fc p FA s' P'→Below W.heap.size W W'→Mid w0 W' B q pw g F.length fc p FA s' P'):=by
  unfold Hid; intro W W' s' P' hm hb; exact ⟨((Dsk.of hm.o hm.x hc hfl hm.k).below0 hb).obj,hm.p.below0 hb,hm.k.thenBelow hb,hm.x⟩
 have HSO:Hid (∀ W s' P' j v s'',Mid w0 W B q pw g F.length fc p FA s' P'→(dObj g s' p pw FA F.length fc).set j v=dObj g s'' p pw FA F.length fc→Mid w0 (W.setCell ⟨q,j,none⟩ v) B q pw g F.length fc p FA s'' P'∧KeptT DPT B W (W.setCell ⟨q,j,none⟩ v)):=by
  unfold Hid; intro W s' P' j v s'' hm he
  have h':=(Dsk.of hm.o hm.x hc hfl hm.k).store j v s'' he
  have hkd:KeptT DPT B W (W.setCell ⟨q,j,none⟩ v):=h'.2.sub (by unfold DPT; decide)
  exact ⟨⟨h'.1.obj,hm.p.keptT h'.2 (by decide),hm.k.trans hkd,hm.x⟩,hkd⟩
 have c0:=HCE.out w s P ⟨ho,hp,hk,hqx⟩
 have HW':=Lib.hid HW
 clear h ho hp hk hc hfl HW
 by_cases h1:stE s P≠0
 ·have HB:Hid (begD F s P key=⟨stE s P,s,P,noF⟩):=by unfold Hid begD; rw [if_pos h1]
  have e1:(stE s P !=0)=true:=by simpa using h1
  generalize hE:stE s P=E at *
  clear hE
  go_enter Tryz.func87,Tryz.ntmps87
  go_wp2_with fail
  refine HST.out.mono ?_
  rintro e w1 ⟨rfl,hb1⟩
  have HM:=Lib.hid (HSK.out w1 hb1)
  go_wp2
  go_ret
  rw [HB.out]
  unfold PerfPost
  rw [if_neg h1]
  exact ⟨rfl,HM.out.1,HM.out.2⟩
 have h1':stE s P=0:=by simpa using h1
 rw [h1'] at HST
 by_cases h2:(callP P).off=true
 ·have HB:Hid (begD F s P key=⟨13,s,callP P,noF⟩):=by unfold Hid begD; rw [if_neg h1,if_pos h2]
  rw [h2] at HPC
  clear h1 h1'
  skip
  go_enter Tryz.func87,Tryz.ntmps87
  go_wp2_with fail
  refine HST.out.mono ?_
  rintro e w1 ⟨rfl,hb1⟩
  obtain ⟨hm1,hk1⟩:=HSK.out w1 hb1
  obtain ⟨_,_,d12,_⟩:=HCE.out w1 s P hm1
  clear c0 hm1
  go_wp2_with fail
  refine (HPC.out _ hb1).mono ?_
  rintro e w2 ⟨rfl,hm2,hk2⟩
  clear d12
  have HM:=Lib.hid hm2
  clear hm2
  go_wp2
  go_ret
  rw [HB.out]
  unfold PerfPost
  rw [if_neg (show ¬ ((13:Int)=0) by decide)]
  exact ⟨rfl,HM.out,hk2⟩
 have h2':(callP P).off=false:=by simpa using h2
 rw [h2'] at HPC
 by_cases h3:key≠s.key
 ·have HB:Hid (begD F s P key=⟨17,s,callP P,noF⟩):=by unfold Hid begD; rw [if_neg h1,if_neg h2,if_pos h3]
  have e3:(key !=s.key)=true:=by simpa using h3
  clear h1 h1' h3
  skip
  go_enter Tryz.func87,Tryz.ntmps87
  go_wp2_with fail
  refine HST.out.mono ?_
  rintro e w1 ⟨rfl,hb1⟩
  obtain ⟨hm1,hk1⟩:=HSK.out w1 hb1
  obtain ⟨_,_,d12,_⟩:=HCE.out w1 s P hm1
  clear c0 hm1
  go_wp2_with fail
  refine (HPC.out _ hb1).mono ?_
  rintro e w2 ⟨rfl,hm2,hk2⟩
  clear d12
  obtain ⟨_,_,_,d14,_⟩:=HCE.out w2 _ _ hm2
  have HM:=Lib.hid hm2
  clear hm2
  go_wp2
  go_ret
  rw [HB.out]
  unfold PerfPost
  rw [if_neg (show ¬ ((17:Int)=0) by decide)]
  exact ⟨rfl,HM.out,hk2⟩
 have h3':key=s.key:=by simpa using h3
 subst h3'
 have hBB:begD F s P s.key=if (atF F s.ops).kind=7 then ⟨14,{ s with ops:=wrap64 (s.ops+1),dead:=true },callP P,noF⟩ else if (atF F s.ops).kind=6 then ⟨16,{ s with ops:=wrap64 (s.ops+1) },callP P,noF⟩ else ⟨0,{ s with ops:=wrap64 (s.ops+1) },callP P,atF F s.ops⟩:=by unfold begD; rw [if_neg h1,if_neg h2,if_neg h3]
 have HBB:=Lib.hid hBB
 clear h1 h1' h2 h3 hBB
 generalize hG:atF F s.ops=f at *
 have HAT2:Hid (∀ W,Mid w0 W B q pw g F.length fc p FA s (callP P)→Calls Tryz.prog 119 #[.slice FA F.length fc,.int .i64 s.ops] W (fun e w'=>∃ b:Bool,e= .returned (.tuple #[.agg #[.int .i64 f.at_,.int .i64 f.kind,.int .i64 f.to_],.bool b])∧Below W.heap.size W w')):=by unfold Hid; intro W hm; have:=HAT.out W s _ hm; rw [hG] at this; exact this
 clear hG
 skip
 go_enter Tryz.func87,Tryz.ntmps87
 go_wp2_with fail
 refine HST.out.mono ?_
 rintro e w1 ⟨rfl,hb1⟩
 obtain ⟨hm1,hk1⟩:=HSK.out w1 hb1
 obtain ⟨_,_,d12,_⟩:=HCE.out w1 s P hm1
 clear c0 hm1
 go_wp2_with fail
 refine (HPC.out _ hb1).mono ?_
 rintro e w2 ⟨rfl,hm2,hk2⟩
 clear d12
 obtain ⟨d4,d11,_,d14,d15,f4,f15⟩:=HCE.out w2 _ _ hm2
 have HM2:=Lib.hid hm2
 have hq2:=block_lt_of_cell d4
 simp only at hq2
 have hne2:¬ (w2.heap.size=q):=by omega
 have hA0:Below w2.heap.size w2 w2.drew:=(Below.refl _ _).drew
 have hB0:Below w2.heap.size w2 (w2.drew.alloc (.cells #[.int .i64 0,.int .i64 0,.int .i64 0] 49)):=((Below.refl w2.heap.size w2).drew).alloc (Nat.le_refl _) _
 have HMA:=Lib.hid (HBM.out w2 _ _ _ hm2 hA0)
 have HMB:=Lib.hid (HBM.out w2 _ _ _ hm2 hB0)
 have HRW:Hid ((w2.drew.alloc (.cells #[.int .i64 0,.int .i64 0,.int .i64 0] 49)).ownsRow w2.heap.size 49 3 (.slice (some ⟨w2.heap.size,0,none⟩) 1 1) 1 [.int .i64 0,.int .i64 0,.int .i64 0]):=World.ownsRow_lit (base:=w2.heap.size) (e:=49) (size:=3) w2.drew #[.int .i64 0,.int .i64 0,.int .i64 0] 1 (Nat.le_refl _) (by decide) rfl
 clear hm2
 go_upto_region 8 with fail
 go_cut [8,9] (fun s8 s9 wx=>∃ T:Nat,s8= .pointer (some ⟨T,0,none⟩)∧Below w2.heap.size w2 wx∧Cells3 wx T (.int .i64 f.at_) (.int .i64 f.kind) (.int .i64 f.to_)∧w2.heap.size≤T)
 case first=>
  have d4B:=(hB0.cell (p:=⟨q,4,none⟩) hq2).trans d4
  have d11B:=(hB0.cell (p:=⟨q,11,none⟩) hq2).trans d11
  go_region_held3 (fun W=>W.cell? ⟨q,11,none⟩=some (.slice FA F.length fc)∧W.cell? ⟨q,4,none⟩=some (.int .i64 s.ops))
   (first | (refine ⟨?_,?_⟩ <;> assumption) | (simp (maxDischargeDepth:=20) [World.cell?_alloc_some,World.cell?_setCell_far, *]; done))
   ((go_at_call 119
     first
     | (refine (HAT2.out _ HMA.out).mono ?_
        rintro e w3 ⟨b9,rfl,hb3⟩
        have hw3:Below w2.heap.size w2 w3:=hA0.trans hb3
        have g4:=(hw3.cell (p:=⟨q,4,none⟩) hq2).trans d4
        have g11:=(hw3.cell (p:=⟨q,11,none⟩) hq2).trans d11
        have hrw:=World.ownsRow_lit (base:=w3.heap.size) (e:=49) (size:=3) w3 #[.int .i64 0,.int .i64 0,.int .i64 0] 1 (Nat.le_refl _) (by decide) rfl
        have z0:(w3.alloc (.cells #[.int .i64 0,.int .i64 0,.int .i64 0] 49)).cell? ⟨w3.heap.size,0,none⟩=some (.int .i64 0):=(World.ownsRow.cellAt hrw 0 (by decide)).trans rfl
        have z1:(w3.alloc (.cells #[.int .i64 0,.int .i64 0,.int .i64 0] 49)).cell? ⟨w3.heap.size,1,none⟩=some (.int .i64 0):=(World.ownsRow.cellAt hrw 1 (by decide)).trans rfl
        have z2:(w3.alloc (.cells #[.int .i64 0,.int .i64 0,.int .i64 0] 49)).cell? ⟨w3.heap.size,2,none⟩=some (.int .i64 0):=(World.ownsRow.cellAt hrw 2 (by decide)).trans rfl
        have y0:=hrw.frozenAt 0
        have y1:=hrw.frozenAt 1
        have y2:=hrw.frozenAt 2
        have HRW3:=Lib.hid hrw
        have hne3:¬ (w3.heap.size=q):=by have:=hw3.size; omega
        have HW3:=Lib.hid hw3
        clear hrw)
     | (refine (HAT2.out _ HMB.out).mono ?_
        rintro e w3 ⟨b9,rfl,hb3⟩
        have hw3:Below w2.heap.size w2 w3:=hB0.trans (hb3.mono (by simp))
        have g4:=(hw3.cell (p:=⟨q,4,none⟩) hq2).trans d4
        have g11:=(hw3.cell (p:=⟨q,11,none⟩) hq2).trans d11
        have hrw:=own_kept HRW.out (belKept0 (S:=fun _=>False) hb3) (fun _ _ h=>h)
        have z0:w3.cell? ⟨w2.heap.size,0,none⟩=some (.int .i64 0):=(World.ownsRow.cellAt hrw 0 (by decide)).trans rfl
        have z1:w3.cell? ⟨w2.heap.size,1,none⟩=some (.int .i64 0):=(World.ownsRow.cellAt hrw 1 (by decide)).trans rfl
        have z2:w3.cell? ⟨w2.heap.size,2,none⟩=some (.int .i64 0):=(World.ownsRow.cellAt hrw 2 (by decide)).trans rfl
        have y0:=hrw.frozenAt 0
        have y1:=hrw.frozenAt 1
        have y2:=hrw.frozenAt 2
        have HRW3:=Lib.hid hrw
        have HW3:=Lib.hid hw3
        clear hrw)))
  all_goals go_wp2_with fail
  all_goals go_meet
  ·exact ⟨_,rfl,HW3.out.alloc HW3.out.size _,Cells3.new_at _ _ _ _ _ _ rfl,HW3.out.size⟩
  ·exact ⟨_,rfl,((HW3.out.setCell (p:=⟨w2.heap.size,0,none⟩) (Nat.le_refl _) _).setCell (p:=⟨w2.heap.size,1,none⟩) (Nat.le_refl _) _).setCell (p:=⟨w2.heap.size,2,none⟩) (Nat.le_refl _) _,row3_set HRW3.out _ _ _,Nat.le_refl _⟩
 case rest=>
  obtain ⟨T,rfl,hbc,hC,hT⟩:=hcut
  have hmc:=HBM.out w2 _ _ _ HM2.out hbc
  obtain ⟨x4,_,_,_,_,y4,_⟩:=HCE.out wc _ _ hmc
  obtain ⟨hm3,hk3⟩:=HSO.out wc s _ 4 (.int .i64 (wrap64 (s.ops+1))) { s with ops:=wrap64 (s.ops+1) } hmc rfl
  have hTq:¬ (T=q):=by omega
  have hkx:Kept (fun k=>k=q) wc (wc.setCell ⟨q,4,none⟩ (.int .i64 (wrap64 (s.ops+1)))):=(Kept.refl (fun k=>k=q) wc).setCell (p:=⟨q,4,none⟩) (fun _=>rfl) _
  have k0:=hkx.cell hC.c0 hTq
  have k1:=hkx.cell hC.c1 hTq
  have k2:=hkx.cell hC.c2 hTq
  have hk13:=(hk2.thenBelow hbc).trans hk3
  obtain ⟨_,_,_,_,z15,_,y15⟩:=HCE.out _ _ _ hm3
  have HM3:=Lib.hid hm3
  clear hm3 hmc hk3 hkx d4 d11 d14 d15 f4 f15
  by_cases h7:f.kind=7
  ·have HB:Hid (begD F s P s.key=⟨14,{ s with ops:=wrap64 (s.ops+1),dead:=true },callP P,noF⟩):=by unfold Hid; rw [HBB.out,if_pos h7]
   have n7:(f.kind==7)=true:=by simpa using h7
   clear h7
   have hm4:=(HSO.out _ _ _ 15 (.bool true) { s with ops:=wrap64 (s.ops+1),dead:=true } HM3.out rfl)
   have HM4:=Lib.hid hm4.1
   have hk14:=hk13.trans hm4.2
   clear hm4
   go_wp2
   go_ret
   rw [HB.out]
   unfold PerfPost
   rw [if_neg (show ¬ ((14:Int)=0) by decide)]
   exact ⟨rfl,HM4.out,hk14⟩
  have n7:(f.kind==7)=false:=by simpa using h7
  by_cases h6:f.kind=6
  ·have HB:Hid (begD F s P s.key=⟨16,{ s with ops:=wrap64 (s.ops+1) },callP P,noF⟩):=by unfold Hid; rw [HBB.out,if_neg h7,if_pos h6]
   have n6:(f.kind==6)=true:=by simpa using h6
   clear h7 h6
   go_wp2
   go_ret
   rw [HB.out]
   unfold PerfPost
   rw [if_neg (show ¬ ((16:Int)=0) by decide)]
   exact ⟨rfl,HM3.out,hk13⟩
  have n6:(f.kind==6)=false:=by simpa using h6
  have HB:Hid (begD F s P s.key=⟨0,{ s with ops:=wrap64 (s.ops+1) },callP P,f⟩):=by unfold Hid; rw [HBB.out,if_neg h7,if_neg h6]
  clear h7 h6
  have HCL:=HW'.out _ (by rw [HB.out]; exact HM3.out) hk13 (by rw [HB.out])
  rw [HB.out] at HCL
  have HCL2:=Lib.hid HCL
  clear HCL
  unfold Flt.val at HCL2
  go_wp2_with fail
  refine HCL2.out.mono ?_
  rintro e w5 ⟨er,rfl,hQ⟩
  have HQ:=Lib.hid hQ
  clear hQ
  go_wp2
  go_ret
  rw [HB.out]
  unfold PerfPost
  rw [if_pos rfl]
  exact ⟨er,rfl,HQ.out⟩
set_option maxRecDepth 100000 in
set_option maxHeartbeats 4000000 in
theorem eraseperf_any {w0:World} (key:Int) (bd ba:Nat) (Q:Int→World→Prop) (ho:w.ownsRow B.n 109 16 (.slice (some ⟨q,0,none⟩) 1 1) 1 (dObj g s p pw FA F.length fc)) (hqx:¬ B.X q) (hp:PowM w B pw P) (hk:KeptT DPT B w0 w) (hc:CacheM w0 B p g LM O) (hfl:RdT w0 49 FA (flatF F)) (hn:F.length≤9223372036854775807) (hB:B.top≤w.heap.size)
  (HW:∀ W,Mid w0 W B q pw g F.length fc p FA (begD F s P key).s (begD F s P key).P→KeptT DPT B w W→(begD F s P key).er=0→Calls Tryz.prog 97 #[(begD F s P key).f.val,.pointer (some ⟨bd,0,none⟩),.pointer (some ⟨ba,0,none⟩)] W fun e w'=>∃ er,e= .returned (.int .i64 er)∧Q er w'):
  Calls Tryz.prog 87 #[.pointer (some ⟨q,0,none⟩),.int .u64 key,.func (.func 97) #[] #[.pointer (some ⟨bd,0,none⟩),.pointer (some ⟨ba,0,none⟩)]] w (PerfPost w0 w B q pw g F.length fc p FA (begD F s P key) Q):=by
 have h:=Dsk.of ho hqx hc hfl hk
 have HST:=Lib.hid (dstate_any h hp)
 have HSK:Hid (∀ W,Below w.heap.size w W→Mid w0 W B q pw g F.length fc p FA s P∧KeptT DPT B w W):=by
  unfold Hid; intro W hW; exact ⟨⟨(h.below0 hW).obj,hp.below0 hW,hk.thenBelow hW,hqx⟩,KeptT.bel hW⟩
 have HPC:Hid (∀ W,Below w.heap.size w W→Calls Tryz.prog 118 #[.pointer (some ⟨pw,0,none⟩)] W fun e w'=>e= .returned (.bool (!(callP P).off))∧Mid w0 w' B q pw g F.length fc p FA s (callP P)∧KeptT DPT B w w'):=by
  unfold Hid; intro W hW
  refine (pcall_any (hp.below0 hW)).mono ?_
  rintro e w' ⟨rfl,hp',hk'⟩
  have hkd:KeptT DPT B W w':=hk'.sub (by unfold DPT; decide)
  exact ⟨rfl,⟨own_kept (h.below0 hW).obj hk' (fun k e=>by simp [Value.ownBlock] at e; subst e; exact KeptT.no (IsT.own (h.below0 hW).obj) (by decide)),hp',(hk.thenBelow hW).trans hkd,hqx⟩,(KeptT.bel hW).trans hkd⟩
 have HCE:Hid (∀ W s' P',Mid w0 W B q pw g F.length fc p FA s' P'→W.cell? ⟨q,4,none⟩=some (.int .i64 s'.ops)∧W.cell? ⟨q,11,none⟩=some (.slice FA F.length fc)∧W.cell? ⟨q,12,none⟩=some (.pointer (some ⟨pw,0,none⟩))∧W.cell? ⟨q,14,none⟩=some (.int .u64 s'.key)∧W.cell? ⟨q,15,none⟩=some (.bool s'.dead)∧W.frozen? ⟨q,4,none⟩=false∧W.frozen? ⟨q,15,none⟩=false):=by
  unfold Hid; intro W s' P' hm
  have h':=Dsk.of hm.o hm.x hc hfl hm.k
  exact ⟨(h'.cell 4 (by decide)).trans rfl,(h'.cell 11 (by decide)).trans rfl,(h'.cell 12 (by decide)).trans rfl,(h'.cell 14 (by decide)).trans rfl,(h'.cell 15 (by decide)).trans rfl,h'.free 4,h'.free 15⟩
 have HAT:Hid (∀ W s' P',Mid w0 W B q pw g F.length fc p FA s' P'→Calls Tryz.prog 119 #[.slice FA F.length fc,.int .i64 s'.ops] W (AtPost W (atF F s'.ops))):=by
  unfold Hid; intro W s' P' hm; exact fat_any F s'.ops FA fc W (Dsk.of hm.o hm.x hc hfl hm.k).fl.rd hn
 have HBM:Hid (∀ W W' s' P',Mid w0 W B q pw g F.length fc p FA s' P'→Below W.heap.size W W'→Mid w0 W' B q pw g F.length fc p FA s' P'):=by
  unfold Hid; intro W W' s' P' hm hb; exact ⟨((Dsk.of hm.o hm.x hc hfl hm.k).below0 hb).obj,hm.p.below0 hb,hm.k.thenBelow hb,hm.x⟩
 have HSO:Hid (∀ W s' P' j v s'',Mid w0 W B q pw g F.length fc p FA s' P'→(dObj g s' p pw FA F.length fc).set j v=dObj g s'' p pw FA F.length fc→Mid w0 (W.setCell ⟨q,j,none⟩ v) B q pw g F.length fc p FA s'' P'∧KeptT DPT B W (W.setCell ⟨q,j,none⟩ v)):=by
  unfold Hid; intro W s' P' j v s'' hm he
  have h':=(Dsk.of hm.o hm.x hc hfl hm.k).store j v s'' he
  have hkd:KeptT DPT B W (W.setCell ⟨q,j,none⟩ v):=h'.2.sub (by unfold DPT; decide)
  exact ⟨⟨h'.1.obj,hm.p.keptT h'.2 (by decide),hm.k.trans hkd,hm.x⟩,hkd⟩
 have c0:=HCE.out w s P ⟨ho,hp,hk,hqx⟩
 have HW':=Lib.hid HW
 clear h ho hp hk hc hfl HW
 by_cases h1:stE s P≠0
 ·have HB:Hid (begD F s P key=⟨stE s P,s,P,noF⟩):=by unfold Hid begD; rw [if_pos h1]
  have e1:(stE s P !=0)=true:=by simpa using h1
  generalize hE:stE s P=E at *
  clear hE
  go_enter Tryz.func87,Tryz.ntmps87
  go_wp2_with fail
  refine HST.out.mono ?_
  rintro e w1 ⟨rfl,hb1⟩
  have HM:=Lib.hid (HSK.out w1 hb1)
  go_wp2
  go_ret
  rw [HB.out]
  unfold PerfPost
  rw [if_neg h1]
  exact ⟨rfl,HM.out.1,HM.out.2⟩
 have h1':stE s P=0:=by simpa using h1
 rw [h1'] at HST
 by_cases h2:(callP P).off=true
 ·have HB:Hid (begD F s P key=⟨13,s,callP P,noF⟩):=by unfold Hid begD; rw [if_neg h1,if_pos h2]
  rw [h2] at HPC
  clear h1 h1'
  skip
  go_enter Tryz.func87,Tryz.ntmps87
  go_wp2_with fail
  refine HST.out.mono ?_
  rintro e w1 ⟨rfl,hb1⟩
  obtain ⟨hm1,hk1⟩:=HSK.out w1 hb1
  obtain ⟨_,_,d12,_⟩:=HCE.out w1 s P hm1
  clear c0 hm1
  go_wp2_with fail
  refine (HPC.out _ hb1).mono ?_
  rintro e w2 ⟨rfl,hm2,hk2⟩
  clear d12
  have HM:=Lib.hid hm2
  clear hm2
  go_wp2
  go_ret
  rw [HB.out]
  unfold PerfPost
  rw [if_neg (show ¬ ((13:Int)=0) by decide)]
  exact ⟨rfl,HM.out,hk2⟩
 have h2':(callP P).off=false:=by simpa using h2
 rw [h2'] at HPC
 by_cases h3:key≠s.key
 ·have HB:Hid (begD F s P key=⟨17,s,callP P,noF⟩):=by unfold Hid begD; rw [if_neg h1,if_neg h2,if_pos h3]
  have e3:(key !=s.key)=true:=by simpa using h3
  clear h1 h1' h3
  skip
  go_enter Tryz.func87,Tryz.ntmps87
  go_wp2_with fail
  refine HST.out.mono ?_
  rintro e w1 ⟨rfl,hb1⟩
  obtain ⟨hm1,hk1⟩:=HSK.out w1 hb1
  obtain ⟨_,_,d12,_⟩:=HCE.out w1 s P hm1
  clear c0 hm1
  go_wp2_with fail
  refine (HPC.out _ hb1).mono ?_
  rintro e w2 ⟨rfl,hm2,hk2⟩
  clear d12
  obtain ⟨_,_,_,d14,_⟩:=HCE.out w2 _ _ hm2
  have HM:=Lib.hid hm2
  clear hm2
  go_wp2
  go_ret
  rw [HB.out]
  unfold PerfPost
  rw [if_neg (show ¬ ((17:Int)=0) by decide)]
  exact ⟨rfl,HM.out,hk2⟩
 have h3':key=s.key:=by simpa using h3
 subst h3'
 have hBB:begD F s P s.key=if (atF F s.ops).kind=7 then ⟨14,{ s with ops:=wrap64 (s.ops+1),dead:=true },callP P,noF⟩ else if (atF F s.ops).kind=6 then ⟨16,{ s with ops:=wrap64 (s.ops+1) },callP P,noF⟩ else ⟨0,{ s with ops:=wrap64 (s.ops+1) },callP P,atF F s.ops⟩:=by unfold begD; rw [if_neg h1,if_neg h2,if_neg h3]
 have HBB:=Lib.hid hBB
 clear h1 h1' h2 h3 hBB
 generalize hG:atF F s.ops=f at *
 have HAT2:Hid (∀ W,Mid w0 W B q pw g F.length fc p FA s (callP P)→Calls Tryz.prog 119 #[.slice FA F.length fc,.int .i64 s.ops] W (fun e w'=>∃ b:Bool,e= .returned (.tuple #[.agg #[.int .i64 f.at_,.int .i64 f.kind,.int .i64 f.to_],.bool b])∧Below W.heap.size W w')):=by unfold Hid; intro W hm; have:=HAT.out W s _ hm; rw [hG] at this; exact this
 clear hG
 skip
 go_enter Tryz.func87,Tryz.ntmps87
 go_wp2_with fail
 refine HST.out.mono ?_
 rintro e w1 ⟨rfl,hb1⟩
 obtain ⟨hm1,hk1⟩:=HSK.out w1 hb1
 obtain ⟨_,_,d12,_⟩:=HCE.out w1 s P hm1
 clear c0 hm1
 go_wp2_with fail
 refine (HPC.out _ hb1).mono ?_
 rintro e w2 ⟨rfl,hm2,hk2⟩
 clear d12
 obtain ⟨d4,d11,_,d14,d15,f4,f15⟩:=HCE.out w2 _ _ hm2
 have HM2:=Lib.hid hm2
 have hq2:=block_lt_of_cell d4
 simp only at hq2
 have hne2:¬ (w2.heap.size=q):=by omega
 have hA0:Below w2.heap.size w2 w2.drew:=(Below.refl _ _).drew
 have hB0:Below w2.heap.size w2 (w2.drew.alloc (.cells #[.int .i64 0,.int .i64 0,.int .i64 0] 49)):=((Below.refl w2.heap.size w2).drew).alloc (Nat.le_refl _) _
 have HMA:=Lib.hid (HBM.out w2 _ _ _ hm2 hA0)
 have HMB:=Lib.hid (HBM.out w2 _ _ _ hm2 hB0)
 have HRW:Hid ((w2.drew.alloc (.cells #[.int .i64 0,.int .i64 0,.int .i64 0] 49)).ownsRow w2.heap.size 49 3 (.slice (some ⟨w2.heap.size,0,none⟩) 1 1) 1 [.int .i64 0,.int .i64 0,.int .i64 0]):=World.ownsRow_lit (base:=w2.heap.size) (e:=49) (size:=3) w2.drew #[.int .i64 0,.int .i64 0,.int .i64 0] 1 (Nat.le_refl _) (by decide) rfl
 clear hm2
 go_upto_region 8 with fail
 go_cut [8,9] (fun s8 s9 wx=>∃ T:Nat,s8= .pointer (some ⟨T,0,none⟩)∧Below w2.heap.size w2 wx∧Cells3 wx T (.int .i64 f.at_) (.int .i64 f.kind) (.int .i64 f.to_)∧w2.heap.size≤T)
 case first=>
  have d4B:=(hB0.cell (p:=⟨q,4,none⟩) hq2).trans d4
  have d11B:=(hB0.cell (p:=⟨q,11,none⟩) hq2).trans d11
  go_region_held3 (fun W=>W.cell? ⟨q,11,none⟩=some (.slice FA F.length fc)∧W.cell? ⟨q,4,none⟩=some (.int .i64 s.ops))
   (first | (refine ⟨?_,?_⟩ <;> assumption) | (simp (maxDischargeDepth:=20) [World.cell?_alloc_some,World.cell?_setCell_far, *]; done))
   ((go_at_call 119
     first
     | (refine (HAT2.out _ HMA.out).mono ?_
        rintro e w3 ⟨b9,rfl,hb3⟩
        have hw3:Below w2.heap.size w2 w3:=hA0.trans hb3
        have g4:=(hw3.cell (p:=⟨q,4,none⟩) hq2).trans d4
        have g11:=(hw3.cell (p:=⟨q,11,none⟩) hq2).trans d11
        have hrw:=World.ownsRow_lit (base:=w3.heap.size) (e:=49) (size:=3) w3 #[.int .i64 0,.int .i64 0,.int .i64 0] 1 (Nat.le_refl _) (by decide) rfl
        have z0:(w3.alloc (.cells #[.int .i64 0,.int .i64 0,.int .i64 0] 49)).cell? ⟨w3.heap.size,0,none⟩=some (.int .i64 0):=(World.ownsRow.cellAt hrw 0 (by decide)).trans rfl
        have z1:(w3.alloc (.cells #[.int .i64 0,.int .i64 0,.int .i64 0] 49)).cell? ⟨w3.heap.size,1,none⟩=some (.int .i64 0):=(World.ownsRow.cellAt hrw 1 (by decide)).trans rfl
        have z2:(w3.alloc (.cells #[.int .i64 0,.int .i64 0,.int .i64 0] 49)).cell? ⟨w3.heap.size,2,none⟩=some (.int .i64 0):=(World.ownsRow.cellAt hrw 2 (by decide)).trans rfl
        have y0:=hrw.frozenAt 0
        have y1:=hrw.frozenAt 1
        have y2:=hrw.frozenAt 2
        have HRW3:=Lib.hid hrw
        have hne3:¬ (w3.heap.size=q):=by have:=hw3.size; omega
        have HW3:=Lib.hid hw3
        clear hrw)
     | (refine (HAT2.out _ HMB.out).mono ?_
        rintro e w3 ⟨b9,rfl,hb3⟩
        have hw3:Below w2.heap.size w2 w3:=hB0.trans (hb3.mono (by simp))
        have g4:=(hw3.cell (p:=⟨q,4,none⟩) hq2).trans d4
        have g11:=(hw3.cell (p:=⟨q,11,none⟩) hq2).trans d11
        have hrw:=own_kept HRW.out (belKept0 (S:=fun _=>False) hb3) (fun _ _ h=>h)
        have z0:w3.cell? ⟨w2.heap.size,0,none⟩=some (.int .i64 0):=(World.ownsRow.cellAt hrw 0 (by decide)).trans rfl
        have z1:w3.cell? ⟨w2.heap.size,1,none⟩=some (.int .i64 0):=(World.ownsRow.cellAt hrw 1 (by decide)).trans rfl
        have z2:w3.cell? ⟨w2.heap.size,2,none⟩=some (.int .i64 0):=(World.ownsRow.cellAt hrw 2 (by decide)).trans rfl
        have y0:=hrw.frozenAt 0
        have y1:=hrw.frozenAt 1
        have y2:=hrw.frozenAt 2
        have HRW3:=Lib.hid hrw
        have HW3:=Lib.hid hw3
        clear hrw)))
  all_goals go_wp2_with fail
  all_goals go_meet
  ·exact ⟨_,rfl,HW3.out.alloc HW3.out.size _,Cells3.new_at _ _ _ _ _ _ rfl,HW3.out.size⟩
  ·exact ⟨_,rfl,((HW3.out.setCell (p:=⟨w2.heap.size,0,none⟩) (Nat.le_refl _) _).setCell (p:=⟨w2.heap.size,1,none⟩) (Nat.le_refl _) _).setCell (p:=⟨w2.heap.size,2,none⟩) (Nat.le_refl _) _,row3_set HRW3.out _ _ _,Nat.le_refl _⟩
 case rest=>
  obtain ⟨T,rfl,hbc,hC,hT⟩:=hcut
  have hmc:=HBM.out w2 _ _ _ HM2.out hbc
  obtain ⟨x4,_,_,_,_,y4,_⟩:=HCE.out wc _ _ hmc
  obtain ⟨hm3,hk3⟩:=HSO.out wc s _ 4 (.int .i64 (wrap64 (s.ops+1))) { s with ops:=wrap64 (s.ops+1) } hmc rfl
  have hTq:¬ (T=q):=by omega
  have hkx:Kept (fun k=>k=q) wc (wc.setCell ⟨q,4,none⟩ (.int .i64 (wrap64 (s.ops+1)))):=(Kept.refl (fun k=>k=q) wc).setCell (p:=⟨q,4,none⟩) (fun _=>rfl) _
  have k0:=hkx.cell hC.c0 hTq
  have k1:=hkx.cell hC.c1 hTq
  have k2:=hkx.cell hC.c2 hTq
  have hk13:=(hk2.thenBelow hbc).trans hk3
  obtain ⟨_,_,_,_,z15,_,y15⟩:=HCE.out _ _ _ hm3
  have HM3:=Lib.hid hm3
  clear hm3 hmc hk3 hkx d4 d11 d14 d15 f4 f15
  by_cases h7:f.kind=7
  ·have HB:Hid (begD F s P s.key=⟨14,{ s with ops:=wrap64 (s.ops+1),dead:=true },callP P,noF⟩):=by unfold Hid; rw [HBB.out,if_pos h7]
   have n7:(f.kind==7)=true:=by simpa using h7
   clear h7
   have hm4:=(HSO.out _ _ _ 15 (.bool true) { s with ops:=wrap64 (s.ops+1),dead:=true } HM3.out rfl)
   have HM4:=Lib.hid hm4.1
   have hk14:=hk13.trans hm4.2
   clear hm4
   go_wp2
   go_ret
   rw [HB.out]
   unfold PerfPost
   rw [if_neg (show ¬ ((14:Int)=0) by decide)]
   exact ⟨rfl,HM4.out,hk14⟩
  have n7:(f.kind==7)=false:=by simpa using h7
  by_cases h6:f.kind=6
  ·have HB:Hid (begD F s P s.key=⟨16,{ s with ops:=wrap64 (s.ops+1) },callP P,noF⟩):=by unfold Hid; rw [HBB.out,if_neg h7,if_pos h6]
   have n6:(f.kind==6)=true:=by simpa using h6
   clear h7 h6
   go_wp2
   go_ret
   rw [HB.out]
   unfold PerfPost
   rw [if_neg (show ¬ ((16:Int)=0) by decide)]
   exact ⟨rfl,HM3.out,hk13⟩
  have n6:(f.kind==6)=false:=by simpa using h6
  have HB:Hid (begD F s P s.key=⟨0,{ s with ops:=wrap64 (s.ops+1) },callP P,f⟩):=by unfold Hid; rw [HBB.out,if_neg h7,if_neg h6]
  clear h7 h6
  have HCL:=HW'.out _ (by rw [HB.out]; exact HM3.out) hk13 (by rw [HB.out])
  rw [HB.out] at HCL
  have HCL2:=Lib.hid HCL
  clear HCL
  unfold Flt.val at HCL2
  go_wp2_with fail
  refine HCL2.out.mono ?_
  rintro e w5 ⟨er,rfl,hQ⟩
  have HQ:=Lib.hid hQ
  clear hQ
  go_wp2
  go_ret
  rw [HB.out]
  unfold PerfPost
  rw [if_pos rfl]
  exact ⟨er,rfl,HQ.out⟩
end
end Go.Proofs.YtggkengmlkhdiaaGreat
namespace Go.Proofs.YtggkengmlkhdiaaGreat
set_option linter.unusedVariables false
open Go.RowKit
section
variable {w w':World} {B:Bd} {q pw:Nat} {g:Geo} {F:List Flt} {s:DS} {P:Pow} {LM:List Sec} {O:List OpV}
def dFlS (F:List Flt) (s:DS) (P:Pow) (key:Int):DS:=if (begD F s P key).er=0 then { (begD F s P key).s with f:=wrap64 ((begD F s P key).s.f+1) } else (begD F s P key).s
def dFlLM (g:Geo) (F:List Flt) (s:DS) (P:Pow) (LM:List Sec) (O:List OpV) (key:Int):List Sec:=if (begD F s P key).er=0 then playL g LM (O.take O.length) else LM
def dFlO (F:List Flt) (s:DS) (P:Pow) (O:List OpV) (key:Int):List OpV:=if (begD F s P key).er=0 then [] else O
def DFlushPost (w:World) (B:Bd) (q pw:Nat) (g:Geo) (F:List Flt) (s:DS) (P:Pow) (LM:List Sec) (O:List OpV) (key:Int) (e:Ending) (w':World):Prop:=
 e= .returned (.int .i64 (begD F s P key).er)∧DPm w' B q pw g F (dFlS F s P key) (begD F s P key).P (dFlLM g F s P LM O key) (dFlO F s P O key)∧KeptT DAT B w w'
set_option maxRecDepth 100000 in
set_option maxHeartbeats 2000000 in
theorem dflush_any (key:Int) (h:DPm w B q pw g F s P LM O) (hn:F.length≤9223372036854775807) (hon:O.length≤99000):
  Calls Tryz.prog 49 #[.pointer (some ⟨q,0,none⟩),.int .u64 key] w (DFlushPost w B q pw g F s P LM O key):=by
 obtain ⟨⟨p,FA,fc,hd⟩,hp,hf,hs,hB⟩:=h
 have hb0:Below w.heap.size w (w.alloc (.cells #[.pointer (some ⟨q,0,none⟩)] 54)):=(Below.refl _ _).alloc (Nat.le_refl _) _
 have o0:=heap_alloc_new w (.cells #[.pointer (some ⟨q,0,none⟩)] 54)
 have hd3:=hd.below0 hb0
 have hp3:=hp.below0 hb0
 have HPF:=flushperf_any (LM:=LM) (O:=O) (FA:=FA) (fc:=fc) key w.heap.size
  (fun er w'=>er=0∧Dsk w' B q pw g F { (begD F s P key).s with f:=wrap64 ((begD F s P key).s.f+1) } (playL g LM (O.take O.length)) [] p FA fc∧PowM w' B pw (begD F s P key).P∧KeptT DAT B w w')
  hd3.obj hd3.px hp3 (KeptT.bel hb0) hd.c hd.fl hn (Nat.le_trans hB hb0.size) (fun W hm hk he=>by
   refine (flushcl_any (begD F s P key).f w.heap.size _ (Dsk.of hm.o hm.x hd.c hd.fl hm.k) hf (Nat.le_trans hB hm.k.size) hon (Kept.obj hk o0 (KeptT.no (IsT.of o0) (by unfold DPT; decide)))).mono ?_
   rintro e w' ⟨rfl,hdd,hkw⟩
   exact ⟨_,rfl,rfl,hdd,hm.p.keptT hkw (by unfold DT; decide),(hm.k.sub dpt_dat).trans (hkw.sub dt_dat)⟩)
 have HMD:Hid (∀ W s' P',Mid w W B q pw g F.length fc p FA s' P'→DPm W B q pw g F s' P' LM O∧KeptT DAT B w W):=by
  unfold Hid; intro W s' P' hm
  exact ⟨⟨⟨p,FA,fc,Dsk.of hm.o hm.x hd.c hd.fl hm.k⟩,hm.p,hf,hs,Nat.le_trans hB hm.k.size⟩,hm.k.sub dpt_dat⟩
 have HF2:=Lib.hid hf
 have HS2:=Lib.hid hs
 have HP:=Lib.hid HPF
 clear HPF hd hp hf hs hd3 hp3 o0
 by_cases he:(begD F s P key).er=0
 ·have HDS:Hid (dFlS F s P key={ (begD F s P key).s with f:=wrap64 ((begD F s P key).s.f+1) }):=by unfold Hid dFlS; rw [if_pos he]
  have HDL:Hid (dFlLM g F s P LM O key=playL g LM (O.take O.length)):=by unfold Hid dFlLM; rw [if_pos he]
  have HDO:Hid (dFlO F s P O key=[]):=by unfold Hid dFlO; rw [if_pos he]
  have HE0:=Lib.hid he
  clear he
  go_enter Tryz.func49,Tryz.ntmps49
  go_wp2_with fail
  refine HP.out.mono ?_
  intro e w1 hpp
  unfold PerfPost at hpp
  rw [if_pos HE0.out] at hpp
  obtain ⟨er,rfl,rfl,hdd,hpw,hk'⟩:=hpp
  have HMM:=Lib.hid (show DPm w1 B q pw g F { (begD F s P key).s with f:=wrap64 ((begD F s P key).s.f+1) } (begD F s P key).P (playL g LM (O.take O.length)) [] from ⟨⟨p,FA,fc,hdd⟩,hpw,HF2.out.len (playL_len _ _ _),short_play _ HS2.out,Nat.le_trans hB hk'.size⟩)
  clear hdd hpw
  go_wp2
  go_ret
  unfold DFlushPost
  rw [HE0.out,HDS.out,HDL.out,HDO.out]
  exact ⟨rfl,HMM.out,hk'⟩
 ·have HDS:Hid (dFlS F s P key=(begD F s P key).s):=by unfold Hid dFlS; rw [if_neg he]
  have HDL:Hid (dFlLM g F s P LM O key=LM):=by unfold Hid dFlLM; rw [if_neg he]
  have HDO:Hid (dFlO F s P O key=O):=by unfold Hid dFlO; rw [if_neg he]
  have HE0:=Lib.hid he
  clear he
  go_enter Tryz.func49,Tryz.ntmps49
  go_wp2_with fail
  refine HP.out.mono ?_
  intro e w1 hpp
  unfold PerfPost at hpp
  rw [if_neg HE0.out] at hpp
  obtain ⟨rfl,hm,hkw⟩:=hpp
  have HMM:=Lib.hid (HMD.out w1 _ _ hm)
  clear hm hkw
  go_wp2
  go_ret
  unfold DFlushPost
  rw [HDS.out,HDL.out,HDO.out]
  exact ⟨rfl,HMM.out.1,HMM.out.2⟩
def dErE (g:Geo) (F:List Flt) (s:DS) (P:Pow) (LM:List Sec) (O:List OpV) (key a:Int):Int:=if (begD F s P key).er=0 then doE g (playL g LM O) ⟨true,a,[],none,0⟩ else (begD F s P key).er
def dErS (g:Geo) (F:List Flt) (s:DS) (P:Pow) (LM:List Sec) (O:List OpV) (key a:Int):DS:=if (begD F s P key).er=0 then erS g LM O a (begD F s P key).s else (begD F s P key).s
def dErO (g:Geo) (F:List Flt) (s:DS) (P:Pow) (LM:List Sec) (O:List OpV) (key a:Int):List OpV:=if (begD F s P key).er=0 then erO g LM O a else O
def DErasePost (w:World) (B:Bd) (q pw:Nat) (g:Geo) (F:List Flt) (s:DS) (P:Pow) (LM:List Sec) (O:List OpV) (key a:Int) (e:Ending) (w':World):Prop:=
 e= .returned (.int .i64 (dErE g F s P LM O key a))∧DPm w' B q pw g F (dErS g F s P LM O key a) (begD F s P key).P LM (dErO g F s P LM O key a)∧KeptT DAT B w w'
set_option maxRecDepth 100000 in
set_option maxHeartbeats 2000000 in
theorem derase_any (key a:Int) (ha:I64 a) (h:DPm w B q pw g F s P LM O) (hn:F.length≤9223372036854775807) (hon:O.length≤99000):
  Calls Tryz.prog 62 #[.pointer (some ⟨q,0,none⟩),.int .u64 key,.int .i64 a] w (DErasePost w B q pw g F s P LM O key a):=by
 obtain ⟨⟨p,FA,fc,hd⟩,hp,hf,hs,hB⟩:=h
 have hb0:Below w.heap.size w ((w.alloc (.cells #[.pointer (some ⟨q,0,none⟩)] 54)).alloc (.cells #[.int .i64 a] 3)):=((Below.refl _ _).alloc (Nat.le_refl _) _).alloc (by simp) _
 have o0:((w.alloc (.cells #[.pointer (some ⟨q,0,none⟩)] 54)).alloc (.cells #[.int .i64 a] 3)).heap[w.heap.size]?=some (.cells #[.pointer (some ⟨q,0,none⟩)] 54 (0,0)):=by
  rw [belObj (B:=w.heap.size+1) (w:=w.alloc (.cells #[.pointer (some ⟨q,0,none⟩)] 54)) ((Below.refl _ _).alloc (by simp) _) (heap_alloc_new w _) (by omega)]
 have o1:((w.alloc (.cells #[.pointer (some ⟨q,0,none⟩)] 54)).alloc (.cells #[.int .i64 a] 3)).heap[w.heap.size+1]?=some (.cells #[.int .i64 a] 3 (0,0)):=by
  have:=heap_alloc_new (w.alloc (.cells #[.pointer (some ⟨q,0,none⟩)] 54)) (.cells #[.int .i64 a] 3)
  rw [World.size_alloc] at this
  exact this
 have hd3:=hd.below0 hb0
 have hp3:=hp.below0 hb0
 have HPF:=eraseperf_any (LM:=LM) (O:=O) (FA:=FA) (fc:=fc) key w.heap.size (w.heap.size+1)
  (fun er w'=>er=doE g (playL g LM O) ⟨true,a,[],none,0⟩∧Dsk w' B q pw g F (erS g LM O a (begD F s P key).s) LM (erO g LM O a) p FA fc∧PowM w' B pw (begD F s P key).P∧KeptT DAT B w w')
  hd3.obj hd3.px hp3 (KeptT.bel hb0) hd.c hd.fl hn (Nat.le_trans hB hb0.size) (fun W hm hk he=>by
   refine (erasecl_any (begD F s P key).f a ha w.heap.size (w.heap.size+1) _ _ (Dsk.of hm.o hm.x hd.c hd.fl hm.k) hf (Nat.le_trans hB hm.k.size) hon (Kept.obj hk o0 (KeptT.no (IsT.of o0) (by unfold DPT; decide))) (Kept.obj hk o1 (KeptT.no (IsT.of o1) (by unfold DPT; decide)))).mono ?_
   rintro e w' ⟨rfl,hdd,hkw⟩
   exact ⟨_,rfl,rfl,hdd,hm.p.keptT hkw (by unfold DT; decide),(hm.k.sub dpt_dat).trans (hkw.sub dt_dat)⟩)
 have HMD:Hid (∀ W s' P',Mid w W B q pw g F.length fc p FA s' P'→DPm W B q pw g F s' P' LM O∧KeptT DAT B w W):=by
  unfold Hid; intro W s' P' hm
  exact ⟨⟨⟨p,FA,fc,Dsk.of hm.o hm.x hd.c hd.fl hm.k⟩,hm.p,hf,hs,Nat.le_trans hB hm.k.size⟩,hm.k.sub dpt_dat⟩
 have HF2:=Lib.hid hf
 have HS2:=Lib.hid hs
 have HP:=Lib.hid HPF
 clear HPF hd hp hf hs hd3 hp3 o0 o1
 by_cases he:(begD F s P key).er=0
 ·have HE:Hid (dErE g F s P LM O key a=doE g (playL g LM O) ⟨true,a,[],none,0⟩):=by unfold Hid dErE; rw [if_pos he]
  have HDS:Hid (dErS g F s P LM O key a=erS g LM O a (begD F s P key).s):=by unfold Hid dErS; rw [if_pos he]
  have HDO:Hid (dErO g F s P LM O key a=erO g LM O a):=by unfold Hid dErO; rw [if_pos he]
  have HE0:=Lib.hid he
  clear he
  go_enter Tryz.func62,Tryz.ntmps62
  go_wp2_with fail
  refine HP.out.mono ?_
  intro e w1 hpp
  unfold PerfPost at hpp
  rw [if_pos HE0.out] at hpp
  obtain ⟨er,rfl,rfl,hdd,hpw,hk'⟩:=hpp
  have HMM:=Lib.hid (show DPm w1 B q pw g F (erS g LM O a (begD F s P key).s) (begD F s P key).P LM (erO g LM O a) from ⟨⟨p,FA,fc,hdd⟩,hpw,HF2.out,HS2.out,Nat.le_trans hB hk'.size⟩)
  clear hdd hpw
  go_wp2
  go_ret
  unfold DErasePost
  rw [HE.out,HDS.out,HDO.out]
  exact ⟨rfl,HMM.out,hk'⟩
 ·have HE:Hid (dErE g F s P LM O key a=(begD F s P key).er):=by unfold Hid dErE; rw [if_neg he]
  have HDS:Hid (dErS g F s P LM O key a=(begD F s P key).s):=by unfold Hid dErS; rw [if_neg he]
  have HDO:Hid (dErO g F s P LM O key a=O):=by unfold Hid dErO; rw [if_neg he]
  have HE0:=Lib.hid he
  clear he
  go_enter Tryz.func62,Tryz.ntmps62
  go_wp2_with fail
  refine HP.out.mono ?_
  intro e w1 hpp
  unfold PerfPost at hpp
  rw [if_neg HE0.out] at hpp
  obtain ⟨rfl,hm,hkw⟩:=hpp
  have HMM:=Lib.hid (HMD.out w1 _ _ hm)
  clear hm hkw
  go_wp2
  go_ret
  unfold DErasePost
  rw [HE.out,HDS.out,HDO.out]
  exact ⟨rfl,HMM.out.1,HMM.out.2⟩
end
end Go.Proofs.YtggkengmlkhdiaaGreat
namespace Go.Proofs.YtggkengmlkhdiaaGreat
set_option linter.unusedVariables false
open Go.RowKit
structure ActV where
 disk:Int
 kind:Int
 key:Int
 at_:Int
 A:Option Addr
 xs:List Int
 c:Nat
 force:Bool
def ActV.cells (a:ActV):List Value:=[.int .u8 a.disk,.int .u8 a.kind,.int .u64 a.key,.int .i64 a.at_,.slice a.A a.xs.length a.c,.bool a.force]
def flatA (l:List ActV):List Value:=l.flatMap ActV.cells
def onlyA (l:List ActV):List ActV:=(l.filter fun a=>decide (a.kind≤3)).map fun a=>{ a with key:=0 }
end Go.Proofs.YtggkengmlkhdiaaGreat
