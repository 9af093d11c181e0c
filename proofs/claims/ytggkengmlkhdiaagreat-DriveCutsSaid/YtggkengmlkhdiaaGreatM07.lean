/-
  WHAT IS SHOWN: what perform of disk returns and leaves, and with it Read and Write. what perform of disk returns and leaves with the closure of Write. what Read and Write of disk return and leave. Conditions: as each theorem names them.
-/
import Derived.Test.YtggkengmlkhdiaaGreatM06
import Derived.Deep.RegionLaw
namespace Go.Proofs.YtggkengmlkhdiaaGreat
set_option linter.unusedVariables false
open Go.RowKit
theorem row3_set {w:World} {B T:Nat} {t:TypeId} {z0 z1 z2:Value} (h:w.ownsRow B t 3 (.slice (some ⟨T,0,none⟩) 1 1) 1 [z0,z1,z2]) (a b c:Value):Cells3 (((w.setCell ⟨T,0,none⟩ a).setCell ⟨T,1,none⟩ b).setCell ⟨T,2,none⟩ c) T a b c:=by
 have h1:=(World.ownsRow.stored h 0 a).1
 have h2:=(World.ownsRow.stored h1 1 b).1
 have h3:=(World.ownsRow.stored h2 2 c).1
 exact ⟨(World.ownsRow.cellAt h3 0 (by decide)).trans rfl,(World.ownsRow.cellAt h3 1 (by decide)).trans rfl,(World.ownsRow.cellAt h3 2 (by decide)).trans rfl⟩
structure Beg where
 er:Int
 s:DS
 P:Pow
 f:Flt
def begD (F:List Flt) (s:DS) (P:Pow) (key:Int):Beg:=
 if stE s P≠0 then ⟨stE s P,s,P,noF⟩
 else if (callP P).off=true then ⟨13,s,callP P,noF⟩
 else if key≠s.key then ⟨17,s,callP P,noF⟩
 else if (atF F s.ops).kind=7 then ⟨14,{ s with ops:=wrap64 (s.ops+1),dead:=true },callP P,noF⟩
 else if (atF F s.ops).kind=6 then ⟨16,{ s with ops:=wrap64 (s.ops+1) },callP P,noF⟩
 else ⟨0,{ s with ops:=wrap64 (s.ops+1) },callP P,atF F s.ops⟩
section
variable {w w':World} {B:Bd} {q pw p:Nat} {g:Geo} {F:List Flt} {s:DS} {P:Pow} {LM:List Sec} {O:List OpV} {FA:Option Addr} {fc:Nat}
structure Mid (w0 w:World) (B:Bd) (q pw:Nat) (g:Geo) (n fc p:Nat) (FA:Option Addr) (s:DS) (P:Pow):Prop where
 o:w.ownsRow B.n 109 16 (.slice (some ⟨q,0,none⟩) 1 1) 1 (dObj g s p pw FA n fc)
 p:PowM w B pw P
 k:KeptT DPT B w0 w
 x:¬ B.X q
def PerfPost (w0 w:World) (B:Bd) (q pw:Nat) (g:Geo) (n fc p:Nat) (FA:Option Addr) (b:Beg) (Q:Int→World→Prop) (e:Ending) (w':World):Prop:=
 if b.er=0 then ∃ er,e= .returned (.int .i64 er)∧Q er w' else e= .returned (.int .i64 b.er)∧Mid w0 w' B q pw g n fc p FA b.s b.P∧KeptT DPT B w w'
set_option maxRecDepth 100000 in
set_option maxHeartbeats 4000000 in
theorem readperf_any {w0:World} (key:Int) (bd ba ob:Nat) (Q:Int→World→Prop) (ho:w.ownsRow B.n 109 16 (.slice (some ⟨q,0,none⟩) 1 1) 1 (dObj g s p pw FA F.length fc)) (hqx:¬ B.X q) (hp:PowM w B pw P) (hk:KeptT DPT B w0 w) (hc:CacheM w0 B p g LM O) (hfl:RdT w0 49 FA (flatF F)) (hn:F.length≤9223372036854775807) (hB:B.top≤w.heap.size)
  (HW:∀ W,Mid w0 W B q pw g F.length fc p FA (begD F s P key).s (begD F s P key).P→KeptT DPT B w W→(begD F s P key).er=0→Calls Tryz.prog 121 #[(begD F s P key).f.val,.pointer (some ⟨bd,0,none⟩),.pointer (some ⟨ba,0,none⟩),.pointer (some ⟨ob,0,none⟩)] W fun e w'=>∃ er,e= .returned (.int .i64 er)∧Q er w'):
  Calls Tryz.prog 87 #[.pointer (some ⟨q,0,none⟩),.int .u64 key,.func (.func 121) #[] #[.pointer (some ⟨bd,0,none⟩),.pointer (some ⟨ba,0,none⟩),.pointer (some ⟨ob,0,none⟩)]] w (PerfPost w0 w B q pw g F.length fc p FA (begD F s P key) Q):=by
 have h:=Dsk.of ho hqx hc hfl hk
 have HST:=Lib.hid (dstate_any h hp)
 have HSK:Hid (∀ W,Below w.heap.size w W→Mid w0 W B q pw g F.length fc p FA s P∧KeptT DPT B w W):=by
  unfold Hid; intro W hW; exact ⟨⟨(h.below0 hW).obj,hp.below0 hW,hk.thenBelow hW,hqx⟩,KeptT.bel hW⟩
 have HPC:Hid (∀ W,Below w.heap.size w W→Calls Tryz.prog 118 #[.pointer (some ⟨pw,0,none⟩)] W fun e w'=>e= .returned (.bool (!(callP P).off))∧Mid w0 w' B q pw g F.length fc p FA s (callP P)∧KeptT DPT B w w'):=by
  unfold Hid; intro W hW
  refine (pcall_any (hp.below0 hW)).mono ?_
  rintro e w' ⟨rfl,hp',hk'⟩
  have hkd:KeptT DPT B W w':=hk'.sub (by unfold DPT; decide)
  exact ⟨rfl,⟨own_kept (h.below0 hW).obj hk' (fun k e=>by simp [Value.ownBlock] at e; subst e; exact KeptT.no (IsT.own (h.below0 hW).obj) (by decide)),hp',(hk.thenBelow hW).trans hkd,hqx⟩,(KeptT.bel hW).trans hkd⟩
 have HCE:Hid (∀ W s' P',Mid w0 W B q pw g F.length fc p FA s' P'→W.cell? ⟨q,4,none⟩=some (.int .i64 s'.ops)∧W.cell? ⟨q,11,none⟩=some (.slice FA F.length fc)∧W.cell? ⟨q,12,none⟩=some (.pointer (some ⟨pw,0,none⟩))∧W.cell? ⟨q,14,none⟩=some (.int .u64 s'.key)∧W.cell? ⟨q,15,none⟩=some (.bool s'.dead)∧W.frozen? ⟨q,4,none⟩=false∧W.frozen? ⟨q,15,none⟩=false):=by
  unfold Hid; intro W s' P' hm
  have h':=Dsk.of hm.o hm.x hc hfl hm.k
  exact ⟨(h'.cell 4 (by decide)).trans rfl,(h'.cell 11 (by decide)).trans rfl,(h'.cell 12 (by decide)).trans rfl,(h'.cell 14 (by decide)).trans rfl,(h'.cell 15 (by decide)).trans rfl,h'.free 4,h'.free 15⟩
 have HAT:Hid (∀ W s' P',Mid w0 W B q pw g F.length fc p FA s' P'→Calls Tryz.prog 119 #[.slice FA F.length fc,.int .i64 s'.ops] W (AtPost W (atF F s'.ops))):=by
  unfold Hid; intro W s' P' hm; exact fat_any F s'.ops FA fc W (Dsk.of hm.o hm.x hc hfl hm.k).fl.rd hn
 have HBM:Hid (∀ W W' s' P',Mid w0 W B q pw g F.length fc p FA s' P'→Below W.heap.size W W'→Mid w0 W' B q pw g F.length fc p FA s' P'):=by
  unfold Hid; intro W W' s' P' hm hb; exact ⟨((Dsk.of hm.o hm.x hc hfl hm.k).below0 hb).obj,hm.p.below0 hb,hm.k.thenBelow hb,hm.x⟩
 have HSO:Hid (∀ W s' P' j v s'',Mid w0 W B q pw g F.length fc p FA s' P'→(dObj g s' p pw FA F.length fc).set j v=dObj g s'' p pw FA F.length fc→Mid w0 (W.setCell ⟨q,j,none⟩ v) B q pw g F.length fc p FA s'' P'∧KeptT DPT B W (W.setCell ⟨q,j,none⟩ v)):=by
  unfold Hid; intro W s' P' j v s'' hm he
  have h':=(Dsk.of hm.o hm.x hc hfl hm.k).store j v s'' he
  have hkd:KeptT DPT B W (W.setCell ⟨q,j,none⟩ v):=h'.2.sub (by unfold DPT; decide)
  exact ⟨⟨h'.1.obj,hm.p.keptT h'.2 (by decide),hm.k.trans hkd,hm.x⟩,hkd⟩
 have c0:=HCE.out w s P ⟨ho,hp,hk,hqx⟩
 have HW':=Lib.hid HW
 clear h ho hp hk hc hfl HW
 by_cases h1:stE s P≠0
 ·have HB:Hid (begD F s P key=⟨stE s P,s,P,noF⟩):=by unfold Hid begD; rw [if_pos h1]
  have e1:(stE s P !=0)=true:=by simpa using h1
  generalize hE:stE s P=E at *
  clear hE
  go_enter Tryz.func87,Tryz.ntmps87
  go_wp2_with fail
  refine HST.out.mono ?_
  rintro e w1 ⟨rfl,hb1⟩
  have HM:=Lib.hid (HSK.out w1 hb1)
  go_wp2
  go_ret
  rw [HB.out]
  unfold PerfPost
  rw [if_neg h1]
  exact ⟨rfl,HM.out.1,HM.out.2⟩
 have h1':stE s P=0:=by simpa using h1
 rw [h1'] at HST
 by_cases h2:(callP P).off=true
 ·have HB:Hid (begD F s P key=⟨13,s,callP P,noF⟩):=by unfold Hid begD; rw [if_neg h1,if_pos h2]
  rw [h2] at HPC
  clear h1 h1'
  skip
  go_enter Tryz.func87,Tryz.ntmps87
  go_wp2_with fail
  refine HST.out.mono ?_
  rintro e w1 ⟨rfl,hb1⟩
  obtain ⟨hm1,hk1⟩:=HSK.out w1 hb1
  obtain ⟨_,_,d12,_⟩:=HCE.out w1 s P hm1
  clear c0 hm1
  go_wp2_with fail
  refine (HPC.out _ hb1).mono ?_
  rintro e w2 ⟨rfl,hm2,hk2⟩
  clear d12
  have HM:=Lib.hid hm2
  clear hm2
  go_wp2
  go_ret
  rw [HB.out]
  unfold PerfPost
  rw [if_neg (show ¬ ((13:Int)=0) by decide)]
  exact ⟨rfl,HM.out,hk2⟩
 have h2':(callP P).off=false:=by simpa using h2
 rw [h2'] at HPC
 by_cases h3:key≠s.key
 ·have HB:Hid (begD F s P key=⟨17,s,callP P,noF⟩):=by unfold Hid begD; rw [if_neg h1,if_neg h2,if_pos h3]
  have e3:(key !=s.key)=true:=by simpa using h3
  clear h1 h1' h3
  skip
  go_enter Tryz.func87,Tryz.ntmps87
  go_wp2_with fail
  refine HST.out.mono ?_
  rintro e w1 ⟨rfl,hb1⟩
  obtain ⟨hm1,hk1⟩:=HSK.out w1 hb1
  obtain ⟨_,_,d12,_⟩:=HCE.out w1 s P hm1
  clear c0 hm1
  go_wp2_with fail
  refine (HPC.out _ hb1).mono ?_
  rintro e w2 ⟨rfl,hm2,hk2⟩
  clear d12
  obtain ⟨_,_,_,d14,_⟩:=HCE.out w2 _ _ hm2
  have HM:=Lib.hid hm2
  clear hm2
  go_wp2
  go_ret
  rw [HB.out]
  unfold PerfPost
  rw [if_neg (show ¬ ((17:Int)=0) by decide)]
  exact ⟨rfl,HM.out,hk2⟩
 have h3':key=s.key:=by simpa using h3
 subst h3'
 have hBB:begD F s P s.key=if (atF F s.ops).kind=7 then ⟨14,{ s with ops:=wrap64 (s.ops+1),dead:=true },callP P,noF⟩ else if (atF F s.ops).kind=6 then ⟨16,{ s with ops:=wrap64 (s.ops+1) },callP P,noF⟩ else ⟨0,{ s with ops:=wrap64 (s.ops+1) },callP P,atF F s.ops⟩:=by unfold begD; rw [if_neg h1,if_neg h2,if_neg h3]
 have HBB:=Lib.hid hBB
 clear h1 h1' h2 h3 hBB
 generalize hG:atF F s.ops=f at *
 have HAT2:Hid (∀ W,Mid w0 W B q pw g F.length fc p FA s (callP P)→Calls Tryz.prog 119 #[.slice FA F.length fc,.int .i64 s.ops] W (fun e w'=>∃ b:Bool,e= .returned (.tuple #[.agg #[.int .i64 f.at_,.int .i64 f.kind,.int .i64 f.to_],.bool b])∧Below W.heap.size W w')):=by unfold Hid; intro W hm; have:=HAT.out W s _ hm; rw [hG] at this; exact this
 clear hG
 skip
 go_enter Tryz.func87,Tryz.ntmps87
 go_wp2_with fail
 refine HST.out.mono ?_
 rintro e w1 ⟨rfl,hb1⟩
 obtain ⟨hm1,hk1⟩:=HSK.out w1 hb1
 obtain ⟨_,_,d12,_⟩:=HCE.out w1 s P hm1
 clear c0 hm1
 go_wp2_with fail
 refine (HPC.out _ hb1).mono ?_
 rintro e w2 ⟨rfl,hm2,hk2⟩
 clear d12
 obtain ⟨d4,d11,_,d14,d15,f4,f15⟩:=HCE.out w2 _ _ hm2
 have HM2:=Lib.hid hm2
 have hq2:=block_lt_of_cell d4
 simp only at hq2
 have hne2:¬ (w2.heap.size=q):=by omega
 have hA0:Below w2.heap.size w2 w2.drew:=(Below.refl _ _).drew
 have hB0:Below w2.heap.size w2 (w2.drew.alloc (.cells #[.int .i64 0,.int .i64 0,.int .i64 0] 49)):=((Below.refl w2.heap.size w2).drew).alloc (Nat.le_refl _) _
 have HMA:=Lib.hid (HBM.out w2 _ _ _ hm2 hA0)
 have HMB:=Lib.hid (HBM.out w2 _ _ _ hm2 hB0)
 have HRW:Hid ((w2.drew.alloc (.cells #[.int .i64 0,.int .i64 0,.int .i64 0] 49)).ownsRow w2.heap.size 49 3 (.slice (some ⟨w2.heap.size,0,none⟩) 1 1) 1 [.int .i64 0,.int .i64 0,.int .i64 0]):=World.ownsRow_lit (base:=w2.heap.size) (e:=49) (size:=3) w2.drew #[.int .i64 0,.int .i64 0,.int .i64 0] 1 (Nat.le_refl _) (by decide) rfl
 clear hm2
 go_upto_region 8 with fail
 go_cut [8,9] (fun s8 s9 wx=>∃ T:Nat,s8= .pointer (some ⟨T,0,none⟩)∧Below w2.heap.size w2 wx∧Cells3 wx T (.int .i64 f.at_) (.int .i64 f.kind) (.int .i64 f.to_)∧w2.heap.size≤T)
 case first=>
  have d4B:=(hB0.cell (p:=⟨q,4,none⟩) hq2).trans d4
  have d11B:=(hB0.cell (p:=⟨q,11,none⟩) hq2).trans d11
  go_region_held3 (fun W=>W.cell? ⟨q,11,none⟩=some (.slice FA F.length fc)∧W.cell? ⟨q,4,none⟩=some (.int .i64 s.ops))
   (first | (refine ⟨?_,?_⟩ <;> assumption) | (simp (maxDischargeDepth:=20) [World.cell?_alloc_some,World.cell?_setCell_far, *]; done))
   ((go_at_call 119
     first
     | (refine (HAT2.out _ HMA.out).mono ?_
        rintro e w3 ⟨b9,rfl,hb3⟩
        have hw3:Below w2.heap.size w2 w3:=hA0.trans hb3
        have g4:=(hw3.cell (p:=⟨q,4,none⟩) hq2).trans d4
        have g11:=(hw3.cell (p:=⟨q,11,none⟩) hq2).trans d11
        have hrw:=World.ownsRow_lit (base:=w3.heap.size) (e:=49) (size:=3) w3 #[.int .i64 0,.int .i64 0,.int .i64 0] 1 (Nat.le_refl _) (by decide) rfl
        have z0:(w3.alloc (.cells #[.int .i64 0,.int .i64 0,.int .i64 0] 49)).cell? ⟨w3.heap.size,0,none⟩=some (.int .i64 0):=(World.ownsRow.cellAt hrw 0 (by decide)).trans rfl
        have z1:(w3.alloc (.cells #[.int .i64 0,.int .i64 0,.int .i64 0] 49)).cell? ⟨w3.heap.size,1,none⟩=some (.int .i64 0):=(World.ownsRow.cellAt hrw 1 (by decide)).trans rfl
        have z2:(w3.alloc (.cells #[.int .i64 0,.int .i64 0,.int .i64 0] 49)).cell? ⟨w3.heap.size,2,none⟩=some (.int .i64 0):=(World.ownsRow.cellAt hrw 2 (by decide)).trans rfl
        have y0:=hrw.frozenAt 0
        have y1:=hrw.frozenAt 1
        have y2:=hrw.frozenAt 2
        have HRW3:=Lib.hid hrw
        have hne3:¬ (w3.heap.size=q):=by have:=hw3.size; omega
        have HW3:=Lib.hid hw3
        clear hrw)
     | (refine (HAT2.out _ HMB.out).mono ?_
        rintro e w3 ⟨b9,rfl,hb3⟩
        have hw3:Below w2.heap.size w2 w3:=hB0.trans (hb3.mono (by simp))
        have g4:=(hw3.cell (p:=⟨q,4,none⟩) hq2).trans d4
        have g11:=(hw3.cell (p:=⟨q,11,none⟩) hq2).trans d11
        have hrw:=own_kept HRW.out (belKept0 (S:=fun _=>False) hb3) (fun _ _ h=>h)
        have z0:w3.cell? ⟨w2.heap.size,0,none⟩=some (.int .i64 0):=(World.ownsRow.cellAt hrw 0 (by decide)).trans rfl
        have z1:w3.cell? ⟨w2.heap.size,1,none⟩=some (.int .i64 0):=(World.ownsRow.cellAt hrw 1 (by decide)).trans rfl
        have z2:w3.cell? ⟨w2.heap.size,2,none⟩=some (.int .i64 0):=(World.ownsRow.cellAt hrw 2 (by decide)).trans rfl
        have y0:=hrw.frozenAt 0
        have y1:=hrw.frozenAt 1
        have y2:=hrw.frozenAt 2
        have HRW3:=Lib.hid hrw
        have HW3:=Lib.hid hw3
        clear hrw)))
  all_goals go_wp2_with fail
  all_goals go_meet
  ·exact ⟨_,rfl,HW3.out.alloc HW3.out.size _,Cells3.new_at _ _ _ _ _ _ rfl,HW3.out.size⟩
  ·exact ⟨_,rfl,((HW3.out.setCell (p:=⟨w2.heap.size,0,none⟩) (Nat.le_refl _) _).setCell (p:=⟨w2.heap.size,1,none⟩) (Nat.le_refl _) _).setCell (p:=⟨w2.heap.size,2,none⟩) (Nat.le_refl _) _,row3_set HRW3.out _ _ _,Nat.le_refl _⟩
 case rest=>
  obtain ⟨T,rfl,hbc,hC,hT⟩:=hcut
  have hmc:=HBM.out w2 _ _ _ HM2.out hbc
  obtain ⟨x4,_,_,_,_,y4,_⟩:=HCE.out wc _ _ hmc
  obtain ⟨hm3,hk3⟩:=HSO.out wc s _ 4 (.int .i64 (wrap64 (s.ops+1))) { s with ops:=wrap64 (s.ops+1) } hmc rfl
  have hTq:¬ (T=q):=by omega
  have hkx:Kept (fun k=>k=q) wc (wc.setCell ⟨q,4,none⟩ (.int .i64 (wrap64 (s.ops+1)))):=(Kept.refl (fun k=>k=q) wc).setCell (p:=⟨q,4,none⟩) (fun _=>rfl) _
  have k0:=hkx.cell hC.c0 hTq
  have k1:=hkx.cell hC.c1 hTq
  have k2:=hkx.cell hC.c2 hTq
  have hk13:=(hk2.thenBelow hbc).trans hk3
  obtain ⟨_,_,_,_,z15,_,y15⟩:=HCE.out _ _ _ hm3
  have HM3:=Lib.hid hm3
  clear hm3 hmc hk3 hkx d4 d11 d14 d15 f4 f15
  by_cases h7:f.kind=7
  ·have HB:Hid (begD F s P s.key=⟨14,{ s with ops:=wrap64 (s.ops+1),dead:=true },callP P,noF⟩):=by unfold Hid; rw [HBB.out,if_pos h7]
   have n7:(f.kind==7)=true:=by simpa using h7
   clear h7
   have hm4:=(HSO.out _ _ _ 15 (.bool true) { s with ops:=wrap64 (s.ops+1),dead:=true } HM3.out rfl)
   have HM4:=Lib.hid hm4.1
   have hk14:=hk13.trans hm4.2
   clear hm4
   go_wp2
   go_ret
   rw [HB.out]
   unfold PerfPost
   rw [if_neg (show ¬ ((14:Int)=0) by decide)]
   exact ⟨rfl,HM4.out,hk14⟩
  have n7:(f.kind==7)=false:=by simpa using h7
  by_cases h6:f.kind=6
  ·have HB:Hid (begD F s P s.key=⟨16,{ s with ops:=wrap64 (s.ops+1) },callP P,noF⟩):=by unfold Hid; rw [HBB.out,if_neg h7,if_pos h6]
   have n6:(f.kind==6)=true:=by simpa using h6
   clear h7 h6
   go_wp2
   go_ret
   rw [HB.out]
   unfold PerfPost
   rw [if_neg (show ¬ ((16:Int)=0) by decide)]
   exact ⟨rfl,HM3.out,hk13⟩
  have n6:(f.kind==6)=false:=by simpa using h6
  have HB:Hid (begD F s P s.key=⟨0,{ s with ops:=wrap64 (s.ops+1) },callP P,f⟩):=by unfold Hid; rw [HBB.out,if_neg h7,if_neg h6]
  clear h7 h6
  have HCL:=HW'.out _ (by rw [HB.out]; exact HM3.out) hk13 (by rw [HB.out])
  rw [HB.out] at HCL
  have HCL2:=Lib.hid HCL
  clear HCL
  unfold Flt.val at HCL2
  go_wp2_with fail
  refine HCL2.out.mono ?_
  rintro e w5 ⟨er,rfl,hQ⟩
  have HQ:=Lib.hid hQ
  clear hQ
  go_wp2
  go_ret
  rw [HB.out]
  unfold PerfPost
  rw [if_pos rfl]
  exact ⟨er,rfl,HQ.out⟩
end
end Go.Proofs.YtggkengmlkhdiaaGreat
namespace Go.Proofs.YtggkengmlkhdiaaGreat
set_option linter.unusedVariables false
open Go.RowKit
section
variable {w w':World} {B:Bd} {q pw p:Nat} {g:Geo} {F:List Flt} {s:DS} {P:Pow} {LM:List Sec} {O:List OpV} {FA:Option Addr} {fc:Nat}
set_option maxRecDepth 100000 in
set_option maxHeartbeats 4000000 in
theorem writeperf_any {w0:World} (key:Int) (bd ba bb bf:Nat) (Q:Int→World→Prop) (ho:w.ownsRow B.n 109 16 (.slice (some ⟨q,0,none⟩) 1 1) 1 (dObj g s p pw FA F.length fc)) (hqx:¬ B.X q) (hp:PowM w B pw P) (hk:KeptT DPT B w0 w) (hc:CacheM w0 B p g LM O) (hfl:RdT w0 49 FA (flatF F)) (hn:F.length≤9223372036854775807) (hB:B.top≤w.heap.size)
  (HW:∀ W,Mid w0 W B q pw g F.length fc p FA (begD F s P key).s (begD F s P key).P→KeptT DPT B w W→(begD F s P key).er=0→Calls Tryz.prog 148 #[(begD F s P key).f.val,.pointer (some ⟨bd,0,none⟩),.pointer (some ⟨ba,0,none⟩),.pointer (some ⟨bb,0,none⟩),.pointer (some ⟨bf,0,none⟩)] W fun e w'=>∃ er,e= .returned (.int .i64 er)∧Q er w'):
  Calls Tryz.prog 87 #[.pointer (some ⟨q,0,none⟩),.int .u64 key,.func (.func 148) #[] #[.pointer (some ⟨bd,0,none⟩),.pointer (some ⟨ba,0,none⟩),.pointer (some ⟨bb,0,none⟩),.pointer (some ⟨bf,0,none⟩)]] w (PerfPost w0 w B q pw g F.length fc p FA (begD F s P key) Q):=by
 have h:=Dsk.of ho hqx hc hfl hk
 have HST:=Lib.hid (dstate_any h hp)
 have HSK:Hid (∀ W,Below w.heap.size w W→Mid w0 W B q pw g F.length fc p FA s P∧KeptT DPT B w W):=by
  unfold Hid; intro W hW; exact ⟨⟨(h.below0 hW).obj,hp.below0 hW,hk.thenBelow hW,hqx⟩,KeptT.bel hW⟩
 have HPC:Hid (∀ W,Below w.heap.size w W→Calls Tryz.prog 118 #[.pointer (some ⟨pw,0,none⟩)] W fun e w'=>e= .returned (.bool (!(callP P).off))∧Mid w0 w' B q pw g F.length fc p FA s (callP P)∧KeptT DPT B w w'):=by
  unfold Hid; intro W hW
  refine (pcall_any (hp.below0 hW)).mono ?_
  rintro e w' ⟨rfl,hp',hk'⟩
  have hkd:KeptT DPT B W w':=hk'.sub (by unfold DPT; decide)
  exact ⟨rfl,⟨own_kept (h.below0 hW).obj hk' (fun k e=>by simp [Value.ownBlock] at e; subst e; exact KeptT.no (IsT.own (h.below0 hW).obj) (by decide)),hp',(hk.thenBelow hW).trans hkd,hqx⟩,(KeptT.bel hW).trans hkd⟩
 have HCE:Hid (∀ W s' P',Mid w0 W B q pw g F.length fc p FA s' P'→W.cell? ⟨q,4,none⟩=some (.int .i64 s'.ops)∧W.cell? ⟨q,11,none⟩=some (.slice FA F.length fc)∧W.cell? ⟨q,12,none⟩=some (.pointer (some ⟨pw,0,none⟩))∧W.cell? ⟨q,14,none⟩=some (.int .u64 s'.key)∧W.cell? ⟨q,15,none⟩=some (.bool s'.dead)∧W.frozen? ⟨q,4,none⟩=false∧W.frozen? ⟨q,15,none⟩=false):=by
  unfold Hid; intro W s' P' hm
  have h':=Dsk.of hm.o hm.x hc hfl hm.k
  exact ⟨(h'.cell 4 (by decide)).trans rfl,(h'.cell 11 (by decide)).trans rfl,(h'.cell 12 (by decide)).trans rfl,(h'.cell 14 (by decide)).trans rfl,(h'.cell 15 (by decide)).trans rfl,h'.free 4,h'.free 15⟩
 have HAT:Hid (∀ W s' P',Mid w0 W B q pw g F.length fc p FA s' P'→Calls Tryz.prog 119 #[.slice FA F.length fc,.int .i64 s'.ops] W (AtPost W (atF F s'.ops))):=by
  unfold Hid; intro W s' P' hm; exact fat_any F s'.ops FA fc W (Dsk.of hm.o hm.x hc hfl hm.k).fl.rd hn
 have HBM:Hid (∀ W W' s' P',Mid w0 W B q pw g F.length fc p FA s' P'→Below W.heap.size W W'→Mid w0 W' B q pw g F.length fc p FA s' P'):=by
  unfold Hid; intro W W' s' P' hm hb; exact ⟨((Dsk.of hm.o hm.x hc hfl hm.k).below0 hb).obj,hm.p.below0 hb,hm.k.thenBelow hb,hm.x⟩
 have HSO:Hid (∀ W s' P' j v s'',Mid w0 W B q pw g F.length fc p FA s' P'→(dObj g s' p pw FA F.length fc).set j v=dObj g s'' p pw FA F.length fc→Mid w0 (W.setCell ⟨q,j,none⟩ v) B q pw g F.length fc p FA s'' P'∧KeptT DPT B W (W.setCell ⟨q,j,none⟩ v)):=by
  unfold Hid; intro W s' P' j v s'' hm he
  have h':=(Dsk.of hm.o hm.x hc hfl hm.k).store j v s'' he
  have hkd:KeptT DPT B W (W.setCell ⟨q,j,none⟩ v):=h'.2.sub (by unfold DPT; decide)
  exact ⟨⟨h'.1.obj,hm.p.keptT h'.2 (by decide),hm.k.trans hkd,hm.x⟩,hkd⟩
 have c0:=HCE.out w s P ⟨ho,hp,hk,hqx⟩
 have HW':=Lib.hid HW
 clear h ho hp hk hc hfl HW
 by_cases h1:stE s P≠0
 ·have HB:Hid (begD F s P key=⟨stE s P,s,P,noF⟩):=by unfold Hid begD; rw [if_pos h1]
  have e1:(stE s P !=0)=true:=by simpa using h1
  generalize hE:stE s P=E at *
  clear hE
  go_enter Tryz.func87,Tryz.ntmps87
  go_wp2_with fail
  refine HST.out.mono ?_
  rintro e w1 ⟨rfl,hb1⟩
  have HM:=Lib.hid (HSK.out w1 hb1)
  go_wp2
  go_ret
  rw [HB.out]
  unfold PerfPost
  rw [if_neg h1]
  exact ⟨rfl,HM.out.1,HM.out.2⟩
 have h1':stE s P=0:=by simpa using h1
 rw [h1'] at HST
 by_cases h2:(callP P).off=true
 ·have HB:Hid (begD F s P key=⟨13,s,callP P,noF⟩):=by unfold Hid begD; rw [if_neg h1,if_pos h2]
  rw [h2] at HPC
  clear h1 h1'
  skip
  go_enter Tryz.func87,Tryz.ntmps87
  go_wp2_with fail
  refine HST.out.mono ?_
  rintro e w1 ⟨rfl,hb1⟩
  obtain ⟨hm1,hk1⟩:=HSK.out w1 hb1
  obtain ⟨_,_,d12,_⟩:=HCE.out w1 s P hm1
  clear c0 hm1
  go_wp2_with fail
  refine (HPC.out _ hb1).mono ?_
  rintro e w2 ⟨rfl,hm2,hk2⟩
  clear d12
  have HM:=Lib.hid hm2
  clear hm2
  go_wp2
  go_ret
  rw [HB.out]
  unfold PerfPost
  rw [if_neg (show ¬ ((13:Int)=0) by decide)]
  exact ⟨rfl,HM.out,hk2⟩
 have h2':(callP P).off=false:=by simpa using h2
 rw [h2'] at HPC
 by_cases h3:key≠s.key
 ·have HB:Hid (begD F s P key=⟨17,s,callP P,noF⟩):=by unfold Hid begD; rw [if_neg h1,if_neg h2,if_pos h3]
  have e3:(key !=s.key)=true:=by simpa using h3
  clear h1 h1' h3
  skip
  go_enter Tryz.func87,Tryz.ntmps87
  go_wp2_with fail
  refine HST.out.mono ?_
  rintro e w1 ⟨rfl,hb1⟩
  obtain ⟨hm1,hk1⟩:=HSK.out w1 hb1
  obtain ⟨_,_,d12,_⟩:=HCE.out w1 s P hm1
  clear c0 hm1
  go_wp2_with fail
  refine (HPC.out _ hb1).mono ?_
  rintro e w2 ⟨rfl,hm2,hk2⟩
  clear d12
  obtain ⟨_,_,_,d14,_⟩:=HCE.out w2 _ _ hm2
  have HM:=Lib.hid hm2
  clear hm2
  go_wp2
  go_ret
  rw [HB.out]
  unfold PerfPost
  rw [if_neg (show ¬ ((17:Int)=0) by decide)]
  exact ⟨rfl,HM.out,hk2⟩
 have h3':key=s.key:=by simpa using h3
 subst h3'
 have hBB:begD F s P s.key=if (atF F s.ops).kind=7 then ⟨14,{ s with ops:=wrap64 (s.ops+1),dead:=true },callP P,noF⟩ else if (atF F s.ops).kind=6 then ⟨16,{ s with ops:=wrap64 (s.ops+1) },callP P,noF⟩ else ⟨0,{ s with ops:=wrap64 (s.ops+1) },callP P,atF F s.ops⟩:=by unfold begD; rw [if_neg h1,if_neg h2,if_neg h3]
 have HBB:=Lib.hid hBB
 clear h1 h1' h2 h3 hBB
 generalize hG:atF F s.ops=f at *
 have HAT2:Hid (∀ W,Mid w0 W B q pw g F.length fc p FA s (callP P)→Calls Tryz.prog 119 #[.slice FA F.length fc,.int .i64 s.ops] W (fun e w'=>∃ b:Bool,e= .returned (.tuple #[.agg #[.int .i64 f.at_,.int .i64 f.kind,.int .i64 f.to_],.bool b])∧Below W.heap.size W w')):=by unfold Hid; intro W hm; have:=HAT.out W s _ hm; rw [hG] at this; exact this
 clear hG
 skip
 go_enter Tryz.func87,Tryz.ntmps87
 go_wp2_with fail
 refine HST.out.mono ?_
 rintro e w1 ⟨rfl,hb1⟩
 obtain ⟨hm1,hk1⟩:=HSK.out w1 hb1
 obtain ⟨_,_,d12,_⟩:=HCE.out w1 s P hm1
 clear c0 hm1
 go_wp2_with fail
 refine (HPC.out _ hb1).mono ?_
 rintro e w2 ⟨rfl,hm2,hk2⟩
 clear d12
 obtain ⟨d4,d11,_,d14,d15,f4,f15⟩:=HCE.out w2 _ _ hm2
 have HM2:=Lib.hid hm2
 have hq2:=block_lt_of_cell d4
 simp only at hq2
 have hne2:¬ (w2.heap.size=q):=by omega
 have hA0:Below w2.heap.size w2 w2.drew:=(Below.refl _ _).drew
 have hB0:Below w2.heap.size w2 (w2.drew.alloc (.cells #[.int .i64 0,.int .i64 0,.int .i64 0] 49)):=((Below.refl w2.heap.size w2).drew).alloc (Nat.le_refl _) _
 have HMA:=Lib.hid (HBM.out w2 _ _ _ hm2 hA0)
 have HMB:=Lib.hid (HBM.out w2 _ _ _ hm2 hB0)
 have HRW:Hid ((w2.drew.alloc (.cells #[.int .i64 0,.int .i64 0,.int .i64 0] 49)).ownsRow w2.heap.size 49 3 (.slice (some ⟨w2.heap.size,0,none⟩) 1 1) 1 [.int .i64 0,.int .i64 0,.int .i64 0]):=World.ownsRow_lit (base:=w2.heap.size) (e:=49) (size:=3) w2.drew #[.int .i64 0,.int .i64 0,.int .i64 0] 1 (Nat.le_refl _) (by decide) rfl
 clear hm2
 go_upto_region 8 with fail
 go_cut [8,9] (fun s8 s9 wx=>∃ T:Nat,s8= .pointer (some ⟨T,0,none⟩)∧Below w2.heap.size w2 wx∧Cells3 wx T (.int .i64 f.at_) (.int .i64 f.kind) (.int .i64 f.to_)∧w2.heap.size≤T)
 case first=>
  have d4B:=(hB0.cell (p:=⟨q,4,none⟩) hq2).trans d4
  have d11B:=(hB0.cell (p:=⟨q,11,none⟩) hq2).trans d11
  go_region_held3 (fun W=>W.cell? ⟨q,11,none⟩=some (.slice FA F.length fc)∧W.cell? ⟨q,4,none⟩=some (.int .i64 s.ops))
   (first | (refine ⟨?_,?_⟩ <;> assumption) | (simp (maxDischargeDepth:=20) [World.cell?_alloc_some,World.cell?_setCell_far, *]; done))
   ((go_at_call 119
     first
     | (refine (HAT2.out _ HMA.out).mono ?_
        rintro e w3 ⟨b9,rfl,hb3⟩
        have hw3:Below w2.heap.size w2 w3:=hA0.trans hb3
        have g4:=(hw3.cell (p:=⟨q,4,none⟩) hq2).trans d4
        have g11:=(hw3.cell (p:=⟨q,11,none⟩) hq2).trans d11
        have hrw:=World.ownsRow_lit (base:=w3.heap.size) (e:=49) (size:=3) w3 #[.int .i64 0,.int .i64 0,.int .i64 0] 1 (Nat.le_refl _) (by decide) rfl
        have z0:(w3.alloc (.cells #[.int .i64 0,.int .i64 0,.int .i64 0] 49)).cell? ⟨w3.heap.size,0,none⟩=some (.int .i64 0):=(World.ownsRow.cellAt hrw 0 (by decide)).trans rfl
        have z1:(w3.alloc (.cells #[.int .i64 0,.int .i64 0,.int .i64 0] 49)).cell? ⟨w3.heap.size,1,none⟩=some (.int .i64 0):=(World.ownsRow.cellAt hrw 1 (by decide)).trans rfl
        have z2:(w3.alloc (.cells #[.int .i64 0,.int .i64 0,.int .i64 0] 49)).cell? ⟨w3.heap.size,2,none⟩=some (.int .i64 0):=(World.ownsRow.cellAt hrw 2 (by decide)).trans rfl
        have y0:=hrw.frozenAt 0
        have y1:=hrw.frozenAt 1
        have y2:=hrw.frozenAt 2
        have HRW3:=Lib.hid hrw
        have hne3:¬ (w3.heap.size=q):=by have:=hw3.size; omega
        have HW3:=Lib.hid hw3
        clear hrw)
     | (refine (HAT2.out _ HMB.out).mono ?_
        rintro e w3 ⟨b9,rfl,hb3⟩
        have hw3:Below w2.heap.size w2 w3:=hB0.trans (hb3.mono (by simp))
        have g4:=(hw3.cell (p:=⟨q,4,none⟩) hq2).trans d4
        have g11:=(hw3.cell (p:=⟨q,11,none⟩) hq2).trans d11
        have hrw:=own_kept HRW.out (belKept0 (S:=fun _=>False) hb3) (fun _ _ h=>h)
        have z0:w3.cell? ⟨w2.heap.size,0,none⟩=some (.int .i64 0):=(World.ownsRow.cellAt hrw 0 (by decide)).trans rfl
        have z1:w3.cell? ⟨w2.heap.size,1,none⟩=some (.int .i64 0):=(World.ownsRow.cellAt hrw 1 (by decide)).trans rfl
        have z2:w3.cell? ⟨w2.heap.size,2,none⟩=some (.int .i64 0):=(World.ownsRow.cellAt hrw 2 (by decide)).trans rfl
        have y0:=hrw.frozenAt 0
        have y1:=hrw.frozenAt 1
        have y2:=hrw.frozenAt 2
        have HRW3:=Lib.hid hrw
        have HW3:=Lib.hid hw3
        clear hrw)))
  all_goals go_wp2_with fail
  all_goals go_meet
  ·exact ⟨_,rfl,HW3.out.alloc HW3.out.size _,Cells3.new_at _ _ _ _ _ _ rfl,HW3.out.size⟩
  ·exact ⟨_,rfl,((HW3.out.setCell (p:=⟨w2.heap.size,0,none⟩) (Nat.le_refl _) _).setCell (p:=⟨w2.heap.size,1,none⟩) (Nat.le_refl _) _).setCell (p:=⟨w2.heap.size,2,none⟩) (Nat.le_refl _) _,row3_set HRW3.out _ _ _,Nat.le_refl _⟩
 case rest=>
  obtain ⟨T,rfl,hbc,hC,hT⟩:=hcut
  have hmc:=HBM.out w2 _ _ _ HM2.out hbc
  obtain ⟨x4,_,_,_,_,y4,_⟩:=HCE.out wc _ _ hmc
  obtain ⟨hm3,hk3⟩:=HSO.out wc s _ 4 (.int .i64 (wrap64 (s.ops+1))) { s with ops:=wrap64 (s.ops+1) } hmc rfl
  have hTq:¬ (T=q):=by omega
  have hkx:Kept (fun k=>k=q) wc (wc.setCell ⟨q,4,none⟩ (.int .i64 (wrap64 (s.ops+1)))):=(Kept.refl (fun k=>k=q) wc).setCell (p:=⟨q,4,none⟩) (fun _=>rfl) _
  have k0:=hkx.cell hC.c0 hTq
  have k1:=hkx.cell hC.c1 hTq
  have k2:=hkx.cell hC.c2 hTq
  have hk13:=(hk2.thenBelow hbc).trans hk3
  obtain ⟨_,_,_,_,z15,_,y15⟩:=HCE.out _ _ _ hm3
  have HM3:=Lib.hid hm3
  clear hm3 hmc hk3 hkx d4 d11 d14 d15 f4 f15
  by_cases h7:f.kind=7
  ·have HB:Hid (begD F s P s.key=⟨14,{ s with ops:=wrap64 (s.ops+1),dead:=true },callP P,noF⟩):=by unfold Hid; rw [HBB.out,if_pos h7]
   have n7:(f.kind==7)=true:=by simpa using h7
   clear h7
   have hm4:=(HSO.out _ _ _ 15 (.bool true) { s with ops:=wrap64 (s.ops+1),dead:=true } HM3.out rfl)
   have HM4:=Lib.hid hm4.1
   have hk14:=hk13.trans hm4.2
   clear hm4
   go_wp2
   go_ret
   rw [HB.out]
   unfold PerfPost
   rw [if_neg (show ¬ ((14:Int)=0) by decide)]
   exact ⟨rfl,HM4.out,hk14⟩
  have n7:(f.kind==7)=false:=by simpa using h7
  by_cases h6:f.kind=6
  ·have HB:Hid (begD F s P s.key=⟨16,{ s with ops:=wrap64 (s.ops+1) },callP P,noF⟩):=by unfold Hid; rw [HBB.out,if_neg h7,if_pos h6]
   have n6:(f.kind==6)=true:=by simpa using h6
   clear h7 h6
   go_wp2
   go_ret
   rw [HB.out]
   unfold PerfPost
   rw [if_neg (show ¬ ((16:Int)=0) by decide)]
   exact ⟨rfl,HM3.out,hk13⟩
  have n6:(f.kind==6)=false:=by simpa using h6
  have HB:Hid (begD F s P s.key=⟨0,{ s with ops:=wrap64 (s.ops+1) },callP P,f⟩):=by unfold Hid; rw [HBB.out,if_neg h7,if_neg h6]
  clear h7 h6
  have HCL:=HW'.out _ (by rw [HB.out]; exact HM3.out) hk13 (by rw [HB.out])
  rw [HB.out] at HCL
  have HCL2:=Lib.hid HCL
  clear HCL
  unfold Flt.val at HCL2
  go_wp2_with fail
  refine HCL2.out.mono ?_
  rintro e w5 ⟨er,rfl,hQ⟩
  have HQ:=Lib.hid hQ
  clear hQ
  go_wp2
  go_ret
  rw [HB.out]
  unfold PerfPost
  rw [if_pos rfl]
  exact ⟨er,rfl,HQ.out⟩
end
end Go.Proofs.YtggkengmlkhdiaaGreat
namespace Go.Proofs.YtggkengmlkhdiaaGreat
set_option linter.unusedVariables false
open Go.RowKit
def DAT:List TypeId:=[196,166,173,109,132]
theorem dpt_dat:∀ t,t∈DPT→t∈DAT:=by unfold DPT DAT; decide
theorem dt_dat:∀ t,t∈DT→t∈DAT:=by unfold DT DAT; decide
structure DPm (w:World) (B:Bd) (q pw:Nat) (g:Geo) (F:List Flt) (s:DS) (P:Pow) (LM:List Sec) (O:List OpV):Prop where
 d:DiskM w B q pw g F s LM O
 p:PowM w B pw P
 f:Fit g LM
 s:ShortB LM
 B:B.top≤w.heap.size
section
variable {w w':World} {B:Bd} {q pw p:Nat} {g:Geo} {F:List Flt} {s:DS} {P:Pow} {LM:List Sec} {O:List OpV} {FA:Option Addr} {fc:Nat}
theorem DPm.below0 (h:DPm w B q pw g F s P LM O) (hk:Below w.heap.size w w'):DPm w' B q pw g F s P LM O:=by
 obtain ⟨⟨p,FA,fc,hd⟩,hp,hf,hs,hB⟩:=h
 exact ⟨⟨p,FA,fc,hd.below0 hk⟩,hp.below0 hk,hf,hs,Nat.le_trans hB hk.size⟩
def dRdE (F:List Flt) (s:DS) (P:Pow) (LM:List Sec) (X:List Sec) (key a:Int):Int:=if (begD F s P key).er=0 then rdE LM X a (begD F s P key).f else (begD F s P key).er
def dRdB (F:List Flt) (s:DS) (P:Pow) (LM:List Sec) (X:List Sec) (key a:Int):List Int:=if (begD F s P key).er=0 then rdB LM X a (begD F s P key).f else []
def dRdS (F:List Flt) (s:DS) (P:Pow) (LM:List Sec) (X:List Sec) (key a:Int):DS:=if (begD F s P key).er=0 then rdS LM X a (begD F s P key).f (begD F s P key).s else (begD F s P key).s
def DReadPost (w:World) (B:Bd) (q pw:Nat) (g:Geo) (F:List Flt) (s:DS) (P:Pow) (LM:List Sec) (O:List OpV) (key a:Int) (e:Ending) (w':World):Prop:=
 ∃ v,e= .returned (.tuple #[v,.int .i64 (dRdE F s P LM (playL g LM O) key a)])∧Bys 5 w' v (dRdB F s P LM (playL g LM O) key a)∧DPm w' B q pw g F (dRdS F s P LM (playL g LM O) key a) (begD F s P key).P LM O∧KeptT DAT B w w'
theorem noI64:I64 noF.to_:=⟨by decide,by decide⟩
set_option maxRecDepth 100000 in
set_option maxHeartbeats 2000000 in
theorem dreadM_any (key a:Int) (hd:Dsk w B q pw g F s LM O p FA fc) (hp:PowM w B pw P) (hf:Fit g LM) (hs:ShortB LM) (hB:B.top≤w.heap.size) (hn:F.length≤9223372036854775807):Calls Tryz.prog 93 #[.pointer (some ⟨q,0,none⟩),.int .u64 key,.int .i64 a] w fun e w'=>
  ∃ v,e= .returned (.tuple #[v,.int .i64 (dRdE F s P LM (playL g LM O) key a)])∧Bys 5 w' v (dRdB F s P LM (playL g LM O) key a)∧Mid w w' B q pw g F.length fc p FA (dRdS F s P LM (playL g LM O) key a) (begD F s P key).P:=by
 have hb0:Below w.heap.size w (((w.alloc (.cells #[.pointer (some ⟨q,0,none⟩)] 54)).alloc (.cells #[.int .i64 a] 3)).alloc (.cells #[.slice none 0 0] 65)):=(((Below.refl _ _).alloc (Nat.le_refl _) _).alloc (by simp) _).alloc (by simp; omega) _
 have o0:(((w.alloc (.cells #[.pointer (some ⟨q,0,none⟩)] 54)).alloc (.cells #[.int .i64 a] 3)).alloc (.cells #[.slice none 0 0] 65)).heap[w.heap.size]?=some (.cells #[.pointer (some ⟨q,0,none⟩)] 54 (0,0)):=by
  rw [belObj (B:=w.heap.size+1) (w:=w.alloc (.cells #[.pointer (some ⟨q,0,none⟩)] 54)) (((Below.refl _ _).alloc (by simp) _).alloc (by simp) _) (heap_alloc_new w _) (by omega)]
 have o1:(((w.alloc (.cells #[.pointer (some ⟨q,0,none⟩)] 54)).alloc (.cells #[.int .i64 a] 3)).alloc (.cells #[.slice none 0 0] 65)).heap[w.heap.size+1]?=some (.cells #[.int .i64 a] 3 (0,0)):=by
  have:=heap_alloc_new (w.alloc (.cells #[.pointer (some ⟨q,0,none⟩)] 54)) (.cells #[.int .i64 a] 3)
  rw [World.size_alloc] at this
  rw [belObj (B:=w.heap.size+2) (w:=(w.alloc (.cells #[.pointer (some ⟨q,0,none⟩)] 54)).alloc (.cells #[.int .i64 a] 3)) ((Below.refl _ _).alloc (by simp) _) this (by omega)]
 have o2:(((w.alloc (.cells #[.pointer (some ⟨q,0,none⟩)] 54)).alloc (.cells #[.int .i64 a] 3)).alloc (.cells #[.slice none 0 0] 65)).heap[w.heap.size+1+1]?=some (.cells #[.slice none 0 0] 65 (0,0)):=by
  have:=heap_alloc_new ((w.alloc (.cells #[.pointer (some ⟨q,0,none⟩)] 54)).alloc (.cells #[.int .i64 a] 3)) (.cells #[.slice none 0 0] 65)
  rw [World.size_alloc,World.size_alloc] at this
  exact this
 generalize hw3:(((w.alloc (.cells #[.pointer (some ⟨q,0,none⟩)] 54)).alloc (.cells #[.int .i64 a] 3)).alloc (.cells #[.slice none 0 0] 65))=w3 at *
 have hd3:=hd.below0 hb0
 have hp3:=hp.below0 hb0
 have hz:w3.heap.size=w.heap.size+3:=by rw [← hw3]; simp
 have HPF:=readperf_any (LM:=LM) (O:=O) (FA:=FA) (fc:=fc) key w.heap.size (w.heap.size+1) (w.heap.size+1+1)
  (fun er w'=>ReadCl w w' B q pw g F.length fc p (w.heap.size+1+1) FA er (rdB LM (playL g LM O) a (begD F s P key).f) (rdS LM (playL g LM O) a (begD F s P key).f (begD F s P key).s) (.returned (.int .i64 er)) w'∧er=rdE LM (playL g LM O) a (begD F s P key).f∧PowM w' B pw (begD F s P key).P)
  hd3.obj hd3.px hp3 (KeptT.bel hb0) hd.c hd.fl hn (Nat.le_trans hB hb0.size) (fun W hm hk he=>by
   have hk0:w3.heap[w.heap.size+1+1]?=some (.cells #[.slice none 0 0] 65 (0,0)):=o2
   refine (readcl_any (begD F s P key).f a w.heap.size (w.heap.size+1) (w.heap.size+1+1) _ _ hm.o hm.x hd.c hd.fl hm.k hf hs (Kept.obj hk o0 (KeptT.no (IsT.of o0) (by unfold DPT; decide))) (Kept.obj hk o1 (KeptT.no (IsT.of o1) (by unfold DPT; decide))) (Kept.obj hk o2 (KeptT.no (IsT.of o2) (by unfold DPT; decide))) (by omega)).mono ?_
   rintro e w' ⟨rfl,hv,ho,hk',hkw⟩
   exact ⟨_,rfl,⟨rfl,hv,ho,hk',KeptT.refl _ _ _⟩,rfl,hm.p.keptT hkw (by decide)⟩)
 have HOB:Hid (∀ W,KeptT DPT B w3 W→W.heap[w.heap.size+1+1]?=some (.cells #[.slice none 0 0] 65 (0,0))):=by
  unfold Hid; intro W hW; exact Kept.obj hW o2 (KeptT.no (IsT.of o2) (by unfold DPT; decide))
 have HPX:Hid (¬ B.X q):=hd.px
 have HP:=Lib.hid HPF
 subst hw3
 clear HPF hd hp hf hs hd3 hp3 o0 o1 o2
 by_cases he:(begD F s P key).er=0
 ·have HE:Hid (dRdE F s P LM (playL g LM O) key a=rdE LM (playL g LM O) a (begD F s P key).f):=by unfold Hid dRdE; rw [if_pos he]
  have HBY:Hid (dRdB F s P LM (playL g LM O) key a=rdB LM (playL g LM O) a (begD F s P key).f):=by unfold Hid dRdB; rw [if_pos he]
  have HDS:Hid (dRdS F s P LM (playL g LM O) key a=rdS LM (playL g LM O) a (begD F s P key).f (begD F s P key).s):=by unfold Hid dRdS; rw [if_pos he]
  have HE0:=Lib.hid he
  clear he
  go_enter Tryz.func93,Tryz.ntmps93
  go_wp2_with fail
  refine HP.out.mono ?_
  intro e w1 hpp
  unfold PerfPost at hpp
  rw [if_pos HE0.out] at hpp
  obtain ⟨er,rfl,⟨_,⟨v,hv,hby⟩,ho,hk',_⟩,rfl,hpw⟩:=hpp
  have x0:=cell_of_one hv
  have HMM:Hid (Mid w w1 B q pw g F.length fc p FA _ _):=⟨ho,hpw,hk',HPX.out⟩
  have HV:=Lib.hid hby
  clear hv ho hby hpw hk'
  go_wp2
  go_ret2
  exact ⟨v,by rw [HE.out]; rfl,by rw [HBY.out]; exact HV.out,by rw [HDS.out]; exact HMM.out⟩
 ·have HE:Hid (dRdE F s P LM (playL g LM O) key a=(begD F s P key).er):=by unfold Hid dRdE; rw [if_neg he]
  have HBY:Hid (dRdB F s P LM (playL g LM O) key a=[]):=by unfold Hid dRdB; rw [if_neg he]
  have HDS:Hid (dRdS F s P LM (playL g LM O) key a=(begD F s P key).s):=by unfold Hid dRdS; rw [if_neg he]
  have HE0:=Lib.hid he
  clear he
  go_enter Tryz.func93,Tryz.ntmps93
  go_wp2_with fail
  refine HP.out.mono ?_
  intro e w1 hpp
  unfold PerfPost at hpp
  rw [if_neg HE0.out] at hpp
  obtain ⟨rfl,hm,hkw⟩:=hpp
  have x0:=cell_of_one (HOB.out w1 hkw)
  have HMM:=Lib.hid hm
  clear hm hkw
  go_wp2
  go_ret2
  exact ⟨_,by rw [HE.out]; rfl,by rw [HBY.out]; exact Bys.nil _ _,by rw [HDS.out]; exact HMM.out⟩
end
end Go.Proofs.YtggkengmlkhdiaaGreat
