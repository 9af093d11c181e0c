/-
  WHAT IS SHOWN: what do of a rig returns and leaves for a write and a trim. Conditions: the rig lies in memory; its drive's account holds; few operations are pending.
-/
import Derived.Test.YtggkengmlkhdiaaGreatM42
import Derived.Deep.AppendLies
namespace Go.Proofs.YtggkengmlkhdiaaGreat
set_option linter.unusedVariables false
open Go.RowKit
theorem cells10w {w:World} {b:Nat} {v0 v1 v2 v3 v4 v5 v6 v7 v8 v9:Value} {t:TypeId} (h:w.heap[b]?=some (.cells #[v0,v1,v2,v3,v4,v5,v6,v7,v8,v9] t (0,0))):(w.cell? ⟨b,0,none⟩=some v0∧w.cell? ⟨b,1,none⟩=some v1∧w.cell? ⟨b,2,none⟩=some v2∧w.cell? ⟨b,3,none⟩=some v3∧w.cell? ⟨b,4,none⟩=some v4∧w.cell? ⟨b,5,none⟩=some v5∧w.cell? ⟨b,6,none⟩=some v6∧w.cell? ⟨b,7,none⟩=some v7∧w.cell? ⟨b,8,none⟩=some v8∧w.cell? ⟨b,9,none⟩=some v9)∧(w.frozen? ⟨b,0,none⟩=false∧w.frozen? ⟨b,1,none⟩=false∧w.frozen? ⟨b,2,none⟩=false∧w.frozen? ⟨b,3,none⟩=false∧w.frozen? ⟨b,4,none⟩=false∧w.frozen? ⟨b,5,none⟩=false∧w.frozen? ⟨b,6,none⟩=false∧w.frozen? ⟨b,7,none⟩=false∧w.frozen? ⟨b,8,none⟩=false∧w.frozen? ⟨b,9,none⟩=false):=by
 refine ⟨⟨?_,?_,?_,?_,?_,?_,?_,?_,?_,?_⟩,⟨?_,?_,?_,?_,?_,?_,?_,?_,?_,?_⟩⟩ <;> first | (simp [World.cell?,h]; done) | simp [World.frozen?,h]
theorem set10w {w:World} {b:Nat} {l:List Value} {t:TypeId} (h:w.heap[b]?=some (.cells l.toArray t (0,0))) (hl:l.length=10) (v0 v1 v2 v3 v4 v5 v6 v7 v8 v9:Value):
  (((((((((((w.setCell ⟨b,0,none⟩ (v0)).setCell ⟨b,1,none⟩ (v1)).setCell ⟨b,2,none⟩ (v2)).setCell ⟨b,3,none⟩ (v3)).setCell ⟨b,4,none⟩ (v4)).setCell ⟨b,5,none⟩ (v5)).setCell ⟨b,6,none⟩ (v6)).setCell ⟨b,7,none⟩ (v7)).setCell ⟨b,8,none⟩ (v8)).setCell ⟨b,9,none⟩ (v9))).heap[b]?=some (.cells #[v0,v1,v2,v3,v4,v5,v6,v7,v8,v9] t (0,0))∧Kept (fun k=>k=b) w (((((((((((w.setCell ⟨b,0,none⟩ (v0)).setCell ⟨b,1,none⟩ (v1)).setCell ⟨b,2,none⟩ (v2)).setCell ⟨b,3,none⟩ (v3)).setCell ⟨b,4,none⟩ (v4)).setCell ⟨b,5,none⟩ (v5)).setCell ⟨b,6,none⟩ (v6)).setCell ⟨b,7,none⟩ (v7)).setCell ⟨b,8,none⟩ (v8)).setCell ⟨b,9,none⟩ (v9))):=by
 refine ⟨?_,?_⟩
 ·match l,hl with
  | [_,_,_,_,_,_,_,_,_,_],_=>
    exact heap_setQ (heap_setQ (heap_setQ (heap_setQ (heap_setQ (heap_setQ (heap_setQ (heap_setQ (heap_setQ (heap_setQ h 0 v0) 1 v1) 2 v2) 3 v3) 4 v4) 5 v5) 6 v6) 7 v7) 8 v8) 9 v9
 ·repeat' apply Kept.setCell
  all_goals first | exact Kept.refl _ _ | exact fun _=>rfl
theorem append_at {P:Program} {o:Oper} {a:Act} {w w':World} {s x:Operand} {t:TypeId} {v1 v2 r:Value} (ho:o.op= .call { callee:=.builtin .append,args:=#[s,x],argTypes:=#[t,t] }) (hs:a.eval s=v1) (hx:a.eval x=v2) (hr:(Builtin.append_ #[t,t] o.type #[v1,v2]).run P w= .ok r w'):(execOp a.eval o).run P w= .ok (.value r) w':=by
 unfold execOp
 simp only [ho,resolve,invoke,builtin,Sem.run_bind,Sem.run_pure,Result.andThen_ok,List.map_toArray,List.map_cons,List.map_nil,hs,hx,hr]
theorem info_written:(Tryz.prog.info? 64).map (fun i=>(i.zero,i.size,i.bytes))=some (some (.agg #[.int .u64 0,.int .u8 0,.int .u8 0,.int .u8 0,.int .u8 0,.int .u8 0,.int .u8 0,.int .u8 0,.int .u8 0,.bool false]),10,24):=by kernel_rfl
section
variable {w:World} {N r p q pw ha hc fa fc:Nat} {g:Geo} {F:List Flt} {n:Nat} {R:RG} {hs:List Hs}
theorem wcells_one (x:Wr):∀ u∈x.cells,u.oneCell'=true:=by
 intro u hu
 unfold Wr.cells at hu
 rcases List.mem_cons.1 hu with rfl | hu
 ·rfl
 ·rcases List.mem_append.1 hu with hu | hu
  ·obtain ⟨y,_,rfl⟩:=List.mem_map.1 hu; rfl
  ·simp at hu; subst hu; rfl
theorem happ {b:Nat} {k:Hs} {x:Wr} (h:Rig w N r p q pw ha hc fa fc g F n R hs) (hk:hs[b]?=some k) (hx:x.dt.length=8) (hl:k.xs.length≤1000000) (c:Array Value) (hc:c.toList=x.cells):
  ∃ gb cap w',(Builtin.append_ #[62,62] 62 #[k.v,.slice (some ⟨w.heap.size,0,none⟩) 1 1]).run Tryz.prog (w.drew.alloc (.cells c 64))= .ok (.slice (some ⟨gb,0,none⟩) (k.xs.length+1) cap) w'∧
   w'.ownsRow N 64 10 (.slice (some ⟨gb,0,none⟩) (k.xs.length+1) cap) (k.xs.length+1) (flatW k.xs++x.cells)∧(w.drew.alloc (.cells c 64)).grownBy w' k.v.ownBlock∧(k.v.ownBlock=some gb∨gb=w.heap.size+1):=by
 obtain ⟨i0,hi,hz0,hz1,hz2⟩:=info_parts info_written
 have ho:(w.drew.alloc (.cells c 64)).ownsRow N 64 10 k.v k.xs.length (flatW k.xs):=(h.hist.each b k hk).alloc _
 have hN:N≤w.heap.size:=Nat.le_of_lt (Nat.lt_of_le_of_lt h.low h.lt)
 obtain ⟨gb,cap,w',h1,h2,h3,h4,_⟩:=run_append_lies (P:=Tryz.prog) (w.drew.alloc (.cells c 64)) 62 62 N 64 i0 _ 10 24 Tryz.underlying62 hi hz0 hz1 hz2 rfl (by decide) k.v k.xs.length (flatW k.xs) ho
  ⟨w.heap.size,0,none⟩ 1 1 x.cells (by rw [wcells_len hx]) (by rw [← hc]; exact World.news_of_block (heap_alloc_new w.drew _)) (wcells_one x) (by omega) (by unfold maxLen; omega) (by omega) (by simp; omega) (w.heap.size+1) (by simp)
 exact ⟨gb,cap,w',h1,h2,h3,h4⟩
end
section
variable {w:World} {N r q pw:Nat} {g:Geo} {F:List Flt} {n:Nat} {R:RG}
set_option maxRecDepth 100000 in
set_option maxHeartbeats 8000000 in
theorem do_write {b:Nat} {data:Int} (hb:b < n) (hd:0≤data∧data < 256) (hi:RigIn g F n R) (h:RigM w N r q pw g F n R):
  Calls Tryz.prog 24 #[.pointer (some ⟨r,0,none⟩),.agg #[.int .u8 0,.int .i64 b,.int .u8 data]] w (DoP20 w N r q pw g F n ⟨0,b,data⟩ R):=by
 obtain ⟨p,ha,hc,fa,fc,hs,h⟩:=h
 have HP:Hid (∀ er S' W,WriteR g F 0 R.S (wEnt b data (R.next+1)) (S',er)→RigM W N r q pw g F n ⟨S',addH R.hist b (wWr data (R.next+1)),R.fl,R.next+1⟩→KeptT RGT (Bd.of N) w W→DoP20 w N r q pw g F n ⟨0,b,data⟩ R (.returned (.int .i64 er)) W):=by
  intro er S' W h1 h3 h4
  refine ⟨_,er,?_,rfl,h3,h4⟩
  unfold ActR
  simp only
  rw [if_pos ⟨by omega,by omega⟩,Int.toNat_natCast]
  exact .inl ⟨trivial,S',h1,rfl⟩
 have d1:decide ((b:Int) < 0)=false:=decide_eq_false (by omega)
 have d2:decide ((n:Int)≤(b:Int))=false:=decide_eq_false (by omega)
 have HI:=Lib.hid hi
 have HD:=Lib.hid hd
 have HBN:=Lib.hid hb
 obtain ⟨nx,hnx⟩:∃ nx,R.next+1=nx:=⟨_,rfl⟩
 have hwr:IntKind.u64.wrap (R.next+1)=nx:=by rw [← hnx,IntKind.wrap_u64]; have:=hi.nx; omega
 have HNX:Hid (0≤nx∧nx≤1000001):=by have:=hi.nx; exact ⟨by omega,by omega⟩
 have hbl:b < hs.length:=by rw [h.hl,hi.hl]; exact hb
 have HK:=Lib.hid (List.getElem?_eq_getElem hbl)
 generalize hs[b]=k at HK
 rw [hnx] at HP
 have d3:decide (n≤b)=false:=decide_eq_false (by omega)
 clear hb hd hi hbl hnx
 have hbl0:Below w.heap.size w (w.alloc (.cells #[.int .u8 0,.int .i64 (b:Int),.int .u8 data] 61)):=(Below.refl _ _).alloc (Nat.le_refl _) _
 have hO:(w.alloc (.cells #[.int .u8 0,.int .i64 (b:Int),.int .u8 data] 61)).heap[w.heap.size]?=some (.cells #[.int .u8 0,.int .i64 (b:Int),.int .u8 data] 61 (0,0)):=heap_alloc_new _ _
 have HH:=Lib.hid (h.below0 hbl0)
 have HB0:=Lib.hid hbl0
 have HO:=Lib.hid hO
 obtain ⟨o0,o1,o2⟩:=cells3A hO
 obtain ⟨x0,x1,x2,x3,x4,x5,x6⟩:=HH.out.cells
 clear hbl0 hO h
 go_enter Tryz.func24,Tryz.ntmps24
 go_upto_region 1 with fail
 generalize (w.alloc (.cells #[.int .u8 0,.int .i64 (b:Int),.int .u8 data] 61))=w0 at *
 have HS6:=Lib.hid (HH.out.setNext nx)
 have y6:=HH.out.free 6
 generalize DoP20 w N r q pw g F n ⟨0,b,data⟩ R=PP at *
 generalize R.next=nx0 at *
 go_upto_region 7 with fail
 have HKA:Hid (KeptT RGT (Bd.of N) w (w0.setCell ⟨r,6,none⟩ (.int .u64 nx))):=(KeptT.bel HB0.out).trans HS6.out.2
 have HR1:=Lib.hid HS6.out.1
 have HO1:Hid ((w0.setCell ⟨r,6,none⟩ (.int .u64 nx)).heap[w.heap.size]?=some (.cells #[.int .u8 0,.int .i64 (b:Int),.int .u8 data] 61 (0,0))):=Kept.obj HS6.out.2 HO.out (KeptT.no (IsT.of HO.out) (by unfold RGT; decide))
 clear HS6 HO HB0 HH hwr x0 x1 x2 x3 x4 x5 x6 y6 o0 o1 o2
 generalize (w0.setCell ⟨r,6,none⟩ (.int .u64 nx))=w1 at *
 obtain ⟨o0,o1,o2⟩:=cells3A HO1.out
 obtain ⟨x0,x1,x2,x3,x4,x5,x6⟩:=HR1.out.cells
 obtain ⟨C,hC⟩:∃ C:List Value→World→Prop,C=fun h W=>match h with
  | []=>W=w1.drew
  | [v]=>v= .pointer (some ⟨w1.heap.size,0,none⟩)∧W.heap[w1.heap.size]?=some (.cells #[.int .u64 0,.int .u8 0,.int .u8 0,.int .u8 0,.int .u8 0,.int .u8 0,.int .u8 0,.int .u8 0,.int .u8 0,.bool false] 64 (0,0))∧Below w1.heap.size w1 W
  | [_,_]=>W.heap[w1.heap.size]?=some (.cells #[.int .u64 nx,.int .u8 data,.int .u8 (nx % 256),.int .u8 0,.int .u8 0,.int .u8 0,.int .u8 0,.int .u8 0,.int .u8 0,.bool false] 64 (0,0))∧Below w1.heap.size w1 W
  | _=>False:=⟨_,rfl⟩
 have hall:∀ t:HeldL C 1,Below w1.heap.size w1 t.w:=fun t=>by
  obtain ⟨s,W,h,l⟩:=t
  simp only
  subst hC
  match s,h,l with
  | [],h,_=>have h':W=w1.drew:=h; rw [h']; exact (Below.refl _ _).drew
  | [v],h,_=>exact h.2.2
 have HC0:Hid (C [] w1.drew):=by subst hC; exact rfl
 have hne1:Nonempty (HeldL C 1):=⟨⟨[],_,HC0.out,by simp⟩⟩
 have hne2:Nonempty (HeldC C):=⟨⟨[],_,HC0.out⟩⟩
 have lr:r < w1.heap.size:=HR1.out.lt
 have la:w.heap.size < w1.heap.size:=(IsT.of HO1.out).lt
 have f6:∀ t:HeldL C 1,t.w.cell? ⟨r,6,none⟩=some (.int .u64 nx):=fun t=>((hall t).cell (p:=⟨r,6,none⟩) lr).trans x6
 have f2:∀ t:HeldL C 1,t.w.cell? ⟨w.heap.size,2,none⟩=some (.int .u8 data):=fun t=>((hall t).cell (p:=⟨w.heap.size,2,none⟩) la).trans o2
 have HV0:Hid (∀ W,C [] W→W=w1.drew):=by subst hC; exact fun _ h=>h
 have HV1:Hid (∀ W,W=w1.drew→C ([]++[.pointer (some ⟨w1.heap.size,0,none⟩)]) (W.alloc (.cells #[.int .u64 0,.int .u8 0,.int .u8 0,.int .u8 0,.int .u8 0,.int .u8 0,.int .u8 0,.int .u8 0,.int .u8 0,.bool false] 64))):=by
  subst hC
  intro W hW
  subst hW
  exact ⟨rfl,heap_alloc_new w1.drew _,((Below.refl _ _).drew).alloc (Nat.le_refl _) _⟩
 have HV2:Hid (∀ v W,C [v] W→v= .pointer (some ⟨w1.heap.size,0,none⟩)∧W.heap[w1.heap.size]?=some (.cells #[.int .u64 0,.int .u8 0,.int .u8 0,.int .u8 0,.int .u8 0,.int .u8 0,.int .u8 0,.int .u8 0,.int .u8 0,.bool false] 64 (0,0))∧Below w1.heap.size w1 W):=by subst hC; exact fun _ _ h=>h
 have HV3:Hid (∀ W,C [.pointer (some ⟨w1.heap.size,0,none⟩)] W→C ([.pointer (some ⟨w1.heap.size,0,none⟩)]++[undef]) (((((((((((W.setCell ⟨w1.heap.size,0,none⟩ (.int .u64 nx)).setCell ⟨w1.heap.size,1,none⟩ (.int .u8 data)).setCell ⟨w1.heap.size,2,none⟩ (.int .u8 (nx % 256))).setCell ⟨w1.heap.size,3,none⟩ (.int .u8 0)).setCell ⟨w1.heap.size,4,none⟩ (.int .u8 0)).setCell ⟨w1.heap.size,5,none⟩ (.int .u8 0)).setCell ⟨w1.heap.size,6,none⟩ (.int .u8 0)).setCell ⟨w1.heap.size,7,none⟩ (.int .u8 0)).setCell ⟨w1.heap.size,8,none⟩ (.int .u8 0)).setCell ⟨w1.heap.size,9,none⟩ (.bool false)))):=by
  subst hC
  intro W hW
  obtain ⟨_,h1,h2⟩:=hW
  obtain ⟨s1,s2⟩:=set10w (l:=[.int .u64 0,.int .u8 0,.int .u8 0,.int .u8 0,.int .u8 0,.int .u8 0,.int .u8 0,.int .u8 0,.int .u8 0,.bool false]) h1 rfl (.int .u64 nx) (.int .u8 data) (.int .u8 (nx % 256)) (.int .u8 0) (.int .u8 0) (.int .u8 0) (.int .u8 0) (.int .u8 0) (.int .u8 0) (.bool false)
  refine ⟨s1,?_⟩
  have h3:Below w1.heap.size W _:=s2.below (fun i hi=>Nat.le_of_eq hi.symm) h2.size
  exact h2.trans h3
 have HV4:Hid (∀ v u W,C [v,u] W→W.heap[w1.heap.size]?=some (.cells #[.int .u64 nx,.int .u8 data,.int .u8 (nx % 256),.int .u8 0,.int .u8 0,.int .u8 0,.int .u8 0,.int .u8 0,.int .u8 0,.bool false] 64 (0,0))∧Below w1.heap.size w1 W):=by subst hC; exact fun _ _ _ h=>h
 clear hC hall
 go_wp2_with fail
 refine wp_region_chainL C 14 [13] [14,13] [0,1,2,3,4,5,6,7,8,9,10,11,12] (by kernel_rfl) (by kernel_rfl) (by kernel_rfl) (by kernel_rfl) (by kernel_rfl) HC0.out ?_
 repeat (first | (refine wpCh_nl 1 (by rfl) (by rfl) (by rfl) ?_; go_big_quiet_step (fail); refine wpQuiet_nil ?_) | (refine wpCh_n (by rfl) (by rfl) ?_; go_big_quiet_step (fail); refine wpQuiet_nil ?_))
 refine wpCh_v (by rfl) (by rfl) (fun W hW=>⟨.pointer (some ⟨w1.heap.size,0,none⟩),_,?_,HV1.out W (HV0.out W hW)⟩) (fun v W hW=>?_)
 ·have:=HV0.out W hW
  subst this
  simp [go_sem]
 obtain ⟨rfl,hob,_⟩:=HV2.out v W hW
 go_big_quiet_step (fail)
 refine wpQuiet_nil ?_
 repeat (first | (refine wpCh_nl 1 (by rfl) (by rfl) (by rfl) ?_; go_big_quiet_step (fail); refine wpQuiet_nil ?_) | (refine wpCh_n (by rfl) (by rfl) ?_; go_big_quiet_step (fail); refine wpQuiet_nil ?_))
 refine wpCh_s (by rfl) (by rfl) rfl (fun W hW=>⟨((((((((((W.setCell ⟨w1.heap.size,0,none⟩ (.int .u64 nx)).setCell ⟨w1.heap.size,1,none⟩ (.int .u8 data)).setCell ⟨w1.heap.size,2,none⟩ (.int .u8 (nx % 256))).setCell ⟨w1.heap.size,3,none⟩ (.int .u8 0)).setCell ⟨w1.heap.size,4,none⟩ (.int .u8 0)).setCell ⟨w1.heap.size,5,none⟩ (.int .u8 0)).setCell ⟨w1.heap.size,6,none⟩ (.int .u8 0)).setCell ⟨w1.heap.size,7,none⟩ (.int .u8 0)).setCell ⟨w1.heap.size,8,none⟩ (.int .u8 0)).setCell ⟨w1.heap.size,9,none⟩ (.bool false)),?_,HV3.out W hW⟩) (fun v W hW=>?_)
 ·obtain ⟨_,hobW,_⟩:=HV2.out _ _ hW
  obtain ⟨⟨c0,c1,c2,c3,c4,c5,c6,c7,c8,c9⟩,z0,z1,z2,z3,z4,z5,z6,z7,z8,z9⟩:=cells10w hobW
  clear hobW
  simp [go_sem, *]
 refine wpCh_nil ?_
 intro w2 hw2
 obtain ⟨hw20,hb2⟩:=HV4.out _ _ _ hw2
 have HW2:=Lib.hid hw20
 have HB2:=Lib.hid hb2
 have HR2:=Lib.hid (HR1.out.below0 hb2)
 have HKB:Hid (KeptT RGT (Bd.of N) w w2):=HKA.out.thenBelow hb2
 have hkl:k.xs.length≤1000000:=by
  refine HI.out.hn k.xs ?_
  have:R.hist[b]?=some k.xs:=by rw [← HR1.out.hh,List.getElem?_map,HK.out]; rfl
  exact List.mem_of_getElem? this
 have HKL:=Lib.hid hkl
 have HWB:=Lib.hid (IsT.of hw20)
 have HKN:Hid (some w1.heap.size≠k.v.ownBlock):=fun e=>by
  have:=(HR1.out.hist.each b k HK.out).lt w1.heap.size e.symm
  omega
 clear hkl hw2 hw20 hb2 HV0 HV1 HV2 HV3 HV4 f6 f2 HC0 hne1 hne2 hob HR1 HB2 HKA HO1 o0 o1 o2 x0 x1 x2 x3 x4 x5 x6 lr la
 generalize w1.heap.size=b2 at *
 obtain ⟨tmp,htmp⟩:∃ tmp:Obj,tmp= .cells #[.int .u64 nx,.int .u8 data,.int .u8 (nx % 256),.int .u8 0,.int .u8 0,.int .u8 0,.int .u8 0,.int .u8 0,.int .u8 0,.bool false] 64:=⟨_,rfl⟩
 obtain ⟨C,hC⟩:∃ C:List Value→World→Prop,C=fun h W=>match h with
  | []=>W=w2.drew
  | [v]=>v= .slice (some ⟨w2.heap.size,0,none⟩) 1 1∧W=w2.drew.alloc tmp
  | [_,u]=>∃ gb cap,u= .slice (some ⟨gb,0,none⟩) (k.xs.length+1) cap∧W.ownsRow N 64 10 (.slice (some ⟨gb,0,none⟩) (k.xs.length+1) cap) (k.xs.length+1) (flatW k.xs++(wWr data nx).cells)∧(w2.drew.alloc tmp).grownBy W k.v.ownBlock∧(k.v.ownBlock=some gb∨gb=w2.heap.size+1)
  | [_,_,_]=>∃ hs',Rig W N r p q pw ha hc fa fc g F n ⟨R.S,addH R.hist b (wWr data nx),R.fl,nx⟩ hs'∧KeptT RGT (Bd.of N) w2 W∧W.heap[b2]?=w2.heap[b2]?
  | _=>False:=⟨_,rfl⟩
 have hall:∀ t:HeldL C 2,∀ j,j < w2.heap.size→some j≠k.v.ownBlock→t.w.heap[j]?=w2.heap[j]?:=fun t j hj hne=>by
  obtain ⟨s,W,h,l⟩:=t
  simp only
  subst hC
  match s,h,l with
  | [],h,_=>have h':W=w2.drew:=h; rw [h']; rfl
  | [v],h,_=>
    have h':W=w2.drew.alloc tmp:=h.2
    rw [h']; exact heap_alloc_old w2.drew _ hj
  | [_,_],h,_=>
    obtain ⟨gb,cap,_,_,hg,_⟩:=h
    rw [hg.block j (by simp; omega) hne]; exact heap_alloc_old w2.drew _ hj
 have HC0:Hid (C [] w2.drew):=by subst hC; exact rfl
 have hne1:Nonempty (HeldL C 2):=⟨⟨[],_,HC0.out,by simp⟩⟩
 have hne2:Nonempty (HeldC C):=⟨⟨[],_,HC0.out⟩⟩
 obtain ⟨x0,x1,x2,x3,x4,x5,x6⟩:=HR2.out.cells
 have hcb:=HR2.out.hist.cell HK.out
 have hkT:∀ j t,IsT t w2 j→t≠64→some j≠k.v.ownBlock:=fun j t ht hne e=>by
  rcases (HR2.out.hist.each b k HK.out).2 with ⟨h2,_⟩ | ⟨g',cp,cur,h2,_,h4,_⟩
  ·rw [h2] at e; cases e
  ·rw [h2] at e; injection e with e; subst e
   exact hne (ht.same (IsT.of h4))
 have f4:∀ t:HeldL C 2,t.w.cell? ⟨r,4,none⟩=some (.slice (some ⟨ha,0,none⟩) hs.length hc):=fun t=>(World.cell?_of_block (w:=w2) (a:=⟨r,4,none⟩) (hall t r HR2.out.lt (hkT r _ (IsT.own HR2.out.obj) (by decide)))).trans x4
 have fb:∀ t:HeldL C 2,t.w.cell? ⟨ha,b,none⟩=some (.slice k.A k.xs.length k.c):=fun t=>(World.cell?_of_block (w:=w2) (a:=⟨ha,b,none⟩) (hall t ha (IsT.own HR2.out.hist.own).lt (hkT ha _ (IsT.own HR2.out.hist.own) (by decide)))).trans hcb
 obtain ⟨⟨c0,c1,c2,c3,c4,c5,c6,c7,c8,c9⟩,_⟩:=cells10w HW2.out
 have fw:∀ (t:HeldL C 2) (j:Nat),t.w.cell? ⟨b2,j,none⟩=w2.cell? ⟨b2,j,none⟩:=fun t j=>World.cell?_of_block (w:=w2) (a:=⟨b2,j,none⟩) (hall t b2 HWB.out.lt HKN.out)
 have g0:∀ t:HeldL C 2,t.w.cell? ⟨b2,0,none⟩=some (.int .u64 nx):=fun t=>(fw t 0).trans c0
 have g1:∀ t:HeldL C 2,t.w.cell? ⟨b2,1,none⟩=some (.int .u8 data):=fun t=>(fw t 1).trans c1
 have g2:∀ t:HeldL C 2,t.w.cell? ⟨b2,2,none⟩=some (.int .u8 (nx % 256)):=fun t=>(fw t 2).trans c2
 have g3:∀ t:HeldL C 2,t.w.cell? ⟨b2,3,none⟩=some (.int .u8 0):=fun t=>(fw t 3).trans c3
 have g4:∀ t:HeldL C 2,t.w.cell? ⟨b2,4,none⟩=some (.int .u8 0):=fun t=>(fw t 4).trans c4
 have g5:∀ t:HeldL C 2,t.w.cell? ⟨b2,5,none⟩=some (.int .u8 0):=fun t=>(fw t 5).trans c5
 have g6:∀ t:HeldL C 2,t.w.cell? ⟨b2,6,none⟩=some (.int .u8 0):=fun t=>(fw t 6).trans c6
 have g7:∀ t:HeldL C 2,t.w.cell? ⟨b2,7,none⟩=some (.int .u8 0):=fun t=>(fw t 7).trans c7
 have g8:∀ t:HeldL C 2,t.w.cell? ⟨b2,8,none⟩=some (.int .u8 0):=fun t=>(fw t 8).trans c8
 have g9:∀ t:HeldL C 2,t.w.cell? ⟨b2,9,none⟩=some (.bool false):=fun t=>(fw t 9).trans c9
 have HV0:Hid (∀ W,C [] W→W=w2.drew):=by subst hC; exact fun _ h=>h
 have HV1:Hid (∀ W,W=w2.drew→C ([]++[.slice (some ⟨w2.heap.size,0,none⟩) 1 1]) (W.alloc (.cells #[.int .u64 nx,.int .u8 data,.int .u8 (nx % 256),.int .u8 0,.int .u8 0,.int .u8 0,.int .u8 0,.int .u8 0,.int .u8 0,.bool false] 64))):=by
  subst hC
  intro W hW
  subst hW
  exact ⟨rfl,by rw [htmp]⟩
 have HV2:Hid (∀ v W,C [v] W→v= .slice (some ⟨w2.heap.size,0,none⟩) 1 1∧W=w2.drew.alloc tmp):=by subst hC; exact fun _ _ h=>h
 have HV3:Hid (∃ gb cap W',(Builtin.append_ #[62,62] 62 #[k.v,.slice (some ⟨w2.heap.size,0,none⟩) 1 1]).run Tryz.prog (w2.drew.alloc tmp)= .ok (.slice (some ⟨gb,0,none⟩) (k.xs.length+1) cap) W'∧C ([.slice (some ⟨w2.heap.size,0,none⟩) 1 1]++[.slice (some ⟨gb,0,none⟩) (k.xs.length+1) cap]) W'):=by
  subst hC
  obtain ⟨gb,cap,W',h1,h2,h3,h4⟩:=happ (x:=wWr data nx) HR2.out HK.out rfl HKL.out (#[.int .u64 nx,.int .u8 data,.int .u8 (nx % 256),.int .u8 0,.int .u8 0,.int .u8 0,.int .u8 0,.int .u8 0,.int .u8 0,.bool false]) rfl
  rw [htmp]
  exact ⟨gb,cap,W',h1,gb,cap,rfl,h2,h3,h4⟩
 have HV4:Hid (∀ u v W,C [u,v] W→∃ gb cap,v= .slice (some ⟨gb,0,none⟩) (k.xs.length+1) cap):=by
  subst hC
  intro u v W h
  obtain ⟨gb,cap,h1,_⟩:=h
  exact ⟨gb,cap,h1⟩
 have HV5:Hid (∀ u gb cap W,C [u,.slice (some ⟨gb,0,none⟩) (k.xs.length+1) cap] W→W.cell? ⟨ha,b,none⟩=some (.slice k.A k.xs.length k.c)∧W.frozen? ⟨ha,b,none⟩=false∧C ([u,.slice (some ⟨gb,0,none⟩) (k.xs.length+1) cap]++[undef]) (W.setCell ⟨ha,b,none⟩ (.slice (some ⟨gb,0,none⟩) (k.xs.length+1) cap))):=by
  subst hC
  intro u gb cap W h
  obtain ⟨gb',cap',h1,h2,h3,h4⟩:=h
  injection h1 with h1 _ h1'
  injection h1 with h1
  injection h1 with h1
  subst h1; subst h1'
  have hb0:Below w2.heap.size w2 (w2.drew.alloc tmp):=((Below.refl _ _).drew).alloc (Nat.le_refl _) _
  have hWA:=HR2.out.below0 hb0
  have hlt:ha < (w2.drew.alloc tmp).heap.size:=(IsT.own hWA.hist.own).lt
  have hne:=hkT ha _ (IsT.own HR2.out.hist.own) (by decide)
  have hpu:=hWA.push (x:=wWr data nx) (H:=w2.heap.size+1) HK.out rfl (by simp) h2 h3 h4
  refine ⟨(h3.cell_far ⟨ha,b,none⟩ hlt hne).trans (hWA.hist.cell HK.out),(h3.frozen_far ⟨ha,b,none⟩ hlt hne).trans (hWA.hist.free b),_,hpu.1,KeptT.trans (KeptT.bel hb0) hpu.2,?_⟩
  have hab:ha≠b2:=(IsT.own HR2.out.hist.own).ne HWB.out (by decide)
  have e1:(W.setCell ⟨ha,b,none⟩ (.slice (some ⟨gb,0,none⟩) (k.xs.length+1) cap)).heap[b2]?=W.heap[b2]?:=by
   have hk0:Kept (fun j=>j=ha) W (W.setCell ⟨ha,b,none⟩ (.slice (some ⟨gb,0,none⟩) (k.xs.length+1) cap)):=(Kept.refl (fun j=>j=ha) W).setCell (p:=⟨ha,b,none⟩) (fun _=>rfl) _
   have hbW:b2 < W.heap.size:=Nat.lt_of_lt_of_le (Nat.lt_of_lt_of_le HWB.out.lt hb0.size) h3.size
   exact hk0.block b2 hbW (fun e=>hab e.symm)
  rw [e1,h3.block b2 (Nat.lt_of_lt_of_le HWB.out.lt hb0.size) HKN.out]
  exact heap_alloc_old w2.drew _ HWB.out.lt
 have HV6:Hid (∀ u v x W,C [u,v,x] W→∃ hs',Rig W N r p q pw ha hc fa fc g F n ⟨R.S,addH R.hist b (wWr data nx),R.fl,nx⟩ hs'∧KeptT RGT (Bd.of N) w2 W∧W.heap[b2]?=w2.heap[b2]?):=by subst hC; exact fun _ _ _ _ h=>h
 clear hC hall fw hkT c0 c1 c2 c3 c4 c5 c6 c7 c8 c9 hcb
 have hbl:b < hs.length:=(List.getElem?_eq_some_iff.1 HK.out).1
 go_wp2_with fail
 refine wp_region_chainL C 16 [13,14] [16,14,13] [0,1,2,3,4,5,6,7,8,9,10,11,12,15] (by kernel_rfl) (by kernel_rfl) (by kernel_rfl) (by kernel_rfl) (by kernel_rfl) HC0.out ?_
 repeat (first | (refine wpCh_nl 2 (by rfl) (by rfl) (by rfl) ?_; go_big_quiet_step (fail); refine wpQuiet_nil ?_) | (refine wpCh_n (by rfl) (by rfl) ?_; go_big_quiet_step (fail); refine wpQuiet_nil ?_))
 refine wpCh_v (by rfl) (by rfl) (fun W hW=>⟨.slice (some ⟨w2.heap.size,0,none⟩) 1 1,_,?_,HV1.out W (HV0.out W hW)⟩) (fun v W hW=>?_)
 ·have:=HV0.out W hW
  subst this
  simp [go_sem]
 obtain ⟨rfl,hWe⟩:=HV2.out v W hW
 clear hWe
 go_big_quiet_step (fail)
 refine wpQuiet_nil ?_
 refine wpCh_v (by rfl) (by rfl) (fun W hW=>?_) (fun v W hW=>?_)
 ·obtain ⟨gb,cap,W',h1,h2⟩:=HV3.out
  obtain ⟨_,rfl⟩:=HV2.out _ W hW
  refine ⟨_,W',?_,h2⟩
  exact append_at rfl rfl rfl h1
 obtain ⟨gb,cap,rfl⟩:=HV4.out _ v W hW
 go_big_quiet_step (fail)
 refine wpQuiet_nil ?_
 repeat (first | (refine wpCh_nl 2 (by rfl) (by rfl) (by rfl) ?_; go_big_quiet_step (fail); refine wpQuiet_nil ?_) | (refine wpCh_n (by rfl) (by rfl) ?_; go_big_quiet_step (fail); refine wpQuiet_nil ?_))
 refine wpCh_s (by rfl) (by rfl) rfl (fun W hW=>⟨W.setCell ⟨ha,b,none⟩ (.slice (some ⟨gb,0,none⟩) (k.xs.length+1) cap),?_,(HV5.out _ _ _ W hW).2.2⟩) (fun v W hW=>?_)
 ·obtain ⟨k1,k2,_⟩:=HV5.out _ _ _ W hW
  simp [go_sem, *]
 refine wpCh_nil ?_
 intro w3 hw3
 obtain ⟨hs',hr3,hk3,he3⟩:=HV6.out _ _ _ w3 hw3
 have HR3:=Lib.hid hr3
 have HK3:=Lib.hid (HKB.out.trans hk3)
 have HW3:=Lib.hid (he3.trans HW2.out)
 clear hw3 hr3 hk3 he3 HV0 HV1 HV2 HV3 HV4 HV5 HV6 HC0 hne1 hne2 f4 fb g0 g1 g2 g3 g4 g5 g6 g7 g8 g9 hbl HR2 HKB HW2 HKN x0 x1 x2 x3 x4 x5 x6 htmp
 obtain ⟨ea,ec,BA,bc,hd⟩:=HR3.out.drv
 have hxk:KindOk ⟨1,b,nx,[data,nx % 256,0,0,0,0,0,0]⟩:=by
  have:=HNX.out
  exact ⟨.inl rfl,by simp only; omega,by simp only; omega,rfl,dataW_u8 nx HD.out⟩
 have HWR:Hid (∀ W,Below w3.heap.size w3 W→Calls Tryz.prog 19 #[.pointer (some ⟨p,0,none⟩),.int .i64 (b:Int),.int .u64 nx,.agg #[.int .u8 data,.int .u8 (nx % 256),.int .u8 0,.int .u8 0,.int .u8 0,.int .u8 0,.int .u8 0,.int .u8 0]] W (PutPost W (Bd.of N) p q pw g F 0 R.S ea ec ⟨1,b,nx,[data,nx % 256,0,0,0,0,0,0]⟩)):=fun W hW=>
  write20_any b nx data (nx % 256) 0 0 0 0 0 0 hxk HI.out.ok HI.out.u8 HI.out.F64 HI.out.Fn HI.out.O (hd.below0 hW)
 have HKD:Hid (∀ W,KeptT DRT (Bd.of N) w3 W→W.cell? ⟨r,2,none⟩=some (.pointer (some ⟨p,0,none⟩))∧W.heap[b2]?=some (.cells #[.int .u64 nx,.int .u8 data,.int .u8 (nx % 256),.int .u8 0,.int .u8 0,.int .u8 0,.int .u8 0,.int .u8 0,.int .u8 0,.bool false] 64 (0,0))):=fun W hW=>by
  have h1:=own_ty HR3.out.obj hW (by unfold DRT; decide)
  exact ⟨(World.ownsRow.cellAt h1 2 (by decide)).trans rfl,Kept.obj hW HW3.out (KeptT.no (IsT.of HW3.out) (by unfold DRT; decide))⟩
 clear hd hxk
 obtain ⟨C,hC⟩:∃ C:List Value→World→Prop,C=fun h W=>match h with
  | []=>W=w3.drew
  | [v]=>∃ rr:ST × Int,WriteR g F 0 R.S (wEnt b data nx) rr∧v= .int .i64 rr.2∧DrvTo w3 (Bd.of N) p q pw g F 0 rr.1 ea ec W
  | _=>False:=⟨_,rfl⟩
 have hall:∀ t:HeldC C,KeptT DRT (Bd.of N) w3 t.w:=fun t=>by
  obtain ⟨s,W,h⟩:=t
  simp only
  subst hC
  match s,h with
  | [],h=>have h':W=w3.drew:=h; rw [h']; exact (KeptT.refl _ _ w3).drew
  | [v],h=>
    obtain ⟨rr,_,_,_,_,_,hk⟩:=h
    exact hk
 have HC0:Hid (C [] w3.drew):=by subst hC; exact rfl
 have HK1:Hid (∀ W,C [] W→Calls Tryz.prog 19 #[.pointer (some ⟨p,0,none⟩),.int .i64 (b:Int),.int .u64 nx,.agg #[.int .u8 data,.int .u8 (nx % 256),.int .u8 0,.int .u8 0,.int .u8 0,.int .u8 0,.int .u8 0,.int .u8 0]] W fun e w'=>∃ x,e= .returned x∧C ([]++[x]) w'):=by
  subst hC
  intro W hW
  have hW':W=w3.drew:=hW
  subst hW'
  refine (HWR.out _ ((Below.refl _ _).drew)).mono ?_
  rintro e w' ⟨rr,h1,h2,h3⟩
  exact ⟨_,h2,rr,h1,rfl,h3.from ((Below.refl _ _).drew)⟩
 have HV1:Hid (∀ v W,C [v] W→∃ rr:ST × Int,WriteR g F 0 R.S (wEnt b data nx) rr∧v= .int .i64 rr.2∧DrvTo w3 (Bd.of N) p q pw g F 0 rr.1 ea ec W):=by subst hC; exact fun _ _ h=>h
 have f2:∀ t:HeldC C,t.w.cell? ⟨r,2,none⟩=some (.pointer (some ⟨p,0,none⟩)):=fun t=>(HKD.out _ (hall t)).1
 have fw:=fun t:HeldC C=>(cells10w (HKD.out _ (hall t)).2).1
 have g0:=fun t:HeldC C=>(fw t).1
 have g1:=fun t:HeldC C=>(fw t).2.1
 have g2:=fun t:HeldC C=>(fw t).2.2.1
 have g3:=fun t:HeldC C=>(fw t).2.2.2.1
 have g4:=fun t:HeldC C=>(fw t).2.2.2.2.1
 have g5:=fun t:HeldC C=>(fw t).2.2.2.2.2.1
 have g6:=fun t:HeldC C=>(fw t).2.2.2.2.2.2.1
 have g7:=fun t:HeldC C=>(fw t).2.2.2.2.2.2.2.1
 have g8:=fun t:HeldC C=>(fw t).2.2.2.2.2.2.2.2.1
 have hne:Nonempty (HeldC C):=⟨⟨[],_,HC0.out⟩⟩
 clear hC hall HWR fw
 go_wp2_with fail
 refine wp_region_chain C [9] [9] (by kernel_rfl) (by kernel_rfl) (by kernel_rfl) (by kernel_rfl) HC0.out ?_
 repeat (refine wpCh_n (by rfl) (by rfl) ?_; go_big_quiet_step (fail); refine wpQuiet_nil ?_)
 refine wpCh_l (f:=19) (args:=#[.pointer (some ⟨p,0,none⟩),.int .i64 (b:Int),.int .u64 nx,.agg #[.int .u8 data,.int .u8 (nx % 256),.int .u8 0,.int .u8 0,.int .u8 0,.int .u8 0,.int .u8 0,.int .u8 0]]) (by rfl) (by rfl) (fun W=>by simp [go_sem]) (fun W hW=>HK1.out W hW) (fun v W hW=>?_)
 obtain ⟨⟨S',er⟩,_,rfl,_⟩:=HV1.out v W hW
 go_big_quiet_step (fail)
 refine wpQuiet_nil ?_
 repeat (refine wpCh_n (by rfl) (by rfl) ?_; go_big_quiet_step (fail); refine wpQuiet_nil ?_)
 refine wpCh_nil ?_
 intro w4 hw4
 obtain ⟨⟨S2,er2⟩,hwr,he4,BA4,bc4,hd4,hk4⟩:=HV1.out _ w4 hw4
 injection he4 with _ he4
 simp only at he4
 subst he4
 have HX:=Lib.hid (HP.out er S2 w4 hwr ⟨p,ha,hc,fa,fc,hs',HR3.out.drive ⟨ea,ec,BA4,bc4,hd4⟩ hk4⟩ (HK3.out.trans (hk4.sub drt_rgt)))
 clear hw4 hwr hd4 hk4 HV1 HK1 HC0 HKD f2 g0 g1 g2 g3 g4 g5 g6 g7 g8 hne
 go_wp2
 exact HX.out
end
end Go.Proofs.YtggkengmlkhdiaaGreat
