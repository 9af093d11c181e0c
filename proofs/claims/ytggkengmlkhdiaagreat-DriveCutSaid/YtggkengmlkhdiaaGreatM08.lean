/-
  WHAT IS SHOWN: what Write of disk returns and leaves. what sameMedia and same of tegulalaw12 return: true where a cache and one of the reference agree. what NewPower, Arm, Off and New of disk return and leave, and the methods that only read. what awake of tegulalaw14 returns. No condition. what the reading methods of disk return, and New where it returns ErrArg. what Acquire, Restart, Kill, Dead and On of disk return and leave. what the closures of Flush and Erase of disk return and leave, and perform with them. Conditions: as each theorem names them.
-/
import Derived.Test.YtggkengmlkhdiaaGreatM07
import Derived.Test.YtggkengmlkhdiaaGreatM04
import Derived.Lib.SmallJoins
namespace Go.Proofs.YtggkengmlkhdiaaGreat
set_option linter.unusedVariables false
open Go.RowKit
section
variable {w w':World} {B:Bd} {q pw:Nat} {g:Geo} {F:List Flt} {s:DS} {P:Pow} {LM:List Sec} {O:List OpV}
def dWrE (F:List Flt) (s:DS) (P:Pow) (LM:List Sec) (key a:Int) (xs:List Int):Int:=if (begD F s P key).er=0 then wrE LM a xs else (begD F s P key).er
def dWrS (F:List Flt) (s:DS) (P:Pow) (LM:List Sec) (key a:Int) (xs:List Int):DS:=if (begD F s P key).er=0 then wrS LM a xs (begD F s P key).s else (begD F s P key).s
def dWrLM (g:Geo) (F:List Flt) (s:DS) (P:Pow) (LM:List Sec) (O:List OpV) (key a:Int) (xs:List Int) (force:Bool):List Sec:=if (begD F s P key).er=0 then wrLM g LM O a xs force (begD F s P key).f else LM
def dWrO (g:Geo) (F:List Flt) (s:DS) (P:Pow) (LM:List Sec) (O:List OpV) (key a:Int) (xs:List Int) (force:Bool):List OpV:=if (begD F s P key).er=0 then wrO g LM O a xs force (begD F s P key).f else O
def DWritePost (w:World) (B:Bd) (q pw:Nat) (g:Geo) (F:List Flt) (s:DS) (P:Pow) (LM:List Sec) (O:List OpV) (key a:Int) (xs:List Int) (force:Bool) (e:Ending) (w':World):Prop:=
 e= .returned (.int .i64 (dWrE F s P LM key a xs))∧DPm w' B q pw g F (dWrS F s P LM key a xs) (begD F s P key).P (dWrLM g F s P LM O key a xs force) (dWrO g F s P LM O key a xs force)∧KeptT DAT B w w'
theorem wrLM_len (g:Geo) (LM:List Sec) (O:List OpV) (a:Int) (xs:List Int) (force:Bool) (f:Flt):(wrLM g LM O a xs force f).length=LM.length:=by
 unfold wrLM; split
 ·exact playL_len _ _ _
 ·rfl
theorem wrLM_short {g:Geo} {LM:List Sec} (O:List OpV) (a:Int) (xs:List Int) (force:Bool) (f:Flt) (h:ShortB LM):ShortB (wrLM g LM O a xs force f):=by
 unfold wrLM; split
 ·exact short_play _ h
 ·exact h
set_option maxRecDepth 100000 in
set_option maxHeartbeats 2000000 in
theorem dwrite_any (key a:Int) (xs:List Int) (force:Bool) (A:Option Addr) (c:Nat) (h:DPm w B q pw g F s P LM O) (hn:F.length≤9223372036854775807) (hon:O.length≤99000) (hai:I64 a) (hfi:I64 (begD F s P key).f.to_) (hr:∀ W,KeptT DPT B w W→Rd W W.heap.size A (xs.map (Value.int .u8))) (hx:xs.length≤100000) (hc:xs.length≤c):
  Calls Tryz.prog 112 #[.pointer (some ⟨q,0,none⟩),.int .u64 key,.int .i64 a,.slice A xs.length c,.bool force] w (DWritePost w B q pw g F s P LM O key a xs force):=by
 obtain ⟨⟨p,FA,fc,hd⟩,hp,hf,hs,hB⟩:=h
 have hb0:Below w.heap.size w ((((w.alloc (.cells #[.pointer (some ⟨q,0,none⟩)] 54)).alloc (.cells #[.int .i64 a] 3)).alloc (.cells #[.slice A xs.length c] 65)).alloc (.cells #[.bool force] 4)):=((((Below.refl _ _).alloc (Nat.le_refl _) _).alloc (by simp) _).alloc (by first | (simp; done) | (simp; omega)) _).alloc (by first | (simp; done) | (simp; omega)) _
 have o0:((((w.alloc (.cells #[.pointer (some ⟨q,0,none⟩)] 54)).alloc (.cells #[.int .i64 a] 3)).alloc (.cells #[.slice A xs.length c] 65)).alloc (.cells #[.bool force] 4)).heap[w.heap.size]?=some (.cells #[.pointer (some ⟨q,0,none⟩)] 54 (0,0)):=by
  rw [belObj (B:=w.heap.size+1) (w:=w.alloc (.cells #[.pointer (some ⟨q,0,none⟩)] 54)) ((((Below.refl _ _).alloc (by simp) _).alloc (by simp) _).alloc (by first | (simp; done) | (simp; omega)) _) (heap_alloc_new w _) (by omega)]
 have o1:((((w.alloc (.cells #[.pointer (some ⟨q,0,none⟩)] 54)).alloc (.cells #[.int .i64 a] 3)).alloc (.cells #[.slice A xs.length c] 65)).alloc (.cells #[.bool force] 4)).heap[w.heap.size+1]?=some (.cells #[.int .i64 a] 3 (0,0)):=by
  have:=heap_alloc_new (w.alloc (.cells #[.pointer (some ⟨q,0,none⟩)] 54)) (.cells #[.int .i64 a] 3)
  rw [World.size_alloc] at this
  rw [belObj (B:=w.heap.size+2) (w:=(w.alloc (.cells #[.pointer (some ⟨q,0,none⟩)] 54)).alloc (.cells #[.int .i64 a] 3)) (((Below.refl _ _).alloc (by simp) _).alloc (by simp) _) this (by omega)]
 have o2:((((w.alloc (.cells #[.pointer (some ⟨q,0,none⟩)] 54)).alloc (.cells #[.int .i64 a] 3)).alloc (.cells #[.slice A xs.length c] 65)).alloc (.cells #[.bool force] 4)).heap[w.heap.size+1+1]?=some (.cells #[.slice A xs.length c] 65 (0,0)):=by
  have:=heap_alloc_new ((w.alloc (.cells #[.pointer (some ⟨q,0,none⟩)] 54)).alloc (.cells #[.int .i64 a] 3)) (.cells #[.slice A xs.length c] 65)
  rw [World.size_alloc,World.size_alloc] at this
  rw [belObj (B:=w.heap.size+3) (w:=((w.alloc (.cells #[.pointer (some ⟨q,0,none⟩)] 54)).alloc (.cells #[.int .i64 a] 3)).alloc (.cells #[.slice A xs.length c] 65)) ((Below.refl _ _).alloc (by simp) _) this (by omega)]
 have o3:((((w.alloc (.cells #[.pointer (some ⟨q,0,none⟩)] 54)).alloc (.cells #[.int .i64 a] 3)).alloc (.cells #[.slice A xs.length c] 65)).alloc (.cells #[.bool force] 4)).heap[w.heap.size+1+1+1]?=some (.cells #[.bool force] 4 (0,0)):=by
  have:=heap_alloc_new (((w.alloc (.cells #[.pointer (some ⟨q,0,none⟩)] 54)).alloc (.cells #[.int .i64 a] 3)).alloc (.cells #[.slice A xs.length c] 65)) (.cells #[.bool force] 4)
  rw [World.size_alloc,World.size_alloc,World.size_alloc] at this
  exact this
 generalize hw3:((((w.alloc (.cells #[.pointer (some ⟨q,0,none⟩)] 54)).alloc (.cells #[.int .i64 a] 3)).alloc (.cells #[.slice A xs.length c] 65)).alloc (.cells #[.bool force] 4))=w3 at *
 have hd3:=hd.below0 hb0
 have hp3:=hp.below0 hb0
 have HPF:=writeperf_any (LM:=LM) (O:=O) (FA:=FA) (fc:=fc) key w.heap.size (w.heap.size+1) (w.heap.size+1+1) (w.heap.size+1+1+1)
  (fun er w'=>er=wrE LM a xs∧Dsk w' B q pw g F (wrS LM a xs (begD F s P key).s) (wrLM g LM O a xs force (begD F s P key).f) (wrO g LM O a xs force (begD F s P key).f) p FA fc∧PowM w' B pw (begD F s P key).P∧KeptT DAT B w w')
  hd3.obj hd3.px hp3 (KeptT.bel hb0) hd.c hd.fl hn (Nat.le_trans hB hb0.size) (fun W hm hk he=>by
   have hrW:Rd W W.heap.size A (xs.map (Value.int .u8)):=by
    exact hr W ((KeptT.bel hb0).trans hk)
   refine (writecl_any (begD F s P key).f a xs force A c w.heap.size (w.heap.size+1) (w.heap.size+1+1) (w.heap.size+1+1+1) _ _ _ _ (Dsk.of hm.o hm.x hd.c hd.fl hm.k) hf (Nat.le_trans hB hm.k.size) hon hai hfi hrW hx hc (Kept.obj hk o0 (KeptT.no (IsT.of o0) (by unfold DPT; decide))) (Kept.obj hk o1 (KeptT.no (IsT.of o1) (by unfold DPT; decide))) (Kept.obj hk o2 (KeptT.no (IsT.of o2) (by unfold DPT; decide))) (Kept.obj hk o3 (KeptT.no (IsT.of o3) (by unfold DPT; decide)))).mono ?_
   rintro e w' ⟨rfl,hdd,hkw⟩
   exact ⟨_,rfl,rfl,hdd,hm.p.keptT hkw (by unfold DT; decide),(hm.k.sub dpt_dat).trans (hkw.sub dt_dat)⟩)
 have HMD:Hid (∀ W s' P',Mid w W B q pw g F.length fc p FA s' P'→DPm W B q pw g F s' P' LM O∧KeptT DAT B w W):=by
  unfold Hid; intro W s' P' hm
  exact ⟨⟨⟨p,FA,fc,Dsk.of hm.o hm.x hd.c hd.fl hm.k⟩,hm.p,hf,hs,Nat.le_trans hB hm.k.size⟩,hm.k.sub dpt_dat⟩
 have HF2:=Lib.hid hf
 have HS2:=Lib.hid hs
 have HP:=Lib.hid HPF
 subst hw3
 clear HPF hd hp hf hs hd3 hp3 o0 o1 o2 o3 hr
 by_cases he:(begD F s P key).er=0
 ·have HE:Hid (dWrE F s P LM key a xs=wrE LM a xs):=by unfold Hid dWrE; rw [if_pos he]
  have HDS:Hid (dWrS F s P LM key a xs=wrS LM a xs (begD F s P key).s):=by unfold Hid dWrS; rw [if_pos he]
  have HDL:Hid (dWrLM g F s P LM O key a xs force=wrLM g LM O a xs force (begD F s P key).f):=by unfold Hid dWrLM; rw [if_pos he]
  have HDO:Hid (dWrO g F s P LM O key a xs force=wrO g LM O a xs force (begD F s P key).f):=by unfold Hid dWrO; rw [if_pos he]
  have HE0:=Lib.hid he
  clear he
  go_enter Tryz.func112,Tryz.ntmps112
  go_wp2_with fail
  refine HP.out.mono ?_
  intro e w1 hpp
  unfold PerfPost at hpp
  rw [if_pos HE0.out] at hpp
  obtain ⟨er,rfl,rfl,hdd,hpw,hk'⟩:=hpp
  have HMM:=Lib.hid (show DPm w1 B q pw g F (wrS LM a xs (begD F s P key).s) (begD F s P key).P (wrLM g LM O a xs force (begD F s P key).f) (wrO g LM O a xs force (begD F s P key).f) from ⟨⟨p,FA,fc,hdd⟩,hpw,HF2.out.len (wrLM_len _ _ _ _ _ _ _),wrLM_short _ _ _ _ _ HS2.out,Nat.le_trans hB hk'.size⟩)
  clear hdd hpw
  go_wp2
  go_ret
  exact ⟨by rw [HE.out]; rfl,by rw [HDS.out,HDL.out,HDO.out]; exact HMM.out,hk'⟩
 ·have HE:Hid (dWrE F s P LM key a xs=(begD F s P key).er):=by unfold Hid dWrE; rw [if_neg he]
  have HDS:Hid (dWrS F s P LM key a xs=(begD F s P key).s):=by unfold Hid dWrS; rw [if_neg he]
  have HDL:Hid (dWrLM g F s P LM O key a xs force=LM):=by unfold Hid dWrLM; rw [if_neg he]
  have HDO:Hid (dWrO g F s P LM O key a xs force=O):=by unfold Hid dWrO; rw [if_neg he]
  have HE0:=Lib.hid he
  clear he
  go_enter Tryz.func112,Tryz.ntmps112
  go_wp2_with fail
  refine HP.out.mono ?_
  intro e w1 hpp
  unfold PerfPost at hpp
  rw [if_neg HE0.out] at hpp
  obtain ⟨rfl,hm,hkw⟩:=hpp
  have HMM:=Lib.hid (HMD.out w1 _ _ hm)
  clear hm hkw
  go_wp2
  go_ret
  exact ⟨by rw [HE.out]; rfl,by rw [HDS.out,HDL.out,HDO.out]; exact HMM.out.1,HMM.out.2⟩
end
end Go.Proofs.YtggkengmlkhdiaaGreat
namespace Go.Proofs.YtggkengmlkhdiaaGreat
set_option linter.unusedVariables false
open Go.RowKit
section
variable {w w':World} {S:Nat→Prop} {B:Bd} {p:Nat} {g:Geo} {LM:List Sec} {ops:List OpV}
theorem CacheM.mono {B':Bd} (h:CacheM w B p g LM ops) (hB:Bd.Sub w.heap.size B B'):CacheM w B' p g LM ops:=by
 obtain ⟨m1,b1,m2,b2,A,c,F,h⟩:=h
 exact ⟨m1,b1,m2,b2,A,c,F,own_mono h.obj hB.1,(hB.2 _ h.lt h.low).2,fun k e=>(hB.2 _ (h.typA k e).1.lt (h.typA k e).2).2,hB.2 _ h.med1.types.2.lt h.lb1,hB.2 _ h.med2.types.2.lt h.lb2,h.ne,h.med1,h.med2,own_mono h.own hB.1,h.fn⟩
end
end Go.Proofs.YtggkengmlkhdiaaGreat
namespace Go.Proofs.YtggkengmlkhdiaaGreat
set_option linter.unusedVariables false
open Go.RowKit
section
variable {w w':World} {B:Bd} {q pw:Nat} {g:Geo} {F:List Flt} {s:DS} {P:Pow} {LM:List Sec} {O:List OpV}
theorem newpower_any (w:World):Calls Tryz.prog 43 #[] w fun e w'=>∃ pw,e= .returned (.pointer (some ⟨pw,0,none⟩))∧PowM w' (Bd.of w.heap.size) pw ⟨false,false,0,0⟩∧Below w.heap.size w w':=by
 have hr:=World.ownsRow_lit (base:=w.heap.size) (e:=132) (size:=4) w #[.bool false,.bool false,.int .i64 0,.int .i64 0] 1 (Nat.le_refl _) (by decide) rfl
 have HR:=Lib.hid hr
 clear hr
 go_enter Tryz.func43,Tryz.ntmps43
 go_wp2
 go_ret
 exact ⟨_,rfl,⟨HR.out,fun h=>h⟩,(Below.refl _ _).alloc (Nat.le_refl _) _⟩
def armP (P:Pow) (n:Int):Pow:=if P.off then P else ⟨P.off,decide (0≤n),n,P.fails⟩
set_option maxHeartbeats 1000000 in
theorem arm_any (n:Int) (hp:PowM w B pw P):Calls Tryz.prog 64 #[.pointer (some ⟨pw,0,none⟩),.int .i64 n] w fun e w'=>e= .returned (.tuple #[])∧PowM w' B pw (armP P n)∧KeptT [132] B w w':=by
 obtain ⟨p0,p1,p2,p3⟩:=hp.cells
 have f0:=hp.obj.frozenAt 0
 have f1:=hp.obj.frozenAt 1
 have f2:=hp.obj.frozenAt 2
 obtain ⟨off,armed,left,fails⟩:=P
 simp only at p0 p1 p2 p3
 cases off
 ·obtain ⟨hp1,hk1⟩:=hp.store 1 (.bool (decide (0≤n))) ⟨false,decide (0≤n),left,fails⟩ rfl
  obtain ⟨hp2,hk2⟩:=hp1.store 2 (.int .i64 n) ⟨false,decide (0≤n),n,fails⟩ rfl
  have HP:=Lib.hid hp2
  have HK:=Lib.hid (hk1.trans hk2)
  clear hp hp1 hp2 hk1 hk2
  go_enter Tryz.func64,Tryz.ntmps64
  go_wp2
  go_end0
  exact ⟨rfl,HP.out,HK.out⟩
 ·have HP:=Lib.hid hp
  clear hp
  go_enter Tryz.func64,Tryz.ntmps64
  go_wp2
  first | go_end0 | refine bodyPost_ret (results_none rfl _ _ _) rfl ?_
  exact ⟨rfl,HP.out,KeptT.refl _ _ _⟩
theorem off_any (hp:PowM w B pw P):Calls Tryz.prog 65 #[.pointer (some ⟨pw,0,none⟩)] w fun e w'=>e= .returned (.bool P.off)∧w=w':=by
 obtain ⟨p0,_,_,_⟩:=hp.cells
 clear hp
 go_enter Tryz.func65,Tryz.ntmps65
 go_wp2
 go_ret
 exact ⟨rfl,rfl⟩
theorem info_flt:(Tryz.prog.info? 49).map (fun i=>(i.zero,i.size,i.bytes))=some (some (.agg #[.int .i64 0,.int .i64 0,.int .i64 0]),3,24):=by kernel_rfl
theorem flatF_one (l:List Flt):∀ u∈flatF l,u.oneCell'=true:=by
 intro u hu
 obtain ⟨o,_,hu⟩:=List.mem_flatMap.1 hu
 simp [Flt.cells] at hu
 rcases hu with rfl | rfl | rfl <;> rfl
theorem flatF_len (l:List Flt):(flatF l).length=l.length * 3:=flat_len Flt.cells 3 fltcells_len l
set_option maxRecDepth 100000 in
set_option maxHeartbeats 400000 in
theorem clonefl_any (l:List Flt) (A:Option Addr) (c:Nat) (w:World) (hr:Rd w w.heap.size A (flatF l)) (hn:l.length * 24≤140737488355328):
  Calls Tryz.prog 86 #[.slice A l.length c] w fun e w'=>∃ A' c',e= .returned (.slice A' l.length c')∧RdT w' 49 A' (flatF l)∧Below w.heap.size w w':=by
 obtain ⟨i0,hi,hz0,hz1,hz2⟩:=info_parts info_flt
 have hnil:=fun (w:World) a n c=>Lib.run_eql_slice_nil (P:=Tryz.prog) w 43 49 a n c 0 0 Tryz.underlying43
 cases A with
 | none=>
   have hx:=hr.at_none
   obtain rfl:l=[]:=by cases l; rfl; simp [flatF,Flt.cells] at hx
   go_enter Tryz.func86,Tryz.ntmps86
   go_wp2
   go_ret
   exact ⟨none,0,rfl,RdT.nil _ _ _,Below.refl _ _⟩
 | some a=>
   have hro:=World.ownsRow_lit (base:=w.heap.size) (e:=49) (size:=3) w #[] 0 (Nat.le_refl _) (by decide) rfl
   have hla:=hr.alloc (Nat.le_refl _) (.cells #[] 49)
   go_enter Tryz.func86,Tryz.ntmps86
   go_wp2_with (at_builtin; refine wpList_append_own _ rfl _ _ 43 rfl w.heap.size 49 i0 _ 3 24 Tryz.underlying43 hi hz0 hz1 hz2 rfl (by decide) _ 0 [] rfl hro a l.length c (flatF l) rfl (flatF_len l) hla.at_add (flatF_one l) (by unfold maxLen; omega) (by omega) (by simp) ?_)
   intro v' w' hown hgrow hiff
   try simp only [Nat.zero_add,List.nil_append] at hown
   obtain ⟨A',c',hv⟩:=own_form hown
   subst hv
   go_wp2
   go_ret
   exact ⟨A',c',rfl,RdT.of_own hown,((Below.refl _ _).alloc (Nat.le_refl _) _).grown hgrow (by simp) (fun k hk=>by simp [Value.ownBlock] at hk; omega)⟩
def newS (P:Pow):DS:=⟨0,0,0,0,0,P.fails,0,false⟩
def DNewPost (w:World) (B:Bd) (pw:Nat) (g:Geo) (F:List Flt) (P:Pow) (e:Ending) (w':World):Prop:=
 ∃ q,e= .returned (.tuple #[.pointer (some ⟨q,0,none⟩),.int .i64 0])∧DPm w' B q pw g F (newS P) P (blankL g) []∧Below w.heap.size w w'
set_option maxRecDepth 100000 in
set_option maxHeartbeats 2000000 in
theorem dnew_yes (l:List Flt) (A:Option Addr) (c:Nat) (hv:validG g=true) (hvl:validF l=true) (hr:Rd w w.heap.size A (flatF l)) (hn:l.length * 24≤140737488355328) (hp:PowM w B pw P) (hB:B.top≤w.heap.size):
  Calls Tryz.prog 44 #[.agg #[.int .i64 g.random,.int .i64 g.bands,.int .i64 g.tracks,.int .i64 g.sectors,.int .i64 g.overlap],.slice A l.length c,.pointer (some ⟨pw,0,none⟩)] w (DNewPost w B pw g l P):=by
 have HF:=Lib.hid (blank_fit ((validG_iff g).1 hv))
 have HN:=Lib.hid (fun W=>new_yes g hv W)
 have hb0:Below w.heap.size w (w.alloc (.cells #[.int .i64 g.random,.int .i64 g.bands,.int .i64 g.tracks,.int .i64 g.sectors,.int .i64 g.overlap] 42)):=(Below.refl _ _).alloc (Nat.le_refl _) _
 have HFV:Hid (∀ W,Below w.heap.size w W→Calls Tryz.prog 84 #[.slice A l.length c] W fun e w'=>e= .returned (.bool true)∧Below W.heap.size W w'):=by
  unfold Hid; intro W hW; have:=fvalid_any l A c W ((hr.below hW (Nat.le_refl _)).more hW.size) (by omega); rw [hvl] at this; exact this
 have HCL:Hid (∀ W,Below w.heap.size w W→Calls Tryz.prog 86 #[.slice A l.length c] W fun e w'=>∃ A' c',e= .returned (.slice A' l.length c')∧RdT w' 49 A' (flatF l)∧Below W.heap.size W w'):=by
  unfold Hid; intro W hW; exact clonefl_any l A c W ((hr.below hW (Nat.le_refl _)).more hW.size) hn
 have HPW:Hid (∀ W,Below w.heap.size w W→PowM W B pw P∧W.cell? ⟨pw,3,none⟩=some (.int .i64 P.fails)):=by
  unfold Hid; intro W hW; exact ⟨hp.below0 hW,(hp.below0 hW).cells.2.2.2⟩
 have hlp:=(IsT.own hp.obj).lt
 have pw0:=hp.cells.2.2.2
 clear hv hvl hr hp
 go_enter Tryz.func44,Tryz.ntmps44
 go_wp2_with fail
 refine (HN.out _).mono ?_
 rintro e w1 ⟨m,bs,rfl,hm,hmb,hbb,hb1⟩
 have HM:=Lib.hid hm
 have PG:=(Cells5.new w 42 (.int .i64 g.random) (.int .i64 g.bands) (.int .i64 g.tracks) (.int .i64 g.sectors) (.int .i64 g.overlap)).below hb1 (by simp)
 have hbl1:=hb0.trans (hb1.mono hb0.size)
 clear hm
 go_wp2_with fail
 refine (HFV.out _ hbl1).mono ?_
 rintro e w2 ⟨rfl,hb2⟩
 have hbl2:=hbl1.trans (hb2.mono hbl1.size)
 have hz1:w.heap.size < w1.heap.size:=by have:=hb1.size; simp at this; omega
 have PG2:=PG.below hb2 hz1
 have hz2:w.heap.size < w2.heap.size:=Nat.lt_of_lt_of_le hz1 hb2.size
 have HM2:=Lib.hid (HM.out.below0 hb2)
 have p0:=PG2.c0; have p1:=PG2.c1; have p2:=PG2.c2; have p3:=PG2.c3; have p4:=PG2.c4
 have r3:=(HPW.out w2 hbl2).2
 have hlp2:pw < w2.heap.size:=Nat.lt_of_lt_of_le hlp hbl2.size
 have HCN:Hid (∀ W,Below w2.heap.size w2 W→Calls Tryz.prog 85 #[.pointer (some ⟨m,0,none⟩)] W (CNewPost W g (blankL g) [])):=by
  unfold Hid; intro W hW; exact cnew_any (HM2.out.below0 hW) HF.out
 clear PG PG2 pw0
 go_wp2
 go_region_held3 (fun W=>W.cell? ⟨w.heap.size,0,none⟩=some (.int .i64 g.random)∧W.cell? ⟨w.heap.size,1,none⟩=some (.int .i64 g.bands)∧W.cell? ⟨w.heap.size,2,none⟩=some (.int .i64 g.tracks)∧W.cell? ⟨w.heap.size,3,none⟩=some (.int .i64 g.sectors)∧W.cell? ⟨w.heap.size,4,none⟩=some (.int .i64 g.overlap)∧W.cell? ⟨pw,3,none⟩=some (.int .i64 P.fails))
  (first | (refine ⟨?_,?_,?_,?_,?_,?_⟩ <;> assumption) | (simp (maxDischargeDepth:=20) [World.cell?_alloc_some, *]; done))
  ((first
    | (go_at_call 85
       refine (HCN.out _ ((Below.refl w2.heap.size w2).drew)).mono ?_
       rintro e w3 ⟨p,rfl,hp3,hb3⟩
       have hw3:Below w2.heap.size w2 w3:=((Below.refl w2.heap.size w2).drew).trans hb3
       have HP3:=Lib.hid hp3
       have q0:=(hw3.cell (p:=⟨w.heap.size,0,none⟩) hz2).trans p0
       have q1:=(hw3.cell (p:=⟨w.heap.size,1,none⟩) hz2).trans p1
       have q2:=(hw3.cell (p:=⟨w.heap.size,2,none⟩) hz2).trans p2
       have q3:=(hw3.cell (p:=⟨w.heap.size,3,none⟩) hz2).trans p3
       have q4:=(hw3.cell (p:=⟨w.heap.size,4,none⟩) hz2).trans p4
       have q5:=(hw3.cell (p:=⟨pw,3,none⟩) hlp2).trans r3)
    | (go_at_call 86
       refine (HCL.out _ (hbl2.trans (hw3.mono hbl2.size))).mono ?_
       rintro e w4 ⟨A4,c4,rfl,hr4,hb4⟩
       have hw4:Below w2.heap.size w2 w4:=hw3.trans (hb4.mono hw3.size)
       have HR4:=Lib.hid hr4
       have q0':=(hw4.cell (p:=⟨w.heap.size,0,none⟩) hz2).trans p0
       have q1':=(hw4.cell (p:=⟨w.heap.size,1,none⟩) hz2).trans p1
       have q2':=(hw4.cell (p:=⟨w.heap.size,2,none⟩) hz2).trans p2
       have q3':=(hw4.cell (p:=⟨w.heap.size,3,none⟩) hz2).trans p3
       have q4':=(hw4.cell (p:=⟨w.heap.size,4,none⟩) hz2).trans p4
       have q5':=(hw4.cell (p:=⟨pw,3,none⟩) hlp2).trans r3
       clear hr4)))
 have hw24:Below w.heap.size w w4:=hbl2.trans (hw4.mono hbl2.size)
 have HD:Hid (DPm (w4.alloc (.cells #[.int .i64 0,.int .i64 0,.int .i64 0,.int .i64 0,.int .i64 0,.int .i64 g.random,.int .i64 g.bands,.int .i64 g.tracks,.int .i64 g.sectors,.int .i64 g.overlap,.pointer (some ⟨p,0,none⟩),.slice A4 l.length c4,.pointer (some ⟨pw,0,none⟩),.int .i64 P.fails,.int .u64 0,.bool false] 109)) B w4.heap.size pw g l (newS P) P (blankL g) []):=by
  unfold Hid
  have hb9:Below w4.heap.size w4 (w4.alloc (.cells #[.int .i64 0,.int .i64 0,.int .i64 0,.int .i64 0,.int .i64 0,.int .i64 g.random,.int .i64 g.bands,.int .i64 g.tracks,.int .i64 g.sectors,.int .i64 g.overlap,.pointer (some ⟨p,0,none⟩),.slice A4 l.length c4,.pointer (some ⟨pw,0,none⟩),.int .i64 P.fails,.int .u64 0,.bool false] 109)):=(Below.refl _ _).alloc (Nat.le_refl _) _
  refine ⟨⟨p,A4,c4,⟨?_,Bd.nx (Nat.le_trans hB hw24.size),?_,HR4.out.below0 hb9⟩⟩,(HPW.out w4 hw24).1.below0 hb9,HF.out,short_blank _,Nat.le_trans hB (hw24.trans (hb9.mono hw24.size)).size⟩
  ·exact World.ownsRow_lit (base:=B.n) (e:=109) (size:=16) w4 _ 1 (Nat.le_trans B.le (Nat.le_trans hB hw24.size)) (by decide) rfl
  ·exact ((HP3.out.below0 hb4).below0 hb9).mono (Bd.subOf (Nat.le_trans hB hbl2.size))
 rename_i hheld
 clear hheld q0 q1 q2 q3 q4 q5 q0' q1' q2' q3' q4' q5' p0 p1 p2 p3 p4 r3
 go_wp2
 go_ret2
 exact ⟨_,rfl,HD.out,hw24.alloc hw24.size _⟩
end
end Go.Proofs.YtggkengmlkhdiaaGreat
namespace Go.Proofs.YtggkengmlkhdiaaGreat
set_option linter.unusedVariables false
open Go.RowKit
def gD:Geo:=⟨2,1,1,1,0⟩
def fD:List Flt:=[⟨1,1,0⟩]
def P0:Pow:=⟨false,false,0,0⟩
def s0:DS:=newS P0
def L0:List Sec:=blankL gD
def P1:Pow:=(begD fD s0 P0 0).P
def s1:DS:=dWrS fD s0 P0 L0 0 0 [120]
def L1:List Sec:=dWrLM gD fD s0 P0 L0 [] 0 0 [120] false
def O1:List OpV:=dWrO gD fD s0 P0 L0 [] 0 0 [120] false
def P2:Pow:=(begD fD s1 P1 0).P
def s2:DS:=dWrS fD s1 P1 L1 0 0 [121]
def L2:List Sec:=dWrLM gD fD s1 P1 L1 O1 0 0 [121] false
def O2:List OpV:=dWrO gD fD s1 P1 L1 O1 0 0 [121] false
def X2:List Sec:=playL gD L2 O2
def P3:Pow:=(begD fD s2 P2 0).P
def s3:DS:=dRdS fD s2 P2 L2 X2 0 0
def P4:Pow:=armP P3 1
def P5:Pow:=(begD fD s3 P4 0).P
def s5:DS:=dRdS fD s3 P4 L2 X2 0 0
def P6:Pow:=(begD fD s5 P5 0).P
def DW (w:World) (B:Bd) (q pw:Nat) (s:DS) (P:Pow) (L:List Sec) (O:List OpV):Prop:=DPm w B q pw gD fD s P L O
end Go.Proofs.YtggkengmlkhdiaaGreat
namespace Go.Proofs.YtggkengmlkhdiaaGreat
set_option linter.unusedVariables false
open Go.RowKit
section
variable {w w':World} {B:Bd} {q pw:Nat} {g:Geo} {F:List Flt} {s:DS} {P:Pow} {LM:List Sec} {O:List OpV}
theorem dgeo_any (h:DPm w B q pw g F s P LM O):Calls Tryz.prog 57 #[.pointer (some ⟨q,0,none⟩)] w fun e w'=>e= .returned (.agg #[.int .i64 g.random,.int .i64 g.bands,.int .i64 g.tracks,.int .i64 g.sectors,.int .i64 g.overlap])∧Below w.heap.size w w':=by
 obtain ⟨⟨p,FA,fc,hd⟩,_⟩:=h
 have hb0:Below w.heap.size w (w.alloc (.cells #[.int .i64 0,.int .i64 0,.int .i64 0,.int .i64 0,.int .i64 0] 42)):=(Below.refl _ _).alloc (Nat.le_refl _) _
 have h':=hd.below0 hb0
 have c5:=(h'.cell 5 (by decide)).trans (show _=some (Value.int .i64 g.random) from rfl)
 have c6:=(h'.cell 6 (by decide)).trans (show _=some (Value.int .i64 g.bands) from rfl)
 have c7:=(h'.cell 7 (by decide)).trans (show _=some (Value.int .i64 g.tracks) from rfl)
 have c8:=(h'.cell 8 (by decide)).trans (show _=some (Value.int .i64 g.sectors) from rfl)
 have c9:=(h'.cell 9 (by decide)).trans (show _=some (Value.int .i64 g.overlap) from rfl)
 clear hd h'
 go_enter Tryz.func57,Tryz.ntmps57
 go_wp2
 exact bodyPost_ret (v:=.agg #[.int .i64 g.random,.int .i64 g.bands,.int .i64 g.tracks,.int .i64 g.sectors,.int .i64 g.overlap]) (by simp [results,Tryz.results57,go_sem]) rfl ⟨rfl,(Below.refl _ _).alloc (Nat.le_refl _) _⟩
end
end Go.Proofs.YtggkengmlkhdiaaGreat
namespace Go.Proofs.YtggkengmlkhdiaaGreat
set_option linter.unusedVariables false
open Go.RowKit
section
variable {w w':World} {B:Bd} {q pw:Nat} {g:Geo} {F:List Flt} {s:DS} {P:Pow} {LM:List Sec} {O:List OpV}
def acqS (s:DS) (P:Pow) (key:Int):DS:=if stE s P=0 then { s with key:=key } else s
theorem don_any (hp:PowM w B pw P):Calls Tryz.prog 67 #[.pointer (some ⟨pw,0,none⟩)] w fun e w'=>e= .returned (.tuple #[])∧PowM w' B pw { P with off:=false }∧KeptT [132] B w w':=by
 obtain ⟨p0,_,_,_⟩:=hp.cells
 have f0:=hp.obj.frozenAt 0
 have h':=hp.store 0 (.bool false) { P with off:=false } rfl
 have HF:=Lib.hid h'
 clear hp h'
 go_enter Tryz.func67,Tryz.ntmps67
 go_wp2
 go_end0
 exact ⟨rfl,HF.out⟩
def rstE (s:DS) (P:Pow):Int:=if s.dead then 14 else if P.off then 0 else 8
def rstS (s:DS) (P:Pow):DS:=if rstE s P=0 then { s with seen:=P.fails } else s
def rstLM (g:Geo) (s:DS) (P:Pow) (LM:List Sec) (O:List OpV) (keep:Int):List Sec:=if rstE s P=0 then playL g LM (O.take (cutN keep O.length)) else LM
def rstO (s:DS) (P:Pow) (O:List OpV):List OpV:=if rstE s P=0 then [] else O
set_option maxHeartbeats 1000000 in
theorem drestart_any (keep:Int) (h:DPm w B q pw g F s P LM O) (hn:O.length≤100000):Calls Tryz.prog 66 #[.pointer (some ⟨q,0,none⟩),.int .i64 keep] w fun e w'=>e= .returned (.int .i64 (rstE s P))∧DPm w' B q pw g F (rstS s P) P (rstLM g s P LM O keep) (rstO s P O)∧KeptT DAT B w w':=by
 have H0:=Lib.hid h
 obtain ⟨⟨p,FA,fc,hd⟩,hp,hf,hs,hB⟩:=h
 have c10:=(hd.cell 10 (by decide)).trans (show _=some (Value.pointer (some ⟨p,0,none⟩)) from rfl)
 have c12:=(hd.cell 12 (by decide)).trans (show _=some (Value.pointer (some ⟨pw,0,none⟩)) from rfl)
 have c15:=(hd.cell 15 (by decide)).trans (show _=some (Value.bool s.dead) from rfl)
 obtain ⟨p0,_,_,p3⟩:=hp.cells
 have HC:=Lib.hid (ccut_any keep hd.c hf hB hn)
 have HFX:Hid (∀ W,CacheM W B p g (playL g LM (O.take (cutN keep O.length))) []→KeptT CT B w W→(W.cell? ⟨q,12,none⟩=some (.pointer (some ⟨pw,0,none⟩))∧W.cell? ⟨q,13,none⟩=some (.int .i64 s.seen)∧W.frozen? ⟨q,13,none⟩=false∧W.cell? ⟨pw,3,none⟩=some (.int .i64 P.fails))∧
   DPm (W.setCell ⟨q,13,none⟩ (.int .i64 P.fails)) B q pw g F { s with seen:=P.fails } P (playL g LM (O.take (cutN keep O.length))) []∧KeptT DAT B w (W.setCell ⟨q,13,none⟩ (.int .i64 P.fails))):=by
  unfold Hid; intro W hc hk
  have h1:=hd.withC hk hc
  have hp1:=hp.keptT hk (by unfold CT; decide)
  have h2:=h1.store 13 (.int .i64 P.fails) { s with seen:=P.fails } rfl
  exact ⟨⟨(h1.cell 12 (by decide)).trans rfl,(h1.cell 13 (by decide)).trans rfl,h1.free 13,hp1.cells.2.2.2⟩,⟨⟨p,FA,fc,h2.1⟩,hp1.keptT h2.2 (by decide),hf.len (playL_len _ _ _),short_play _ hs,Nat.le_trans hB (Nat.le_trans hk.size h2.2.size)⟩,(hk.sub (by unfold CT DAT; decide)).trans (h2.2.sub (by unfold DAT; decide))⟩
 clear hd hp hf hs
 cases hdd:s.dead
 ·rw [hdd] at c15
  cases ho:P.off
  ·have HE:Hid (rstE s P=8):=by unfold Hid rstE; simp [hdd,ho]
   rw [ho] at p0
   clear hdd ho
   go_enter Tryz.func66,Tryz.ntmps66
   go_wp2
   go_ret
   unfold rstS rstLM rstO
   rw [HE.out]
   exact ⟨rfl,H0.out,KeptT.refl _ _ _⟩
  ·have HE:Hid (rstE s P=0):=by unfold Hid rstE; simp [hdd,ho]
   rw [ho] at p0
   clear hdd ho
   go_enter Tryz.func66,Tryz.ntmps66
   go_wp2_with fail
   refine HC.out.mono ?_
   rintro e w1 ⟨rfl,hc1,hk1⟩
   obtain ⟨⟨d12,d13,f13,e3⟩,hfin⟩:=HFX.out w1 hc1 hk1
   have HF:=Lib.hid hfin
   clear hc1 hk1 c10 c12 c15 p0 p3 hfin
   go_wp2
   go_ret
   unfold rstS rstLM rstO
   rw [HE.out]
   exact ⟨rfl,HF.out⟩
 ·have HE:Hid (rstE s P=14):=by unfold Hid rstE; simp [hdd]
  rw [hdd] at c15
  clear hdd
  go_enter Tryz.func66,Tryz.ntmps66
  go_wp2
  go_ret
  unfold rstS rstLM rstO
  rw [HE.out]
  exact ⟨rfl,H0.out,KeptT.refl _ _ _⟩
end
end Go.Proofs.YtggkengmlkhdiaaGreat
namespace Go.Proofs.YtggkengmlkhdiaaGreat
set_option linter.unusedVariables false
open Go.RowKit
section
variable {w w':World} {B:Bd} {q pw p:Nat} {g:Geo} {F:List Flt} {s:DS} {P:Pow} {LM:List Sec} {O:List OpV} {FA:Option Addr} {fc:Nat}
set_option maxRecDepth 100000 in
set_option maxHeartbeats 2000000 in
theorem flushcl_any (f:Flt) (bd:Nat) (fd:Nat × Nat) (h:Dsk w B q pw g F s LM O p FA fc) (hf:Fit g LM) (hB:B.top≤w.heap.size) (hn:O.length≤99000) (hd:w.heap[bd]?=some (.cells #[.pointer (some ⟨q,0,none⟩)] 54 fd)):
  Calls Tryz.prog 88 #[f.val,.pointer (some ⟨bd,0,none⟩)] w (WriteCl w B q pw g F p FA fc 0 { s with f:=wrap64 (s.f+1) } (playL g LM (O.take O.length)) []):=by
 have hb0:Below w.heap.size w (w.alloc (.cells #[.int .i64 f.at_,.int .i64 f.kind,.int .i64 f.to_] 49)):=(Below.refl _ _).alloc (Nat.le_refl _) _
 have ld:=lt_of_block hd
 have b0:(w.alloc (.cells #[.int .i64 f.at_,.int .i64 f.kind,.int .i64 f.to_] 49)).cell? ⟨bd,0,none⟩=some (.pointer (some ⟨q,0,none⟩)):=by rw [cell_of_row _ _ _ _ _ _ (belObj hb0 hd ld)]; rfl
 have h0:=h.below0 hb0
 have c10:=(h0.cell 10 (by decide)).trans (show _=some (Value.pointer (some ⟨p,0,none⟩)) from rfl)
 have HC:=Lib.hid (cflush_any h0.c hf (Nat.le_trans hB hb0.size) (by omega))
 have HFX:Hid (∀ W,CacheM W B p g (playL g LM (O.take O.length)) []→KeptT CT B (w.alloc (.cells #[.int .i64 f.at_,.int .i64 f.kind,.int .i64 f.to_] 49)) W→(W.cell? ⟨bd,0,none⟩=some (.pointer (some ⟨q,0,none⟩))∧W.cell? ⟨q,3,none⟩=some (.int .i64 s.f)∧W.frozen? ⟨q,3,none⟩=false)∧
   Dsk (W.setCell ⟨q,3,none⟩ (.int .i64 (wrap64 (s.f+1)))) B q pw g F { s with f:=wrap64 (s.f+1) } (playL g LM (O.take O.length)) [] p FA fc∧KeptT DT B w (W.setCell ⟨q,3,none⟩ (.int .i64 (wrap64 (s.f+1))))):=by
  unfold Hid; intro W hc hk
  have h1:=h0.withC hk hc
  have h2:=h1.store 3 (.int .i64 (wrap64 (s.f+1))) { s with f:=wrap64 (s.f+1) } rfl
  have q':=Kept.obj hk (belObj hb0 hd ld) (KeptT.no (IsT.of (belObj hb0 hd ld)) (by unfold CT; decide))
  exact ⟨⟨by rw [cell_of_row _ _ _ _ _ _ q']; rfl,(h1.cell 3 (by decide)).trans rfl,h1.free 3⟩,h2.1,(((KeptT.bel hb0).trans hk).sub ct_dt).trans (h2.2.sub d_dt)⟩
 clear h h0 hf hd
 obtain ⟨fat,fk,fto⟩:=f
 unfold Flt.val
 simp only at *
 go_enter Tryz.func88,Tryz.ntmps88
 go_wp2_with fail
 refine HC.out.mono ?_
 rintro e w1 ⟨rfl,hc1,hk1⟩
 obtain ⟨⟨d0,d3,f3⟩,hfin⟩:=HFX.out w1 hc1 hk1
 have HF:=Lib.hid hfin
 clear hc1 hk1 hfin b0 c10
 go_wp2
 go_ret
 exact ⟨rfl,HF.out⟩
def erO (g:Geo) (LM:List Sec) (O:List OpV) (a:Int):List OpV:=if doE g (playL g LM O) ⟨true,a,[],none,0⟩=0 then O++[⟨true,a,[],none,0⟩] else O
def erS (g:Geo) (LM:List Sec) (O:List OpV) (a:Int) (s:DS):DS:=if doE g (playL g LM O) ⟨true,a,[],none,0⟩=0 then { s with e:=wrap64 (s.e+1) } else s
set_option maxRecDepth 100000 in
set_option maxHeartbeats 2000000 in
theorem erasecl_any (f:Flt) (a:Int) (ha:I64 a) (bd ba:Nat) (fd fa:Nat × Nat) (h:Dsk w B q pw g F s LM O p FA fc) (hf:Fit g LM) (hB:B.top≤w.heap.size) (hn:O.length≤99000) (hd:w.heap[bd]?=some (.cells #[.pointer (some ⟨q,0,none⟩)] 54 fd)) (hba:w.heap[ba]?=some (.cells #[.int .i64 a] 3 fa)):
  Calls Tryz.prog 97 #[f.val,.pointer (some ⟨bd,0,none⟩),.pointer (some ⟨ba,0,none⟩)] w (WriteCl w B q pw g F p FA fc (doE g (playL g LM O) ⟨true,a,[],none,0⟩) (erS g LM O a s) LM (erO g LM O a)):=by
 have hb0:Below w.heap.size w (w.alloc (.cells #[.int .i64 f.at_,.int .i64 f.kind,.int .i64 f.to_] 49)):=(Below.refl _ _).alloc (Nat.le_refl _) _
 have ld:=lt_of_block hd
 have la:=lt_of_block hba
 have b0:(w.alloc (.cells #[.int .i64 f.at_,.int .i64 f.kind,.int .i64 f.to_] 49)).cell? ⟨bd,0,none⟩=some (.pointer (some ⟨q,0,none⟩)):=by rw [cell_of_row _ _ _ _ _ _ (belObj hb0 hd ld)]; rfl
 have b1:(w.alloc (.cells #[.int .i64 f.at_,.int .i64 f.kind,.int .i64 f.to_] 49)).cell? ⟨ba,0,none⟩=some (.int .i64 a):=by rw [cell_of_row _ _ _ _ _ _ (belObj hb0 hba la)]; rfl
 have h0:=h.below0 hb0
 have c10:=(h0.cell 10 (by decide)).trans (show _=some (Value.pointer (some ⟨p,0,none⟩)) from rfl)
 have HC:Hid (∀ W,Below w.heap.size w W→Calls Tryz.prog 98 #[.pointer (some ⟨p,0,none⟩),.int .i64 a] W (DoPost W B p g LM O ⟨true,a,[],none,0⟩)):=by
  unfold Hid; intro W hW; exact cerase_any a ha [] (by simp) (h.c.below0 hW) hf (Nat.le_trans hB hW.size) (by omega)
 have HFX:Hid (∀ W O',CacheM W B p g LM O'→KeptT CT B w W→(W.cell? ⟨bd,0,none⟩=some (.pointer (some ⟨q,0,none⟩))∧W.cell? ⟨ba,0,none⟩=some (.int .i64 a)∧W.cell? ⟨q,2,none⟩=some (.int .i64 s.e)∧W.frozen? ⟨q,2,none⟩=false∧W.cell? ⟨q,10,none⟩=some (.pointer (some ⟨p,0,none⟩)))∧
   (Dsk W B q pw g F s LM O' p FA fc∧KeptT DT B w W)∧Dsk (W.setCell ⟨q,2,none⟩ (.int .i64 (wrap64 (s.e+1)))) B q pw g F { s with e:=wrap64 (s.e+1) } LM O' p FA fc∧KeptT DT B w (W.setCell ⟨q,2,none⟩ (.int .i64 (wrap64 (s.e+1))))):=by
  unfold Hid; intro W O' hc hk
  have h1:=h.withC hk hc
  have h2:=h1.store 2 (.int .i64 (wrap64 (s.e+1))) { s with e:=wrap64 (s.e+1) } rfl
  exact ⟨⟨by rw [cell_of_row _ _ _ _ _ _ (Kept.obj hk hd (KeptT.no (IsT.of hd) (by unfold CT; decide)))]; rfl,by rw [cell_of_row _ _ _ _ _ _ (Kept.obj hk hba (KeptT.no (IsT.of hba) (by unfold CT; decide)))]; rfl,(h1.cell 2 (by decide)).trans rfl,h1.free 2,(h1.cell 10 (by decide)).trans rfl⟩,⟨h1,hk.sub ct_dt⟩,h2.1,(hk.sub ct_dt).trans (h2.2.sub d_dt)⟩
 clear h h0 hf hd hba
 obtain ⟨fat,fk,fto⟩:=f
 unfold Flt.val
 simp only at *
 by_cases hE:doE g (playL g LM O) ⟨true,a,[],none,0⟩=0
 ·have HS:Hid (erS g LM O a s={ s with e:=wrap64 (s.e+1) }):=by unfold Hid erS; rw [if_pos hE]
  have HO:Hid (erO g LM O a=O++[⟨true,a,[],none,0⟩]):=by unfold Hid erO; rw [if_pos hE]
  have HD0:Hid (∀ W,Below w.heap.size w W→Calls Tryz.prog 98 #[.pointer (some ⟨p,0,none⟩),.int .i64 a] W fun e w'=>e= .returned (.int .i64 0)∧CacheM w' B p g LM (O++[⟨true,a,[],none,0⟩])∧KeptT CT B W w'):=by
   unfold Hid; intro W hW; refine (HC.out W hW).mono ?_
   intro e w' hp; unfold DoPost at hp; rw [hE,if_pos rfl] at hp; exact hp
  have HE:=Lib.hid hE
  clear hE
  go_enter Tryz.func97,Tryz.ntmps97
  go_wp2
  go_region_held3 (fun W=>W.cell? ⟨bd,0,none⟩=some (.pointer (some ⟨q,0,none⟩))∧W.cell? ⟨ba,0,none⟩=some (.int .i64 a)∧W.cell? ⟨q,10,none⟩=some (.pointer (some ⟨p,0,none⟩)))
   (first | (refine ⟨?_,?_,?_⟩ <;> assumption) | (simp [*]; done))
   ((go_at_call 98
     refine (HD0.out _ hb0.drew).mono ?_
     rintro e w1 ⟨rfl,hc1,hk1⟩
     have hkw:KeptT CT B w w1:=(KeptT.bel hb0.drew).trans hk1
     obtain ⟨⟨d0,d1,d2,f2,d10⟩,_,hfin⟩:=HFX.out w1 _ hc1 hkw
     have HF:=Lib.hid hfin
     clear hfin hc1))
  clear b0 b1 c10
  go_wp2
  go_ret
  rw [HE.out,HS.out,HO.out]
  exact ⟨rfl,HF.out⟩
 ·have HS:Hid (erS g LM O a s=s):=by unfold Hid erS; rw [if_neg hE]
  have HO:Hid (erO g LM O a=O):=by unfold Hid erO; rw [if_neg hE]
  have HD0:Hid (∀ W,Below w.heap.size w W→Calls Tryz.prog 98 #[.pointer (some ⟨p,0,none⟩),.int .i64 a] W fun e w'=>e= .returned (.int .i64 (doE g (playL g LM O) ⟨true,a,[],none,0⟩))∧CacheM w' B p g LM O∧KeptT CT B W w'):=by
   unfold Hid; intro W hW; refine (HC.out W hW).mono ?_
   intro e w' hp; unfold DoPost at hp; rw [if_neg hE] at hp; exact hp
  have hE2:(doE g (playL g LM O) ⟨true,a,[],none,0⟩==0)=false:=by simpa using hE
  generalize doE g (playL g LM O) ⟨true,a,[],none,0⟩=E at *
  clear hE
  go_enter Tryz.func97,Tryz.ntmps97
  go_wp2
  go_region_held3 (fun W=>W.cell? ⟨bd,0,none⟩=some (.pointer (some ⟨q,0,none⟩))∧W.cell? ⟨ba,0,none⟩=some (.int .i64 a)∧W.cell? ⟨q,10,none⟩=some (.pointer (some ⟨p,0,none⟩)))
   (first | (refine ⟨?_,?_,?_⟩ <;> assumption) | (simp [*]; done))
   ((go_at_call 98
     refine (HD0.out _ hb0.drew).mono ?_
     rintro e w1 ⟨rfl,hc1,hk1⟩
     have hkw:KeptT CT B w w1:=(KeptT.bel hb0.drew).trans hk1
     obtain ⟨⟨d0,d1,d2,f2,d10⟩,hfin,_⟩:=HFX.out w1 _ hc1 hkw
     have HF:=Lib.hid hfin
     clear hfin hc1))
  clear b0 b1 c10
  go_wp2
  go_ret
  rw [HS.out,HO.out]
  exact ⟨rfl,HF.out⟩
end
end Go.Proofs.YtggkengmlkhdiaaGreat
