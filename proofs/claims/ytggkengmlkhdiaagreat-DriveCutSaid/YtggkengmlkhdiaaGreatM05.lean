/-
  WHAT IS SHOWN: how a disk and a power supply lie in memory; what state, call and has of disk return and leave. plain facts on media: what writes and erasures leave as it was; bands written in order. what has of disk, and what an operation's closures of Read and Write return and leave. Conditions: as each theorem names them.
-/
import Derived.Test.YtggkengmlkhdiaaGreatM03
import Derived.Test.YtggkengmlkhdiaaGreatM04
import Derived.Test.YtggkengmlkhdiaaGreatM02
namespace Go.Proofs.YtggkengmlkhdiaaGreat
set_option linter.unusedVariables false
open Go.RowKit
structure DS where
 r:Int
 w:Int
 e:Int
 f:Int
 ops:Int
 seen:Int
 key:Int
 dead:Bool
structure Pow where
 off:Bool
 armed:Bool
 left:Int
 fails:Int
def stE (s:DS) (P:Pow):Int:=if s.dead then 14 else if P.off || decide (s.seen≠P.fails) then 13 else 0
def trip (P:Pow):Bool:=P.armed && decide (P.left=0)
def callP (P:Pow):Pow:=if trip P then ⟨true,false,wrap64 (P.left - 1),wrap64 (P.fails+1)⟩ else ⟨P.off,P.armed,wrap64 (P.left - 1),P.fails⟩
def dObj (g:Geo) (s:DS) (p pw:Nat) (FA:Option Addr) (fn fc:Nat):List Value:=
 [.int .i64 s.r,.int .i64 s.w,.int .i64 s.e,.int .i64 s.f,.int .i64 s.ops,.int .i64 g.random,.int .i64 g.bands,.int .i64 g.tracks,.int .i64 g.sectors,.int .i64 g.overlap,
  .pointer (some ⟨p,0,none⟩),.slice FA fn fc,.pointer (some ⟨pw,0,none⟩),.int .i64 s.seen,.int .u64 s.key,.bool s.dead]
def pObj (P:Pow):List Value:=[.bool P.off,.bool P.armed,.int .i64 P.left,.int .i64 P.fails]
structure PowM (w:World) (B:Bd) (pw:Nat) (P:Pow):Prop where
 obj:w.ownsRow B.n 132 4 (.slice (some ⟨pw,0,none⟩) 1 1) 1 (pObj P)
 px:¬ B.X pw
structure Dsk (w:World) (B:Bd) (q pw:Nat) (g:Geo) (F:List Flt) (s:DS) (LM:List Sec) (O:List OpV) (p:Nat) (FA:Option Addr) (fc:Nat):Prop where
 obj:w.ownsRow B.n 109 16 (.slice (some ⟨q,0,none⟩) 1 1) 1 (dObj g s p pw FA F.length fc)
 px:¬ B.X q
 c:CacheM w B p g LM O
 fl:RdT w 49 FA (flatF F)
def DiskM (w:World) (B:Bd) (q pw:Nat) (g:Geo) (F:List Flt) (s:DS) (LM:List Sec) (O:List OpV):Prop:=∃ p FA fc,Dsk w B q pw g F s LM O p FA fc
section
variable {w w':World} {B:Bd} {q pw p:Nat} {g:Geo} {F:List Flt} {s:DS} {P:Pow} {LM:List Sec} {O:List OpV} {FA:Option Addr} {fc:Nat}
theorem row_low {w:World} {B:Nat} {t:TypeId} {n k:Nat} {xs:List Value} (h:w.ownsRow B t n (.slice (some ⟨k,0,none⟩) 1 1) 1 xs):B≤k:=by
 rcases h.2 with ⟨h2,_⟩ | ⟨g',cap,cur,h2,h3,_⟩
 ·cases h2
 ·injection h2 with h2; injection h2 with h2; injection h2 with h2; subst h2; exact h3
theorem CacheM.keptT {ts:List TypeId} {B':Bd} (h:CacheM w B p g LM O) (hk:KeptT ts B' w w') (ht:∀ t,t∈[166,162,196,173,3,65,5]→t ∉ ts):CacheM w' B p g LM O:=by
 obtain ⟨m1,b1,m2,b2,A,c,G,h⟩:=h
 exact ⟨m1,b1,m2,b2,A,c,G,h.keptT hk ht⟩
theorem Dsk.keptT {ts:List TypeId} {B':Bd} (h:Dsk w B q pw g F s LM O p FA fc) (hk:KeptT ts B' w w') (ht:∀ t,t∈[166,162,196,173,3,65,5]→t ∉ ts) (h1:109 ∉ ts) (h2:49 ∉ ts):Dsk w' B q pw g F s LM O p FA fc:=
 ⟨own_kept h.obj hk (fun k e=>by simp [Value.ownBlock] at e; subst e; exact KeptT.no (IsT.own h.obj) h1),h.px,h.c.keptT hk ht,h.fl.kept hk (KeptT.free h2)⟩
theorem Dsk.keptP {B':Bd} (h:Dsk w B q pw g F s LM O p FA fc) (hk:KeptT [132] B' w w'):Dsk w' B q pw g F s LM O p FA fc:=h.keptT hk (by decide) (by decide) (by decide)
theorem Dsk.below0 (h:Dsk w B q pw g F s LM O p FA fc) (hk:Below w.heap.size w w'):Dsk w' B q pw g F s LM O p FA fc:=h.keptP (B':=Bd.of 0) (KeptT.bel hk)
theorem PowM.keptT {ts:List TypeId} {B':Bd} (h:PowM w B pw P) (hk:KeptT ts B' w w') (ht:132 ∉ ts):PowM w' B pw P:=⟨own_kept h.obj hk (fun k e=>by simp [Value.ownBlock] at e; subst e; exact KeptT.no (IsT.own h.obj) ht),h.px⟩
theorem PowM.below0 (h:PowM w B pw P) (hk:Below w.heap.size w w'):PowM w' B pw P:=h.keptT (ts:=[]) (B':=Bd.of 0) (KeptT.bel hk) (by simp)
theorem Dsk.store (h:Dsk w B q pw g F s LM O p FA fc) (j:Nat) (v:Value) (s':DS) (e:(dObj g s p pw FA F.length fc).set j v=dObj g s' p pw FA F.length fc):
  Dsk (w.setCell ⟨q,j,none⟩ v) B q pw g F s' LM O p FA fc∧KeptT [109] B w (w.setCell ⟨q,j,none⟩ v):=by
 have tq:=IsT.own h.obj
 have hk:Kept (fun k=>k=q) w (w.setCell ⟨q,j,none⟩ v):=(Kept.refl (fun k=>k=q) w).setCell (p:=⟨q,j,none⟩) (fun _=>rfl) _
 have hkT:KeptT [109] B w (w.setCell ⟨q,j,none⟩ v):=KeptT.of hk (fun k _ e=>by have e':k=q:=e; subst e'; exact ⟨⟨row_low h.obj,h.px⟩,HasT.mem tq (by simp)⟩)
 refine ⟨⟨?_,h.px,h.c.keptT hkT (by decide),h.fl.kept hkT (KeptT.free (by decide))⟩,hkT⟩
 have:=(World.ownsRow.stored h.obj j v).1
 rw [e] at this; exact this
theorem PowM.store (h:PowM w B pw P) (j:Nat) (v:Value) (P':Pow) (e:(pObj P).set j v=pObj P'):PowM (w.setCell ⟨pw,j,none⟩ v) B pw P'∧KeptT [132] B w (w.setCell ⟨pw,j,none⟩ v):=by
 have tq:=IsT.own h.obj
 have hk:Kept (fun k=>k=pw) w (w.setCell ⟨pw,j,none⟩ v):=(Kept.refl (fun k=>k=pw) w).setCell (p:=⟨pw,j,none⟩) (fun _=>rfl) _
 refine ⟨⟨?_,h.px⟩,KeptT.of hk (fun k _ e=>by have e':k=pw:=e; subst e'; exact ⟨⟨row_low h.obj,h.px⟩,HasT.mem tq (by simp)⟩)⟩
 have:=(World.ownsRow.stored h.obj j v).1
 rw [e] at this; exact this
theorem PowM.cells (h:PowM w B pw P):w.cell? ⟨pw,0,none⟩=some (.bool P.off)∧w.cell? ⟨pw,1,none⟩=some (.bool P.armed)∧w.cell? ⟨pw,2,none⟩=some (.int .i64 P.left)∧w.cell? ⟨pw,3,none⟩=some (.int .i64 P.fails):=
 ⟨(World.ownsRow.cellAt h.obj 0 (by decide)).trans rfl,(World.ownsRow.cellAt h.obj 1 (by decide)).trans rfl,(World.ownsRow.cellAt h.obj 2 (by decide)).trans rfl,(World.ownsRow.cellAt h.obj 3 (by decide)).trans rfl⟩
theorem Dsk.cell (h:Dsk w B q pw g F s LM O p FA fc) (j:Nat) (hj:j < 16):w.cell? ⟨q,j,none⟩=(dObj g s p pw FA F.length fc)[j]?:=World.ownsRow.cellAt h.obj j (by omega)
theorem Dsk.free (h:Dsk w B q pw g F s LM O p FA fc) (j:Nat):w.frozen? ⟨q,j,none⟩=false:=h.obj.frozenAt j
set_option maxHeartbeats 1000000 in
theorem dstate_any (h:Dsk w B q pw g F s LM O p FA fc) (hp:PowM w B pw P):Calls Tryz.prog 55 #[.pointer (some ⟨q,0,none⟩)] w fun e w'=>e= .returned (.int .i64 (stE s P))∧Below w.heap.size w w':=by
 have c12:w.cell? ⟨q,12,none⟩=some (.pointer (some ⟨pw,0,none⟩)):=(h.cell 12 (by decide)).trans rfl
 have c13:w.cell? ⟨q,13,none⟩=some (.int .i64 s.seen):=(h.cell 13 (by decide)).trans rfl
 have c15:w.cell? ⟨q,15,none⟩=some (.bool s.dead):=(h.cell 15 (by decide)).trans rfl
 obtain ⟨p0,_,_,p3⟩:=hp.cells
 clear h hp
 cases hd:s.dead
 ·rw [hd] at c15
  cases ho:P.off
  ·rw [ho] at p0
   by_cases hs:s.seen=P.fails
   ·have HE:Hid (stE s P=0):=by unfold Hid stE; simp [hd,ho,hs]
    have e1:(s.seen !=P.fails)=false:=by simpa using hs
    clear hd ho hs
    go_enter Tryz.func55,Tryz.ntmps55
    go_wp2
    go_quiet (fail)
    go_wp2
    go_ret
    exact ⟨by rw [HE.out]; rfl,((Kept.refl (fun _=>False) _).drewN _).below0⟩
   ·have HE:Hid (stE s P=13):=by unfold Hid stE; simp [hd,ho,hs]
    have e1:(s.seen !=P.fails)=true:=by simpa using hs
    clear hd ho hs
    go_enter Tryz.func55,Tryz.ntmps55
    go_wp2
    go_quiet (fail)
    go_wp2
    go_ret
    exact ⟨by rw [HE.out]; rfl,((Kept.refl (fun _=>False) _).drewN _).below0⟩
  ·rw [ho] at p0
   have HE:Hid (stE s P=13):=by unfold Hid stE; simp [hd,ho]
   clear hd ho
   go_enter Tryz.func55,Tryz.ntmps55
   go_wp2
   go_quiet (fail)
   go_wp2
   go_ret
   exact ⟨by rw [HE.out]; rfl,((Kept.refl (fun _=>False) _).drewN _).below0⟩
 ·rw [hd] at c15
  have HE:Hid (stE s P=14):=by unfold Hid stE; simp [hd]
  clear hd
  go_enter Tryz.func55,Tryz.ntmps55
  go_wp2
  go_ret
  exact ⟨by rw [HE.out]; rfl,Below.refl _ _⟩
set_option maxHeartbeats 1000000 in
theorem pcall_any (hp:PowM w B pw P):Calls Tryz.prog 118 #[.pointer (some ⟨pw,0,none⟩)] w fun e w'=>e= .returned (.bool (!(callP P).off))∧PowM w' B pw (callP P)∧KeptT [132] B w w':=by
 obtain ⟨p0,p1,p2,p3⟩:=hp.cells
 have f0:=hp.obj.frozenAt 0
 have f1:=hp.obj.frozenAt 1
 have f2:=hp.obj.frozenAt 2
 have f3:=hp.obj.frozenAt 3
 obtain ⟨off,armed,left,fails⟩:=P
 simp only at p0 p1 p2 p3
 by_cases ht:trip ⟨off,armed,left,fails⟩=true
 ·have hc:callP ⟨off,armed,left,fails⟩=⟨true,false,wrap64 (left - 1),wrap64 (fails+1)⟩:=by unfold callP; rw [if_pos ht]
  have ⟨ha,hl⟩:armed=true∧left=0:=by unfold trip at ht; simpa using ht
  subst ha; subst hl
  obtain ⟨hp1,hk1⟩:=hp.store 0 (.bool true) ⟨true,true,0,fails⟩ rfl
  obtain ⟨hp2,hk2⟩:=hp1.store 1 (.bool false) ⟨true,false,0,fails⟩ rfl
  obtain ⟨hp3,hk3⟩:=hp2.store 3 (.int .i64 (wrap64 (fails+1))) ⟨true,false,0,wrap64 (fails+1)⟩ rfl
  obtain ⟨hp4,hk4⟩:=hp3.store 2 (.int .i64 (-1)) ⟨true,false, -1,wrap64 (fails+1)⟩ rfl
  have HP:=Lib.hid hp4
  have HK:=Lib.hid (((hk1.trans hk2).trans hk3).trans hk4)
  have hw0:wrap64 (0 - 1)= -1:=by decide+kernel
  rw [hw0] at hc
  have HC:=Lib.hid hc
  clear hp hp1 hp2 hp3 hp4 hk1 hk2 hk3 hk4 hc ht hw0
  go_enter Tryz.func118,Tryz.ntmps118
  go_wp2
  go_ret
  rw [HC.out]
  exact ⟨rfl,HP.out,HK.out⟩
 ·have hc:callP ⟨off,armed,left,fails⟩=⟨off,armed,wrap64 (left - 1),fails⟩:=by unfold callP; rw [if_neg ht]
  obtain ⟨hp4,hk4⟩:=hp.store 2 (.int .i64 (wrap64 (left - 1))) ⟨off,armed,wrap64 (left - 1),fails⟩ rfl
  have HP:=Lib.hid hp4
  have HK:=Lib.hid hk4
  have HC:=Lib.hid hc
  clear hp hp4 hk4 hc
  cases armed
  ·clear ht
   go_enter Tryz.func118,Tryz.ntmps118
   go_wp2
   go_ret
   rw [HC.out]
   exact ⟨rfl,HP.out,HK.out⟩
  ·have hl:(left==0)=false:=by unfold trip at ht; simpa using ht
   clear ht
   go_enter Tryz.func118,Tryz.ntmps118
   go_wp2
   go_ret
   rw [HC.out]
   exact ⟨rfl,HP.out,HK.out⟩
end
end Go.Proofs.YtggkengmlkhdiaaGreat
namespace Go.Proofs.YtggkengmlkhdiaaGreat
set_option linter.unusedVariables false
open Go.RowKit
structure Cells3 (w:World) (b:Nat) (v0 v1 v2:Value):Prop where
 c0:w.cell? ⟨b,0,none⟩=some v0
 c1:w.cell? ⟨b,1,none⟩=some v1
 c2:w.cell? ⟨b,2,none⟩=some v2
theorem Cells3.new_at (w:World) (t:TypeId) (n:Nat) (v0 v1 v2:Value) (h:n=w.heap.size):Cells3 (w.alloc (.cells #[v0,v1,v2] t)) n v0 v1 v2:=
 ⟨cell_new _ _ _ _ _ _ h rfl,cell_new _ _ _ _ _ _ h rfl,cell_new _ _ _ _ _ _ h rfl⟩
theorem destroy_other:∀ (ss:List Int) (L:List Sec) (i:Nat),(∀ s∈ss,s.toNat≠i)→(destroy ss L)[i]?=L[i]?
 | [],L,i,_=>rfl
 | s::ss,L,i,h=>by
   have ih:=destroy_other ss (L.set s.toNat goneS) i (fun t ht=>h t (List.mem_cons_of_mem _ ht))
   unfold destroy at ih ⊢
   rw [List.foldl_cons,ih,List.getElem?_set_ne (h s (List.mem_cons_self))]
theorem destroy_or:∀ (ss:List Int) (L:List Sec) (i:Nat) (t:Sec),(destroy ss L)[i]?=some t→t=goneS∨L[i]?=some t
 | [],L,i,t,h=>.inr h
 | s::ss,L,i,t,h=>by
   unfold destroy at h
   rw [List.foldl_cons] at h
   rcases destroy_or ss (L.set s.toNat goneS) i t h with h1 | h1
   ·exact .inl h1
   ·rw [List.getElem?_set] at h1
    split at h1
    ·split at h1
     ·injection h1 with h1; exact .inl h1.symm
     ·cases h1
    ·exact .inr h1
theorem eraseTo_get (L:List Sec) (f:Nat):∀ (k i:Nat),(eraseTo L f k)[i]?=if f≤i∧i < f+k∧i < L.length then some blankS else L[i]?
 | 0,i=>by
   rw [if_neg (by omega)]; rfl
 | k+1,i=>by
   rw [eraseTo_succ,List.getElem?_set,eraseTo_get L f k i,eraseTo_len]
   by_cases e:f+k=i
   ·rw [if_pos e]
    by_cases hl:i < L.length
    ·rw [if_pos (by omega),if_pos (by omega)]
    ·rw [if_neg (by omega),if_neg (by omega),List.getElem?_eq_none (by omega)]
   ·rw [if_neg e]
    by_cases h:f≤i∧i < f+k∧i < L.length
    ·rw [if_pos h,if_pos (by omega)]
    ·rw [if_neg h,if_neg (by omega)]
theorem shadow_above {g:Geo} {a s:Int} (hs:s∈shadowL g a):a < s:=by
 unfold shadowL at hs
 split at hs
 ·rename_i he
  have hg:=(loc_ok he).1
  simp only [List.mem_map,List.mem_range] at hs
  obtain ⟨i,_,rfl⟩:=hs
  have:=Int.mul_pos (show 0 < (i:Int)+1 by omega) (show 0 < g.sectors by have:=hg.s0; omega)
  omega
 ·simp at hs
theorem getD_get {L:List Sec} {a:Int} {t:Sec} (h0:0≤a) (h:L[a.toNat]?=some t):inL L a=true∧L.getD a.toNat blankS=t:=by
 have hlt:=(List.getElem?_eq_some_iff.1 h).1
 exact ⟨(inL_iff L a).2 ⟨h0,by omega⟩,by simp [List.getD,h]⟩
theorem read_same {L L':List Sec} (hl:L.length=L'.length) {a:Int} (h:L[a.toNat]?=L'[a.toNat]?):readE L a=readE L' a∧readB L a=readB L' a∧stateN L a=stateN L' a:=by
 have e1:inL L a=inL L' a:=by unfold inL; rw [hl]
 have e2:L.getD a.toNat blankS=L'.getD a.toNat blankS:=by simp [List.getD,h]
 have e3:readE L a=readE L' a:=by unfold readE; rw [e1,e2]
 exact ⟨e3,by unfold readB; rw [e3,e2],by unfold stateN; rw [e1,e2]⟩
structure SeqInv (L:List Sec) (f z k:Nat):Prop where
 len:f+z≤L.length
 done:∀ j,j < k→L[f+j]?=some ⟨1,[(j:Int) % 256]⟩
 free:∀ j t,k≤j→j < z→L[f+j]?=some t→t.st≠1
theorem write_local {g:Geo} {L:List Sec} {at_ a:Int} {xs:List Int} (h0:0≤a) (hf:Fit g L) (h:writeE L at_ xs≠0∨(a≠at_∧∀ s∈shadowL g at_,s≠a)):(writeL g L at_ xs)[a.toNat]?=L[a.toNat]?:=by
 unfold writeL
 split
 ·rename_i hc
  simp only [Bool.and_eq_true,decide_eq_true_eq] at hc
  rcases h with h | ⟨h1,h2⟩
  ·exact absurd (by unfold writeE; rw [hc.1]; simp [hc.2]) h
  ·have hi:=(inL_iff _ _).1 hc.1
   rw [destroy_other _ _ _ (fun s hs=>by have:=shadow_range hf hs; have:=h2 s hs; omega),List.getElem?_set_ne (by omega)]
 ·rfl
end Go.Proofs.YtggkengmlkhdiaaGreat
namespace Go.Proofs.YtggkengmlkhdiaaGreat
set_option linter.unusedVariables false
open Go.RowKit
section
variable {w w':World} {B:Bd} {q pw p:Nat} {g:Geo} {F:List Flt} {s:DS} {P:Pow} {LM:List Sec} {O:List OpV} {FA:Option Addr} {fc:Nat}
set_option maxHeartbeats 1000000 in
theorem dhas_any (a:Int) (h:Dsk w B q pw g F s LM O p FA fc) (hf:Fit g LM):Calls Tryz.prog 122 #[.pointer (some ⟨q,0,none⟩),.int .i64 a] w fun e w'=>e= .returned (.bool (inL LM a))∧Below w.heap.size w w':=by
 have c5:w.cell? ⟨q,5,none⟩=some (.int .i64 g.random):=(h.cell 5 (by decide)).trans rfl
 have c6:w.cell? ⟨q,6,none⟩=some (.int .i64 g.bands):=(h.cell 6 (by decide)).trans rfl
 have c7:w.cell? ⟨q,7,none⟩=some (.int .i64 g.tracks):=(h.cell 7 (by decide)).trans rfl
 have c8:w.cell? ⟨q,8,none⟩=some (.int .i64 g.sectors):=(h.cell 8 (by decide)).trans rfl
 have c9:w.cell? ⟨q,9,none⟩=some (.int .i64 g.overlap):=(h.cell 9 (by decide)).trans rfl
 have HS:Hid (∀ W,Calls Tryz.prog 58 #[.agg #[.int .i64 g.random,.int .i64 g.bands,.int .i64 g.tracks,.int .i64 g.sectors,.int .i64 g.overlap]] W fun e w'=>e= .returned (.int .i64 LM.length)∧Below W.heap.size W w'):=by
  unfold Hid; intro W
  have:=gsz_any g W
  rw [show szN g=(LM.length:Int) from by unfold szN; rw [if_pos ((validG_iff g).2 hf.v)]; exact hf.n.symm] at this
  exact this
 clear h
 by_cases h0:a < 0
 ·have HI:Hid (inL LM a=false):=by unfold Hid inL; simp; omega
  clear hf
  go_enter Tryz.func122,Tryz.ntmps122
  go_wp2
  go_ret
  exact ⟨by rw [HI.out]; rfl,Below.refl _ _⟩
 ·by_cases h1:a < LM.length
  ·have HI:Hid (inL LM a=true):=by unfold Hid inL; simp; omega
   clear hf
   go_enter Tryz.func122,Tryz.ntmps122
   go_wp2_with fail
   refine (HS.out _).mono ?_
   rintro e w1 ⟨rfl,hb1⟩
   go_wp2
   go_ret
   exact ⟨by rw [HI.out]; rfl,hb1⟩
  ·have HI:Hid (inL LM a=false):=by unfold Hid inL; simp; omega
   clear hf
   go_enter Tryz.func122,Tryz.ntmps122
   go_wp2_with fail
   refine (HS.out _).mono ?_
   rintro e w1 ⟨rfl,hb1⟩
   go_wp2
   go_ret
   exact ⟨by rw [HI.out]; first | rfl | (simp [h1]; done) | (simp; omega),hb1⟩
def DPT:List TypeId:=[109,132]
theorem Dsk.of {w0:World} (ho:w.ownsRow B.n 109 16 (.slice (some ⟨q,0,none⟩) 1 1) 1 (dObj g s p pw FA F.length fc)) (hqx:¬ B.X q) (hc:CacheM w0 B p g LM O) (hfl:RdT w0 49 FA (flatF F)) (hk:KeptT DPT B w0 w):Dsk w B q pw g F s LM O p FA fc:=
 ⟨ho,hqx,hc.keptT hk (by unfold DPT; decide),hfl.kept hk (KeptT.free (by unfold DPT; decide))⟩
def frO (a:Int) (f:Flt):Int:=if f.kind=5 then f.to_ else a
def rdE (LM X:List Sec) (a:Int) (f:Flt):Int:=if inL LM a then (if f.kind=4 then 15 else if readE X (frO a f)=0 then 0 else 15) else 2
def rdB (LM X:List Sec) (a:Int) (f:Flt):List Int:=if rdE LM X a f=0 then readB X (frO a f) else []
def rdS (LM X:List Sec) (a:Int) (f:Flt) (s:DS):DS:=if rdE LM X a f=0 then { s with r:=wrap64 (s.r+1) } else s
def ReadCl (w0 w:World) (B:Bd) (q pw:Nat) (g:Geo) (n fc p ob:Nat) (FA:Option Addr) (er:Int) (xs:List Int) (s:DS) (e:Ending) (w':World):Prop:=
 e= .returned (.int .i64 er)∧(∃ v,w'.heap[ob]?=some (.cells #[v] 65 (0,0))∧Bys 5 w' v xs)∧w'.ownsRow B.n 109 16 (.slice (some ⟨q,0,none⟩) 1 1) 1 (dObj g s p pw FA n fc)∧KeptT DPT B w0 w'∧KeptT [109,65] (Bd.of 0) w w'
set_option maxRecDepth 100000 in
set_option maxHeartbeats 2000000 in
theorem readcl_any {w0:World} (f:Flt) (a:Int) (bd ba ob:Nat) (fd fa:Nat × Nat) (ho:w.ownsRow B.n 109 16 (.slice (some ⟨q,0,none⟩) 1 1) 1 (dObj g s p pw FA F.length fc)) (hqx:¬ B.X q) (hc:CacheM w0 B p g LM O) (hfl:RdT w0 49 FA (flatF F)) (hk:KeptT DPT B w0 w)
  (hf:Fit g LM) (hsb:ShortB LM) (hd:w.heap[bd]?=some (.cells #[.pointer (some ⟨q,0,none⟩)] 54 fd)) (ha:w.heap[ba]?=some (.cells #[.int .i64 a] 3 fa)) (hob:w.heap[ob]?=some (.cells #[.slice none 0 0] 65 (0,0))) (h0:w0.heap.size≤ob):
  Calls Tryz.prog 121 #[f.val,.pointer (some ⟨bd,0,none⟩),.pointer (some ⟨ba,0,none⟩),.pointer (some ⟨ob,0,none⟩)] w (ReadCl w0 w B q pw g F.length fc p ob FA (rdE LM (playL g LM O) a f) (rdB LM (playL g LM O) a f) (rdS LM (playL g LM O) a f s)):=by
 have h:=Dsk.of ho hqx hc hfl hk
 have hb0:Below w.heap.size w (w.alloc (.cells #[.int .i64 f.at_,.int .i64 f.kind,.int .i64 f.to_] 49)):=(Below.refl _ _).alloc (Nat.le_refl _) _
 have ld:=lt_of_block hd
 have la:=lt_of_block ha
 have lo:=lt_of_block hob
 have HOW:=Lib.hid (fun W (hW:Below w.heap.size w W)=>h.below0 hW)
 have HHAS:Hid (∀ W,Below w.heap.size w W→Calls Tryz.prog 122 #[.pointer (some ⟨q,0,none⟩),.int .i64 a] W fun e w'=>e= .returned (.bool (inL LM a))∧Below W.heap.size W w'):=by
  unfold Hid; intro W hW; exact dhas_any a (h.below0 hW) hf
 have HCR:Hid (∀ W a,Below w.heap.size w W→Calls Tryz.prog 123 #[.pointer (some ⟨p,0,none⟩),.int .i64 a] W (ReadPost W (readB (playL g LM O) a) (readE (playL g LM O) a))):=by
  unfold Hid; intro W a hW; exact cread_any a (h.c.below0 hW) hf hsb
 have HBD:Hid (∀ W,Below w.heap.size w W→W.cell? ⟨bd,0,none⟩=some (.pointer (some ⟨q,0,none⟩))∧W.cell? ⟨ba,0,none⟩=some (.int .i64 a)∧W.heap[ob]?=some (.cells #[.slice none 0 0] 65 (0,0))):=by
  unfold Hid; intro W hW
  exact ⟨by rw [cell_of_row _ _ _ _ _ _ (belObj hW hd ld)]; rfl,by rw [cell_of_row _ _ _ _ _ _ (belObj hW ha la)]; rfl,belObj hW hob lo⟩
 have HFIN:Hid (∀ W,Below w.heap.size w W→rdE LM (playL g LM O) a f≠0→ReadCl w0 w B q pw g F.length fc p ob FA (rdE LM (playL g LM O) a f) (rdB LM (playL g LM O) a f) (rdS LM (playL g LM O) a f s) (.returned (.int .i64 (rdE LM (playL g LM O) a f))) W):=by
  unfold Hid; intro W hW hne
  have hB:rdB LM (playL g LM O) a f=[]:=by unfold rdB; rw [if_neg hne]
  have hS:rdS LM (playL g LM O) a f s=s:=by unfold rdS; rw [if_neg hne]
  rw [hB,hS]
  exact ⟨rfl,⟨_,belObj hW hob lo,Bys.nil _ _⟩,(h.below0 hW).obj,hk.thenBelow hW,KeptT.bel hW⟩
 have tob:IsT 65 w ob:=IsT.of hob
 have hqo:q≠ob:=(IsT.own ho).ne tob (by decide)
 have HDO:Hid (∀ W v,Below w.heap.size w W→Bys 5 W v (readB (playL g LM O) (frO a f))→rdE LM (playL g LM O) a f=0→ReadCl w0 w B q pw g F.length fc p ob FA 0 (rdB LM (playL g LM O) a f) (rdS LM (playL g LM O) a f s) (.returned (.int .i64 0)) ((W.setCell ⟨ob,0,none⟩ v).setCell ⟨q,0,none⟩ (.int .i64 (wrap64 (s.r+1))))):=by
  unfold Hid; intro W v hW hv he
  have hB:rdB LM (playL g LM O) a f=readB (playL g LM O) (frO a f):=by unfold rdB; rw [if_pos he]
  have hS:rdS LM (playL g LM O) a f s={ s with r:=wrap64 (s.r+1) }:=by unfold rdS; rw [if_pos he]
  rw [hB,hS]
  have hkob:Kept (fun k=>k=ob) W (W.setCell ⟨ob,0,none⟩ v):=(Kept.refl (fun k=>k=ob) W).setCell (p:=⟨ob,0,none⟩) (fun _=>rfl) _
  have hqW:=belObj hW hob lo
  have hob1:=own_kept (h.below0 hW).obj hkob (fun k e=>by simp [Value.ownBlock] at e; subst e; exact hqo)
  have hob2:=(World.ownsRow.stored hob1 0 (.int .i64 (wrap64 (s.r+1)))).1
  have hk1:KeptT DPT B w0 (W.setCell ⟨ob,0,none⟩ v):=Kept.trans (hk.thenBelow hW) hkob (fun i hi e=>by have e':i=ob:=e; omega)
  have hkq:Kept (fun k=>k=q) (W.setCell ⟨ob,0,none⟩ v) ((W.setCell ⟨ob,0,none⟩ v).setCell ⟨q,0,none⟩ (.int .i64 (wrap64 (s.r+1)))):=(Kept.refl (fun k=>k=q) _).setCell (p:=⟨q,0,none⟩) (fun _=>rfl) _
  have fq:Free (W.setCell ⟨ob,0,none⟩ v) 5 (fun k=>k=q):=by obtain ⟨cur,hh⟩:=own_type hob1; exact Free.one hh (by decide)
  refine ⟨rfl,⟨v,hkq.obj (one_setCell hqW) (fun e=>hqo e.symm),?_⟩,hob2,hk1.trans (KeptT.of hkq (fun k _ e=>by have e':k=q:=e; subst e'; exact ⟨⟨row_low ho,hqx⟩,HasT.mem (IsT.own hob1) (by simp [DPT])⟩)),((KeptT.bel hW).trans (KeptT.of hkob (fun k _ e=>by have e':k=ob:=e; subst e'; exact ⟨⟨Nat.zero_le _,fun h=>h⟩,HasT.mem (IsT.of hqW) (by simp)⟩))).trans (KeptT.of hkq (fun k _ e=>by have e':k=q:=e; subst e'; exact ⟨⟨Nat.zero_le _,fun h=>h⟩,HasT.mem (IsT.own hob1) (by simp)⟩))⟩
  exact (hv.kept hkob (Free.one hqW (by decide))).kept hkq fq
 have HC1:Hid (∀ W,Below w.heap.size w W→W.cell? ⟨q,10,none⟩=some (.pointer (some ⟨p,0,none⟩))):=by
  unfold Hid; intro W hW; exact ((h.below0 hW).cell 10 (by decide)).trans rfl
 have HC2:Hid (∀ W v,Below w.heap.size w W→(W.setCell ⟨ob,0,none⟩ v).cell? ⟨q,0,none⟩=some (.int .i64 s.r)∧(W.setCell ⟨ob,0,none⟩ v).frozen? ⟨q,0,none⟩=false∧(W.setCell ⟨ob,0,none⟩ v).cell? ⟨bd,0,none⟩=some (.pointer (some ⟨q,0,none⟩))):=by
  unfold Hid; intro W v hW
  have hkob:Kept (fun k=>k=ob) W (W.setCell ⟨ob,0,none⟩ v):=(Kept.refl (fun k=>k=ob) W).setCell (p:=⟨ob,0,none⟩) (fun _=>rfl) _
  have hob1:=own_kept (h.below0 hW).obj hkob (fun k e=>by simp [Value.ownBlock] at e; subst e; exact hqo)
  exact ⟨(World.ownsRow.cellAt hob1 0 (by decide)).trans rfl,hob1.frozenAt 0,by rw [cell_of_row _ _ _ _ _ _ (hkob.obj (belObj hW hd ld) ((IsT.of hd).ne tob (by decide)))]; rfl⟩
 generalize hX:playL g LM O=X at *
 clear h ho hc hfl hk hd ha hob hX hf
 obtain ⟨fat,fk,fto⟩:=f
 unfold Flt.val
 simp only at *
 have HC3:Hid (∀ W,Below (w.alloc (.cells #[.int .i64 fat,.int .i64 fk,.int .i64 fto] 49)).heap.size (w.alloc (.cells #[.int .i64 fat,.int .i64 fk,.int .i64 fto] 49)) W→Cells3 W w.heap.size (.int .i64 fat) (.int .i64 fk) (.int .i64 fto)):=by
  unfold Hid; intro W hW
  have q:=heap_alloc_new w (.cells #[.int .i64 fat,.int .i64 fk,.int .i64 fto] 49)
  have q':=belObj hW q (by simp)
  exact ⟨by rw [cell_of_row _ _ _ _ _ _ q']; rfl,by rw [cell_of_row _ _ _ _ _ _ q']; rfl,by rw [cell_of_row _ _ _ _ _ _ q']; rfl⟩
 obtain ⟨b0,b1,b2⟩:=HBD.out _ hb0
 clear b2
 cases hin:inL LM a
 ·have HE:Hid (rdE LM X a ⟨fat,fk,fto⟩=2):=by unfold Hid rdE; rw [hin]; rfl
  rw [hin] at HHAS
  clear hin
  go_enter Tryz.func121,Tryz.ntmps121
  go_wp2_with fail
  refine (HHAS.out _ hb0).mono ?_
  rintro e w1 ⟨rfl,hb1⟩
  have hw1:Below w.heap.size w w1:=hb0.trans (hb1.mono (by simp))
  obtain ⟨d0,d1,d2⟩:=HBD.out _ hw1
  have C3:=HC3.out w1 hb1
  have e0:=C3.c0
  have e1:=C3.c1
  have e2:=C3.c2
  clear d2 C3 b0 b1
  have HF:=Lib.hid (HFIN.out w1 hw1 (by rw [HE.out]; decide))
  rw [HE.out] at HF
  go_wp2
  go_ret
  rw [HE.out]
  exact HF.out
 ·rw [hin] at HHAS
  by_cases h4:fk=4
  ·have HE:Hid (rdE LM X a ⟨fat,fk,fto⟩=15):=by unfold Hid rdE; rw [hin,h4]; rfl
   subst h4
   clear hin
   go_enter Tryz.func121,Tryz.ntmps121
   go_wp2_with fail
   refine (HHAS.out _ hb0).mono ?_
   rintro e w1 ⟨rfl,hb1⟩
   have hw1:Below w.heap.size w w1:=hb0.trans (hb1.mono (by simp))
   obtain ⟨d0,d1,d2⟩:=HBD.out _ hw1
   have C3:=HC3.out w1 hb1
   have e0:=C3.c0
   have e1:=C3.c1
   have e2:=C3.c2
   clear d2 C3 b0 b1
   have HF:=Lib.hid (HFIN.out w1 hw1 (by rw [HE.out]; decide))
   rw [HE.out] at HF
   go_wp2
   go_ret
   rw [HE.out]
   exact HF.out
  ·have n4:(fk==4)=false:=by simpa using h4
   by_cases h5:fk=5
   ·have HFR:Hid (frO a ⟨fat,fk,fto⟩=fto):=by unfold Hid frO; rw [if_pos h5]
    have HE0:Hid (rdE LM X a ⟨fat,fk,fto⟩=if readE X fto=0 then 0 else 15):=by unfold Hid rdE; rw [hin]; simp only [if_true]; rw [if_neg h4,HFR.out]
    subst h5
    by_cases hre:readE X fto=0
    ·have HE:Hid (rdE LM X a ⟨fat,5,fto⟩=0):=by unfold Hid; rw [HE0.out,if_pos hre]
     have HCQ:Hid (∀ W,Below w.heap.size w W→Calls Tryz.prog 123 #[.pointer (some ⟨p,0,none⟩),.int .i64 fto] W (ReadPost W (readB X fto) 0)):=by
      unfold Hid; intro W hW; have:=HCR.out W fto hW; rw [hre] at this; exact this
     clear hre
     clear hin
     go_enter Tryz.func121,Tryz.ntmps121
     go_wp2_with fail
     refine (HHAS.out _ hb0).mono ?_
     rintro e w1 ⟨rfl,hb1⟩
     have hw1:Below w.heap.size w w1:=hb0.trans (hb1.mono (by simp))
     obtain ⟨d0,d1,d2⟩:=HBD.out _ hw1
     have C3:=HC3.out w1 hb1
     have e0:=C3.c0
     have e1:=C3.c1
     have e2:=C3.c2
     clear d2 C3 b0 b1
     have c10:=HC1.out w1 hw1
     go_wp2_with fail
     refine (HCQ.out _ hw1).mono ?_
     rintro e w2 ⟨v,rfl,hv,hb2⟩
     have hw2:Below w.heap.size w w2:=hw1.trans (hb2.mono hw1.size)
     have HF:=Lib.hid (HDO.out w2 v hw2 (by rw [HFR.out]; exact hv) HE.out)
     obtain ⟨A2,c2,rfl,_,_⟩:=hv
     obtain ⟨_,_,d2⟩:=HBD.out _ hw2
     have x0:=cell_of_one d2
     have x1:=free_of_one d2
     obtain ⟨y0,y1,y2⟩:=HC2.out w2 (.slice A2 (readB X fto).length c2) hw2
     clear d2 e0 e1 e2 d0 d1 c10
     go_wp2
     go_ret
     rw [HE.out]
     exact HF.out
    ·have HE:Hid (rdE LM X a ⟨fat,5,fto⟩=15):=by unfold Hid; rw [HE0.out,if_neg hre]
     have hre2:(readE X fto !=0)=true:=by simpa using hre
     have HCQ:=Lib.hid (fun W hW=>HCR.out W fto hW)
     generalize readE X fto=ER at *
     clear hre
     clear hin
     go_enter Tryz.func121,Tryz.ntmps121
     go_wp2_with fail
     refine (HHAS.out _ hb0).mono ?_
     rintro e w1 ⟨rfl,hb1⟩
     have hw1:Below w.heap.size w w1:=hb0.trans (hb1.mono (by simp))
     obtain ⟨d0,d1,d2⟩:=HBD.out _ hw1
     have C3:=HC3.out w1 hb1
     have e0:=C3.c0
     have e1:=C3.c1
     have e2:=C3.c2
     clear d2 C3 b0 b1
     have c10:=HC1.out w1 hw1
     go_wp2_with fail
     refine (HCQ.out _ hw1).mono ?_
     rintro e w2 ⟨v,rfl,hv,hb2⟩
     have hw2:Below w.heap.size w w2:=hw1.trans (hb2.mono hw1.size)
     have HF:=Lib.hid (HFIN.out w2 hw2 (by rw [HE.out]; decide))
     rw [HE.out] at HF
     clear e0 e1 e2 d0 d1 c10
     go_wp2
     go_ret
     rw [HE.out]
     exact HF.out
   ·have n5:(fk==5)=false:=by simpa using h5
    have HFR:Hid (frO a ⟨fat,fk,fto⟩=a):=by unfold Hid frO; rw [if_neg h5]
    have HE0:Hid (rdE LM X a ⟨fat,fk,fto⟩=if readE X a=0 then 0 else 15):=by unfold Hid rdE; rw [hin]; simp only [if_true]; rw [if_neg h4,HFR.out]
    clear h4 h5
    by_cases hre:readE X a=0
    ·have HE:Hid (rdE LM X a ⟨fat,fk,fto⟩=0):=by unfold Hid; rw [HE0.out,if_pos hre]
     have HCQ:Hid (∀ W,Below w.heap.size w W→Calls Tryz.prog 123 #[.pointer (some ⟨p,0,none⟩),.int .i64 a] W (ReadPost W (readB X a) 0)):=by
      unfold Hid; intro W hW; have:=HCR.out W a hW; rw [hre] at this; exact this
     clear hre
     clear hin
     go_enter Tryz.func121,Tryz.ntmps121
     go_wp2_with fail
     refine (HHAS.out _ hb0).mono ?_
     rintro e w1 ⟨rfl,hb1⟩
     have hw1:Below w.heap.size w w1:=hb0.trans (hb1.mono (by simp))
     obtain ⟨d0,d1,d2⟩:=HBD.out _ hw1
     have C3:=HC3.out w1 hb1
     have e0:=C3.c0
     have e1:=C3.c1
     have e2:=C3.c2
     clear d2 C3 b0 b1
     have c10:=HC1.out w1 hw1
     go_wp2_with fail
     refine (HCQ.out _ hw1).mono ?_
     rintro e w2 ⟨v,rfl,hv,hb2⟩
     have hw2:Below w.heap.size w w2:=hw1.trans (hb2.mono hw1.size)
     have HF:=Lib.hid (HDO.out w2 v hw2 (by rw [HFR.out]; exact hv) HE.out)
     obtain ⟨A2,c2,rfl,_,_⟩:=hv
     obtain ⟨_,_,d2⟩:=HBD.out _ hw2
     have x0:=cell_of_one d2
     have x1:=free_of_one d2
     obtain ⟨y0,y1,y2⟩:=HC2.out w2 (.slice A2 (readB X a).length c2) hw2
     clear d2 e0 e1 e2 d0 d1 c10
     go_wp2
     go_ret
     rw [HE.out]
     exact HF.out
    ·have HE:Hid (rdE LM X a ⟨fat,fk,fto⟩=15):=by unfold Hid; rw [HE0.out,if_neg hre]
     have hre2:(readE X a !=0)=true:=by simpa using hre
     have HCQ:=Lib.hid (fun W hW=>HCR.out W a hW)
     generalize readE X a=ER at *
     clear hre
     clear hin
     go_enter Tryz.func121,Tryz.ntmps121
     go_wp2_with fail
     refine (HHAS.out _ hb0).mono ?_
     rintro e w1 ⟨rfl,hb1⟩
     have hw1:Below w.heap.size w w1:=hb0.trans (hb1.mono (by simp))
     obtain ⟨d0,d1,d2⟩:=HBD.out _ hw1
     have C3:=HC3.out w1 hb1
     have e0:=C3.c0
     have e1:=C3.c1
     have e2:=C3.c2
     clear d2 C3 b0 b1
     have c10:=HC1.out w1 hw1
     go_wp2_with fail
     refine (HCQ.out _ hw1).mono ?_
     rintro e w2 ⟨v,rfl,hv,hb2⟩
     have hw2:Below w.heap.size w w2:=hw1.trans (hb2.mono hw1.size)
     have HF:=Lib.hid (HFIN.out w2 hw2 (by rw [HE.out]; decide))
     rw [HE.out] at HF
     clear e0 e1 e2 d0 d1 c10
     go_wp2
     go_ret
     rw [HE.out]
     exact HF.out
end
end Go.Proofs.YtggkengmlkhdiaaGreat
