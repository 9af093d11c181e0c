/-
  WHAT IS SHOWN: plain facts on memory, of no program: how a rig (a drive with the history of each block) lies in memory, and what keeps it. what note of a rig leaves. Conditions: as each theorem names them.
-/
import Derived.Test.YtggkengmlkhdiaaGreatM38
import Derived.Test.YtggkengmlkhdiaaGreatM16
import Derived.StillTailTactics
namespace Go.Proofs.YtggkengmlkhdiaaGreat
set_option linter.unusedVariables false
open Go.RowKit
section
variable {w w':World} {B C:Bd} {p q pw:Nat} {g:Geo} {F:List Flt} {key:Int} {S:ST} {ea ec:Nat} {BA:Option Addr} {bc:Nat}
theorem Cac.keptNil {m1 b1 m2 b2:Nat} {A:Option Addr} {c:Nat} {G:List Value} {LM:List Sec} {ts:List TypeId} (h:Cac w B p g LM [] m1 b1 m2 b2 A c G) (hk:KeptT ts C w w') (ht:∀ t,t∈[166,162,196,173,5]→t ∉ ts):Cac w' B p g LM [] m1 b1 m2 b2 A c G:=
 ⟨own_kept h.obj hk (fun k e=>by simp [Value.ownBlock] at e; subst e; exact KeptT.no h.typ (ht _ (by simp))),h.px,h.ax,h.lb1,h.lb2,h.ne,
   h.med1.keptT hk (ht _ (by simp)) (ht _ (by simp)) (ht _ (by simp)),h.med2.keptT hk (ht _ (by simp)) (ht _ (by simp)) (ht _ (by simp)),
   own_kept h.own hk (fun k hk'=>KeptT.no (h.typA k hk').1 (ht _ (by simp))),fun i o ho=>by simp at ho⟩
theorem Drv.keptInt (h:Drv w B p q pw g F key S ea ec BA bc) (hO:S.d.O=[]) (hk:KeptT [3] C w w'):Drv w' B p q pw g F key S ea ec BA bc:=by
 obtain ⟨h1,h2,h3,h4,h5,h6⟩:=h
 refine ⟨own_ty h1 hk (by decide),h2,own_ty h3 hk (by decide),h4,h5.kept hk (KeptT.free (by decide)),?_⟩
 obtain ⟨⟨pc,FA,fc,hd⟩,hp,hf,hsb,hB⟩:=h6
 show DPm w' B q pw g F S.d.s S.d.P S.d.L S.d.O
 rw [hO] at hd ⊢
 obtain ⟨d1,d2,⟨m1,b1,m2,b2,A,c,G,hc⟩,d4⟩:=hd
 exact ⟨⟨pc,FA,fc,own_kept d1 hk (fun k e=>by simp [Value.ownBlock] at e; subst e; exact KeptT.no (IsT.own d1) (by decide)),d2,⟨m1,b1,m2,b2,A,c,G,hc.keptNil hk (by decide)⟩,d4.kept hk (KeptT.free (by decide))⟩,hp.keptT hk (by decide),hf,hsb,Nat.le_trans hB hk.size⟩
end
def Bd.out (N:Nat) (X:Nat→Prop) (top:Nat) (hx:∀ k,X k→k < top) (hN:N≤top):Bd:=⟨N,X,top,hx,hN⟩
theorem DM.apart {w:World} {N q pw:Nat} {g:Geo} {F:List Flt} {d:DC} {X:Nat→Prop} (h:DM w (Bd.of N) q pw g F d) (hX:∀ k,X k→HasT [87,84] w k) (hx:∀ k,X k→k < w.heap.size) (hN:N≤w.heap.size):
  DM w (Bd.out N X w.heap.size hx hN) q pw g F d:=by
 have hno:∀ {t:TypeId} {k:Nat},IsT t w k→t ∉ [(87:TypeId),84]→¬ X k:=fun hk ht hXk=>HasT.no hk ht (hX _ hXk)
 obtain ⟨⟨pc,FA,fc,d1,d2,⟨m1,b1,m2,b2,A,c,G,hc⟩,d4⟩,⟨p1,p2⟩,hf,hsb,hB⟩:=h
 refine ⟨⟨pc,FA,fc,d1,hno (IsT.own d1) (by decide),⟨m1,b1,m2,b2,A,c,G,?_⟩,d4⟩,⟨p1,hno (IsT.own p1) (by decide)⟩,hf,hsb,Nat.le_refl _⟩
 exact ⟨hc.obj,hno hc.typ (by decide),fun k hk=>hno (hc.typA k hk).1 (by decide),⟨hc.lb1.1,hno hc.med1.types.2 (by decide)⟩,⟨hc.lb2.1,hno hc.med2.types.2 (by decide)⟩,hc.ne,hc.med1,hc.med2,hc.own,hc.fn⟩
theorem DM.back {w:World} {N q pw:Nat} {g:Geo} {F:List Flt} {d:DC} {X:Nat→Prop} {top:Nat} {hx:∀ k,X k→k < top} {hN:N≤top} (h:DM w (Bd.out N X top hx hN) q pw g F d):DM w (Bd.of N) q pw g F d:=
 DPm.moveN h (Below.refl _ _) ⟨Nat.le_refl _,fun k _ hk=>⟨hk.1,fun h=>h⟩⟩ (Nat.le_trans hN h.B)
theorem DrvM.back {w:World} {N p q pw:Nat} {g:Geo} {F:List Flt} {key:Int} {S:ST} {X:Nat→Prop} {top:Nat} {hx:∀ k,X k→k < top} {hN:N≤top} (h:DrvM w (Bd.out N X top hx hN) p q pw g F key S):DrvM w (Bd.of N) p q pw g F key S:=by
 obtain ⟨ea,ec,BA,bc,h1,h2,h3,h4,h5,h6⟩:=h
 exact ⟨ea,ec,BA,bc,h1,fun h=>h,h3,fun h=>h,h5,DM.back h6⟩
theorem Drv.other {w w':World} {N p q pw:Nat} {g:Geo} {F:List Flt} {key:Int} {S:ST} {ea ec:Nat} {BA:Option Addr} {bc:Nat} {top:Nat} {hx:∀ k,(k=p∨k=ea)→k < top} {hN:N≤top} (h:Drv w (Bd.of N) p q pw g F key S ea ec BA bc) (hk:KeptT DRT (Bd.out N (fun k=>k=p∨k=ea) top hx hN) w w') {d:DC} (hd:DM w' (Bd.of N) q pw g F d):Drv w' (Bd.of N) p q pw g F key ⟨S.v,d⟩ ea ec BA bc:=
 ⟨own_kept h.obj hk (fun k e hh=>by simp [Value.ownBlock] at e; subst e; exact hh.1.2 (.inl rfl)),h.px,own_kept h.es hk (fun k e hh=>by simp [Value.ownBlock] at e; subst e; exact hh.1.2 (.inr rfl)),h.ex,h.bs.kept hk (KeptT.free (by unfold DRT; decide)),hd⟩
def Wr.cells (x:Wr):List Value:=.int .u64 x.ver::(x.dt.map (Value.int .u8)++[.bool x.trim])
structure Wr.Ok (x:Wr):Prop where
 len:x.dt.length=8
def flatW (l:List Wr):List Value:=l.flatMap Wr.cells
theorem wcells_len {x:Wr} (h:x.dt.length=8):x.cells.length=10:=by simp [Wr.cells,h]
structure Hs where
 A:Option Addr
 xs:List Wr
 c:Nat
def Hs.v (h:Hs):Value:=.slice h.A h.xs.length h.c
structure HistM (w:World) (n:Nat) (ha hc:Nat) (hs:List Hs):Prop where
 own:w.ownsRow n 62 1 (.slice (some ⟨ha,0,none⟩) hs.length hc) hs.length (hs.map Hs.v)
 each:∀ (i:Nat) (h:Hs),hs[i]?=some h→w.ownsRow n 64 10 h.v h.xs.length (flatW h.xs)
 apart:∀ (i j:Nat) (h k:Hs),hs[i]?=some h→hs[j]?=some k→i≠j→h.v.ownBlock=none∨h.v.ownBlock≠k.v.ownBlock
 wok:∀ (i:Nat) (h:Hs),hs[i]?=some h→∀ x∈h.xs,x.dt.length=8
section
variable {w w':World} {ts:List TypeId} {B:Bd} {n ha hc:Nat} {hs:List Hs}
theorem HistM.types (h:HistM w n ha hc hs) (hk:KeptT ts B w w') (h1:62 ∉ ts) (h2:64 ∉ ts):HistM w' n ha hc hs:=
 ⟨own_ty h.own hk h1,fun i k hi=>own_ty (h.each i k hi) hk h2,h.apart,h.wok⟩
theorem HistM.below (h:HistM w n ha hc hs) (hb:Below w.heap.size w w'):HistM w' n ha hc hs:=h.types (ts:=[]) (B:=Bd.of 0) (KeptT.bel hb) (by simp) (by simp)
theorem HistM.cell (h:HistM w n ha hc hs) {i:Nat} {k:Hs} (hi:hs[i]?=some k):w.cell? ⟨ha,i,none⟩=some k.v:=by
 have hl:i < hs.length:=(List.getElem?_eq_some_iff.1 hi).1
 rw [World.ownsRow.cellAt h.own i (by omega),List.getElem?_map,hi]; rfl
theorem HistM.free (h:HistM w n ha hc hs) (i:Nat):w.frozen? ⟨ha,i,none⟩=false:=h.own.frozenAt i
theorem HistM.low (h:HistM w n ha hc hs):n≤ha:=drow_low h.own
theorem HistM.push {i:Nat} {k:Hs} {x:Wr} {gb cap H:Nat} (h:HistM w n ha hc hs) (hi:hs[i]?=some k) (hx:x.dt.length=8) (hH:w.heap.size≤H)
  (hown:w'.ownsRow n 64 10 (.slice (some ⟨gb,0,none⟩) (k.xs.length+1) cap) (k.xs.length+1) (flatW k.xs++x.cells)) (hg:∀ b,b < w.heap.size→some b≠k.v.ownBlock→w'.heap[b]?=w.heap[b]?) (hat:k.v.ownBlock=some gb∨gb=H):
  HistM (w'.setCell ⟨ha,i,none⟩ (.slice (some ⟨gb,0,none⟩) (k.xs.length+1) cap)) n ha hc (hs.set i ⟨some ⟨gb,0,none⟩,k.xs++[x],cap⟩):=by
 have hl:i < hs.length:=(List.getElem?_eq_some_iff.1 hi).1
 have hha:IsT 62 w ha:=IsT.own h.own
 have hkb:∀ b,k.v.ownBlock=some b→IsT 64 w b:=fun b hb=>by
  rcases (h.each i k hi).2 with ⟨h2,_⟩ | ⟨g',cap,cur,h2,_,h4,_⟩
  ·rw [h2] at hb; cases hb
  ·rw [h2] at hb; injection hb with hb; subst hb; exact IsT.of h4
 have hne:some ha≠k.v.ownBlock:=fun e=>(hha.ne (hkb ha e.symm) (by decide)) rfl
 have hrow:∀ {t:TypeId} {m:Nat} {v:Value} {l:Nat} {xs:List Value},w.ownsRow n t m v l xs→(v.ownBlock=none∨v.ownBlock≠k.v.ownBlock)→w'.ownsRow n t m v l xs:=by
  intro t m v l xs ho hb
  refine ⟨ho.1,?_⟩
  rcases ho.2 with h2 | ⟨g',cp,cur,h2,h3,h4,h5⟩
  ·exact .inl h2
  ·refine .inr ⟨g',cp,cur,h2,h3,?_,h5⟩
   rw [hg g' (lt_of_block h4) (fun e=>by
    rcases hb with hb | hb
    ·rw [h2] at hb; cases hb
    ·exact hb (by rw [h2]; exact e))]
   exact h4
 have ho':=hrow h.own (.inr (by simpa [Value.ownBlock] using hne))
 have hst:=(World.ownsRow.stored ho' i (.slice (some ⟨gb,0,none⟩) (k.xs.length+1) cap)).1
 have hgb:∀ {t:TypeId} {m:Nat} {v:Value} {l:Nat} {xs:List Value},w'.ownsRow n t m v l xs→v.ownBlock≠some ha→(w'.setCell ⟨ha,i,none⟩ (.slice (some ⟨gb,0,none⟩) (k.xs.length+1) cap)).ownsRow n t m v l xs:=by
  intro t m v l xs ho hb
  exact own_kept ho ((Kept.refl (fun b=>b=ha) w').setCell (p:=⟨ha,i,none⟩) (fun _=>rfl) _) (fun b e hb'=>hb (by rw [e,hb']))
 have hgne:gb≠ha:=by
  rcases hat with e | e
  ·intro e'; subst e'; exact hne e.symm
  ·have:=hha.lt; omega
 refine ⟨?_,?_,?_,?_⟩
 ·have ev:Hs.v ⟨some ⟨gb,0,none⟩,k.xs++[x],cap⟩= .slice (some ⟨gb,0,none⟩) (k.xs.length+1) cap:=by simp [Hs.v]
  rw [List.length_set,List.map_set,ev]; exact hst
 ·intro j u hu
  by_cases e:i=j
  ·subst e
   rw [List.getElem?_set_self hl] at hu
   injection hu with hu; subst hu
   have:=hgb hown (by simpa [Value.ownBlock] using hgne)
   simp only [Hs.v,List.length_append,List.length_cons,List.length_nil,flatW,List.flatMap_append,List.flatMap_cons,List.flatMap_nil,List.append_nil]
   exact this
  ·rw [List.getElem?_set_ne e] at hu
   have h1:=h.each j u hu
   refine hgb (hrow h1 (h.apart j i u k hu hi (fun e'=>e e'.symm))) (fun e'=>?_)
   rcases h1.2 with ⟨h2,_⟩ | ⟨g',cp,cur,h2,_,h4,_⟩
   ·rw [h2] at e'; cases e'
   ·rw [h2] at e'; injection e' with e'; subst e'
    exact (hha.ne (IsT.of h4) (by decide)) rfl
 ·have hfar:∀ (j:Nat) (u:Hs),hs[j]?=some u→j≠i→u.v.ownBlock=none∨u.v.ownBlock≠some gb:=fun j u hu hj=>by
   rcases hat with e | e
   ·rw [← e]; exact h.apart j i u k hu hi hj
   ·rcases (h.each j u hu).2 with ⟨h2,_⟩ | ⟨g',cp,cur,h2,_,h4,_⟩
    ·exact .inl (by rw [h2]; rfl)
    ·refine .inr (fun e'=>?_)
     rw [h2] at e'; injection e' with e'
     have e2:g'=gb:=e'
     have:=lt_of_block h4; omega
  intro a b u v hu hv hab
  by_cases ea:i=a
  ·subst ea
   rw [List.getElem?_set_self hl] at hu
   injection hu with hu; subst hu
   rw [List.getElem?_set_ne hab] at hv
   rcases hfar b v hv (fun e=>hab e.symm) with e | e
   ·exact .inr (fun e'=>by rw [e] at e'; cases e')
   ·exact .inr (fun e'=>e (e'.symm))
  ·rw [List.getElem?_set_ne ea] at hu
   by_cases eb:i=b
   ·subst eb
    rw [List.getElem?_set_self hl] at hv
    injection hv with hv; subst hv
    exact hfar a u hu (fun e=>ea e.symm)
   ·rw [List.getElem?_set_ne eb] at hv
    exact h.apart a b u v hu hv hab
 ·intro j u hu
  by_cases e:i=j
  ·subst e
   rw [List.getElem?_set_self hl] at hu
   injection hu with hu; subst hu
   intro y hy
   rcases List.mem_append.1 hy with hy | hy
   ·exact h.wok i k hi y hy
   ·simp at hy; subst hy; exact hx
  ·rw [List.getElem?_set_ne e] at hu
   exact h.wok j u hu
end
def rObj (pw q p:Nat) (n:Nat) (ha hl hc fa fl fc:Nat) (next:Int):List Value:=
 [.pointer (some ⟨pw,0,none⟩),.pointer (some ⟨q,0,none⟩),.pointer (some ⟨p,0,none⟩),.int .i64 n,.slice (some ⟨ha,0,none⟩) hl hc,.slice (some ⟨fa,0,none⟩) fl fc,.int .u64 next]
def RGT:List TypeId:=[196,166,173,109,132,87,84,58,62,64,3]
structure Rig (w:World) (N r p q pw ha hc fa fc:Nat) (g:Geo) (F:List Flt) (n:Nat) (R:RG) (hs:List Hs):Prop where
 obj:w.ownsRow N 58 7 (.slice (some ⟨r,0,none⟩) 1 1) 1 (rObj pw q p n ha hs.length hc fa R.fl.length fc R.next)
 hist:HistM w N ha hc hs
 hh:hs.map Hs.xs=R.hist
 fl:w.ownsRow N 3 1 (.slice (some ⟨fa,0,none⟩) R.fl.length fc) R.fl.length (R.fl.map (Value.int .i64))
 drv:DrvM w (Bd.of N) p q pw g F 0 R.S
def RigM (w:World) (N r q pw:Nat) (g:Geo) (F:List Flt) (n:Nat) (R:RG):Prop:=∃ p ha hc fa fc hs,Rig w N r p q pw ha hc fa fc g F n R hs
section
variable {w w':World} {N r p q pw ha hc fa fc:Nat} {g:Geo} {F:List Flt} {n:Nat} {R:RG} {hs:List Hs} {C:Bd}
theorem Rig.cell (h:Rig w N r p q pw ha hc fa fc g F n R hs) (j:Nat) (hj:j < 7):w.cell? ⟨r,j,none⟩=(rObj pw q p n ha hs.length hc fa R.fl.length fc R.next)[j]?:=World.ownsRow.cellAt h.obj j (by omega)
theorem Rig.free (h:Rig w N r p q pw ha hc fa fc g F n R hs) (j:Nat):w.frozen? ⟨r,j,none⟩=false:=h.obj.frozenAt j
theorem Rig.cells (h:Rig w N r p q pw ha hc fa fc g F n R hs):w.cell? ⟨r,0,none⟩=some (.pointer (some ⟨pw,0,none⟩))∧w.cell? ⟨r,1,none⟩=some (.pointer (some ⟨q,0,none⟩))∧w.cell? ⟨r,2,none⟩=some (.pointer (some ⟨p,0,none⟩))∧w.cell? ⟨r,3,none⟩=some (.int .i64 n)∧w.cell? ⟨r,4,none⟩=some (.slice (some ⟨ha,0,none⟩) hs.length hc)∧w.cell? ⟨r,5,none⟩=some (.slice (some ⟨fa,0,none⟩) R.fl.length fc)∧w.cell? ⟨r,6,none⟩=some (.int .u64 R.next):=
 ⟨(h.cell 0 (by decide)).trans rfl,(h.cell 1 (by decide)).trans rfl,(h.cell 2 (by decide)).trans rfl,(h.cell 3 (by decide)).trans rfl,(h.cell 4 (by decide)).trans rfl,(h.cell 5 (by decide)).trans rfl,(h.cell 6 (by decide)).trans rfl⟩
theorem Rig.low (h:Rig w N r p q pw ha hc fa fc g F n R hs):N≤r:=row_low h.obj
theorem Rig.lowF (h:Rig w N r p q pw ha hc fa fc g F n R hs):N≤fa:=drow_low h.fl
theorem Rig.lt (h:Rig w N r p q pw ha hc fa fc g F n R hs):r < w.heap.size:=(IsT.own h.obj).lt
theorem Rig.hl (h:Rig w N r p q pw ha hc fa fc g F n R hs):hs.length=R.hist.length:=by rw [← h.hh,List.length_map]
theorem Rig.below0 (h:Rig w N r p q pw ha hc fa fc g F n R hs) (hb:Below w.heap.size w w'):Rig w' N r p q pw ha hc fa fc g F n R hs:=
 ⟨own_ty (ts:=[]) (B:=Bd.of 0) h.obj (KeptT.bel hb) (by simp),h.hist.below hb,h.hh,own_ty (ts:=[]) (B:=Bd.of 0) h.fl (KeptT.bel hb) (by simp),h.drv.below0 hb⟩
theorem Rig.drive (h:Rig w N r p q pw ha hc fa fc g F n R hs) {S':ST} (hd:DrvM w' (Bd.of N) p q pw g F 0 S') (hk:KeptT DRT C w w'):Rig w' N r p q pw ha hc fa fc g F n { R with S:=S' } hs:=
 ⟨own_ty h.obj hk (by unfold DRT; decide),h.hist.types hk (by unfold DRT; decide) (by unfold DRT; decide),h.hh,own_ty h.fl hk (by unfold DRT; decide),hd⟩
theorem Rig.store (h:Rig w N r p q pw ha hc fa fc g F n R hs) (j:Nat) (u:Value):KeptT [58] (Bd.of N) w (w.setCell ⟨r,j,none⟩ u)∧
  (w.setCell ⟨r,j,none⟩ u).ownsRow N 58 7 (.slice (some ⟨r,0,none⟩) 1 1) 1 ((rObj pw q p n ha hs.length hc fa R.fl.length fc R.next).set j u):=by
 have hk:Kept (fun k=>k=r) w (w.setCell ⟨r,j,none⟩ u):=(Kept.refl (fun k=>k=r) w).setCell (p:=⟨r,j,none⟩) (fun _=>rfl) _
 exact ⟨KeptT.of hk (fun k _ e=>by have e':k=r:=e; subst e'; exact ⟨Bd.hasOf.2 h.low,HasT.mem (IsT.own h.obj) (by simp)⟩),(World.ownsRow.stored h.obj j u).1⟩
theorem Rig.rest (h:Rig w N r p q pw ha hc fa fc g F n R hs) (hk:KeptT [58] C w w'):HistM w' N ha hc hs∧w'.ownsRow N 3 1 (.slice (some ⟨fa,0,none⟩) R.fl.length fc) R.fl.length (R.fl.map (Value.int .i64))∧(∀ {p S},DrvM w (Bd.of N) p q pw g F 0 S→DrvM w' (Bd.of N) p q pw g F 0 S):=
 ⟨h.hist.types hk (by decide) (by decide),own_ty h.fl hk (by decide),fun ⟨ea,ec,BA,bc,hd⟩=>⟨ea,ec,BA,bc,hd.types hk (by decide)⟩⟩
theorem Rig.setNext (h:Rig w N r p q pw ha hc fa fc g F n R hs) (t:Int):Rig (w.setCell ⟨r,6,none⟩ (.int .u64 t)) N r p q pw ha hc fa fc g F n { R with next:=t } hs∧KeptT RGT (Bd.of N) w (w.setCell ⟨r,6,none⟩ (.int .u64 t)):=by
 obtain ⟨hk,ho⟩:=h.store 6 (.int .u64 t)
 obtain ⟨h1,h2,h3⟩:=h.rest hk
 exact ⟨⟨ho,h1,h.hh,h2,h3 h.drv⟩,hk.sub (by unfold RGT; decide)⟩
theorem Rig.setDrive (h:Rig w N r p q pw ha hc fa fc g F n R hs) {p':Nat} {S':ST} (hd:DrvM w (Bd.of N) p' q pw g F 0 S'):Rig (w.setCell ⟨r,2,none⟩ (.pointer (some ⟨p',0,none⟩))) N r p' q pw ha hc fa fc g F n { R with S:=S' } hs∧KeptT RGT (Bd.of N) w (w.setCell ⟨r,2,none⟩ (.pointer (some ⟨p',0,none⟩))):=by
 obtain ⟨hk,ho⟩:=h.store 2 (.pointer (some ⟨p',0,none⟩))
 obtain ⟨h1,h2,h3⟩:=h.rest hk
 exact ⟨⟨ho,h1,h.hh,h2,h3 hd⟩,hk.sub (by unfold RGT; decide)⟩
theorem Rig.setFl (h:Rig w N r p q pw ha hc fa fc g F n R hs) (hO:R.S.d.O=[]) (j:Nat) (t:Int):Rig (w.setCell ⟨fa,j,none⟩ (.int .i64 t)) N r p q pw ha hc fa fc g F n { R with fl:=R.fl.set j t } hs∧KeptT RGT (Bd.of N) w (w.setCell ⟨fa,j,none⟩ (.int .i64 t)):=by
 have hk0:Kept (fun k=>k=fa) w (w.setCell ⟨fa,j,none⟩ (.int .i64 t)):=(Kept.refl (fun k=>k=fa) w).setCell (p:=⟨fa,j,none⟩) (fun _=>rfl) _
 have hk:KeptT [3] (Bd.of N) w (w.setCell ⟨fa,j,none⟩ (.int .i64 t)):=KeptT.of hk0 (fun k _ e=>by have e':k=fa:=e; subst e'; exact ⟨Bd.hasOf.2 h.lowF,HasT.mem (IsT.own h.fl) (by simp)⟩)
 have hst:=(World.ownsRow.stored h.fl j (.int .i64 t)).1
 obtain ⟨ea,ec,BA,bc,hd⟩:=h.drv
 refine ⟨⟨?_,h.hist.types hk (by decide) (by decide),h.hh,?_,⟨ea,ec,BA,bc,hd.keptInt hO hk⟩⟩,hk.sub (by unfold RGT; decide)⟩
 ·simp only [List.length_set]; exact own_ty h.obj hk (by decide)
 ·simp only [List.length_set,List.map_set]; exact hst
theorem Rig.push (h:Rig w N r p q pw ha hc fa fc g F n R hs) {i:Nat} {k:Hs} {x:Wr} {gb cap H:Nat} (hi:hs[i]?=some k) (hx:x.dt.length=8) (hH:w.heap.size≤H)
  (hown:w'.ownsRow N 64 10 (.slice (some ⟨gb,0,none⟩) (k.xs.length+1) cap) (k.xs.length+1) (flatW k.xs++x.cells)) (hg:w.grownBy w' k.v.ownBlock) (hat:k.v.ownBlock=some gb∨gb=H):
  Rig (w'.setCell ⟨ha,i,none⟩ (.slice (some ⟨gb,0,none⟩) (k.xs.length+1) cap)) N r p q pw ha hc fa fc g F n { R with hist:=addH R.hist i x } (hs.set i ⟨some ⟨gb,0,none⟩,k.xs++[x],cap⟩)∧KeptT RGT (Bd.of N) w (w'.setCell ⟨ha,i,none⟩ (.slice (some ⟨gb,0,none⟩) (k.xs.length+1) cap)):=by
 have hkT:KeptT [62,64] (Bd.of N) w (w'.setCell ⟨ha,i,none⟩ (.slice (some ⟨gb,0,none⟩) (k.xs.length+1) cap)):=by
  have h1:Kept (fun b=>some b=k.v.ownBlock∨b=ha) w w':=(Kept.refl _ w).grown hg (fun b _ hb=>.inl hb.symm)
  refine KeptT.of (h1.setCell (p:=⟨ha,i,none⟩) (fun _=>.inr rfl) _) (fun b hb hS=>?_)
  rcases hS with hS | rfl
  ·rcases (h.hist.each i k hi).2 with ⟨h2,_⟩ | ⟨g',cp,cur,h2,h3,h4,_⟩
   ·rw [h2] at hS; cases hS
   ·rw [h2] at hS; injection hS with hS; subst hS
    exact ⟨Bd.hasOf.2 h3,HasT.mem (IsT.of h4) (by simp)⟩
  ·exact ⟨Bd.hasOf.2 h.hist.low,HasT.mem (IsT.own h.hist.own) (by simp)⟩
 obtain ⟨ea,ec,BA,bc,hd⟩:=h.drv
 refine ⟨⟨?_,h.hist.push hi hx hH hown (fun b hb hne=>hg.block b hb hne) hat,?_,own_ty h.fl hkT (by decide),⟨ea,ec,BA,bc,hd.types hkT (by decide)⟩⟩,hkT.sub (by unfold RGT; decide)⟩
 ·simp only [List.length_set]; exact own_ty h.obj hkT (by decide)
 ·simp only
  rw [List.map_set,h.hh,addH]
  simp only
  congr 2
  have:R.hist[i]?=some k.xs:=by rw [← h.hh,List.getElem?_map,hi]; rfl
  rw [List.getD,this]; rfl
end
end Go.Proofs.YtggkengmlkhdiaaGreat
namespace Go.Proofs.YtggkengmlkhdiaaGreat
set_option linter.unusedVariables false
open Go.RowKit
section
variable {P:Program} {ops:Array Oper} {C:List Value→World→Prop} {lim:Nat→Nat} {ch:Nat→Bool} {Q:List Value→Act→Prop}
theorem wpCh_v {dst:Option Tmp} {op:Op} {ty:TypeId} {pos:String} {after:Array Edge} {guard:Option (Nat × Bool)} {rest:List Oper} {k:Nat} {h:List Value} {a:Act} (hch:ch k=true)
  (hw:Region.wanted ⟨dst,op,ty,pos,after,guard⟩ (yielded ops a.tmps)=true) (hrun:∀ w,C h w→∃ v w',(execOp a.eval ⟨dst,op,ty,pos,after,guard⟩).run P w= .ok (.value v) w'∧C (h++[v]) w')
  (hh:∀ v w',C (h++[v]) w'→wpQuiet P ([]:List Oper).toArray (fun x=>x=w') (fun a'=>wpCh P ops C lim ch Q rest (k+1) (h++[v]) a') [⟨dst,.move (.const v),ty,pos,#[],none⟩] a):wpCh P ops C lim ch Q (⟨dst,op,ty,pos,after,guard⟩::rest) k h a:=by
 refine .inl ⟨hw,hch,fun w hC=>?_,fun v w' hv=>?_⟩
 ·obtain ⟨v,w',h1,h2⟩:=hrun w hC
  rw [h1]; exact h2
 ·have:=hh v w' hv
  unfold wpQuiet at this
  rw [if_pos (by rfl)] at this
  obtain ⟨u,h1,h2⟩:=this
  have h3:=h1 w' rfl
  unfold Oper.quietAt at h3
  have e:(execOp a.eval ⟨dst,.move (.const v),ty,pos,#[],none⟩).run P w'= .ok (.value v) w':=rfl
  rw [e] at h3
  obtain ⟨_,rfl⟩:=h3
  exact h2
end
def flJ (h:List (List Wr)) (fl:List Int) (j:Nat):List Int:=(lensH h).take j++fl.drop j
theorem flJ_zero (h:List (List Wr)) (fl:List Int):flJ h fl 0=fl:=by simp [flJ]
theorem flJ_all (h:List (List Wr)) (fl:List Int) (hl:fl.length=h.length):flJ h fl h.length=lensH h:=by
 unfold flJ
 rw [List.take_of_length_le (by simp [lensH]),List.drop_eq_nil_of_le (by omega),List.append_nil]
theorem flJ_len (h:List (List Wr)) (fl:List Int) (hl:fl.length=h.length) (j:Nat):(flJ h fl j).length=h.length:=by
 unfold flJ
 simp only [List.length_append,List.length_take,List.length_drop,lensH,List.length_map]; omega
theorem flJ_set (h:List (List Wr)) (fl:List Int) (hl:fl.length=h.length) {j:Nat} {l:List Wr} (hj:h[j]?=some l):(flJ h fl j).set j (l.length:Int)=flJ h fl (j+1):=by
 have hlt:j < h.length:=(List.getElem?_eq_some_iff.1 hj).1
 have e:(lensH h)[j]?=some (l.length:Int):=by simp [lensH,hj]
 have hL:(lensH h).length=h.length:=by simp [lensH]
 unfold flJ
 apply List.ext_getElem?
 intro i
 rw [List.getElem?_set]
 by_cases hij:j=i
 ·subst hij
  rw [if_pos rfl,if_pos (by simp only [List.length_append,List.length_take,List.length_drop]; omega),List.getElem?_append_left (by rw [List.length_take]; omega),List.getElem?_take_of_lt (by omega),e]
 ·rw [if_neg hij]
  by_cases h1:i < j
  ·rw [List.getElem?_append_left (by rw [List.length_take]; omega),List.getElem?_append_left (by rw [List.length_take]; omega),List.getElem?_take_of_lt h1,List.getElem?_take_of_lt (by omega)]
  ·rw [List.getElem?_append_right (by rw [List.length_take]; omega),List.getElem?_append_right (by rw [List.length_take]; omega),List.length_take,List.length_take,List.getElem?_drop,List.getElem?_drop]
   congr 1; omega
section
variable {w:World} {N r q pw:Nat} {g:Geo} {F:List Flt} {n:Nat} {R:RG}
set_option maxRecDepth 100000 in
set_option maxHeartbeats 8000000 in
theorem note_any (hn:n≤65536) (hO:R.S.d.O=[]) (hl:R.hist.length=n) (hfl:R.fl.length=n) (h:RigM w N r q pw g F n R):
  Calls Tryz.prog 36 #[.pointer (some ⟨r,0,none⟩)] w fun e w'=>e= .returned (.tuple #[])∧RigM w' N r q pw g F n { R with fl:=lensH R.hist }∧KeptT RGT (Bd.of N) w w':=by
 obtain ⟨p,ha,hc,fa,fc,hs,h⟩:=h
 have HH:=Lib.hid h
 have HO:=Lib.hid hO
 have HL:Hid (hs.length=n):=h.hl.trans hl
 have HF0:Hid (flJ R.hist R.fl 0=R.fl):=flJ_zero _ _
 have HFA:Hid (flJ R.hist R.fl n=lensH R.hist):=by unfold Hid; rw [← hl]; exact flJ_all _ _ (hfl.trans hl.symm)
 have HFL:Hid (∀ j,(flJ R.hist R.fl j).length=n):=fun j=>by rw [flJ_len _ _ (hfl.trans hl.symm),hl]
 have HFS:Hid (∀ j k,hs[j]?=some k→(flJ R.hist R.fl j).set j (k.xs.length:Int)=flJ R.hist R.fl (j+1)):=fun j k hk=>flJ_set _ _ (hfl.trans hl.symm) (by rw [← h.hh,List.getElem?_map,hk]; rfl)
 clear hO hl hfl h
 generalize hfj:flJ R.hist R.fl=FJ at *
 clear hfj
 go_enter Tryz.func36,Tryz.ntmps36
 go_wp2
 go_loopw [2] (fun i wr=>∃ j:Nat,j≤n∧i= .int .i64 j∧Hid (Rig wr N r p q pw ha hc fa fc g F n { R with fl:=FJ j } hs)∧Hid (KeptT RGT (Bd.of N) w wr)) (fun i _=>n - (intOf i).toNat)
 case atStart=>exact ⟨0,Nat.zero_le _,rfl,by rw [HF0.out]; exact HH.out,KeptT.refl _ _ _⟩
 case round=>
  obtain ⟨j,hj,rfl,HR,HK⟩:=hrel
  obtain ⟨x0,x1,x2,x3,x4,x5,x6⟩:=HR.out.cells
  by_cases hlt:j < n
  ·have d1:decide ((j:Int) < (n:Int))=true:=decide_eq_true (by omega)
   have d2:decide (j < n)=true:=decide_eq_true hlt
   have hjl:j < hs.length:=by rw [HL.out]; exact hlt
   have hk:=List.getElem?_eq_getElem hjl
   generalize hs[j]=k at hk
   have c1:=HR.out.hist.cell hk
   unfold Hs.v at c1
   have fz:wr.frozen? ⟨fa,j,none⟩=false:=HR.out.fl.frozenAt j
   have HST:=Lib.hid (HFS.out j k hk)
   have HNX:Hid (Rig (wr.drew.setCell ⟨fa,j,none⟩ (.int .i64 (k.xs.length:Int))) N r p q pw ha hc fa fc g F n { R with fl:=FJ (j+1) } hs∧KeptT RGT (Bd.of N) w (wr.drew.setCell ⟨fa,j,none⟩ (.int .i64 (k.xs.length:Int)))):=by
    have h1:=(HR.out.below0 (w':=wr.drew) ((Below.refl _ _).drew)).setFl HO.out j (k.xs.length:Int)
    simp only at h1
    rw [HST.out] at h1
    exact ⟨h1.1,(HK.out.thenBelow ((Below.refl _ _).drew)).trans h1.2⟩
   have hfjl:=HFL.out j
   have hcf:∃ u,wr.cell? ⟨fa,j,none⟩=some u:=⟨_,(World.ownsRow.cellAt HR.out.fl j (by simp only; omega)).trans (by simp only [List.getElem?_map]; rw [List.getElem?_eq_getElem (by omega)]; rfl)⟩
   obtain ⟨u,c2⟩:=hcf
   simp only at x5
   have hij:(j:Int) < (hs.length:Int):=by omega
   have hif:(j:Int) < ((FJ j).length:Int):=by omega
   clear hk
   go_wp2_with fail
   go_still_tail 14,(by kernel_rfl)
   change wpList _ _ _ _ _ wr.drew
   go_wp2
   go_roundw
   case rel=>exact ⟨j+1,hlt,by simp,HNX.out.1,HNX.out.2⟩
   case measure=>simp [intOf]; omega
  ·obtain rfl:j=n:=by omega
   have d1:decide ((j:Int) < (j:Int))=false:=decide_eq_false (by omega)
   have HX:=Lib.hid (And.intro HR.out HK.out)
   clear HR HK
   go_wp2
   go_end0
   exact ⟨rfl,⟨p,ha,hc,fa,fc,hs,by rw [← HFA.out]; exact HX.out.1⟩,HX.out.2⟩
end
end Go.Proofs.YtggkengmlkhdiaaGreat
