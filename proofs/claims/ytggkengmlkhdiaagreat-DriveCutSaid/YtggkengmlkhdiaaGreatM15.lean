/-
  WHAT IS SHOWN: plain facts on memory, of no program: several disks that share a power supply. plain facts on memory, of no program: how a drive lies in memory, and what keeps it. Conditions: as each theorem names them.
-/
import Derived.Test.YtggkengmlkhdiaaGreatM10
import Derived.Test.YtggkengmlkhdiaaGreatM14
import Derived.Test.YtggkengmlkhdiaaGreatM12
namespace Go.Proofs.YtggkengmlkhdiaaGreat
set_option linter.unusedVariables false
open Go.RowKit
theorem own_ty {w w':World} {ts:List TypeId} {B:Bd} {base size n:Nat} {e:TypeId} {v:Value} {xs:List Value} (h:w.ownsRow base e size v n xs) (hk:KeptT ts B w w') (he:e ∉ ts):w'.ownsRow base e size v n xs:=by
 refine own_kept h hk (fun b hb=>?_)
 rcases h.2 with ⟨h2,_⟩ | ⟨g,cap,cur,h2,_,h4,_⟩
 ·rw [h2] at hb; cases hb
 ·rw [h2] at hb; injection hb with hb; subst hb; exact KeptT.no (IsT.of h4) he
abbrev DM (w:World) (B:Bd) (q pw:Nat) (g:Geo) (F:List Flt) (d:DC):Prop:=DPm w B q pw g F d.s d.P d.L d.O
structure Many (w:World) (n pw:Nat) (g:Geo) (qs:List Nat) (m:MS) (S:Nat→Nat→Prop) (hn:n≤w.heap.size):Prop where
 disk:∀ (i:Nat) (v:DX) (q:Nat),m.ds[i]?=some v→qs[i]?=some q→DM w (Bd.on n w.heap.size (S i) hn) q pw g v.F (m.dc v)
 pow:PowM w (Bd.of n) pw m.P
 no:∀ i j k,i < m.ds.length→j < m.ds.length→i≠j→k < w.heap.size→S i k→S j k→k=pw
 len:qs.length=m.ds.length
def ManyM (w:World) (n pw:Nat) (g:Geo) (qs:List Nat) (m:MS):Prop:=∃ S hn,Many w n pw g qs m S hn
section
variable {w w':World} {B C D:Bd} {n q pw:Nat} {g:Geo} {qs:List Nat} {m:MS} {F:List Flt} {s:DS} {P P':Pow} {L:List Sec} {O:List OpV} {S:Nat→Nat→Prop} {hn:n≤w.heap.size}
theorem DPm.moveN (h:DPm w B q pw g F s P L O) (hb:Below w.heap.size w w') (hs:Bd.Sub w.heap.size B C) (hC:C.top≤w'.heap.size):DPm w' C q pw g F s P L O:=by
 obtain ⟨⟨p,FA,fc,hd⟩,hp,hf,hsb,hB⟩:=h
 exact ⟨⟨p,FA,fc,(hd.mono hs).below0 hb⟩,(hp.mono hs).below0 hb,hf,hsb,hC⟩
theorem DPm.moveT {ts:List TypeId} (h:DPm w B q pw g F s P L O) (hk:KeptT ts D w w') (ht:∀ t,t∈[166,162,196,173,3,65,5]→t ∉ ts) (h1:109 ∉ ts) (h2:49 ∉ ts) (h3:132 ∉ ts) (hs:Bd.Sub w.heap.size B C) (hC:C.top≤w'.heap.size):DPm w' C q pw g F s P L O:=by
 obtain ⟨⟨p,FA,fc,hd⟩,hp,hf,hsb,hB⟩:=h
 exact ⟨⟨p,FA,fc,(hd.mono hs).keptT hk ht h1 h2⟩,(hp.mono hs).keptT hk h3,hf,hsb,hC⟩
end
end Go.Proofs.YtggkengmlkhdiaaGreat
namespace Go.Proofs.YtggkengmlkhdiaaGreat
set_option linter.unusedVariables false
open Go.RowKit
def NE.cells (n:NE):List Value:=[.int .i64 n.kind,.int .u64 n.ver,.int .i64 n.adr]
theorem necells_len (n:NE):n.cells.length=3:=rfl
def flatE (l:List NE):List Value:=l.flatMap NE.cells
theorem flatE_len (l:List NE):(flatE l).length=l.length * 3:=flat_len _ 3 necells_len l
theorem flatE_get {l:List NE} {i:Nat} {n:NE} (h:l[i]?=some n) (t:Nat) (ht:t < 3):(flatE l)[i * 3+t]?=n.cells[t]?:=by
 unfold flatE; rw [flat_get _ 3 necells_len l i t ht,h]; rfl
theorem flatE_set:∀ (l:List NE) (i:Nat) (n:NE),i < l.length→(((flatE l).set (i * 3) (.int .i64 n.kind)).set (i * 3+1) (.int .u64 n.ver)).set (i * 3+2) (.int .i64 n.adr)=flatE (l.set i n)
 | a::l,0,n,_=>by simp [flatE,NE.cells]
 | a::l,i+1,n,h=>by
   have ih:=flatE_set l i n (by simpa using h)
   unfold flatE at ih ⊢
   rw [List.flatMap_cons,List.set_cons_succ,List.flatMap_cons,← ih]
   rw [show (i+1) * 3=i * 3+2+1 by omega]
   simp only [NE.cells,List.cons_append,List.nil_append,Nat.add_assoc]
   simp [List.set]
def DRT:List TypeId:=[196,166,173,109,132,87,84]
theorem dat_drt:∀ t,t∈DAT→t∈DRT:=by unfold DAT DRT; decide
def vObj (q:Nat) (key:Int) (v:DV) (ea ec:Nat) (BA:Option Addr) (bc:Nat):List Value:=
 [.pointer (some ⟨q,0,none⟩),.int .u64 key,.slice (some ⟨ea,0,none⟩) v.es.length ec,.slice BA v.bs.length bc,.int .u64 v.time,.int .i64 v.failed]
structure Drv (w:World) (B:Bd) (p q pw:Nat) (g:Geo) (F:List Flt) (key:Int) (S:ST) (ea ec:Nat) (BA:Option Addr) (bc:Nat):Prop where
 obj:w.ownsRow B.n 87 6 (.slice (some ⟨p,0,none⟩) 1 1) 1 (vObj q key S.v ea ec BA bc)
 px:¬ B.X p
 es:w.ownsRow B.n 84 3 (.slice (some ⟨ea,0,none⟩) S.v.es.length ec) S.v.es.length (flatE S.v.es)
 ex:¬ B.X ea
 bs:RdT w 76 BA (V.flat S.v.bs)
 dsk:DM w B q pw g F S.d
def DrvM (w:World) (B:Bd) (p q pw:Nat) (g:Geo) (F:List Flt) (key:Int) (S:ST):Prop:=∃ ea ec BA bc,Drv w B p q pw g F key S ea ec BA bc
section
variable {w w':World} {B C:Bd} {p q pw:Nat} {g:Geo} {F:List Flt} {key:Int} {S:ST} {ea ec:Nat} {BA:Option Addr} {bc:Nat}
theorem drow_low {w:World} {B:Nat} {t:TypeId} {m n k c:Nat} {xs:List Value} (h:w.ownsRow B t m (.slice (some ⟨k,0,none⟩) n c) n xs):B≤k:=by
 rcases h.2 with ⟨h2,_⟩ | ⟨g',cap,cur,h2,h3,_⟩
 ·cases h2
 ·injection h2 with h2; injection h2 with h2; injection h2 with h2; subst h2; exact h3
theorem Drv.below0 (h:Drv w B p q pw g F key S ea ec BA bc) (hk:Below w.heap.size w w'):Drv w' B p q pw g F key S ea ec BA bc:=
 ⟨own_kept h.obj (belKept0 (S:=fun _=>False) hk) (fun _ _ h=>h),h.px,own_kept h.es (belKept0 (S:=fun _=>False) hk) (fun _ _ h=>h),h.ex,h.bs.below0 hk,DPm.below0 h.dsk hk⟩
theorem DrvM.below0 (h:DrvM w B p q pw g F key S) (hk:Below w.heap.size w w'):DrvM w' B p q pw g F key S:=by
 obtain ⟨ea,ec,BA,bc,h⟩:=h
 exact ⟨ea,ec,BA,bc,h.below0 hk⟩
theorem Drv.disk (h:Drv w B p q pw g F key S ea ec BA bc) {d:DC} (hd:DM w' B q pw g F d) (hk:KeptT DAT C w w'):Drv w' B p q pw g F key ⟨S.v,d⟩ ea ec BA bc:=
 ⟨own_ty h.obj hk (by unfold DAT; decide),h.px,own_ty h.es hk (by unfold DAT; decide),h.ex,h.bs.kept hk (KeptT.free (by unfold DAT; decide)),hd⟩
theorem Drv.types {ts:List TypeId} (h:Drv w B p q pw g F key S ea ec BA bc) (hk:KeptT ts C w w') (ht:∀ t,t∈[87,84,76,109,49,132,166,162,196,173,3,65,5]→t ∉ ts):Drv w' B p q pw g F key S ea ec BA bc:=
 ⟨own_ty h.obj hk (ht _ (by decide)),h.px,own_ty h.es hk (ht _ (by decide)),h.ex,h.bs.kept hk (KeptT.free (ht _ (by decide))),
   DPm.moveT h.dsk hk (fun t h'=>ht t (by revert t; decide)) (ht _ (by decide)) (ht _ (by decide)) (ht _ (by decide)) ⟨Nat.le_refl _,fun _ _ h=>h⟩ (Nat.le_trans h.dsk.B hk.size)⟩
theorem Drv.cell (h:Drv w B p q pw g F key S ea ec BA bc) (j:Nat) (hj:j < 6):w.cell? ⟨p,j,none⟩=(vObj q key S.v ea ec BA bc)[j]?:=World.ownsRow.cellAt h.obj j (by omega)
theorem Drv.free (h:Drv w B p q pw g F key S ea ec BA bc) (j:Nat):w.frozen? ⟨p,j,none⟩=false:=h.obj.frozenAt j
theorem Drv.cells (h:Drv w B p q pw g F key S ea ec BA bc):w.cell? ⟨p,0,none⟩=some (.pointer (some ⟨q,0,none⟩))∧w.cell? ⟨p,1,none⟩=some (.int .u64 key)∧w.cell? ⟨p,2,none⟩=some (.slice (some ⟨ea,0,none⟩) S.v.es.length ec)∧w.cell? ⟨p,3,none⟩=some (.slice BA S.v.bs.length bc)∧w.cell? ⟨p,4,none⟩=some (.int .u64 S.v.time)∧w.cell? ⟨p,5,none⟩=some (.int .i64 S.v.failed):=
 ⟨(h.cell 0 (by decide)).trans rfl,(h.cell 1 (by decide)).trans rfl,(h.cell 2 (by decide)).trans rfl,(h.cell 3 (by decide)).trans rfl,(h.cell 4 (by decide)).trans rfl,(h.cell 5 (by decide)).trans rfl⟩
theorem Drv.entry (h:Drv w B p q pw g F key S ea ec BA bc) {i:Nat} {n:NE} (hn:S.v.es[i]?=some n):w.cell? ⟨ea,i * 3,none⟩=some (.int .i64 n.kind)∧w.cell? ⟨ea,i * 3+1,none⟩=some (.int .u64 n.ver)∧w.cell? ⟨ea,i * 3+2,none⟩=some (.int .i64 n.adr):=by
 have hi:i < S.v.es.length:=(List.getElem?_eq_some_iff.1 hn).1
 have e:=fun t ht=>(World.ownsRow.cellAt h.es (i * 3+t) (by omega)).trans (flatE_get hn t ht)
 exact ⟨(e 0 (by decide)).trans rfl,(e 1 (by decide)).trans rfl,(e 2 (by decide)).trans rfl⟩
theorem Drv.freeE (h:Drv w B p q pw g F key S ea ec BA bc) (j:Nat):w.frozen? ⟨ea,j,none⟩=false:=h.es.frozenAt j
theorem Drv.hasP (h:Drv w B p q pw g F key S ea ec BA bc):B.has p:=⟨drow_low h.obj,h.px⟩
theorem Drv.hasE (h:Drv w B p q pw g F key S ea ec BA bc):B.has ea:=⟨drow_low h.es,h.ex⟩
theorem Drv.store (h:Drv w B p q pw g F key S ea ec BA bc) (j:Nat) (u:Value):KeptT [87] B w (w.setCell ⟨p,j,none⟩ u)∧
  (w.setCell ⟨p,j,none⟩ u).ownsRow B.n 87 6 (.slice (some ⟨p,0,none⟩) 1 1) 1 ((vObj q key S.v ea ec BA bc).set j u):=by
 have hk:Kept (fun k=>k=p) w (w.setCell ⟨p,j,none⟩ u):=(Kept.refl (fun k=>k=p) w).setCell (p:=⟨p,j,none⟩) (fun _=>rfl) _
 exact ⟨KeptT.of hk (fun k _ e=>by have e':k=p:=e; subst e'; exact ⟨h.hasP,HasT.mem (IsT.own h.obj) (by simp)⟩),(World.ownsRow.stored h.obj j u).1⟩
theorem Drv.rest (h:Drv w B p q pw g F key S ea ec BA bc) (hk:KeptT [87] C w w') {v:DV} (he:v.es=S.v.es) (hb:v.bs=S.v.bs) (ho:w'.ownsRow B.n 87 6 (.slice (some ⟨p,0,none⟩) 1 1) 1 (vObj q key v ea ec BA bc)):Drv w' B p q pw g F key ⟨v,S.d⟩ ea ec BA bc:=by
 refine ⟨ho,h.px,?_,h.ex,?_,?_⟩
 ·simp only; rw [he]; exact own_ty h.es hk (by decide)
 ·simp only; rw [hb]; exact h.bs.kept hk (KeptT.free (by decide))
 ·exact DPm.moveT h.dsk hk (by decide) (by decide) (by decide) (by decide) ⟨Nat.le_refl _,fun _ _ h=>h⟩ (Nat.le_trans h.dsk.B hk.size)
theorem Drv.setFailed (h:Drv w B p q pw g F key S ea ec BA bc) (er:Int):Drv (w.setCell ⟨p,5,none⟩ (.int .i64 er)) B p q pw g F key ⟨{ S.v with failed:=er },S.d⟩ ea ec BA bc∧KeptT DRT B w (w.setCell ⟨p,5,none⟩ (.int .i64 er)):=by
 obtain ⟨hk,ho⟩:=h.store 5 (.int .i64 er)
 exact ⟨h.rest hk rfl rfl ho,hk.sub (by unfold DRT; decide)⟩
theorem Drv.setTime (h:Drv w B p q pw g F key S ea ec BA bc) (t:Int):Drv (w.setCell ⟨p,4,none⟩ (.int .u64 t)) B p q pw g F key ⟨{ S.v with time:=t },S.d⟩ ea ec BA bc∧KeptT DRT B w (w.setCell ⟨p,4,none⟩ (.int .u64 t)):=by
 obtain ⟨hk,ho⟩:=h.store 4 (.int .u64 t)
 exact ⟨h.rest hk rfl rfl ho,hk.sub (by unfold DRT; decide)⟩
theorem Drv.setBands (h:Drv w B p q pw g F key S ea ec BA bc) {A:Option Addr} {c:Nat} {bs:List V.BI} (hr:RdT w 76 A (V.flat bs)):
  Drv (w.setCell ⟨p,3,none⟩ (.slice A bs.length c)) B p q pw g F key ⟨{ S.v with bs:=bs },S.d⟩ ea ec A c∧KeptT DRT B w (w.setCell ⟨p,3,none⟩ (.slice A bs.length c)):=by
 obtain ⟨hk,ho⟩:=h.store 3 (.slice A bs.length c)
 refine ⟨⟨ho,h.px,own_ty h.es hk (by decide),h.ex,hr.kept hk (KeptT.free (by decide)),?_⟩,hk.sub (by unfold DRT; decide)⟩
 exact DPm.moveT h.dsk hk (by decide) (by decide) (by decide) (by decide) ⟨Nat.le_refl _,fun _ _ h=>h⟩ (Nat.le_trans h.dsk.B hk.size)
theorem Drv.setEntry (h:Drv w B p q pw g F key S ea ec BA bc) {i:Nat} (hi:i < S.v.es.length) (n:NE):
  Drv (((w.setCell ⟨ea,i * 3,none⟩ (.int .i64 n.kind)).setCell ⟨ea,i * 3+1,none⟩ (.int .u64 n.ver)).setCell ⟨ea,i * 3+2,none⟩ (.int .i64 n.adr)) B p q pw g F key ⟨{ S.v with es:=S.v.es.set i n },S.d⟩ ea ec BA bc∧
  KeptT DRT B w (((w.setCell ⟨ea,i * 3,none⟩ (.int .i64 n.kind)).setCell ⟨ea,i * 3+1,none⟩ (.int .u64 n.ver)).setCell ⟨ea,i * 3+2,none⟩ (.int .i64 n.adr)):=by
 have hk:Kept (fun k=>k=ea) w (((w.setCell ⟨ea,i * 3,none⟩ (.int .i64 n.kind)).setCell ⟨ea,i * 3+1,none⟩ (.int .u64 n.ver)).setCell ⟨ea,i * 3+2,none⟩ (.int .i64 n.adr)):=
  (((Kept.refl (fun k=>k=ea) w).setCell (p:=⟨ea,i * 3,none⟩) (fun _=>rfl) _).setCell (p:=⟨ea,i * 3+1,none⟩) (fun _=>rfl) _).setCell (p:=⟨ea,i * 3+2,none⟩) (fun _=>rfl) _
 have hkT:KeptT [84] B w (((w.setCell ⟨ea,i * 3,none⟩ (.int .i64 n.kind)).setCell ⟨ea,i * 3+1,none⟩ (.int .u64 n.ver)).setCell ⟨ea,i * 3+2,none⟩ (.int .i64 n.adr)):=
  KeptT.of hk (fun k _ e=>by have e':k=ea:=e; subst e'; exact ⟨h.hasE,HasT.mem (IsT.own h.es) (by simp)⟩)
 have h1:=(World.ownsRow.stored h.es (i * 3) (.int .i64 n.kind)).1
 have h2:=(World.ownsRow.stored h1 (i * 3+1) (.int .u64 n.ver)).1
 have h3:=(World.ownsRow.stored h2 (i * 3+2) (.int .i64 n.adr)).1
 rw [flatE_set _ _ _ hi] at h3
 refine ⟨⟨?_,h.px,?_,h.ex,h.bs.kept hkT (KeptT.free (by decide)),?_⟩,hkT.sub (by unfold DRT; decide)⟩
 ·have:=own_ty h.obj hkT (by decide)
  unfold vObj at this ⊢
  simp only [List.length_set]; exact this
 ·simp only [List.length_set]; exact h3
 ·exact DPm.moveT h.dsk hkT (by decide) (by decide) (by decide) (by decide) ⟨Nat.le_refl _,fun _ _ h=>h⟩ (Nat.le_trans h.dsk.B hkT.size)
end
end Go.Proofs.YtggkengmlkhdiaaGreat
