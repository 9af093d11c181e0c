/-
  WHAT IS SHOWN: what sector of drive returns and leaves. what sector, fail, state, size, band and has of drive return and leave. what slices.Clone returns of a list of bands: a new list of the same bands; and the stores of band's closures. Conditions: as each theorem names them.
-/
import Derived.Test.YtggkengmlkhdiaaGreatM17
import Derived.Test.YtggkengmlkhdiaaGreatRows
import Derived.Test.YtggkengmlkhdiaaGreatM10
import Derived.Deep.QuietTactic
import Derived.BigQuiet
import Derived.Handy
namespace Go.Proofs.YtggkengmlkhdiaaGreat
set_option linter.unusedVariables false
open Go.RowKit
def KBd (bb:Nat) (w w':World):Prop:=Kept (fun k=>k=bb∨HasT DPT w k) w w'
theorem KBd.refl (bb:Nat) (w:World):KBd bb w w:=Kept.refl _ w
theorem KBd.trans {bb:Nat} {w w' w'':World} (h:KBd bb w w') (k:KBd bb w' w''):KBd bb w w'':=
 Kept.trans h k (fun i hi hs=>by
  by_cases hh:i=bb∨HasT DPT w i
  ·exact hh
  ·have e:=h.block i hi hh
   rcases hs with h1 | ⟨t,ht,cur,fr,h2⟩
   ·exact .inl h1
   ·exact .inr ⟨t,ht,cur,fr,e.symm.trans h2⟩)
theorem KBd.of {bb:Nat} {B:Bd} {w w':World} (h:KeptT DPT B w w'):KBd bb w w':=Kept.more h (fun _ _ h=>.inr h.2)
theorem KBd.set {bb:Nat} {w:World} (u:Value):KBd bb w (w.setCell ⟨bb,0,none⟩ u):=Kept.more ((Kept.refl (fun k=>k=bb) w).setCell (p:=⟨bb,0,none⟩) (fun _=>rfl) u) (fun _ _ h=>.inl h)
def RDT20:List TypeId:=[109,132,65]
theorem dpt_rdt20:∀ t,t∈DPT→t∈RDT20:=by unfold DPT RDT20; decide
theorem KBd.rbt {bb:Nat} {w w':World} {v:Value} {fr:Nat × Nat} (h:KBd bb w w') (hb:w.heap[bb]?=some (.cells #[v] 65 fr)):KeptT RDT20 (Bd.of 0) w w':=
 KeptT.of h (fun k _ e=>⟨⟨Nat.zero_le _,fun h=>h⟩,by
  rcases e with e | ⟨t,ht,h2⟩
  ·subst e; exact HasT.mem (IsT.of hb) (by simp [RDT20])
  ·exact ⟨t,dpt_rdt20 t ht,h2⟩⟩)
theorem set_one {w:World} {k:Nat} {v u:Value} {t:TypeId} (h:w.heap[k]?=some (.cells #[v] t (0,0))):(w.setCell ⟨k,0,none⟩ u).heap[k]?=some (.cells #[u] t (0,0)):=by
 simp [World.setCell,Array.getElem?_modify,h]
theorem free_one {w:World} {k:Nat} {v:Value} {t:TypeId} (h:w.heap[k]?=some (.cells #[v] t (0,0))):w.frozen? ⟨k,0,none⟩=false:=by simp [World.frozen?,h]
section
variable {w w' w0:World} {B:Bd} {q pw p pd:Nat} {g:Geo} {F:List Flt} {s:DS} {P:Pow} {L:List Sec} {O:List OpV} {FA:Option Addr} {fc:Nat}
theorem Mid.box20 {bb n:Nat} {v u:Value} {fr:Nat × Nat} (h:Mid w0 w B q pw g n fc p FA s P) (hb:w0.heap.size≤bb) (ho:w.heap[bb]?=some (.cells #[v] 65 fr)):Mid w0 (w.setCell ⟨bb,0,none⟩ u) B q pw g n fc p FA s P:=by
 have hk:Kept (fun k=>k=bb) w (w.setCell ⟨bb,0,none⟩ u):=(Kept.refl (fun k=>k=bb) w).setCell (p:=⟨bb,0,none⟩) (fun _=>rfl) _
 have hkT:KeptT [65] (Bd.of 0) w (w.setCell ⟨bb,0,none⟩ u):=KeptT.of hk (fun k _ e=>by have e':k=bb:=e; subst e'; exact ⟨⟨Nat.zero_le _,fun h=>h⟩,HasT.mem (IsT.of ho) (by simp)⟩)
 exact ⟨own_ty h.o hkT (by decide),h.p.keptT hkT (by decide),Kept.trans h.k hk (fun i hi e=>by have e':i=bb:=e; omega),h.x⟩
theorem callN_r20 {key a:Int} {d:DC} (n:Nat):(⟨(callN (rOne g F key a) d n).s,(callN (rOne g F key a) d n).P,d.L,d.O⟩:DC)=callN (rOne g F key a) d n:=by
 have h:=callN_r (g:=g) (F:=F) (key:=key) (a:=a) (d:=d) n
 rw [← h.1,← h.2]
set_option maxRecDepth 100000 in
set_option maxHeartbeats 8000000 in
theorem srdcl_any {key a:Int} {bd ba bb:Nat} {fd fa:Nat × Nat} {v0:Value} (hm:Mid w0 w B q pw g F.length fc p FA s P) (hc:CacheM w0 B p g L O) (hfl:RdT w0 49 FA (flatF F)) (hf:Fit g L) (hsb:ShortB L) (hB:B.top≤w0.heap.size) (hn:F.length≤9223372036854775807)
  (hd:w.heap[bd]?=some (.cells #[.pointer (some ⟨pd,0,none⟩)] 22 fd)) (ha:w.heap[ba]?=some (.cells #[.int .i64 a] 3 fa)) (hb:w.heap[bb]?=some (.cells #[v0] 65 (0,0))) (h0:w0.heap.size≤bb) (hk:DKey w pd q key):
  Calls Tryz.prog 92 #[.pointer (some ⟨bd,0,none⟩),.pointer (some ⟨ba,0,none⟩),.pointer (some ⟨bb,0,none⟩)] w fun e w'=>e= .returned (.int .i64 (rOne g F key a ⟨s,P,L,O⟩).2.er)∧
   Mid w0 w' B q pw g F.length fc p FA (rOne g F key a ⟨s,P,L,O⟩).1.s (rOne g F key a ⟨s,P,L,O⟩).1.P∧(∃ v,w'.heap[bb]?=some (.cells #[v] 65 (0,0))∧Bys 5 w' v (rOne g F key a ⟨s,P,L,O⟩).2.by_)∧KBd bb w w':=by
 have hmd:Mid w0 w.drew B q pw g F.length fc p FA s P:=⟨hm.o,hm.p.below0 ((Below.refl _ _).drew),hm.k.drew,hm.x⟩
 have HCA:=Lib.hid (dreadM_any key a (w:=w.drew) (Dsk.of hmd.o hmd.x hc hfl hmd.k) hmd.p hf hsb (Nat.le_trans hB hmd.k.size) hn)
 obtain ⟨C,hC⟩:∃ C:List Value→World→Prop,C=fun h W=>match h with
  | []=>W=w.drew
  | [u]=>∃ v,u= .tuple #[v,.int .i64 (dRdE F s P L (playL g L O) key a)]∧Bys 5 W v (dRdB F s P L (playL g L O) key a)∧Mid w.drew W B q pw g F.length fc p FA (dRdS F s P L (playL g L O) key a) (begD F s P key).P
  | [_,_]=>∃ v W1,Bys 5 W1 v (dRdB F s P L (playL g L O) key a)∧Mid w.drew W1 B q pw g F.length fc p FA (dRdS F s P L (playL g L O) key a) (begD F s P key).P∧W=W1.setCell ⟨bb,0,none⟩ v
  | _=>False:=⟨_,rfl⟩
 have hbd:w.drew.heap[bb]?=some (.cells #[v0] 65 (0,0)):=hb
 have hK:∀ W1 s' P',Mid w.drew W1 B q pw g F.length fc p FA s' P'→W1.heap[bb]?=some (.cells #[v0] 65 (0,0)):=fun W1 s' P' h=>Kept.obj h.k hbd (KeptT.no (IsT.of hbd) (by unfold DPT; decide))
 have hall:∀ t:HeldC C,KBd bb w t.w:=fun t=>by
  obtain ⟨s,W,h⟩:=t
  simp only
  subst hC
  match s,h with
  | [],h=>have h':W=w.drew:=h; rw [h']; exact (KBd.refl bb w).drew
  | [u],h=>obtain ⟨v,_,_,hm'⟩:=h; exact KBd.trans (w':=w.drew) ((KBd.refl bb w).drew) (KBd.of hm'.k)
  | [_,_],h=>obtain ⟨v,W1,_,hm',rfl⟩:=h; exact KBd.trans (w':=w.drew) ((KBd.refl bb w).drew) ((KBd.of hm'.k).trans (KBd.set v))
 have HC0:Hid (C [] w.drew):=by subst hC; exact rfl
 have HK1:Hid (∀ W,C [] W→Calls Tryz.prog 93 #[.pointer (some ⟨q,0,none⟩),.int .u64 key,.int .i64 a] W fun e w'=>∃ x,e= .returned x∧C ([]++[x]) w'):=by
  subst hC
  intro W hW
  have hW':W=w.drew:=hW
  subst hW'
  exact HCA.out.mono fun e w' ⟨v,h1,h2,h3⟩=>⟨_,h1,v,rfl,h2,h3⟩
 have HV1:Hid (∀ u W,C [u] W→∃ A k c,u= .tuple #[.slice A k c,.int .i64 (dRdE F s P L (playL g L O) key a)]∧W.cell? ⟨bb,0,none⟩=some v0∧W.frozen? ⟨bb,0,none⟩=false):=by
  subst hC
  intro u W h
  obtain ⟨v,rfl,⟨A,c,rfl,_⟩,hm'⟩:=h
  have hb':=hK _ _ _ hm'
  exact ⟨A,_,c,rfl,dcell_one hb',free_one hb'⟩
 have HV2:Hid (∀ v e W,C [.tuple #[v,e]] W→C ([.tuple #[v,e]]++[undef]) (W.setCell ⟨bb,0,none⟩ v)):=by
  subst hC
  intro v e W h
  obtain ⟨v',h1,h2,h3⟩:=h
  injection h1 with h1
  have h1':v=v':=by have:=congrArg (fun a=>a[0]?) h1; simpa using this
  subst h1'
  exact ⟨v,W,h2,h3,rfl⟩
 have HF:Hid (∀ u x W,C [u,x] W→Mid w0 W B q pw g F.length fc p FA (dRdS F s P L (playL g L O) key a) (begD F s P key).P∧(∃ v,W.heap[bb]?=some (.cells #[v] 65 (0,0))∧Bys 5 W v (dRdB F s P L (playL g L O) key a))∧KBd bb w W):=by
  subst hC
  intro u x W h
  have hkb:=hall ⟨[u,x],W,h⟩
  obtain ⟨v,W1,h1,h2,rfl⟩:=h
  have hb':=hK _ _ _ h2
  have hk1:Kept (fun k=>k=bb) W1 (W1.setCell ⟨bb,0,none⟩ v):=(Kept.refl (fun k=>k=bb) W1).setCell (p:=⟨bb,0,none⟩) (fun _=>rfl) _
  exact ⟨Mid.box20 (⟨h2.o,h2.p,hmd.k.trans h2.k,h2.x⟩:Mid w0 W1 B q pw g F.length fc p FA _ _) h0 hb',⟨v,set_one hb',h1.kept hk1 (Free.one hb' (by decide))⟩,hkb⟩
 have hne:Nonempty (HeldC C):=⟨⟨[],_,HC0.out⟩⟩
 have hrb:∀ t:HeldC C,KeptT RDT20 (Bd.of 0) w t.w:=fun t=>(hall t).rbt hb
 have f0:∀ t:HeldC C,t.w.cell? ⟨bd,0,none⟩=some (.pointer (some ⟨pd,0,none⟩)):=fun t=>Kept.cell (hrb t) (dcell_one hd) (KeptT.no (IsT.of hd) (by unfold RDT20; decide))
 have f1:∀ t:HeldC C,t.w.cell? ⟨pd,0,none⟩=some (.pointer (some ⟨q,0,none⟩)):=fun t=>(hk.kept (hrb t) (by unfold RDT20; decide)).cells.1
 have f2:∀ t:HeldC C,t.w.cell? ⟨pd,1,none⟩=some (.int .u64 key):=fun t=>(hk.kept (hrb t) (by unfold RDT20; decide)).cells.2
 have f3:∀ t:HeldC C,t.w.cell? ⟨ba,0,none⟩=some (.int .i64 a):=fun t=>Kept.cell (hrb t) (dcell_one ha) (KeptT.no (IsT.of ha) (by unfold RDT20; decide))
 clear hC hall hrb hd hk ha hb hm hmd hc hfl hf hsb hB HCA hbd hK
 have HR:Hid ((rOne g F key a ⟨s,P,L,O⟩).2.er=dRdE F s P L (playL g L O) key a):=rfl
 unfold rOne
 simp only
 generalize dRdE F s P L (playL g L O) key a=E at *
 go_enter Tryz.func92,Tryz.ntmps92
 go_wp2_with fail
 refine wp_region_chain C [9,13] [13,11,10,9] (by kernel_rfl) (by kernel_rfl) (by kernel_rfl) (by kernel_rfl) HC0.out ?_
 repeat (refine wpCh_n (by rfl) (by rfl) ?_; go_big_quiet_step (fail); refine wpQuiet_nil ?_)
 refine wpCh_l (f:=93) (args:=#[.pointer (some ⟨q,0,none⟩),.int .u64 key,.int .i64 a]) (by rfl) (by rfl) (fun W=>by simp [go_sem]) (fun W hW=>HK1.out W hW) (fun v W hW=>?_)
 obtain ⟨A,k,c,rfl,_,_⟩:=HV1.out v W hW
 go_big_quiet_step (fail)
 refine wpQuiet_nil ?_
 repeat (refine wpCh_n (by rfl) (by rfl) ?_; go_big_quiet_step (fail); refine wpQuiet_nil ?_)
 refine wpCh_s (by rfl) (by rfl) rfl (fun W hW=>⟨W.setCell ⟨bb,0,none⟩ (.slice A k c),?_,HV2.out _ _ W hW⟩) (fun v W hW=>?_)
 ·obtain ⟨_,_,_,_,c8,f8⟩:=HV1.out _ W hW
  simp [go_sem, *]
 repeat (refine wpCh_n (by rfl) (by rfl) ?_; go_big_quiet_step (fail); refine wpQuiet_nil ?_)
 refine wpCh_nil ?_
 intro wc hcw
 have HD:=Lib.hid (HF.out _ _ wc hcw)
 clear hcw HK1 HV1 HV2 HF HC0
 go_wp2
 go_ret
 exact ⟨rfl,HD.out⟩
theorem tryrd20_any {key a:Int} {d:DC} {bd ba bb:Nat} {fd fa:Nat × Nat} {v0:Value} (hm:Mid w0 w B q pw g F.length fc p FA d.s d.P) (hc:CacheM w0 B p g d.L d.O) (hfl:RdT w0 49 FA (flatF F)) (hf:Fit g d.L) (hsb:ShortB d.L) (hB:B.top≤w0.heap.size) (hn:F.length≤9223372036854775807)
  (hd:w.heap[bd]?=some (.cells #[.pointer (some ⟨pd,0,none⟩)] 22 fd)) (ha:w.heap[ba]?=some (.cells #[.int .i64 a] 3 fa)) (hb:w.heap[bb]?=some (.cells #[v0] 65 (0,0))) (h0:w0.heap.size≤bb) (hk:DKey w pd q key):
  Calls Tryz.prog 47 #[.func (.func 92) #[] #[.pointer (some ⟨bd,0,none⟩),.pointer (some ⟨ba,0,none⟩),.pointer (some ⟨bb,0,none⟩)]] w fun e w'=>e= .returned (.int .i64 (tryD (rOne g F key a) d).2.er)∧
   Mid w0 w' B q pw g F.length fc p FA (tryD (rOne g F key a) d).1.s (tryD (rOne g F key a) d).1.P∧(∃ v,w'.heap[bb]?=some (.cells #[v] 65 (0,0))∧Bys 5 w' v (tryD (rOne g F key a) d).2.by_)∧KBd bb w w':=by
 refine (rtread_any bd ba bb (fun n W=>Mid w0 W B q pw g F.length fc p FA (callN (rOne g F key a) d n).s (callN (rOne g F key a) d n).P∧(∃ v,W.heap[bb]?=some (.cells #[v] 65 (0,0))∧(0 < n→Bys 5 W v (ansN (rOne g F key a) d (n - 1)).by_))∧KBd bb w W)
  (fun n=>(ansN (rOne g F key a) d n).er) ⟨hm,⟨v0,hb,fun h=>absurd h (by omega)⟩,KBd.refl _ w⟩ ?_).mono ?_
 ·rintro n W hn8 ⟨hW,⟨v,hv,_⟩,hkB⟩
  have hkW:=hkB.rbt hb
  refine (srdcl_any hW hc hfl hf hsb hB hn (Kept.obj hkW hd (KeptT.no (IsT.of hd) (by unfold RDT20; decide)))
   (Kept.obj hkW ha (KeptT.no (IsT.of ha) (by unfold RDT20; decide))) hv h0 (hk.kept hkW (by unfold RDT20; decide))).mono ?_
  rintro e w' ⟨rfl,hm',⟨u,hu,hby⟩,hk'⟩
  rw [callN_r20] at hm' hby ⊢
  exact ⟨rfl,hm',⟨u,hu,fun _=>hby⟩,hkB.trans hk'⟩
 ·rintro e w' ⟨k,rfl,⟨hm',⟨u,hu,hby⟩,hk'⟩,hbz,hlast⟩
  rw [try_stop hbz hlast]
  exact ⟨rfl,hm',⟨u,hu,hby (by omega)⟩,hk'⟩
end
end Go.Proofs.YtggkengmlkhdiaaGreat
namespace Go.Proofs.YtggkengmlkhdiaaGreat
set_option linter.unusedVariables false
open Go.RowKit
theorem geo_random (g:Geo) (W:World):(Instr.field 42 (.agg #[.int .i64 g.random,.int .i64 g.bands,.int .i64 g.tracks,.int .i64 g.sectors,.int .i64 g.overlap]) 0).run Tryz.prog W= .ok (.int .i64 g.random) W:=by kernel_rfl
section
variable {w w':World} {B:Bd} {p q pw:Nat} {g:Geo} {F:List Flt} {key:Int} {S:ST} {ea ec:Nat} {BA:Option Addr} {bc:Nat}
def SecPost20 (w:World) (B:Bd) (p q pw:Nat) (g:Geo) (F:List Flt) (key:Int) (S:ST) (ea ec:Nat) (BA:Option Addr) (bc:Nat) (a:Int) (e:Ending) (w':World):Prop:=
 ∃ A c,e= .returned (.tuple #[.slice A (tryD (rOne g F key a) S.d).2.by_.length c,.int .i64 (tryD (rOne g F key a) S.d).2.er])∧Bys 5 w' (.slice A (tryD (rOne g F key a) S.d).2.by_.length c) (tryD (rOne g F key a) S.d).2.by_∧Drv w' B p q pw g F key ⟨S.v,(tryD (rOne g F key a) S.d).1⟩ ea ec BA bc∧KeptT DAT B w w'
set_option maxRecDepth 100000 in
set_option maxHeartbeats 4000000 in
theorem sector_any (a:Int) (h:Drv w B p q pw g F key S ea ec BA bc) (hn:F.length≤9223372036854775807):Calls Tryz.prog 59 #[.pointer (some ⟨p,0,none⟩),.int .i64 a] w (SecPost20 w B p q pw g F key S ea ec BA bc a):=by
 obtain ⟨⟨pc,FA,fc,hd⟩,hp,hf,hs,hB⟩:=h.dsk
 have hb0:Below w.heap.size w (((w.alloc (.cells #[.pointer (some ⟨p,0,none⟩)] 22)).alloc (.cells #[.int .i64 a] 3)).alloc (.cells #[.slice none 0 0] 65)):=(((Below.refl _ _).alloc (Nat.le_refl _) _).alloc (by simp) _).alloc (by simp; omega) _
 have o0:(((w.alloc (.cells #[.pointer (some ⟨p,0,none⟩)] 22)).alloc (.cells #[.int .i64 a] 3)).alloc (.cells #[.slice none 0 0] 65)).heap[w.heap.size]?=some (.cells #[.pointer (some ⟨p,0,none⟩)] 22 (0,0)):=by
  rw [belObj (B:=w.heap.size+1) (w:=w.alloc (.cells #[.pointer (some ⟨p,0,none⟩)] 22)) (((Below.refl _ _).alloc (by simp) _).alloc (by simp) _) (heap_alloc_new w _) (by omega)]
 have o1:(((w.alloc (.cells #[.pointer (some ⟨p,0,none⟩)] 22)).alloc (.cells #[.int .i64 a] 3)).alloc (.cells #[.slice none 0 0] 65)).heap[w.heap.size+1]?=some (.cells #[.int .i64 a] 3 (0,0)):=by
  have h1:=heap_alloc_new (w.alloc (.cells #[.pointer (some ⟨p,0,none⟩)] 22)) (.cells #[.int .i64 a] 3)
  rw [show (w.alloc (.cells #[.pointer (some ⟨p,0,none⟩)] 22)).heap.size=w.heap.size+1 by simp] at h1
  exact belObj (B:=w.heap.size+2) ((Below.refl _ _).alloc (by simp) _) h1 (by omega)
 have o2:(((w.alloc (.cells #[.pointer (some ⟨p,0,none⟩)] 22)).alloc (.cells #[.int .i64 a] 3)).alloc (.cells #[.slice none 0 0] 65)).heap[w.heap.size+2]?=some (.cells #[.slice none 0 0] 65 (0,0)):=by
  have h1:=heap_alloc_new ((w.alloc (.cells #[.pointer (some ⟨p,0,none⟩)] 22)).alloc (.cells #[.int .i64 a] 3)) (.cells #[.slice none 0 0] 65)
  rw [show ((w.alloc (.cells #[.pointer (some ⟨p,0,none⟩)] 22)).alloc (.cells #[.int .i64 a] 3)).heap.size=w.heap.size+2 by simp] at h1
  exact h1
 have hd0:=hd.below0 hb0
 have hm0:Mid w (((w.alloc (.cells #[.pointer (some ⟨p,0,none⟩)] 22)).alloc (.cells #[.int .i64 a] 3)).alloc (.cells #[.slice none 0 0] 65)) B q pw g F.length fc pc FA S.d.s S.d.P:=⟨hd0.obj,hp.below0 hb0,KeptT.bel hb0,hd.px⟩
 have HC:=Lib.hid (tryrd20_any (key:=key) (a:=a) (d:=S.d) hm0 hd.c hd.fl hf hs hB hn o0 o1 o2 (by omega) (h.dkey.below0 hb0))
 have HFN:Hid (∀ W,Mid w W B q pw g F.length fc pc FA (tryD (rOne g F key a) S.d).1.s (tryD (rOne g F key a) S.d).1.P→Drv W B p q pw g F key ⟨S.v,(tryD (rOne g F key a) S.d).1⟩ ea ec BA bc∧KeptT DAT B w W):=by
  intro W hm
  have hk:=hm.k.sub dpt_dat
  have e:=tryD_r (g:=g) (F:=F) (key:=key) (a:=a) (d:=S.d)
  refine ⟨h.disk ⟨⟨pc,FA,fc,?_⟩,hm.p,?_,?_,Nat.le_trans hB hm.k.size⟩ hk,hk⟩
  ·rw [e.1,e.2]; exact Dsk.of hm.o hm.x hd.c hd.fl hm.k
  ·rw [e.1]; exact hf
  ·rw [e.1]; exact hs
 clear h hd hp hf hs hB hb0 o0 o1 o2 hd0 hm0
 unfold SecPost20
 generalize hby:(tryD (rOne g F key a) S.d).2.by_=ys at *
 generalize (tryD (rOne g F key a) S.d).2.er=E at *
 clear hby
 go_enter Tryz.func59,Tryz.ntmps59
 go_wp2_with fail
 refine HC.out.mono ?_
 rintro e w1 ⟨rfl,hm,⟨v,hv,hby⟩,_⟩
 have HD:=Lib.hid (HFN.out _ hm)
 obtain ⟨A,c,rfl,hr,hcp⟩:=hby
 have HB:=Lib.hid (show Bys 5 w1 (.slice A ys.length c) ys from ⟨A,c,rfl,hr,hcp⟩)
 have c0:=dcell_one hv
 clear hm hv hr hcp HC HFN
 go_wp2
 go_ret2
 exact ⟨A,c,rfl,HB.out,HD.out⟩
set_option maxHeartbeats 1000000 in
theorem fail_any (er:Int) (h:Drv w B p q pw g F key S ea ec BA bc):Calls Tryz.prog 40 #[.pointer (some ⟨p,0,none⟩),.int .i64 er] w fun e w'=>e= .returned (.int .i64 er)∧Drv w' B p q pw g F key ⟨S.v.fail er,S.d⟩ ea ec BA bc∧KeptT DRT B w w':=by
 by_cases h0:er=0
 ·have HF:Hid (S.v.fail er=S.v):=by unfold Hid DV.fail; rw [if_pos h0]
  have HH:=Lib.hid h
  subst h0
  clear h
  go_enter Tryz.func40,Tryz.ntmps40
  go_wp2
  go_ret
  exact ⟨rfl,by rw [HF.out]; exact HH.out,KeptT.refl _ _ _⟩
 ·have HF:Hid (S.v.fail er={ S.v with failed:=er }):=by unfold Hid DV.fail; rw [if_neg h0]
  have HH:=Lib.hid (h.setFailed er)
  have c5:=h.cells.2.2.2.2.2
  have f5:=h.free 5
  have hne:(er !=0)=true:=by simpa using h0
  clear h h0
  go_enter Tryz.func40,Tryz.ntmps40
  go_wp2
  go_ret
  exact ⟨rfl,by rw [HF.out]; exact HH.out.1,HH.out.2⟩
theorem state20_any (h:Drv w B p q pw g F key S ea ec BA bc):Calls Tryz.prog 38 #[.pointer (some ⟨p,0,none⟩)] w fun e w'=>e= .returned (.int .i64 S.v.failed)∧w'=w:=by
 have c5:=h.cells.2.2.2.2.2
 clear h
 go_enter Tryz.func38,Tryz.ntmps38
 go_wp2
 go_ret
 exact ⟨rfl,rfl⟩
theorem has20_any (b:Int) (h:Drv w B p q pw g F key S ea ec BA bc):Calls Tryz.prog 37 #[.pointer (some ⟨p,0,none⟩),.int .i64 b] w fun e w'=>e= .returned (.bool (decide (0≤b) && decide (b < S.v.es.length)))∧w'=w:=by
 have c2:=h.cells.2.2.1
 clear h
 by_cases h0:0≤b
 ·rw [decide_eq_true h0,Bool.true_and]
  go_enter Tryz.func37,Tryz.ntmps37
  go_wp2
  go_ret
  exact ⟨by simp,rfl⟩
 ·rw [decide_eq_false h0,Bool.false_and]
  have d0:decide (0≤b)=false:=decide_eq_false h0
  go_enter Tryz.func37,Tryz.ntmps37
  go_wp2
  go_ret
  exact ⟨rfl,rfl⟩
set_option maxHeartbeats 1000000 in
theorem size20_any (hg:Vg g) (h:Drv w B p q pw g F key S ea ec BA bc):Calls Tryz.prog 72 #[.pointer (some ⟨p,0,none⟩)] w fun e w'=>e= .returned (.int .i64 (bz g))∧Below w.heap.size w w':=by
 have c0:=h.cells.1
 have HG:=Lib.hid (dgeo_any h.dsk)
 have HZ:Hid (bzN g=bz g):=bzN_valid hg
 clear h hg
 go_enter Tryz.func72,Tryz.ntmps72
 go_wp2_with fail
 refine HG.out.mono ?_
 rintro e w1 ⟨rfl,hb1⟩
 go_wp2_with fail
 refine (gbz_any g _).mono ?_
 rintro e w2 ⟨rfl,hb2⟩
 rw [HZ.out]
 go_wp2
 go_ret
 exact ⟨rfl,hb1.trans (hb2.mono hb1.size)⟩
set_option maxRecDepth 100000 in
set_option maxHeartbeats 2000000 in
theorem band20_any (hg:Vg g) (a:Int) (h0:g.random≤a) (h1:a≤100000) (h:Drv w B p q pw g F key S ea ec BA bc):Calls Tryz.prog 75 #[.pointer (some ⟨p,0,none⟩),.int .i64 a] w fun e w'=>e= .returned (.int .i64 (bandN g a))∧Below w.heap.size w w':=by
 have c0:=h.cells.1
 have HG:=Lib.hid (dgeo_any h.dsk)
 have HS:=Lib.hid (fun W (hW:Below w.heap.size w W)=>size20_any hg (h.below0 hW))
 have hr:=hg.r0
 have hr1:=hg.r1
 have hz:=hg.bz
 have hz':1≤bz g:=hz.1
 have HB:Hid (bandN g a=Int.tdiv (a - g.random) (bz g)):=rfl
 have hw1:IntKind.i64.wrap (a - g.random)=a - g.random:=by rw [IntKind.wrap_i64]; omega
 have hq:=quo_pos (n:=a - g.random) (s:=bz g) (by omega) (by omega) hz'
 have hq2:Int.tdiv (a - g.random) (bz g)=(a - g.random) / bz g:=Int.tdiv_eq_ediv_of_nonneg (by omega)
 generalize bz g=z at *
 have hfd:=geo_random g
 clear h hg hz
 go_enter Tryz.func75,Tryz.ntmps75
 go_wp2_with fail
 refine HG.out.mono ?_
 rintro e w1 ⟨rfl,hb1⟩
 go_wp2_with fail
 refine (HS.out _ hb1).mono ?_
 rintro e w2 ⟨rfl,hb2⟩
 go_wp2
 go_ret
 exact ⟨by rw [HB.out,hq2]; rfl,hb1.trans (hb2.mono hb1.size)⟩
end
end Go.Proofs.YtggkengmlkhdiaaGreat
namespace Go.Proofs.YtggkengmlkhdiaaGreat.V
set_option linter.unusedVariables false
open Go.RowKit
theorem info_band:(Tryz.prog.info? 76).map (fun i=>(i.zero,i.size,i.bytes))=some (some (.agg #[.int .i64 0,.int .i64 0,.int .u64 0,.int .u64 0]),4,32):=by kernel_rfl
theorem flat_one (l:List BI):∀ u∈flat l,u.oneCell'=true:=by
 intro u hu
 obtain ⟨b,_,hb⟩:=List.mem_flatMap.1 hu
 simp [BI.cells] at hb
 rcases hb with rfl | rfl | rfl | rfl <;> rfl
theorem _root_.Go.Proofs.YtggkengmlkhdiaaGreat.Rd.vat_none {w:World} {B:Nat} {l:List BI} (h:Rd w B none (flat l)):l=[]:=by
 cases l with
 | nil=>rfl
 | cons b l=>obtain ⟨g,o,e,_⟩:=h 0 (.int .i64 b.used) rfl; cases e
theorem _root_.Go.Proofs.YtggkengmlkhdiaaGreat.Rd.vat_add {w:World} {B:Nat} {a:Addr} {xs:List Value} (h:Rd w B (some a) xs):∀ j u,xs[j]?=some u→w.cell? (a.add j)=some u:=fun j u hu=>by
 obtain ⟨g,o,e,_,hc⟩:=h j u hu
 injection e with e; subst e
 rw [add_off]; exact hc
set_option maxHeartbeats 400000 in
theorem clone_any (l:List BI) (A:Option Addr) (c:Nat) (w:World) (hl:Rd w w.heap.size A (flat l)) (hn:l.length≤100000):
  Calls Tryz.prog 45 #[.slice A l.length c] w fun e w'=>∃ A' c',e= .returned (.slice A' l.length c')∧World.ownsRow w' w.heap.size 76 4 (.slice A' l.length c') l.length (flat l)∧Below w.heap.size w w':=by
 obtain ⟨i0,hi,hz0,hz1,hz2⟩:=info_parts info_band
 have hnil:=fun (w:World) a n c=>Lib.run_eql_slice_nil (P:=Tryz.prog) w 35 76 a n c 0 0 Tryz.underlying35
 cases A with
 | none=>
   have:=hl.vat_none
   subst this
   go_enter Tryz.func45,Tryz.ntmps45
   go_wp2
   go_ret
   exact ⟨none,0,rfl,World.ownsRow_nil _ _ _ _,Below.refl _ _⟩
 | some a=>
   have hro:=World.ownsRow_lit (base:=w.heap.size) (e:=76) (size:=4) w #[] 0 (Nat.le_refl _) (by decide) rfl
   have hla:=hl.alloc (Nat.le_refl _) (.cells #[] 76)
   go_enter Tryz.func45,Tryz.ntmps45
   go_wp2_with (at_builtin; refine wpList_append_own _ rfl _ _ 35 rfl w.heap.size 76 i0 _ 4 32 Tryz.underlying35 hi hz0 hz1 hz2 rfl (by decide) _ 0 [] rfl hro a l.length c (flat l) rfl (flat_len4 l) hla.vat_add (flat_one l) ?c1 ?c2 ?c3 ?_)
   case c1=>unfold maxLen; omega
   case c2=>omega
   intro v' w' hown hgrow _
   try simp only [Nat.zero_add,List.nil_append] at hown
   obtain ⟨A',c',hv⟩:=own_form hown
   subst hv
   go_wp2
   go_ret
   exact ⟨A',c',rfl,hown,((Below.refl _ _).alloc (Nat.le_refl _) _).grown hgrow (by simp) (fun k hk=>by simp [Value.ownBlock] at hk; omega)⟩
theorem flat_set (l:List BI) (k:Nat) (b b':BI) (t:Nat) (v:Value) (hb:l[k]?=some b) (ht:t < 4) (h:b'.cells=b.cells.set t v):flat (l.set k b')=(flat l).set (k * 4+t) v:=by
 have hk:k < l.length:=(List.getElem?_eq_some_iff.1 hb).1
 have hlen:∀ m:List BI,(flat m).length=m.length * 4:=flat_len4
 apply List.ext_getElem?
 intro j
 rcases Nat.lt_or_ge j (l.length * 4) with hj | hj
 ·have hj4:j=j / 4 * 4+j % 4:=by omega
  have e1:∀ m:List BI,(flat m)[j]?=(m[j / 4]?).bind fun a=>(a.cells)[j % 4]?:=fun m=>by
   conv=>lhs; rw [hj4]
   exact flat_get _ 4 cells_len m _ _ (by omega)
  rw [e1,List.getElem?_set,List.getElem?_set,e1,hlen]
  by_cases h1:k=j / 4
  ·subst h1
   rw [if_pos rfl,if_pos (by omega),hb]
   simp only [Option.bind_some,h,List.getElem?_set,cells_len]
   by_cases h2:t=j % 4
   ·rw [if_pos h2,if_pos (by omega)]; simp [ht]; omega
   ·rw [if_neg h2,if_neg (by omega)]
  ·rw [if_neg h1,if_neg (by omega)]
 ·rw [List.getElem?_eq_none (by rw [hlen,List.length_set]; exact hj),List.getElem?_eq_none (by rw [List.length_set,hlen]; exact hj)]
theorem flat_app (l:List BI) (k:Nat) (b:BI) (now:Int) (hb:l[k]?=some b):
  flat (l.set k (appBI now b))=(((flat l).set (k * 4) (.int .i64 (wrap64 (b.used+1)))).set (k * 4+1) (.int .i64 (wrap64 (b.live+1)))).set (k * 4+2) (.int .u64 now):=by
 have hk:k < l.length:=(List.getElem?_eq_some_iff.1 hb).1
 rw [← Nat.add_zero (k * 4),← flat_set l k b ⟨wrap64 (b.used+1),b.live,b.age,b.wear⟩ 0 _ hb (by omega) rfl,Nat.add_zero,
  ← flat_set _ k ⟨wrap64 (b.used+1),b.live,b.age,b.wear⟩ ⟨wrap64 (b.used+1),wrap64 (b.live+1),b.age,b.wear⟩ 1 _ (by simp [hk]) (by omega) rfl,List.set_set,
  ← flat_set _ k ⟨wrap64 (b.used+1),wrap64 (b.live+1),b.age,b.wear⟩ (appBI now b) 2 (.int .u64 now) (by simp [hk]) (by omega) rfl,List.set_set]
theorem flat_unl (l:List BI) (k:Nat) (b:BI) (hb:l[k]?=some b):flat (l.set k (unlBI b))=(flat l).set (k * 4+1) (.int .i64 (b.live - 1)):=flat_set l k b _ 1 _ hb (by omega) rfl
theorem flat_all (l:List BI) (k:Nat) (b b':BI) (hb:l[k]?=some b):
  flat (l.set k b')=((((flat l).set (k * 4) (.int .i64 b'.used)).set (k * 4+1) (.int .i64 b'.live)).set (k * 4+2) (.int .u64 b'.age)).set (k * 4+3) (.int .u64 b'.wear):=by
 have hk:k < l.length:=(List.getElem?_eq_some_iff.1 hb).1
 rw [← Nat.add_zero (k * 4),← flat_set l k b ⟨b'.used,b.live,b.age,b.wear⟩ 0 _ hb (by omega) rfl,Nat.add_zero,
  ← flat_set _ k ⟨b'.used,b.live,b.age,b.wear⟩ ⟨b'.used,b'.live,b.age,b.wear⟩ 1 _ (by simp [hk]) (by omega) rfl,List.set_set,
  ← flat_set _ k ⟨b'.used,b'.live,b.age,b.wear⟩ ⟨b'.used,b'.live,b'.age,b.wear⟩ 2 _ (by simp [hk]) (by omega) rfl,List.set_set,
  ← flat_set _ k ⟨b'.used,b'.live,b'.age,b.wear⟩ b' 3 _ (by simp [hk]) (by omega) rfl,List.set_set]
def DoesPost (W:World) (l:List BI) (k g c:Nat) (E:Int) (b':BI) (e:Ending) (w':World):Prop:=
 e= .returned (.int .i64 E)∧(E=0→World.ownsRow w' W.heap.size 76 4 (.slice (some ⟨g,0,none⟩) l.length c) l.length (flat (l.set k b')))∧Below W.heap.size W w'
def Does (fid:FuncId) (caps:Array Value) (W:World) (E:BI→Int) (F:BI→BI):Prop:=
 ∀ (l:List BI) (k:Nat) (b:BI) (w:World) (g c:Nat),l[k]?=some b→b.Ok→Below W.heap.size W w→World.ownsRow w W.heap.size 76 4 (.slice (some ⟨g,0,none⟩) l.length c) l.length (flat l)→
  Calls Tryz.prog fid (#[.pointer (some ⟨g,k * 4,none⟩)]++caps) w (DoesPost W l k g c (E b) (F b))
set_option maxHeartbeats 400000 in
theorem app_does (W:World) (b1 b2:Nat) (sz now:Int) (h1:W.cell? ⟨b1,0,none⟩=some (.int .i64 sz)) (h2:W.cell? ⟨b2,0,none⟩=some (.int .u64 now)):
  Does 150 #[.pointer (some ⟨b1,0,none⟩),.pointer (some ⟨b2,0,none⟩)] W (fun b=>if sz≤b.used then 11 else 0) (appBI now):=by
 intro l k b w g c hb hok hbl hown
 have hk:k < l.length:=(List.getElem?_eq_some_iff.1 hb).1
 obtain ⟨g',e,hgW,hgw⟩:=own_at hown (by omega)
 simp only [Option.some.injEq,Addr.mk.injEq,and_true] at e
 subst e
 have l1:=block_lt_of_cell h1
 have l2:=block_lt_of_cell h2
 simp only at l1 l2
 have hc1:=(hbl.cell (p:=⟨b1,0,none⟩) l1).trans h1
 have hc2:=(hbl.cell (p:=⟨b2,0,none⟩) l2).trans h2
 obtain ⟨g',o,e,_,a0,a1,a2,a3⟩:=(Rd.of_own hown).band hb
 simp only [Option.some.injEq,Addr.mk.injEq,and_true] at e
 obtain ⟨rfl,rfl⟩:=e
 simp only [Nat.zero_add] at a0 a1 a2 a3
 have f0:=fun j=>hown.frozenAt j
 show Calls Tryz.prog _ #[_,_,_] _ _
 by_cases hs:sz≤b.used
 ·go_enter Tryz.func150,Tryz.ntmps150
  go_wp2
  go_quiet (fail)
  go_wp2
  go_ret
  refine ⟨rfl,fun h0=>?_,below_drewN' hbl _⟩
  simp at h0
 ·go_enter Tryz.func150,Tryz.ntmps150
  go_wp2
  go_quiet (fail)
  go_wp2
  go_ret
  refine ⟨rfl,fun _=>?_,?_⟩
  ·have s1:=(World.ownsRow.stored hown (k * 4) (.int .i64 (wrap64 (b.used+1)))).1
   have s2:=(World.ownsRow.stored s1 (k * 4+1) (.int .i64 (wrap64 (b.live+1)))).1
   have s3:=(World.ownsRow.stored s2 (k * 4+2) (.int .u64 now)).1
   rw [flat_app l k b now hb]
   exact s3
  ·exact (((below_drewN' hbl _).setCell (p:=⟨g,k * 4,none⟩) hgW _).setCell (p:=⟨g,k * 4+1,none⟩) hgW _).setCell (p:=⟨g,k * 4+2,none⟩) hgW _
set_option maxHeartbeats 400000 in
theorem unl_does (W:World):Does 145 #[] W (fun b=>if b.live < 1 then 8 else 0) unlBI:=by
 intro l k b w g c hb hok hbl hown
 have hk:k < l.length:=(List.getElem?_eq_some_iff.1 hb).1
 obtain ⟨g',e,hgW,hgw⟩:=own_at hown (by omega)
 simp only [Option.some.injEq,Addr.mk.injEq,and_true] at e
 subst e
 obtain ⟨g',o,e,_,a0,a1,a2,a3⟩:=(Rd.of_own hown).band hb
 simp only [Option.some.injEq,Addr.mk.injEq,and_true] at e
 obtain ⟨rfl,rfl⟩:=e
 simp only [Nat.zero_add] at a0 a1 a2 a3
 have f0:=fun j=>hown.frozenAt j
 have hb2:=hok.live.2
 show Calls Tryz.prog _ #[_] _ _
 by_cases hs:b.live < 1
 ·go_enter Tryz.func145,Tryz.ntmps145
  go_wp2
  go_ret
  refine ⟨rfl,fun h0=>?_,hbl⟩
  simp at h0
 ·go_enter Tryz.func145,Tryz.ntmps145
  go_wp2
  go_ret
  refine ⟨rfl,fun _=>?_,hbl.setCell (p:=⟨g,k * 4+1,none⟩) hgW _⟩
  rw [flat_unl l k b hb]
  exact (World.ownsRow.stored hown (k * 4+1) _).1
set_option maxHeartbeats 400000 in
theorem res_does (W:World):Does 115 #[] W (fun _=>0) resBI:=by
 intro l k b w g c hb hok hbl hown
 have hk:k < l.length:=(List.getElem?_eq_some_iff.1 hb).1
 obtain ⟨g',e,hgW,hgw⟩:=own_at hown (by omega)
 simp only [Option.some.injEq,Addr.mk.injEq,and_true] at e
 subst e
 obtain ⟨g',o,e,_,a0,a1,a2,a3⟩:=(Rd.of_own hown).band hb
 simp only [Option.some.injEq,Addr.mk.injEq,and_true] at e
 obtain ⟨rfl,rfl⟩:=e
 simp only [Nat.zero_add] at a0 a1 a2 a3
 have f0:=fun j=>hown.frozenAt j
 show Calls Tryz.prog _ #[_] _ _
 go_enter Tryz.func115,Tryz.ntmps115
 go_wp2
 go_ret
 refine ⟨rfl,fun _=>?_,?_⟩
 ·rw [flat_all l k b (resBI b) hb]
  have s1:=(World.ownsRow.stored hown (k * 4) (.int .i64 (resBI b).used)).1
  have s2:=(World.ownsRow.stored s1 (k * 4+1) (.int .i64 (resBI b).live)).1
  have s3:=(World.ownsRow.stored s2 (k * 4+2) (.int .u64 (resBI b).age)).1
  exact (World.ownsRow.stored s3 (k * 4+3) (.int .u64 (resBI b).wear)).1
 ·exact (((hbl.setCell (p:=⟨g,k * 4,none⟩) hgW _).setCell (p:=⟨g,k * 4+1,none⟩) hgW _).setCell (p:=⟨g,k * 4+2,none⟩) hgW _).setCell (p:=⟨g,k * 4+3,none⟩) hgW _
def chE (l:List BI) (band:Int) (E:BI→Int):Int:=if inL l band then E (at_ l band) else 2
def chL (l:List BI) (band:Int) (E:BI→Int) (F:BI→BI):List BI:=if chE l band E=0 then l.set band.toNat (F (at_ l band)) else []
def ListPost (W:World) (E:Int) (L:List BI) (e:Ending) (w':World):Prop:=
 ∃ A' c',e= .returned (.tuple #[.slice A' L.length c',.int .i64 E])∧World.ownsRow w' W.heap.size 76 4 (.slice A' L.length c') L.length (flat L)∧Below W.heap.size W w'
set_option maxHeartbeats 400000 in
theorem change_any (l:List BI) (band:Int) (fid:FuncId) (caps:Array Value) (E:BI→Int) (F:BI→BI) (hok:Oks l) (A:Option Addr) (c:Nat) (w:World) (hl:Rd w w.heap.size A (flat l)) (hn:l.length≤100000) (hd:Does fid caps w E F)
  (hent:∀ args w,(callFunc fid args).run Tryz.prog w= .ok (.enter fid args) w):
  Calls Tryz.prog 114 #[.slice A l.length c,.int .i64 band,.func (.func fid) #[] caps] w (ListPost w (chE l band E) (chL l band E F)):=by
 cases hin:inL l band
 ·have HE:chE l band E=2:=by unfold chE; rw [hin]; rfl
  have HL:chL l band E F=[]:=by unfold chL; rw [HE]; rfl
  rw [HE,HL]
  clear HE HL
  simp [inL] at hin
  by_cases h0:0≤band
  ·have h1:=hin h0
   go_enter Tryz.func114,Tryz.ntmps114
   go_wp2
   go_ret2
   exact ⟨none,0,rfl,World.ownsRow_nil _ _ _ _,Below.refl _ _⟩
  ·have h1:band < 0:=by omega
   clear hin
   go_enter Tryz.func114,Tryz.ntmps114
   go_wp2
   go_ret2
   exact ⟨none,0,rfl,World.ownsRow_nil _ _ _ _,Below.refl _ _⟩
 ·have hin':=hin
  simp [inL] at hin
  obtain ⟨h0,h1⟩:=hin
  obtain ⟨k,rfl⟩:=Int.eq_ofNat_of_zero_le h0
  have hk:k < l.length:=by omega
  have hbo:=oks_get hok hk
  obtain ⟨b,hb⟩:∃ b,b=l[k]:=⟨_,rfl⟩
  rw [← hb] at hbo
  have HB:=Lib.hid (show l[k]?=some b by rw [get_some hk,hb])
  have HE:chE l (k:Int) E=E b:=by unfold chE; rw [hin',at_eq hk,hb]; rfl
  have HL:chL l (k:Int) E F=if E b=0 then l.set k (F b) else []:=by unfold chL; rw [HE,at_eq hk,hb]; rfl
  rw [HE]
  have HL1:=Lib.hid HL
  clear hb HE HL hin'
  have hd1:=Lib.hid hd; clear hd
  go_enter Tryz.func114,Tryz.ntmps114
  go_wp2_with fail
  refine (clone_any l A c w hl hn).mono ?_
  rintro e w1 ⟨A1,c1,rfl,hown,hb1⟩
  obtain ⟨g,rfl,hgw,hg1⟩:=own_at hown (by omega)
  go_wp2_with fail
  refine (hd1.out l k b w1 g c1 HB.out hbo hb1 hown).mono ?_
  rintro e w2 ⟨rfl,h2,hb2⟩
  have H2:=Lib.hid h2; clear h2
  cases hE:(E b==0)
  ·have hne:E b≠0:=by simpa using hE
   have HL2:=Lib.hid (HL1.out.trans (if_neg hne))
   clear hne
   go_wp2
   go_ret2
   rw [HL2.out]
   exact ⟨none,0,rfl,World.ownsRow_nil _ _ _ _,hb2⟩
  ·have hne:E b=0:=by simpa using hE
   have HL2:=Lib.hid (HL1.out.trans (if_pos hne))
   have HN:=Lib.hid hne
   rw [hne]
   clear hne hE
   go_wp2
   go_ret2
   rw [HL2.out,HN.out]
   refine ⟨some ⟨g,0,none⟩,c1,?_,?_,hb2⟩
   ·rw [List.length_set]; rfl
   ·have:=H2.out HN.out
    rw [List.length_set]; exact this
theorem appL_eq (l:List BI) (sz band now:Int):chE l band (fun b=>if sz≤b.used then 11 else 0)=appE l sz band∧chL l band (fun b=>if sz≤b.used then 11 else 0) (appBI now)=appL l sz band now:=⟨rfl,rfl⟩
theorem unlL_eq (l:List BI) (band:Int):chE l band (fun b=>if b.live < 1 then 8 else 0)=unlE l band∧chL l band (fun b=>if b.live < 1 then 8 else 0) unlBI=unlL l band:=⟨rfl,rfl⟩
theorem resL_eq (l:List BI) (band:Int):chE l band (fun _=>0)=resE l band∧chL l band (fun _=>0) resBI=resL l band:=⟨rfl,rfl⟩
theorem ListPost.below {W w:World} {E:Int} {L:List BI} {e:Ending} {w':World} (h:ListPost w E L e w') (hb:Below W.heap.size W w):ListPost W E L e w':=by
 obtain ⟨A',c',he,ho,hb'⟩:=h
 refine ⟨A',c',he,⟨ho.1,?_⟩,hb.trans (hb'.mono hb.size)⟩
 rcases ho.2 with h | ⟨g,cap,cur,h1,h2,h3⟩
 ·exact .inl h
 ·exact .inr ⟨g,cap,cur,h1,Nat.le_trans hb.size h2,h3⟩
set_option maxHeartbeats 400000 in
set_option maxRecDepth 100000 in
theorem append_any (l:List BI) (sz band now:Int) (hok:Oks l) (A:Option Addr) (c:Nat) (w:World) (hl:Rd w w.heap.size A (flat l)) (hn:l.length≤100000):
  Calls Tryz.prog 113 #[.slice A l.length c,.int .i64 sz,.int .i64 band,.int .u64 now] w (ListPost w (appE l sz band) (appL l sz band now)):=by
 rw [← (appL_eq l sz band now).1,← (appL_eq l sz band now).2]
 go_enter Tryz.func113,Tryz.ntmps113
 go_wp2_with fail
 have hl2:Rd ((w.alloc (.cells #[.int .i64 sz] 3)).alloc (.cells #[.int .u64 now] 23)) _ A (flat l):=((hl.alloc (Nat.le_refl _) _).alloc (by simp) _).more (B':=w.heap.size+1+1) (by omega)
 refine (change_any l band 150 _ _ (appBI now) hok A c _ (by simpa using hl2) hn (app_does _ w.heap.size (w.heap.size+1) sz now ?_ ?_) (fun _ _=>rfl)).mono ?_
 ·rw [World.cell?_alloc_past _ _ _ (by simp)]; simp
 ·simp [World.cell?_alloc_at]
 intro e w1 h
 have hB:Below w.heap.size w ((w.alloc (.cells #[.int .i64 sz] 3)).alloc (.cells #[.int .u64 now] 23)):=((Below.refl _ _).alloc (Nat.le_refl _) _).alloc (by simp) _
 obtain ⟨A1,c1,rfl,h1,h2⟩:=h.below hB
 go_wp2
 go_ret2
 exact ⟨A1,c1,rfl,h1,h2⟩
set_option maxHeartbeats 400000 in
set_option maxRecDepth 100000 in
theorem unlink_any (l:List BI) (band:Int) (hok:Oks l) (A:Option Addr) (c:Nat) (w:World) (hl:Rd w w.heap.size A (flat l)) (hn:l.length≤100000):
  Calls Tryz.prog 108 #[.slice A l.length c,.int .i64 band] w (ListPost w (unlE l band) (unlL l band)):=by
 rw [← (unlL_eq l band).1,← (unlL_eq l band).2]
 go_enter Tryz.func108,Tryz.ntmps108
 go_wp2_with fail
 refine (change_any l band 145 _ _ unlBI hok A c _ hl hn (unl_does _) (fun _ _=>rfl)).mono ?_
 rintro e w1 ⟨A1,c1,rfl,h1,h2⟩
 go_wp2
 go_ret2
 exact ⟨A1,c1,rfl,h1,h2⟩
set_option maxHeartbeats 400000 in
set_option maxRecDepth 100000 in
theorem reset_any (l:List BI) (band:Int) (hok:Oks l) (A:Option Addr) (c:Nat) (w:World) (hl:Rd w w.heap.size A (flat l)) (hn:l.length≤100000):
  Calls Tryz.prog 82 #[.slice A l.length c,.int .i64 band] w (ListPost w (resE l band) (resL l band)):=by
 rw [← (resL_eq l band).1,← (resL_eq l band).2]
 go_enter Tryz.func82,Tryz.ntmps82
 go_wp2_with fail
 refine (change_any l band 115 _ _ resBI hok A c _ hl hn (res_does _) (fun _ _=>rfl)).mono ?_
 rintro e w1 ⟨A1,c1,rfl,h1,h2⟩
 go_wp2
 go_ret2
 exact ⟨A1,c1,rfl,h1,h2⟩
end Go.Proofs.YtggkengmlkhdiaaGreat.V
