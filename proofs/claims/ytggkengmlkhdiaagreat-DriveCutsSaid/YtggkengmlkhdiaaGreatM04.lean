/-
  WHAT IS SHOWN: what the pending operations of a cache do, and what do, Write and Erase of a cache return and leave. what Write and Erase of a cache return and leave, and do of tegulalaw12. what Cut and Flush of a cache leave. what New, State, Read, Pending, Durable and Clone of a cache return. Conditions: as each theorem names them.
-/
import Derived.Test.YtggkengmlkhdiaaGreatM03
import Derived.Deep.AppendLies
import Derived.BigQuiet
import Derived.Deep.RegionHeld3
namespace Go.Proofs.YtggkengmlkhdiaaGreat
set_option linter.unusedVariables false
open Go.RowKit
theorem info_fn:(Tryz.prog.info? 173).map (fun i=>(i.zero,i.size,i.bytes))=some (some .nilFunc,1,8):=by kernel_rfl
section
variable {w w':World} {S:Nat→Prop} {B:Bd} {p:Nat} {g:Geo} {LM:List Sec} {ops:List OpV}
set_option maxHeartbeats 400000 in
theorem efn_any {m bs:Nat} {L:List Sec} (a:Int) (pa:Nat) (hm:Med w m bs g L) (hf:Fit g L) (ha:w.cell? ⟨pa,0,none⟩=some (.int .i64 a)):
  Calls Tryz.prog 126 #[.pointer (some ⟨m,0,none⟩),.pointer (some ⟨pa,0,none⟩)] w (WritePost w m bs g (eraseE g a) (eraseL g L a)):=by
 have HE:=Lib.hid (erase_any (band:=a) hm hf)
 clear hm hf
 go_enter Tryz.func126,Tryz.ntmps126
 go_wp2_with fail
 refine HE.out.mono ?_
 rintro e w1 ⟨rfl,hm1,hk1⟩
 go_wp2
 go_ret
 exact ⟨rfl,hm1,hk1⟩
set_option maxHeartbeats 400000 in
theorem wfn_any {m bs:Nat} {L:List Sec} (a:Int) (ha:I64 a) (xs:List Int) (A:Option Addr) (c:Nat) (pa pb:Nat) (hm:Med w m bs g L) (hf:Fit g L) (h0:w.cell? ⟨pa,0,none⟩=some (.int .i64 a)) (h1:w.cell? ⟨pb,0,none⟩=some (.slice A xs.length c))
  (hr:Rd w w.heap.size A (xs.map (Value.int .u8))) (hn:xs.length≤100000):
  Calls Tryz.prog 171 #[.pointer (some ⟨m,0,none⟩),.pointer (some ⟨pa,0,none⟩),.pointer (some ⟨pb,0,none⟩)] w (WritePost w m bs g (writeE L a xs) (writeL g L a xs)):=by
 have HE:=Lib.hid (write_any a ha hm hf xs A c hr hn)
 clear hm hf hr ha
 go_enter Tryz.func171,Tryz.ntmps171
 go_wp2_with fail
 refine HE.out.mono ?_
 rintro e w1 ⟨rfl,hm1,hk1⟩
 go_wp2
 go_ret
 exact ⟨rfl,hm1,hk1⟩
theorem fn_any {v:Value} {o:OpV} {m bs:Nat} {L:List Sec} (hv:OpFn w v o) (hm:Med w m bs g L) (hf:Fit g L):
  (∃ pa:Nat,v= .func (.func 126) #[] #[.pointer (some ⟨pa,0,none⟩)]∧Calls Tryz.prog 126 #[.pointer (some ⟨m,0,none⟩),.pointer (some ⟨pa,0,none⟩)] w (WritePost w m bs g (doE g L o) (doL g L o)))∨
  (∃ pa pb:Nat,v= .func (.func 171) #[] #[.pointer (some ⟨pa,0,none⟩),.pointer (some ⟨pb,0,none⟩)]∧Calls Tryz.prog 171 #[.pointer (some ⟨m,0,none⟩),.pointer (some ⟨pa,0,none⟩),.pointer (some ⟨pb,0,none⟩)] w (WritePost w m bs g (doE g L o) (doL g L o))):=by
 obtain ⟨h1,h2,h3⟩:=hv
 rcases h3 with ⟨e,pa,fr,hv,ha⟩ | ⟨e,pa,pb,A,c,fr,fr',hv,ha,hb,hr⟩
 ·refine .inl ⟨pa,hv,?_⟩
  unfold doE doL; rw [if_pos e,if_pos e]
  exact efn_any o.at_ pa hm hf (by rw [cell_of_row _ _ _ _ _ _ ha]; rfl)
 ·refine .inr ⟨pa,pb,hv,?_⟩
  unfold doE doL; rw [if_neg (by simp [e]),if_neg (by simp [e])]
  exact wfn_any o.at_ h1 o.xs A c pa pb hm hf (by rw [cell_of_row _ _ _ _ _ _ ha]; rfl) (by rw [cell_of_row _ _ _ _ _ _ hb]; rfl) hr.rd h2
variable {m1 b1 m2 b2:Nat} {A:Option Addr} {c:Nat} {F:List Value}
theorem cac_push {w1 w2:World} {v:Value} {o:OpV} {q cap:Nat} {fr:Nat × Nat} (h:Cac w B p g LM ops m1 b1 m2 b2 A c F) (hq:¬ B.X q) (hm:Med w1 m2 b2 g (doL g (playL g LM ops) o)) (hk:Kept (fun k=>k=b2) w w1) (hv:OpFn w v o)
  (hown:w2.ownsRow B.n 173 1 (.slice (some ⟨q,0,none⟩) (ops.length+1) cap) (ops.length+1) (F++[v])) (hgr:(w1.alloc (.cells #[v] 173 fr)).grownBy w2 (Value.slice A ops.length c).ownBlock):
  Cac (w2.setCell ⟨p,2,none⟩ (.slice (some ⟨q,0,none⟩) (ops.length+1) cap)) B p g LM (ops++[o]) m1 b1 m2 b2 (some ⟨q,0,none⟩) cap (F++[v])∧
  KeptT CT B w (w2.setCell ⟨p,2,none⟩ (.slice (some ⟨q,0,none⟩) (ops.length+1) cap)):=by
 have hlow:=h.low
 have t1:=h.med1.types
 have t2:=h.med2.types
 have tp:=h.typ
 have tA:=h.typA
 have hpb:p≠b2:=tp.ne t2.2 (by decide)
 have hk2:Kept (fun k=>k=b2∨(Value.slice A ops.length c).ownBlock=some k) w w2:=
  (hk.alloc (.cells #[v] 173 fr)).more (T:=fun k=>k=b2∨(Value.slice A ops.length c).ownBlock=some k) (fun _ _ h=>.inl h) |>.grown hgr (fun i _ e=>.inr e)
 have hpA:¬ ((Value.slice A ops.length c).ownBlock=some p):=fun e=>(tp.ne (tA p e).1 (by decide)) rfl
 have hobj2:w2.ownsRow B.n 166 3 (.slice (some ⟨p,0,none⟩) 1 1) 1 [.pointer (some ⟨m1,0,none⟩),.pointer (some ⟨m2,0,none⟩),.slice A ops.length c]:=
  own_kept h.obj hk2 (fun k e=>by simp [Value.ownBlock] at e; subst e; exact fun hs=>hs.elim hpb hpA)
 have hk3:Kept (fun k=>(k=b2∨(Value.slice A ops.length c).ownBlock=some k)∨k=p) w (w2.setCell ⟨p,2,none⟩ (.slice (some ⟨q,0,none⟩) (ops.length+1) cap)):=
  (hk2.more (T:=fun k=>(k=b2∨(Value.slice A ops.length c).ownBlock=some k)∨k=p) (fun _ _ h=>.inl h)).setCell (p:=⟨p,2,none⟩) (fun _=>.inr rfl) _
 have hf:FreeF w (fun k=>(k=b2∨(Value.slice A ops.length c).ownBlock=some k)∨k=p):=by
  have fA:FreeF w (fun k=>(Value.slice A ops.length c).ownBlock=some k):=
   ⟨fun k hk _ cur fr e=>absurd ((tA k hk).1.same (IsT.of e)) (by decide),fun k hk _ cur fr e=>absurd ((tA k hk).1.same (IsT.of e)) (by decide),fun k hk _ cur fr e=>absurd ((tA k hk).1.same (IsT.of e)) (by decide)⟩
  exact ((FreeF.one t2.2 (by decide) (by decide) (by decide)).or fA).or (FreeF.one tp (by decide) (by decide) (by decide))
 have hqp:q≠p:=fun e=>by
  subst e
  exact absurd ((IsT.own hown).same (IsT.own hobj2)) (by decide)
 have hk13:Kept (fun k=>(Value.slice A ops.length c).ownBlock=some k∨k=p) w1 (w2.setCell ⟨p,2,none⟩ (.slice (some ⟨q,0,none⟩) (ops.length+1) cap)):=
  (((Kept.refl (fun k=>(Value.slice A ops.length c).ownBlock=some k) w1).alloc (.cells #[v] 173 fr)).grown hgr (fun i _ e=>e)).more (T:=fun k=>(Value.slice A ops.length c).ownBlock=some k∨k=p) (fun _ _ h=>.inl h) |>.setCell (p:=⟨p,2,none⟩) (fun _=>.inr rfl) _
 have tA1:∀ k,(Value.slice A ops.length c).ownBlock=some k→IsT 173 w1 k:=fun k e=>by
  obtain ⟨⟨cur,fr,h1⟩,_⟩:=tA k e
  exact ⟨cur,fr,hk.obj h1 (fun e'=>(tA k e).1.ne t2.2 (by decide) e')⟩
 have tp1:IsT 166 w1 p:=by
  obtain ⟨cur,fr,h1⟩:=tp
  exact ⟨cur,fr,hk.obj h1 (fun e'=>hpb e')⟩
 have s2:=hm.types
 have hm2:Med (w2.setCell ⟨p,2,none⟩ (.slice (some ⟨q,0,none⟩) (ops.length+1) cap)) m2 b2 g (playL g LM (ops++[o])):=by
  rw [playL_snoc]
  exact hm.kept hk13 (fun hs=>hs.elim (fun e=>absurd ((tA1 _ e).same s2.1) (by decide)) (fun e=>absurd (tp1.same (e ▸ s2.1)) (by decide)))
   (fun hs=>hs.elim (fun e=>absurd ((tA1 _ e).same s2.2) (by decide)) (fun e=>absurd (tp1.same (e ▸ s2.2)) (by decide)))
   (fun k hk _ cur fr e=>hk.elim (fun e'=>absurd ((tA1 _ e').same (IsT.of e)) (by decide)) (fun e'=>absurd (tp1.same (e' ▸ IsT.of e)) (by decide)))
 refine ⟨⟨?_,h.px,fun k e=>by simp [Value.ownBlock] at e; subst e; exact hq,h.lb1,h.lb2,h.ne,?_,hm2,?_,?_⟩,?_⟩
 ·have:=(World.ownsRow.stored hobj2 2 (.slice (some ⟨q,0,none⟩) (ops.length+1) cap)).1
  simpa using this
 ·exact h.med1.kept hk3 (fun hs=>by
   rcases hs with (e | e) | e
   ·exact t1.1.ne t2.2 (by decide) e
   ·exact absurd ((tA _ e).1.same t1.1) (by decide)
   ·exact t1.1.ne tp (by decide) e)
   (fun hs=>by
   rcases hs with (e | e) | e
   ·exact h.ne e
   ·exact absurd ((tA _ e).1.same t1.2) (by decide)
   ·exact t1.2.ne tp (by decide) e) hf.2.2
 ·have h':=own_kept hown ((Kept.refl (fun k=>k=p) w2).setCell (p:=⟨p,2,none⟩) (fun _=>rfl) (.slice (some ⟨q,0,none⟩) (ops.length+1) cap)) (fun k e=>by simp [Value.ownBlock] at e; subst e; exact hqp)
  simpa using h'
 ·intro i o' ho
  rw [List.getElem?_append] at ho
  have hFl:F.length=ops.length:=by have:=h.own.1; omega
  by_cases hi:i < ops.length
  ·rw [if_pos hi] at ho
   obtain ⟨u,hu,hF⟩:=h.fn i o' ho
   exact ⟨u,by rw [List.getElem?_append,if_pos (by omega)]; exact hu,hF.kept hk3 hf⟩
  ·rw [if_neg hi] at ho
   have hi':i - ops.length=0:=by
    rcases Nat.eq_zero_or_pos (i - ops.length) with h0 | h0
    ·exact h0
    ·rw [List.getElem?_eq_none (by simp; omega)] at ho; cases ho
   rw [hi'] at ho
   simp at ho
   subst ho
   exact ⟨v,by rw [List.getElem?_append,if_neg (by omega)]; rw [show i - F.length=0 by omega]; rfl,hv.kept hk3 hf⟩
 ·refine KeptT.of hk3 (fun k _ hs=>?_)
  rcases hs with (e | e) | e
  ·subst e; exact ⟨h.lb2,HasT.mem t2.2 (by simp [CT])⟩
  ·exact ⟨(tA k e).2,HasT.mem (tA k e).1 (by simp [CT])⟩
  ·subst e; exact ⟨hlow,HasT.mem tp (by simp [CT])⟩
theorem cac_fail {w1:World} {o:OpV} (h:Cac w B p g LM ops m1 b1 m2 b2 A c F) (hE:doE g (playL g LM ops) o≠0) (hm:Med w1 m2 b2 g (doL g (playL g LM ops) o)) (hk:Kept (fun k=>k=b2) w w1):
  Cac w1 B p g LM ops m1 b1 m2 b2 A c F∧KeptT CT B w w1:=by
 have t1:=h.med1.types
 have t2:=h.med2.types
 have tp:=h.typ
 have hf:=FreeF.one t2.2 (by decide) (by decide) (by decide)
 rw [doL_err hE] at hm
 refine ⟨⟨own_kept h.obj hk (fun k e=>by simp [Value.ownBlock] at e; subst e; exact tp.ne t2.2 (by decide)),h.px,h.ax,h.lb1,h.lb2,h.ne,h.med1.kept hk (t1.1.ne t2.2 (by decide)) h.ne hf.2.2,hm,own_kept h.own hk (fun k e=>(h.typA k e).1.ne t2.2 (by decide)),fun i o ho=>?_⟩,KeptT.of hk (fun k _ hs=>?_)⟩
 ·obtain ⟨v,hv,hF⟩:=h.fn i o ho
  exact ⟨v,hv,hF.kept hk hf⟩
 ·have e:k=b2:=hs
  subst e; exact ⟨h.lb2,HasT.mem t2.2 (by simp [CT])⟩
def DoPost (w:World) (B:Bd) (p:Nat) (g:Geo) (LM:List Sec) (ops:List OpV) (o:OpV) (e:Ending) (w':World):Prop:=
 e= .returned (.int .i64 (doE g (playL g LM ops) o))∧CacheM w' B p g LM (if doE g (playL g LM ops) o=0 then ops++[o] else ops)∧KeptT CT B w w'
set_option maxRecDepth 100000 in
set_option maxHeartbeats 1000000 in
theorem cdo_any {v:Value} {o:OpV} (h:CacheM w B p g LM ops) (hf:Fit g LM) (hv:OpFn w v o) (hB:B.top≤w.heap.size) (hn:ops.length≤100000):
  Calls Tryz.prog 125 #[.pointer (some ⟨p,0,none⟩),v] w (DoPost w B p g LM ops o):=by
 obtain ⟨m1,b1,m2,b2,A,c,F,h⟩:=h
 obtain ⟨i0,hi,hz0,hz1,hz2⟩:=info_parts info_fn
 have hf2:Fit g (playL g LM ops):=hf.len (playL_len _ _ _)
 have hfn:=fn_any hv h.med2 hf2
 obtain ⟨c0,c1,c2⟩:=h.cells
 have hpb:¬ (p=b2):=h.typ.ne h.med2.types.2 (by decide)
 have hown0:=h.own
 have hv1:v.oneCell'=true:=by rcases hfn with ⟨pa,rfl,_⟩ | ⟨pa,pb,rfl,_⟩ <;> rfl
 have HOA:Hid (∀ w1,Kept (fun k=>k=b2) w w1→w1.ownsRow B.n 173 1 (.slice A ops.length c) ops.length F):=by
  unfold Hid; intro w1 hk1; exact own_kept h.own hk1 (fun k e=>(h.typA k e).1.ne h.med2.types.2 (by decide))
 have hpA:¬ ((Value.slice A ops.length c).ownBlock=some p):=fun e=>(h.typ.ne (h.typA p e).1 (by decide)) rfl
 have HOB:Hid (∀ w1 w2:World,Kept (fun k=>k=b2) w w1→(w1.alloc (.cells #[v] 173)).grownBy w2 (Value.slice A ops.length c).ownBlock→w2.ownsRow B.n 166 3 (.slice (some ⟨p,0,none⟩) 1 1) 1 [.pointer (some ⟨m1,0,none⟩),.pointer (some ⟨m2,0,none⟩),.slice A ops.length c]):=by
  unfold Hid; intro w1 w2 hk1 hgr
  have hk2:Kept (fun k=>k=b2∨(Value.slice A ops.length c).ownBlock=some k) w w2:=
   (hk1.alloc (.cells #[v] 173)).more (T:=fun k=>k=b2∨(Value.slice A ops.length c).ownBlock=some k) (fun _ _ h=>.inl h) |>.grown hgr (fun i _ e=>.inr e)
  exact own_kept h.obj hk2 (fun k e=>by simp [Value.ownBlock] at e; subst e; exact fun hs=>hs.elim hpb hpA)
 have HFR:Hid (∀ w1 w2:World,Kept (fun k=>k=b2) w w1→(w1.alloc (.cells #[v] 173)).grownBy w2 (Value.slice A ops.length c).ownBlock→w2.frozen? ⟨p,2,none⟩=false):=by
  unfold Hid; intro w1 w2 hk1 hgr; exact (HOB.out w1 w2 hk1 hgr).frozenAt 2
 have HCE:Hid (∀ w1 w2:World,Kept (fun k=>k=b2) w w1→(w1.alloc (.cells #[v] 173)).grownBy w2 (Value.slice A ops.length c).ownBlock→w2.cell? ⟨p,2,none⟩=some (.slice A ops.length c)):=by
  unfold Hid; intro w1 w2 hk1 hgr; exact (World.ownsRow.cellAt (HOB.out w1 w2 hk1 hgr) 2 (by decide)).trans rfl
 have HAX:Hid (∀ q H,B.top≤H→((Value.slice A ops.length c).ownBlock=some q∨q=H)→¬ B.X q):=by
  unfold Hid; intro q H hH hq; exact hq.elim (h.ax q) (fun e=>Bd.nx (by omega))
 by_cases hE:doE g (playL g LM ops) o=0
 ·have HP:Hid (∀ w1 w2 q cap,¬ B.X q→Med w1 m2 b2 g (doL g (playL g LM ops) o)→Kept (fun k=>k=b2) w w1→w2.ownsRow B.n 173 1 (.slice (some ⟨q,0,none⟩) (ops.length+1) cap) (ops.length+1) (F++[v])→(w1.alloc (.cells #[v] 173)).grownBy w2 (Value.slice A ops.length c).ownBlock→CacheM (w2.setCell ⟨p,2,none⟩ (.slice (some ⟨q,0,none⟩) (ops.length+1) cap)) B p g LM (if doE g (playL g LM ops) o=0 then ops++[o] else ops)∧KeptT CT B w (w2.setCell ⟨p,2,none⟩ (.slice (some ⟨q,0,none⟩) (ops.length+1) cap))):=by
   unfold Hid; intro w1 w2 q cap hq hm hk ho hg
   have:=cac_push h hq hm hk hv ho hg
   rw [if_pos hE]
   exact ⟨⟨_,_,_,_,_,_,_,this.1⟩,this.2⟩
  have HE:=Lib.hid hE
  rw [hE] at hfn
  clear hE h hf hf2 hv hown0
  rcases hfn with ⟨pa,rfl,hc⟩ | ⟨pa,pb,rfl,hc⟩
  ·have HC:=Lib.hid hc
   clear hc
   go_enter Tryz.func125,Tryz.ntmps125
   go_wp2_with fail
   refine HC.out.mono ?_
   rintro e w1 ⟨rfl,hm1,hk1⟩
   have k2:=hk1.cell c2 hpb
   have hoA:=(HOA.out w1 hk1).alloc (.cells #[(.func (.func 126) #[] #[.pointer (some ⟨pa,0,none⟩)])] 173)
   have hB2:B.top≤w1.heap.size:=Nat.le_trans hB hk1.size
   have hB1:B.n≤w1.heap.size:=Nat.le_trans B.le hB2
   go_wp2_with (at_builtin; refine wpList_append_lies _ rfl _ _ 164 rfl B.n 173 i0 _ 1 8 Tryz.underlying164 hi hz0 hz1 hz2 rfl (by decide) _ ops.length F rfl hoA ⟨w1.heap.size,0,none⟩ 1 1 [(.func (.func 126) #[] #[.pointer (some ⟨pa,0,none⟩)])] rfl rfl (World.news_of_block (heap_alloc_new _ _)) (by intro u hu; simp at hu; subst hu; rfl) (by decide) (by unfold maxLen; omega) (by omega) (by simp; omega) _ rfl ?_)
   intro q cap w2 hown hgrow hloc hlt
   have hF:=HP.out w1 w2 q cap (HAX.out _ _ (by first | omega | (simp; omega)) hloc) hm1 hk1 hown hgrow
   have HF:=Lib.hid hF
   have hp1:=hk1.size
   have hfr:w2.frozen? ⟨p,2,none⟩=false:=HFR.out w1 w2 hk1 hgrow
   have hce:w2.cell? ⟨p,2,none⟩=some (.slice A ops.length c):=HCE.out w1 w2 hk1 hgrow
   clear hF hown hgrow hloc hoA k2 hm1
   go_wp2
   go_ret
   exact ⟨by rw [HE.out]; rfl,HF.out⟩
  ·have HC:=Lib.hid hc
   clear hc
   go_enter Tryz.func125,Tryz.ntmps125
   go_wp2_with fail
   refine HC.out.mono ?_
   rintro e w1 ⟨rfl,hm1,hk1⟩
   have k2:=hk1.cell c2 hpb
   have hoA:=(HOA.out w1 hk1).alloc (.cells #[(.func (.func 171) #[] #[.pointer (some ⟨pa,0,none⟩),.pointer (some ⟨pb,0,none⟩)])] 173)
   have hB2:B.top≤w1.heap.size:=Nat.le_trans hB hk1.size
   have hB1:B.n≤w1.heap.size:=Nat.le_trans B.le hB2
   go_wp2_with (at_builtin; refine wpList_append_lies _ rfl _ _ 164 rfl B.n 173 i0 _ 1 8 Tryz.underlying164 hi hz0 hz1 hz2 rfl (by decide) _ ops.length F rfl hoA ⟨w1.heap.size,0,none⟩ 1 1 [(.func (.func 171) #[] #[.pointer (some ⟨pa,0,none⟩),.pointer (some ⟨pb,0,none⟩)])] rfl rfl (World.news_of_block (heap_alloc_new _ _)) (by intro u hu; simp at hu; subst hu; rfl) (by decide) (by unfold maxLen; omega) (by omega) (by simp; omega) _ rfl ?_)
   intro q cap w2 hown hgrow hloc hlt
   have hF:=HP.out w1 w2 q cap (HAX.out _ _ (by first | omega | (simp; omega)) hloc) hm1 hk1 hown hgrow
   have HF:=Lib.hid hF
   have hp1:=hk1.size
   have hfr:w2.frozen? ⟨p,2,none⟩=false:=HFR.out w1 w2 hk1 hgrow
   have hce:w2.cell? ⟨p,2,none⟩=some (.slice A ops.length c):=HCE.out w1 w2 hk1 hgrow
   clear hF hown hgrow hloc hoA k2 hm1
   go_wp2
   go_ret
   exact ⟨by rw [HE.out]; rfl,HF.out⟩
 ·have HP:Hid (∀ w1,Med w1 m2 b2 g (doL g (playL g LM ops) o)→Kept (fun k=>k=b2) w w1→CacheM w1 B p g LM (if doE g (playL g LM ops) o=0 then ops++[o] else ops)∧KeptT CT B w w1):=by
   unfold Hid; intro w1 hm hk
   have:=cac_fail h hE hm hk
   rw [if_neg hE]
   exact ⟨⟨_,_,_,_,_,_,_,this.1⟩,this.2⟩
  have hE2:(doE g (playL g LM ops) o==0)=false:=by simpa using hE
  generalize hEE:doE g (playL g LM ops) o=E at *
  have HEE:=Lib.hid hEE
  clear hE h hf hf2 hv hown0 hEE
  rcases hfn with ⟨pa,rfl,hc⟩ | ⟨pa,pb,rfl,hc⟩
  ·have HC:=Lib.hid hc
   clear hc
   go_enter Tryz.func125,Tryz.ntmps125
   go_wp2_with fail
   refine HC.out.mono ?_
   rintro e w1 ⟨rfl,hm1,hk1⟩
   go_wp2
   go_ret
   unfold DoPost
   rw [HEE.out]
   exact ⟨rfl,HP.out w1 hm1 hk1⟩
  ·have HC:=Lib.hid hc
   clear hc
   go_enter Tryz.func125,Tryz.ntmps125
   go_wp2_with fail
   refine HC.out.mono ?_
   rintro e w1 ⟨rfl,hm1,hk1⟩
   go_wp2
   go_ret
   unfold DoPost
   rw [HEE.out]
   exact ⟨rfl,HP.out w1 hm1 hk1⟩
end
end Go.Proofs.YtggkengmlkhdiaaGreat
namespace Go.Proofs.YtggkengmlkhdiaaGreat
set_option linter.unusedVariables false
open Go.RowKit
section
variable {w w':World} {S:Nat→Prop} {B:Bd} {p:Nat} {g:Geo} {LM:List Sec} {ops:List OpV}
theorem DoPost.from {w0:World} {o:OpV} {e:Ending} (h:DoPost w B p g LM ops o e w') (hk:KeptT CT B w0 w):DoPost w0 B p g LM ops o e w':=⟨h.1,h.2.1,hk.trans h.2.2⟩
set_option maxRecDepth 100000 in
set_option maxHeartbeats 1000000 in
theorem cerase_any (a:Int) (ha:I64 a) (xs:List Int) (hx:xs.length≤100000) (h:CacheM w B p g LM ops) (hf:Fit g LM) (hB:B.top≤w.heap.size) (hn:ops.length≤100000):
  Calls Tryz.prog 98 #[.pointer (some ⟨p,0,none⟩),.int .i64 a] w (DoPost w B p g LM ops ⟨true,a,xs,none,0⟩):=by
 have hb0:Below w.heap.size w (w.alloc (.cells #[.int .i64 a] 3)):=(Below.refl _ _).alloc (Nat.le_refl _) _
 have hv:OpFn (w.alloc (.cells #[.int .i64 a] 3)) (.func (.func 126) #[] #[.pointer (some ⟨w.heap.size,0,none⟩)]) ⟨true,a,xs,none,0⟩:=
  ⟨ha,hx,.inl ⟨rfl,w.heap.size,_,rfl,heap_alloc_new _ _⟩⟩
 have HC:=Lib.hid ((cdo_any (h.below0 hb0) hf hv (by simp; omega) hn).mono fun e w' hp=>DoPost.from hp (KeptT.bel hb0))
 clear h hf hv ha
 go_enter Tryz.func98,Tryz.ntmps98
 go_wp2_with fail
 refine HC.out.mono ?_
 rintro e w1 ⟨rfl,h1,hk1⟩
 go_wp2
 go_ret
 exact ⟨rfl,h1,hk1⟩
set_option maxRecDepth 100000 in
set_option maxHeartbeats 1000000 in
theorem cwrite_any (a:Int) (ha:I64 a) (xs:List Int) (A:Option Addr) (c:Nat) (hr:Rd w w.heap.size A (xs.map (Value.int .u8))) (hx:xs.length≤100000) (h:CacheM w B p g LM ops) (hf:Fit g LM) (hB:B.top≤w.heap.size) (hn:ops.length≤100000):
  Calls Tryz.prog 149 #[.pointer (some ⟨p,0,none⟩),.int .i64 a,.slice A xs.length c] w (DoPost w B p g LM ops ⟨false,a,xs,none,0⟩):=by
 have hb0:Below w.heap.size w ((w.alloc (.cells #[.int .i64 a] 3)).alloc (.cells #[.slice A xs.length c] 65)):=((Below.refl _ _).alloc (Nat.le_refl _) _).alloc (by simp) _
 have HC:=Lib.hid (cloneb_any xs A c _ ((hr.below hb0 (Nat.le_refl _)).more hb0.size) hx)
 have o0:((w.alloc (.cells #[.int .i64 a] 3)).alloc (.cells #[.slice A xs.length c] 65)).heap[w.heap.size]?=some (.cells #[.int .i64 a] 3 (0,0)):=by
  rw [belObj (B:=w.heap.size+1) (w:=w.alloc (.cells #[.int .i64 a] 3)) ((Below.refl _ _).alloc (by simp) _) (heap_alloc_new w _) (by omega)]
 have o1:((w.alloc (.cells #[.int .i64 a] 3)).alloc (.cells #[.slice A xs.length c] 65)).heap[w.heap.size+1]?=some (.cells #[.slice A xs.length c] 65 (0,0)):=by
  have:=heap_alloc_new (w.alloc (.cells #[.int .i64 a] 3)) (.cells #[.slice A xs.length c] 65)
  simpa using this
 have HD:Hid (∀ w1 v,Bys 5 w1 v xs→Below ((w.alloc (.cells #[.int .i64 a] 3)).alloc (.cells #[.slice A xs.length c] 65)).heap.size ((w.alloc (.cells #[.int .i64 a] 3)).alloc (.cells #[.slice A xs.length c] 65)) w1→
   Calls Tryz.prog 125 #[.pointer (some ⟨p,0,none⟩),.func (.func 171) #[] #[.pointer (some ⟨w.heap.size,0,none⟩),.pointer (some ⟨w.heap.size+1,0,none⟩)]] (w1.setCell ⟨w.heap.size+1,0,none⟩ v) (DoPost w B p g LM ops ⟨false,a,xs,none,0⟩)):=by
  unfold Hid; intro w1 v hv hb1
  have q0:=belObj hb1 o0 (by simp; omega)
  have q1:=belObj hb1 o1 (by simp)
  have hk:=(Kept.refl (fun k=>k=w.heap.size+1) w1).setCell (p:=⟨w.heap.size+1,0,none⟩) (fun _=>rfl) v
  have hbs:Below w.heap.size w (w1.setCell ⟨w.heap.size+1,0,none⟩ v):=(hb0.trans (hb1.mono hb0.size)).setCell (p:=⟨w.heap.size+1,0,none⟩) (by simp) v
  have hv2:=hv.kept hk (Free.one q1 (by decide))
  obtain ⟨A',c',rfl,hrd,_⟩:=hv2
  have hF:OpFn (w1.setCell ⟨w.heap.size+1,0,none⟩ (.slice A' xs.length c')) (.func (.func 171) #[] #[.pointer (some ⟨w.heap.size,0,none⟩),.pointer (some ⟨w.heap.size+1,0,none⟩)]) ⟨false,a,xs,none,0⟩:=
   ⟨ha,hx,.inr ⟨rfl,w.heap.size,w.heap.size+1,A',c',_,_,rfl,hk.obj q0 (by show ¬ (w.heap.size=w.heap.size+1); omega),one_setCell q1,hrd⟩⟩
  exact (cdo_any (h.below0 hbs) hf hF (Nat.le_trans hB hbs.size) hn).mono fun e w' hp=>DoPost.from hp (KeptT.bel hbs)
 have HO1:Hid (∀ w1,Below ((w.alloc (.cells #[.int .i64 a] 3)).alloc (.cells #[.slice A xs.length c] 65)).heap.size ((w.alloc (.cells #[.int .i64 a] 3)).alloc (.cells #[.slice A xs.length c] 65)) w1→w1.heap[w.heap.size+1]?=some (.cells #[.slice A xs.length c] 65 (0,0))):=by
  unfold Hid; intro w1 hb1; exact belObj hb1 o1 (by simp)
 clear h hf hr ha o0 o1
 go_enter Tryz.func149,Tryz.ntmps149
 go_wp2_with fail
 refine HC.out.mono ?_
 rintro e w1 ⟨v,rfl,hv,hb1⟩
 have q1:=HO1.out w1 hb1
 have r0:=cell_of_one q1
 have r1:=free_of_one q1
 have HF:=Lib.hid (HD.out w1 v hv hb1)
 obtain ⟨A',c',rfl,_,_⟩:=hv
 clear q1
 go_wp2_with fail
 refine HF.out.mono ?_
 rintro e w2 ⟨rfl,h2,hk2⟩
 go_wp2
 go_ret
 exact ⟨rfl,h2,hk2⟩
end
end Go.Proofs.YtggkengmlkhdiaaGreat
namespace Go.Proofs.YtggkengmlkhdiaaGreat
set_option linter.unusedVariables false
open Go.RowKit
section
variable {w w':World} {S:Nat→Prop} {B:Bd} {p:Nat} {g:Geo} {LM:List Sec} {ops:List OpV}
def CutPost (w:World) (B:Bd) (p:Nat) (g:Geo) (LM:List Sec) (ops:List OpV) (n:Nat) (e:Ending) (w':World):Prop:=
 e= .returned (.tuple #[])∧CacheM w' B p g (playL g LM (ops.take n)) []∧KeptT CT B w w'
section
variable {m1 b1 m2 b2:Nat} {A:Option Addr} {c:Nat} {F:List Value}
theorem cac_cut {w1:World} {L':List Sec} (h:Cac w B p g LM ops m1 b1 m2 b2 A c F) (hm:Med w1 m1 b1 g L') (hk:Kept (fun k=>k=b1) w w1):
  (w1.setCell ⟨p,2,none⟩ (.slice none 0 0)).ownsRow B.n 166 3 (.slice (some ⟨p,0,none⟩) 1 1) 1 [.pointer (some ⟨m1,0,none⟩),.pointer (some ⟨m2,0,none⟩),.slice none 0 0]∧
  Med (w1.setCell ⟨p,2,none⟩ (.slice none 0 0)) m1 b1 g L'∧Med (w1.setCell ⟨p,2,none⟩ (.slice none 0 0)) m2 b2 g (playL g LM ops)∧KeptT CT B w (w1.setCell ⟨p,2,none⟩ (.slice none 0 0)):=by
 have t1:=h.med1.types
 have t2:=h.med2.types
 have tp:=h.typ
 have hlow:=h.low
 have hpb:¬ (p=b1):=tp.ne t1.2 (by decide)
 have hobj:=own_kept h.obj hk (fun k e=>by simp [Value.ownBlock] at e; subst e; exact hpb)
 have tp1:IsT 166 w1 p:=IsT.own hobj
 have hk2:Kept (fun k=>k=b1∨k=p) w (w1.setCell ⟨p,2,none⟩ (.slice none 0 0)):=
  (hk.more (T:=fun k=>k=b1∨k=p) (fun _ _ h=>.inl h)).setCell (p:=⟨p,2,none⟩) (fun _=>.inr rfl) _
 have hk1:Kept (fun k=>k=p) w1 (w1.setCell ⟨p,2,none⟩ (.slice none 0 0)):=(Kept.refl (fun k=>k=p) _).setCell (p:=⟨p,2,none⟩) (fun _=>rfl) _
 refine ⟨?_,?_,?_,?_⟩
 ·have:=(World.ownsRow.stored hobj 2 (.slice none 0 0)).1
  simpa using this
 ·exact hm.kept hk1 (hm.types.1.ne tp1 (by decide)) (hm.types.2.ne tp1 (by decide)) (FreeF.one tp1 (by decide) (by decide) (by decide)).2.2
 ·exact h.med2.kept hk2 (fun e=>e.elim (t2.1.ne t1.2 (by decide)) (t2.1.ne tp (by decide))) (fun e=>e.elim (fun e=>h.ne e.symm) (t2.2.ne tp (by decide)))
   ((FreeF.one t1.2 (by decide) (by decide) (by decide)).or (FreeF.one tp (by decide) (by decide) (by decide))).2.2
 ·refine KeptT.of hk2 (fun k _ hs=>?_)
  rcases hs with e | e
  ·subst e; exact ⟨h.lb1,HasT.mem t1.2 (by simp [CT])⟩
  ·subst e; exact ⟨hlow,HasT.mem tp (by simp [CT])⟩
theorem own_nil (w:World) (B:Nat) (t:TypeId):w.ownsRow B t 1 (.slice none 0 0) 0 []:=⟨rfl,.inl ⟨rfl,rfl⟩⟩
theorem cac_lost {w2 w3:World} {L':List Sec} {m b:Nat} (hB:B.top≤w2.heap.size) (h1:B.has b1) (hr:w2.ownsRow B.n 166 3 (.slice (some ⟨p,0,none⟩) 1 1) 1 [.pointer (some ⟨m1,0,none⟩),.pointer (some ⟨m2,0,none⟩),.slice none 0 0])
  (hm:Med w2 m1 b1 g L') (hbl:Below w2.heap.size w2 w3) (hm':Med w3 m b g L') (hb:w2.heap.size≤b) (hlow:B.has p):
  CacheM (w3.setCell ⟨p,1,none⟩ (.pointer (some ⟨m,0,none⟩))) B p g L' []∧KeptT CT B w2 (w3.setCell ⟨p,1,none⟩ (.pointer (some ⟨m,0,none⟩))):=by
 have hr3:=own_kept hr (belKept0 (S:=fun _=>False) hbl) (fun _ _ h=>h)
 have tp:=IsT.own hr3
 have hm3:=hm.below0 hbl
 have hk1:Kept (fun k=>k=p) w3 (w3.setCell ⟨p,1,none⟩ (.pointer (some ⟨m,0,none⟩))):=(Kept.refl (fun k=>k=p) _).setCell (p:=⟨p,1,none⟩) (fun _=>rfl) _
 have hf:=(FreeF.one tp (by decide) (by decide) (by decide)).2.2
 have hlt:=hm.lt
 refine ⟨⟨m1,b1,m,b,none,0,[],?_,hlow.2,fun k e=>by simp [Value.ownBlock] at e,h1,Bd.fresh (Nat.le_trans hB hb),by omega,hm3.kept hk1 (hm3.types.1.ne tp (by decide)) (hm3.types.2.ne tp (by decide)) hf,hm'.kept hk1 (hm'.types.1.ne tp (by decide)) (hm'.types.2.ne tp (by decide)) hf,own_nil _ _ _,fun i o ho=>by simp at ho⟩,?_⟩
 ·have:=(World.ownsRow.stored hr3 1 (.pointer (some ⟨m,0,none⟩))).1
  simpa using this
 ·exact (KeptT.bel hbl).trans (KeptT.of hk1 (fun k _ hs=>by have e:k=p:=hs; subst e; exact ⟨hlow,HasT.mem tp (by simp [CT])⟩))
end
set_option maxRecDepth 100000 in
set_option maxHeartbeats 1000000 in
theorem ccut_any (keep:Int) (h:CacheM w B p g LM ops) (hf:Fit g LM) (hB:B.top≤w.heap.size) (hn:ops.length≤100000):
  Calls Tryz.prog 99 #[.pointer (some ⟨p,0,none⟩),.int .i64 keep] w (CutPost w B p g LM ops (cutN keep ops.length)):=by
 obtain ⟨m1,b1,m2,b2,A,c,F,h⟩:=h
 obtain ⟨c0,c1,c2⟩:=h.cells
 have hcc:ops.length≤c:=by
  rcases h.own.2 with ⟨h2,h3⟩ | ⟨g',cap,cur,e1,_,_,e4,_⟩
  ·omega
  ·injection e1 with _ _ e1; subst e1; exact e4
 have hNL:Hid (decide (keep < (ops.length:Int))=false→cutN keep ops.length=ops.length):=by
  unfold Hid; intro h; exact cutN_all (of_decide_eq_false h)
 obtain ⟨K,e1⟩:∃ K,(if keep < 0 then (0:Int) else keep)=K:=⟨_,rfl⟩
 have e2:(if (ops.length:Int) < K then (ops.length:Int) else K)=(cutN keep ops.length:Nat):=by
  unfold cutN; subst e1; split <;> split <;> omega
 have hnl:=cutN_le keep ops.length
 generalize cutN keep ops.length=n at *
 have n0:(0:Int)≤n:=by omega
 have n1:(n:Int)≤c:=by omega
 have hpb:¬ (p=b1):=h.typ.ne h.med1.types.2 (by decide)
 have hlow:=h.low
 have HF:=Lib.hid hf
 have H:=Lib.hid h
 have hm1:=h.med1
 have hlb1:=h.lb1
 clear hf h
 go_enter Tryz.func99,Tryz.ntmps99
 go_wp2
 go_quiet (fail)
 have hkq:Kept (fun k=>k=b1) w (w.drewN nq):=(Kept.refl (fun k=>k=b1) w).drewN nq
 have hmq:Med (w.drewN nq) m1 b1 g LM:=hm1.kept ((Kept.refl (fun _=>False) w).drewN nq) (fun h=>h) (fun h=>h) (Free.none _ _)
 generalize w.drewN nq=wq at *
 generalize decide (keep < (ops.length:Int))=lo at *
 clear e1 e2 hm1
 go_wp2
 go_loopw [6,30] (fun x v wr=>∃ k:Nat,k≤n∧v= .int .i64 k∧Med wr m1 b1 g (playL g LM (ops.take k))∧Kept (fun k=>k=b1) w wr) (fun _ v _=>n - (intOf v).toNat)
 case atStart=>exact ⟨0,Nat.zero_le _,rfl,hmq,hkq⟩
 case round=>
  obtain ⟨k,hk,rfl,hmr,hkr⟩:=hrel
  by_cases hlt:k < n
  ·have hop:k < ops.length:=by omega
   obtain ⟨v,hv,hF⟩:=H.out.fn k _ (List.getElem?_eq_getElem hop)
   obtain ⟨q,rfl,hq,_⟩:=own_at H.out.own (by omega)
   have tq:=H.out.typA q rfl
   have hqb:¬ (q=b1):=tq.1.ne H.out.med1.types.2 (by decide)
   have hcq:w.cell? ⟨q,k,none⟩=some v:=by
    rw [World.ownsRow.cellAt H.out.own k (by omega)]; exact hv
   have hcr:=hkr.cell hcq hqb
   have hT:=Lib.hid (playL_take g LM ops k hop)
   have hFr:=hF.kept hkr (FreeF.one H.out.med1.types.2 (by decide) (by decide) (by decide))
   have hfn:=fn_any hFr hmr (HF.out.len (playL_len _ _ _))
   have d0:=(hkr.cell c0 hpb)
   have k0:(0:Int)≤k:=by omega
   have k1:(k:Int) < n:=by omega
   generalize playL g LM (ops.take k)=X at *
   generalize ops[k]=o at *
   clear hF hFr hv hmr hcq
   rcases hfn with ⟨pa,rfl,hc⟩ | ⟨pa,pb,rfl,hc⟩
   ·have HC:=Lib.hid hc
    clear hc
    go_wp2_with fail
    refine HC.out.mono ?_
    rintro e w1 ⟨rfl,hm1,hk1⟩
    have hk2:=hkr.trans hk1 (fun _ _ h=>h)
    have HM1:=Lib.hid hm1
    clear hm1 hk1 hcr d0
    go_wp2
    go_roundw
    case rel=>exact ⟨k+1,by omega,by go_num,by rw [hT.out]; exact HM1.out,hk2⟩
    case measure=>simp [intOf]; omega
   ·have HC:=Lib.hid hc
    clear hc
    go_wp2_with fail
    refine HC.out.mono ?_
    rintro e w1 ⟨rfl,hm1,hk1⟩
    have hk2:=hkr.trans hk1 (fun _ _ h=>h)
    have HM1:=Lib.hid hm1
    clear hm1 hk1 hcr d0
    go_wp2
    go_roundw
    case rel=>exact ⟨k+1,by omega,by go_num,by rw [hT.out]; exact HM1.out,hk2⟩
    case measure=>simp [intOf]; omega
  ·obtain rfl:k=n:=by omega
   obtain ⟨hr2,hm2,hm2',hk2⟩:=cac_cut H.out hmr hkr
   have hobj:=own_kept H.out.obj hkr (fun k e=>by simp [Value.ownBlock] at e; subst e; exact hpb)
   have d2:wr.cell? ⟨p,2,none⟩=some (.slice A ops.length c):=(World.ownsRow.cellAt hobj 2 (by decide)).trans rfl
   have f2:=hobj.frozenAt 2
   have hsz:w.heap.size≤(wr.setCell ⟨p,2,none⟩ (.slice none 0 0)).heap.size:=hk2.size
   cases lo
   ·have hn':=hNL.out rfl
    have HC:Hid (CacheM (wr.setCell ⟨p,2,none⟩ (.slice none 0 0)) B p g (playL g LM (ops.take k)) []):=by
     unfold Hid
     refine ⟨m1,b1,m2,b2,none,0,[],hr2,hlow.2,fun k e=>by simp [Value.ownBlock] at e,hlb1,H.out.lb2,H.out.ne,hm2,?_,own_nil _ _ _,fun i o ho=>by simp at ho⟩
     rw [hn',List.take_of_length_le (Nat.le_refl _)]; exact hm2'
    clear hmr hkr hr2 hm2 hm2' hmq hkq hobj hn'
    go_wp2
    go_end0
    exact ⟨rfl,HC.out,hk2⟩
   ·have HLST:=Lib.hid (fun w3 m b hbl hm' hb=>cac_lost (w3:=w3) (m:=m) (b:=b) (Nat.le_trans hB hsz) hlb1 hr2 hm2 hbl hm' hb hlow)
    have HCL:=Lib.hid (clone_any hm2 (HF.out.len (playL_len _ _ _)))
    have s0:(wr.setCell ⟨p,2,none⟩ (.slice none 0 0)).cell? ⟨p,0,none⟩=some (.pointer (some ⟨m1,0,none⟩)):=(World.ownsRow.cellAt hr2 0 (by decide)).trans rfl
    have HRO:=Lib.hid hr2
    have hk2':=hk2
    clear hmr hkr hr2 hm2 hm2' hmq hkq hobj
    go_wp2_with fail
    refine HCL.out.mono ?_
    rintro e w3 ⟨m3,b3,rfl,hm3,hmm3,hbb3,hb3⟩
    have hr3:=own_kept HRO.out (belKept0 (S:=fun _=>False) hb3) (fun _ _ h=>h)
    have r1:w3.cell? ⟨p,1,none⟩=some (.pointer (some ⟨m2,0,none⟩)):=(World.ownsRow.cellAt hr3 1 (by decide)).trans rfl
    have r2:=hr3.frozenAt 1
    have HL:=Lib.hid (HLST.out w3 m3 b3 hb3 hm3 hbb3)
    clear hm3 hb3 hr3 s0
    go_wp2
    go_end0
    exact ⟨rfl,HL.out.1,hk2.trans HL.out.2⟩
set_option maxHeartbeats 400000 in
theorem cflush_any (h:CacheM w B p g LM ops) (hf:Fit g LM) (hB:B.top≤w.heap.size) (hn:ops.length≤100000):
  Calls Tryz.prog 89 #[.pointer (some ⟨p,0,none⟩)] w (CutPost w B p g LM ops ops.length):=by
 have HC:=Lib.hid (ccut_any (ops.length:Int) h hf hB hn)
 have hnn:cutN (ops.length:Int) ops.length=ops.length:=cutN_all (by omega)
 rw [hnn] at HC
 obtain ⟨m1,b1,m2,b2,A,c,F,h⟩:=h
 obtain ⟨c0,c1,c2⟩:=h.cells
 clear h hf hnn
 go_enter Tryz.func89,Tryz.ntmps89
 go_wp2_with fail
 refine HC.out.mono ?_
 rintro e w1 ⟨rfl,h1,hk1⟩
 go_wp2
 go_end0
 exact ⟨rfl,h1,hk1⟩
end
end Go.Proofs.YtggkengmlkhdiaaGreat
namespace Go.Proofs.YtggkengmlkhdiaaGreat
set_option linter.unusedVariables false
open Go.RowKit
section
variable {w w':World} {S:Nat→Prop} {B:Bd} {p:Nat} {g:Geo} {LM:List Sec} {ops:List OpV}
theorem cread_any (a:Int) (h:CacheM w B p g LM ops) (hf:Fit g LM) (hb:ShortB LM):
  Calls Tryz.prog 123 #[.pointer (some ⟨p,0,none⟩),.int .i64 a] w (ReadPost w (readB (playL g LM ops) a) (readE (playL g LM ops) a)):=by
 obtain ⟨m1,b1,m2,b2,A,c,F,h⟩:=h
 obtain ⟨c0,c1,c2⟩:=h.cells
 have HC:=Lib.hid (read_any a h.med2 (hf.len (playL_len _ _ _)) (short_play ops hb))
 clear h hf
 go_enter Tryz.func123,Tryz.ntmps123
 go_wp2_with fail
 refine HC.out.mono ?_
 rintro e w1 ⟨v,rfl,hv,hb1⟩
 go_wp2
 go_ret2
 exact ⟨_,rfl,hv,hb1⟩
def CNewPost (w:World) (g:Geo) (LM:List Sec) (ops:List OpV) (e:Ending) (w':World):Prop:=
 ∃ p,e= .returned (.pointer (some ⟨p,0,none⟩))∧CacheM w' (Bd.of w.heap.size) p g LM ops∧Below w.heap.size w w'
theorem cac_new {w2:World} {m1 b1 m2 b2:Nat} {A:Option Addr} {c:Nat} {F:List Value} (hb:w.heap.size≤w2.heap.size) (h1:w.heap.size≤b1) (h2:w.heap.size≤b2) (hne:b1≠b2) (hm1:Med w2 m1 b1 g LM) (hm2:Med w2 m2 b2 g (playL g LM ops))
  (ho:w2.ownsRow w.heap.size 173 1 (.slice A ops.length c) ops.length F) (hF:∀ (i:Nat) (o:OpV),ops[i]?=some o→∃ v,F[i]?=some v∧OpFn w2 v o):
  CacheM (w2.alloc (.cells #[.pointer (some ⟨m1,0,none⟩),.pointer (some ⟨m2,0,none⟩),.slice A ops.length c] 166)) (Bd.of w.heap.size) w2.heap.size g LM ops:=by
 have hb2:Below w2.heap.size w2 (w2.alloc (.cells #[.pointer (some ⟨m1,0,none⟩),.pointer (some ⟨m2,0,none⟩),.slice A ops.length c] 166)):=(Below.refl _ _).alloc (Nat.le_refl _) _
 refine ⟨m1,b1,m2,b2,A,c,F,?_,fun h=>h,fun _ _ h=>h,⟨h1,fun h=>h⟩,⟨h2,fun h=>h⟩,hne,hm1.below0 hb2,hm2.below0 hb2,ho.alloc _,fun i o h=>?_⟩
 ·exact World.ownsRow_lit (base:=w.heap.size) (e:=166) (size:=3) w2 #[.pointer (some ⟨m1,0,none⟩),.pointer (some ⟨m2,0,none⟩),.slice A ops.length c] 1 hb (by decide) rfl
 ·obtain ⟨v,hv,h'⟩:=hF i o h
  exact ⟨v,hv,h'.kept (belKept0 (S:=fun _=>False) hb2) (FreeF.none _)⟩
set_option maxHeartbeats 1000000 in
theorem cnew_any {m bs:Nat} {L:List Sec} (hm:Med w m bs g L) (hf:Fit g L):Calls Tryz.prog 85 #[.pointer (some ⟨m,0,none⟩)] w (CNewPost w g L []):=by
 have HC:Hid (∀ W,Below w.heap.size w W→Calls Tryz.prog 117 #[.pointer (some ⟨m,0,none⟩)] W (ClonePost W g L)):=by
  unfold Hid; intro W hW; exact clone_any (hm.below0 hW) hf
 clear hm hf
 go_enter Tryz.func85,Tryz.ntmps85
 go_wp2_with fail
 refine (HC.out _ (Below.refl _ _)).mono ?_
 rintro e w1 ⟨m1,b1,rfl,hm1,hmm1,hbb1,hb1⟩
 go_wp2_with fail
 refine (HC.out _ hb1).mono ?_
 rintro e w2 ⟨m2,b2,rfl,hm2,hmm2,hbb2,hb2⟩
 have hl1:=hm1.lt
 have hN:=cac_new (w:=w) (ops:=[]) (LM:=L) (A:=none) (c:=0) (F:=[]) (Nat.le_trans hb1.size hb2.size) hbb1 (Nat.le_trans hb1.size hbb2) (by omega) (hm1.below0 hb2) hm2 (own_nil _ _ _) (fun i o h=>by simp at h)
 have HN:=Lib.hid hN
 have hbl:Below w.heap.size w w2:=hb1.trans (hb2.mono hb1.size)
 clear hm1 hm2 hN
 go_wp2
 go_ret
 exact ⟨_,rfl,HN.out,hbl.alloc hbl.size _⟩
end
end Go.Proofs.YtggkengmlkhdiaaGreat
