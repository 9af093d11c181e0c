/-
  WHAT IS SHOWN: what do of a rig returns and leaves for a cleaning, a flush, opening again, and a block that there is not. Conditions: the rig lies in memory; its drive's account holds; few operations are pending.
-/
import Derived.Test.YtggkengmlkhdiaaGreatM41
namespace Go.Proofs.YtggkengmlkhdiaaGreat
set_option linter.unusedVariables false
open Go.RowKit
structure RigIn (g:Geo) (F:List Flt) (n:Nat) (R:RG):Prop where
 ok:VOk g R.S.v
 u8:R.S.d.U8
 F64:∀ f∈F,I64 f.to_
 Fn:F.length≤9223372036854775807
 O:R.S.d.O.length+1100≤99000
 poss:possB g n=true
 n1:n≤65536
 hl:R.hist.length=n
 fl:R.fl.length=n
 nx:0≤R.next∧R.next≤1000000
 hn:∀ l∈R.hist,l.length≤1000000
def DoP20 (w:World) (N r q pw:Nat) (g:Geo) (F:List Flt) (n:Nat) (a:Act20) (R:RG) (e:Ending) (w':World):Prop:=
 ∃ R' er,ActR g F n a R R' er∧e= .returned (.int .i64 er)∧RigM w' N r q pw g F n R'∧KeptT RGT (Bd.of N) w w'
theorem drt_rgt:∀ t,t∈DRT→t∈RGT:=by unfold DRT RGT; decide
section
variable {w:World} {N r q pw:Nat} {g:Geo} {F:List Flt} {n:Nat} {R:RG}
theorem cells3A {w:World} {b:Nat} {v0 v1 v2:Value} {t:TypeId} (h:w.heap[b]?=some (.cells #[v0,v1,v2] t (0,0))):w.cell? ⟨b,0,none⟩=some v0∧w.cell? ⟨b,1,none⟩=some v1∧w.cell? ⟨b,2,none⟩=some v2:=
 ⟨by rw [cell_of_row _ _ _ _ _ _ h]; rfl,by rw [cell_of_row _ _ _ _ _ _ h]; rfl,by rw [cell_of_row _ _ _ _ _ _ h]; rfl⟩
set_option maxRecDepth 100000 in
set_option maxHeartbeats 8000000 in
theorem do_out {kind blk data:Int} (hb:¬ (0≤blk∧blk < n)) (h:RigM w N r q pw g F n R):
  Calls Tryz.prog 24 #[.pointer (some ⟨r,0,none⟩),.agg #[.int .u8 kind,.int .i64 blk,.int .u8 data]] w (DoP20 w N r q pw g F n ⟨kind,blk,data⟩ R):=by
 have HR:Hid (∀ W,Below w.heap.size w W→DoP20 w N r q pw g F n ⟨kind,blk,data⟩ R (.returned (.int .i64 0)) W):=fun W hW=>by
  obtain ⟨p,ha,hc,fa,fc,hs,h⟩:=h
  exact ⟨R,0,by unfold ActR; rw [if_neg hb]; exact ⟨rfl,rfl⟩,rfl,⟨p,ha,hc,fa,fc,hs,h.below0 hW⟩,KeptT.bel hW⟩
 obtain ⟨p,ha,hc,fa,fc,hs,h⟩:=h
 have hbl0:Below w.heap.size w (w.alloc (.cells #[.int .u8 kind,.int .i64 blk,.int .u8 data] 61)):=(Below.refl _ _).alloc (Nat.le_refl _) _
 have hO:(w.alloc (.cells #[.int .u8 kind,.int .i64 blk,.int .u8 data] 61)).heap[w.heap.size]?=some (.cells #[.int .u8 kind,.int .i64 blk,.int .u8 data] 61 (0,0)):=heap_alloc_new _ _
 have HH:=Lib.hid (h.below0 hbl0)
 have HB0:=Lib.hid hbl0
 have HO:=Lib.hid hO
 obtain ⟨o0,o1,o2⟩:=cells3A hO
 obtain ⟨x0,x1,x2,x3,x4,x5,x6⟩:=HH.out.cells
 clear hbl0 hO h
 go_enter Tryz.func24,Tryz.ntmps24
 go_upto_region 1 with fail
 generalize (w.alloc (.cells #[.int .u8 kind,.int .i64 blk,.int .u8 data] 61))=w0 at *
 generalize DoP20 w N r q pw g F n ⟨kind,blk,data⟩ R=PP at *
 by_cases h0:blk < 0
 ·have d1:decide (blk < 0)=true:=decide_eq_true h0
  have HX:=Lib.hid (HR.out w0 HB0.out)
  go_wp2
  exact HX.out
 ·have d1:decide (blk < 0)=false:=decide_eq_false h0
  have d2:decide ((n:Int)≤blk)=true:=decide_eq_true (by omega)
  have HX:=Lib.hid (HR.out w0 HB0.out)
  go_wp2
  exact HX.out
set_option maxRecDepth 100000 in
set_option maxHeartbeats 8000000 in
theorem do_clean {b:Nat} {data:Int} (hb:b < n) (hi:RigIn g F n R) (h:RigM w N r q pw g F n R):
  Calls Tryz.prog 24 #[.pointer (some ⟨r,0,none⟩),.agg #[.int .u8 2,.int .i64 b,.int .u8 data]] w (DoP20 w N r q pw g F n ⟨2,b,data⟩ R):=by
 obtain ⟨p,ha,hc,fa,fc,hs,h⟩:=h
 have HP:Hid (∀ er S' m e W,CleanMR g F 0 R.S (S',m,e)→er=(if e=9 then 0 else e)→Rig W N r p q pw ha hc fa fc g F n { R with S:=S' } hs→KeptT RGT (Bd.of N) w W→DoP20 w N r q pw g F n ⟨2,b,data⟩ R (.returned (.int .i64 er)) W):=by
  intro er S' m e W h1 h2 h3 h4
  refine ⟨_,er,?_,rfl,⟨p,ha,hc,fa,fc,hs,h3⟩,h4⟩
  unfold ActR
  simp only
  rw [if_pos ⟨by omega,by omega⟩]
  exact .inr (.inr (.inl ⟨trivial,S',m,e,h1,h2,rfl⟩))
 have d1:decide ((b:Int) < 0)=false:=decide_eq_false (by omega)
 have d2:decide ((n:Int)≤(b:Int))=false:=decide_eq_false (by omega)
 have HI:=Lib.hid hi
 have hbl0:Below w.heap.size w (w.alloc (.cells #[.int .u8 2,.int .i64 (b:Int),.int .u8 data] 61)):=(Below.refl _ _).alloc (Nat.le_refl _) _
 have hO:(w.alloc (.cells #[.int .u8 2,.int .i64 (b:Int),.int .u8 data] 61)).heap[w.heap.size]?=some (.cells #[.int .u8 2,.int .i64 (b:Int),.int .u8 data] 61 (0,0)):=heap_alloc_new _ _
 have HH:=Lib.hid (h.below0 hbl0)
 have HB0:=Lib.hid hbl0
 have HO:=Lib.hid hO
 obtain ⟨o0,o1,o2⟩:=cells3A hO
 obtain ⟨x0,x1,x2,x3,x4,x5,x6⟩:=HH.out.cells
 clear hbl0 hO h
 go_enter Tryz.func24,Tryz.ntmps24
 go_upto_region 1 with fail
 generalize (w.alloc (.cells #[.int .u8 2,.int .i64 (b:Int),.int .u8 data] 61))=w0 at *
 obtain ⟨ea,ec,BA,bc,hd⟩:=HH.out.drv
 have HC:=Lib.hid (cleanm20_any HI.out.ok HI.out.u8 HI.out.F64 HI.out.Fn HI.out.O hd)
 clear hd hi
 generalize DoP20 w N r q pw g F n ⟨2,b,data⟩ R=PP at *
 unfold CleanMPost at HC
 go_wp2_with fail
 refine HC.out.mono ?_
 rintro e w1 ⟨⟨S',m,er⟩,hcr,rfl,BA1,bc1,hd1,hk1⟩
 have HR1:=Lib.hid (HH.out.drive ⟨ea,ec,BA1,bc1,hd1⟩ hk1)
 have HK1:Hid (KeptT RGT (Bd.of N) w w1):=(KeptT.bel HB0.out).trans (hk1.sub drt_rgt)
 have HCR:=Lib.hid hcr
 clear hd1 hk1 HC hcr x0 x1 x2 x3 x4 x5 x6 o0 o1 o2
 simp only
 by_cases h9:er=9
 ·subst h9
  have HX:=Lib.hid (HP.out 0 S' m 9 w1 HCR.out (by rw [if_pos rfl]) HR1.out HK1.out)
  go_wp2
  exact HX.out
 ·have j9:(er==9)=false:=by simpa using h9
  have HX:=Lib.hid (HP.out er S' m er w1 HCR.out (by rw [if_neg h9]) HR1.out HK1.out)
  clear h9
  go_wp2
  exact HX.out
set_option maxRecDepth 100000 in
set_option maxHeartbeats 8000000 in
theorem do_flush {b:Nat} {data:Int} (hb:b < n) (hi:RigIn g F n R) (h:RigM w N r q pw g F n R):
  Calls Tryz.prog 24 #[.pointer (some ⟨r,0,none⟩),.agg #[.int .u8 3,.int .i64 b,.int .u8 data]] w (DoP20 w N r q pw g F n ⟨3,b,data⟩ R):=by
 obtain ⟨p,ha,hc,fa,fc,hs,h⟩:=h
 have HP:Hid (∀ er W,(flushR g F 0 R.S).2=er→RigM W N r q pw g F n { R with S:=(flushR g F 0 R.S).1,fl:=if er=0 then lensH R.hist else R.fl }→KeptT RGT (Bd.of N) w W→DoP20 w N r q pw g F n ⟨3,b,data⟩ R (.returned (.int .i64 er)) W):=by
  intro er W h1 h3 h4
  refine ⟨_,er,?_,rfl,h3,h4⟩
  unfold ActR
  simp only
  rw [if_pos ⟨by omega,by omega⟩]
  refine .inr (.inr (.inr (.inl ⟨trivial,h1.symm,?_⟩)))
  rw [h1]
 have d1:decide ((b:Int) < 0)=false:=decide_eq_false (by omega)
 have d2:decide ((n:Int)≤(b:Int))=false:=decide_eq_false (by omega)
 have HI:=Lib.hid hi
 have HO0:Hid ((flushR g F 0 R.S).2=0→R.S.v.failed=0→(flushR g F 0 R.S).1.d.O=[]):=by
  intro h0 hf
  unfold flushR at h0 ⊢
  rw [if_pos hf] at h0 ⊢
  exact tryF_done h0
 have HFF:Hid (R.S.v.failed≠0→(flushR g F 0 R.S).2=R.S.v.failed):=by
  intro hf
  unfold flushR; rw [if_neg hf]
 have hbl0:Below w.heap.size w (w.alloc (.cells #[.int .u8 3,.int .i64 (b:Int),.int .u8 data] 61)):=(Below.refl _ _).alloc (Nat.le_refl _) _
 have hO:(w.alloc (.cells #[.int .u8 3,.int .i64 (b:Int),.int .u8 data] 61)).heap[w.heap.size]?=some (.cells #[.int .u8 3,.int .i64 (b:Int),.int .u8 data] 61 (0,0)):=heap_alloc_new _ _
 have HH:=Lib.hid (h.below0 hbl0)
 have HB0:=Lib.hid hbl0
 have HO:=Lib.hid hO
 obtain ⟨o0,o1,o2⟩:=cells3A hO
 obtain ⟨x0,x1,x2,x3,x4,x5,x6⟩:=HH.out.cells
 clear hbl0 hO h
 go_enter Tryz.func24,Tryz.ntmps24
 go_upto_region 1 with fail
 generalize (w.alloc (.cells #[.int .u8 3,.int .i64 (b:Int),.int .u8 data] 61))=w0 at *
 obtain ⟨ea,ec,BA,bc,hd⟩:=HH.out.drv
 have HC:=Lib.hid (flush20_any HI.out.Fn (by have:=HI.out.O; omega) hd)
 clear hd hi
 generalize DoP20 w N r q pw g F n ⟨3,b,data⟩ R=PP at *
 go_wp2_with fail
 refine HC.out.mono ?_
 rintro e w1 ⟨rfl,hd1,hk1⟩
 have HR1:=Lib.hid (HH.out.drive ⟨ea,ec,BA,bc,hd1⟩ hk1)
 have HK1:Hid (KeptT RGT (Bd.of N) w w1):=(KeptT.bel HB0.out).trans (hk1.sub drt_rgt)
 clear hd1 hk1 HC x0 x1 x2 x3 x4 x5 x6 o0 o1 o2
 generalize hFR:flushR g F 0 R.S=FR at *
 obtain ⟨S',er⟩:=FR
 simp only at HR1 HP HO0 HFF ⊢
 by_cases h0:er=0
 ·subst h0
  have hO:S'.d.O=[]:=by
   by_cases hf:R.S.v.failed=0
   ·exact HO0.out rfl hf
   ·exact absurd (HFF.out hf).symm hf
  have HN:=Lib.hid (note_any (R:={ R with S:=S' }) HI.out.n1 hO HI.out.hl HI.out.fl ⟨p,ha,hc,fa,fc,hs,HR1.out⟩)
  clear hO
  go_wp2_with fail
  refine HN.out.mono ?_
  rintro e w2 ⟨rfl,hr2,hk2⟩
  have HX:=Lib.hid (HP.out 0 w2 rfl hr2 (HK1.out.trans hk2))
  clear hr2 hk2 HN
  go_wp2
  exact HX.out
 ·have j0:(er==0)=false:=by simpa using h0
  have HX:=Lib.hid (HP.out er w1 rfl ⟨p,ha,hc,fa,fc,hs,by rw [if_neg h0]; exact HR1.out⟩ HK1.out)
  clear h0
  go_wp2
  exact HX.out
set_option maxRecDepth 100000 in
set_option maxHeartbeats 8000000 in
theorem do_open {b:Nat} {kind data:Int} (hb:b < n) (hk:4≤kind) (hi:RigIn g F n R) (h:RigM w N r q pw g F n R):
  Calls Tryz.prog 24 #[.pointer (some ⟨r,0,none⟩),.agg #[.int .u8 kind,.int .i64 b,.int .u8 data]] w (DoP20 w N r q pw g F n ⟨kind,b,data⟩ R):=by
 obtain ⟨p,ha,hc,fa,fc,hs,h⟩:=h
 have HP0:Hid (∀ v W,(rdS20 g F 0 R.S.d (nSec g)).2.2=0→OpenV g n (rdS20 g F 0 R.S.d (nSec g)).2.1 v→RigM W N r q pw g F n { R with S:=⟨v,(rdS20 g F 0 R.S.d (nSec g)).1⟩ }→KeptT RGT (Bd.of N) w W→DoP20 w N r q pw g F n ⟨kind,b,data⟩ R (.returned (.int .i64 0)) W):=by
  intro v W h0 hv h3 h4
  refine ⟨_,0,?_,rfl,h3,h4⟩
  unfold ActR
  simp only
  rw [if_pos ⟨by omega,by omega⟩]
  exact .inr (.inr (.inr (.inr ⟨hk,h0.symm,.inl ⟨trivial,v,hv,rfl⟩⟩)))
 have HP1:Hid (∀ er W,(rdS20 g F 0 R.S.d (nSec g)).2.2=er→er≠0→RigM W N r q pw g F n { R with S:=⟨R.S.v,(rdS20 g F 0 R.S.d (nSec g)).1⟩ }→KeptT RGT (Bd.of N) w W→DoP20 w N r q pw g F n ⟨kind,b,data⟩ R (.returned (.int .i64 er)) W):=by
  intro er W h0 hne h3 h4
  refine ⟨_,er,?_,rfl,h3,h4⟩
  unfold ActR
  simp only
  rw [if_pos ⟨by omega,by omega⟩]
  exact .inr (.inr (.inr (.inr ⟨hk,h0.symm,.inr ⟨hne,trivial⟩⟩)))
 have d1:decide ((b:Int) < 0)=false:=decide_eq_false (by omega)
 have d2:decide ((n:Int)≤(b:Int))=false:=decide_eq_false (by omega)
 have k0:(kind==0)=false:=by simp; omega
 have k1:(kind==1)=false:=by simp; omega
 have k2:(kind==2)=false:=by simp; omega
 have k3:(kind==3)=false:=by simp; omega
 have HI:=Lib.hid hi
 have hbl0:Below w.heap.size w (w.alloc (.cells #[.int .u8 kind,.int .i64 (b:Int),.int .u8 data] 61)):=(Below.refl _ _).alloc (Nat.le_refl _) _
 have hO:(w.alloc (.cells #[.int .u8 kind,.int .i64 (b:Int),.int .u8 data] 61)).heap[w.heap.size]?=some (.cells #[.int .u8 kind,.int .i64 (b:Int),.int .u8 data] 61 (0,0)):=heap_alloc_new _ _
 have HH:=Lib.hid (h.below0 hbl0)
 have HB0:=Lib.hid hbl0
 have HO:=Lib.hid hO
 obtain ⟨o0,o1,o2⟩:=cells3A hO
 obtain ⟨x0,x1,x2,x3,x4,x5,x6⟩:=HH.out.cells
 clear hbl0 hO h
 go_enter Tryz.func24,Tryz.ntmps24
 go_upto_region 1 with fail
 generalize (w.alloc (.cells #[.int .u8 kind,.int .i64 (b:Int),.int .u8 data] 61))=w0 at *
 obtain ⟨ea,ec,BA,bc,hd⟩:=HH.out.drv
 have hN0:N≤w0.heap.size:=Nat.le_of_lt (Nat.lt_of_le_of_lt HH.out.low HH.out.lt)
 have hx0:∀ k,(k=p∨k=ea)→k < w0.heap.size:=fun k hk=>by
  rcases hk with rfl | rfl
  ·exact (IsT.own hd.obj).lt
  ·exact (IsT.own hd.es).lt
 have hdm0:DM w0 (Bd.out N (fun k=>k=p∨k=ea) w0.heap.size hx0 hN0) q pw g F R.S.d:=DM.apart hd.dsk (fun k hk=>by
  rcases hk with rfl | rfl
  ·exact HasT.mem (IsT.own hd.obj) (by simp)
  ·exact HasT.mem (IsT.own hd.es) (by simp)) hx0 hN0
 obtain ⟨BO,hBO⟩:∃ BO,BO=Bd.out N (fun k=>k=p∨k=ea) w0.heap.size hx0 hN0:=⟨_,rfl⟩
 have HC:Hid (∀ W,Below w0.heap.size w0 W→Calls Tryz.prog 27 #[.pointer (some ⟨q,0,none⟩),.int .u64 0,.int .i64 (n:Int)] W (OpenPost W BO q pw g F 0 R.S.d (n:Int))):=fun W hW=>by
  rw [hBO]; exact opendr_any (key:=0) (n:Int) HI.out.ok.gv (DPm.below0 hdm0 hW) HI.out.u8 HI.out.Fn
 have HCE:Hid (∀ W,KeptT DRT BO w0 W→W.cell? ⟨r,1,none⟩=some (.pointer (some ⟨q,0,none⟩))∧W.cell? ⟨r,3,none⟩=some (.int .i64 n)):=fun W hW=>by
  have h1:=own_ty HH.out.obj hW (by unfold DRT; decide)
  exact ⟨(World.ownsRow.cellAt h1 1 (by decide)).trans rfl,(World.ownsRow.cellAt h1 3 (by decide)).trans rfl⟩
 have HDD:Hid (∀ W d,KeptT DRT BO w0 W→DM W BO q pw g F d→DrvM W (Bd.of N) p q pw g F 0 ⟨R.S.v,d⟩):=fun W d hW hdm=>by
  rw [hBO] at hW hdm; exact ⟨ea,ec,BA,bc,hd.other hW (DM.back hdm)⟩
 have HBK:Hid (∀ W p' S',DrvM W BO p' q pw g F 0 S'→DrvM W (Bd.of N) p' q pw g F 0 S'):=fun W p' S' hdm=>by
  rw [hBO] at hdm; exact DrvM.back hdm
 have HKW:Hid (∀ W W',KeptT DRT BO W W'→KeptT DRT (Bd.of N) W W'):=fun W W' hW=>by
  rw [hBO] at hW; exact hW.wider (fun k hk=>⟨hk.1,fun h=>h⟩)
 have HDS:Hid (∀ W p' S',DrvM W BO p' q pw g F 0 S'→DM W BO q pw g F S'.d):=fun W p' S' hdm=>by
  obtain ⟨_,_,_,_,hdm⟩:=hdm; exact hdm.dsk
 clear hdm0 hBO hx0 hN0
 clear hd hi hk
 generalize DoP20 w N r q pw g F n ⟨kind,b,data⟩ R=PP at *
 have hposs:=HI.out.poss
 unfold OpenPost at HC
 simp only [hposs,if_true,Int.toNat_natCast] at HC
 clear hposs
 generalize hRS:rdS20 g F 0 R.S.d (nSec g)=RS at *
 obtain ⟨d',ss,er⟩:=RS
 simp only at HP0 HP1 HC
 by_cases h0:er=0
 ·subst h0
  simp only [if_true] at HC
  obtain ⟨C,hC⟩:∃ C:List Value→World→Prop,C=fun h W=>match h with
   | []=>W=w0.drew
   | [v]=>(∃ p' vv,OpenV g n ss vv∧v= .tuple #[.pointer (some ⟨p',0,none⟩),.int .i64 0]∧DrvM W BO p' q pw g F 0 ⟨vv,d'⟩)∧KeptT DRT BO w0 W
   | _=>False:=⟨_,rfl⟩
  have hall:∀ t:HeldC C,KeptT DRT BO w0 t.w:=fun t=>by
   obtain ⟨s,W,h⟩:=t
   simp only
   subst hC
   match s,h with
   | [],h=>have h':W=w0.drew:=h; rw [h']; exact (KeptT.refl _ _ w0).drew
   | [v],h=>exact h.2
  have HC0:Hid (C [] w0.drew):=by subst hC; exact rfl
  have HK1:Hid (∀ W,C [] W→Calls Tryz.prog 27 #[.pointer (some ⟨q,0,none⟩),.int .u64 0,.int .i64 (n:Int)] W fun e w'=>∃ x,e= .returned x∧C ([]++[x]) w'):=by
   subst hC
   intro W hW
   have hW':W=w0.drew:=hW
   subst hW'
   refine (HC.out _ ((Below.refl _ _).drew)).mono ?_
   rintro e w' ⟨p',vv,h1,h2,h3,h4⟩
   exact ⟨_,h2,⟨p',vv,h1,rfl,h3⟩,KeptT.trans (KeptT.bel ((Below.refl _ _).drew)) h4⟩
  have HV1:Hid (∀ v W,C [v] W→(∃ p' vv,OpenV g n ss vv∧v= .tuple #[.pointer (some ⟨p',0,none⟩),.int .i64 0]∧DrvM W BO p' q pw g F 0 ⟨vv,d'⟩)∧KeptT DRT BO w0 W):=by subst hC; exact fun _ _ h=>h
  have f1:∀ t:HeldC C,t.w.cell? ⟨r,1,none⟩=some (.pointer (some ⟨q,0,none⟩)):=fun t=>(HCE.out _ (hall t)).1
  have f3:∀ t:HeldC C,t.w.cell? ⟨r,3,none⟩=some (.int .i64 n):=fun t=>(HCE.out _ (hall t)).2
  have hne:Nonempty (HeldC C):=⟨⟨[],_,HC0.out⟩⟩
  clear hC hall HC
  go_wp2_with fail
  refine wp_region_chain C [8] [8] (by kernel_rfl) (by kernel_rfl) (by kernel_rfl) (by kernel_rfl) HC0.out ?_
  repeat (refine wpCh_n (by rfl) (by rfl) ?_; go_big_quiet_step (fail); refine wpQuiet_nil ?_)
  refine wpCh_l (f:=27) (args:=#[.pointer (some ⟨q,0,none⟩),.int .u64 0,.int .i64 (n:Int)]) (by rfl) (by rfl) (fun W=>by simp [go_sem]) (fun W hW=>HK1.out W hW) (fun v W hW=>?_)
  obtain ⟨⟨p',vv,hov,rfl,_⟩,_⟩:=HV1.out v W hW
  go_big_quiet_step (fail)
  refine wpQuiet_nil ?_
  repeat (refine wpCh_n (by rfl) (by rfl) ?_; go_big_quiet_step (fail); refine wpQuiet_nil ?_)
  refine wpCh_nil ?_
  intro w1 hw1
  obtain ⟨⟨p2,v2,hov2,he2,hdm⟩,hk1⟩:=HV1.out _ _ hw1
  injection he2 with he2
  have he3:=congrArg (fun a=>a[0]?) he2
  simp only [List.getElem?_toArray,List.getElem?_cons_zero,Option.some.injEq,Value.pointer.injEq,Addr.mk.injEq,and_true] at he3
  subst he3
  have HR1:=Lib.hid ((HH.out.drive (HDD.out w1 d' hk1 (HDS.out _ _ _ hdm)) (HKW.out _ _ hk1)).setDrive (HBK.out _ _ _ hdm))
  have HK2:Hid (KeptT RGT (Bd.of N) w w1):=(KeptT.bel HB0.out).trans ((HKW.out _ _ hk1).sub drt_rgt)
  have y2:w1.frozen? ⟨r,2,none⟩=false:=(HH.out.drive (HDD.out w1 d' hk1 (HDS.out _ _ _ hdm)) (HKW.out _ _ hk1)).free 2
  have z2:w1.cell? ⟨r,2,none⟩=some (.pointer (some ⟨p,0,none⟩)):=(HH.out.drive (HDD.out w1 d' hk1 (HDS.out _ _ _ hdm)) (HKW.out _ _ hk1)).cells.2.2.1
  have HX:=Lib.hid (HP0.out v2 (w1.setCell ⟨r,2,none⟩ (.pointer (some ⟨p',0,none⟩))) trivial hov2 ⟨p',ha,hc,fa,fc,hs,HR1.out.1⟩ (HK2.out.trans HR1.out.2))
  clear hdm hk1 hw1 hov hov2 HK1 HV1 HC0 HDD HBK HKW HDS HCE HR1 HK2 HP0 HP1 f1 f3 hne x0 x1 x2 x3 x4 x5 x6 o0 o1 o2
  go_wp2
  exact HX.out
 ·simp only [h0,if_false] at HC
  obtain ⟨C,hC⟩:∃ C:List Value→World→Prop,C=fun h W=>match h with
   | []=>W=w0.drew
   | [v]=>v= .tuple #[.pointer none,.int .i64 er]∧DM W BO q pw g F d'∧KeptT DRT BO w0 W
   | _=>False:=⟨_,rfl⟩
  have hall:∀ t:HeldC C,KeptT DRT BO w0 t.w:=fun t=>by
   obtain ⟨s,W,h⟩:=t
   simp only
   subst hC
   match s,h with
   | [],h=>have h':W=w0.drew:=h; rw [h']; exact (KeptT.refl _ _ w0).drew
   | [v],h=>exact h.2.2
  have HC0:Hid (C [] w0.drew):=by subst hC; exact rfl
  have HK1:Hid (∀ W,C [] W→Calls Tryz.prog 27 #[.pointer (some ⟨q,0,none⟩),.int .u64 0,.int .i64 (n:Int)] W fun e w'=>∃ x,e= .returned x∧C ([]++[x]) w'):=by
   subst hC
   intro W hW
   have hW':W=w0.drew:=hW
   subst hW'
   refine (HC.out _ ((Below.refl _ _).drew)).mono ?_
   rintro e w' ⟨h1,h2,h3⟩
   exact ⟨_,h1,rfl,h2,KeptT.trans (KeptT.bel ((Below.refl _ _).drew)) h3⟩
  have HV1:Hid (∀ v W,C [v] W→v= .tuple #[.pointer none,.int .i64 er]∧DM W BO q pw g F d'∧KeptT DRT BO w0 W):=by subst hC; exact fun _ _ h=>h
  have f1:∀ t:HeldC C,t.w.cell? ⟨r,1,none⟩=some (.pointer (some ⟨q,0,none⟩)):=fun t=>(HCE.out _ (hall t)).1
  have f3:∀ t:HeldC C,t.w.cell? ⟨r,3,none⟩=some (.int .i64 n):=fun t=>(HCE.out _ (hall t)).2
  have hne:Nonempty (HeldC C):=⟨⟨[],_,HC0.out⟩⟩
  have HER:=Lib.hid h0
  clear hC hall HC h0
  go_wp2_with fail
  refine wp_region_chain C [8] [8] (by kernel_rfl) (by kernel_rfl) (by kernel_rfl) (by kernel_rfl) HC0.out ?_
  repeat (refine wpCh_n (by rfl) (by rfl) ?_; go_big_quiet_step (fail); refine wpQuiet_nil ?_)
  refine wpCh_l (f:=27) (args:=#[.pointer (some ⟨q,0,none⟩),.int .u64 0,.int .i64 (n:Int)]) (by rfl) (by rfl) (fun W=>by simp [go_sem]) (fun W hW=>HK1.out W hW) (fun v W hW=>?_)
  obtain ⟨rfl,_⟩:=HV1.out v W hW
  go_big_quiet_step (fail)
  refine wpQuiet_nil ?_
  repeat (refine wpCh_n (by rfl) (by rfl) ?_; go_big_quiet_step (fail); refine wpQuiet_nil ?_)
  refine wpCh_nil ?_
  intro w1 hw1
  obtain ⟨_,hdm,hk1⟩:=HV1.out _ _ hw1
  have HX:=Lib.hid (HP1.out er w1 rfl HER.out ⟨p,ha,hc,fa,fc,hs,HH.out.drive (HDD.out w1 d' hk1 hdm) (HKW.out _ _ hk1)⟩ ((KeptT.bel HB0.out).trans ((HKW.out _ _ hk1).sub drt_rgt)))
  clear hdm hk1 hw1 HK1 HV1 HC0 HDD HBK HKW HDS HCE HP0 HP1 f1 f3 hne x0 x1 x2 x3 x4 x5 x6 o0 o1 o2
  go_wp2
  exact HX.out
end
end Go.Proofs.YtggkengmlkhdiaaGreat
