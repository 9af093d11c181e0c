/-
  WHAT IS SHOWN: DriveFails and what it needs. Conditions: none.
-/
import Derived.Test.YtggkengmlkhdiaaGreatM46
namespace Go.Proofs.YtggkengmlkhdiaaGreat
set_option linter.unusedVariables false
open Go.RowKit
section
variable {w w' : World} {B : Bd} {q pw : Nat} {g : Geo} {F : List Flt} {s : DS} {P : Pow} {LM : List Sec} {O : List OpV}
set_option maxHeartbeats 1000000 in
theorem dacquire_any (key : Int) (h : DPm w B q pw g F s P LM O) : Calls Tryz.prog 26 #[.pointer (some ⟨q,0,none⟩),.int .u64 key] w fun e w'=>e = .returned (.int .i64 (stE s P)) ∧ DPm w' B q pw g F (acqS s P key) P LM O ∧ KeptT DAT B w w':=by
 obtain ⟨⟨p,FA,fc,hd⟩,hp,hf,hs,hB⟩:=h
 have HST:=Lib.hid (dstate_any hd hp)
 have HNO : Hid (∀ W,Below w.heap.size w W → DPm W B q pw g F s P LM O ∧ KeptT DAT B w W):=by
  unfold Hid; intro W hW; exact ⟨⟨⟨p,FA,fc,hd.below0 hW⟩,hp.below0 hW,hf,hs,Nat.le_trans hB hW.size⟩,KeptT.bel hW⟩
 have HYE : Hid (∀ W,Below w.heap.size w W → DPm (W.setCell ⟨q,14,none⟩ (.int .u64 key)) B q pw g F { s with key:=key } P LM O ∧ KeptT DAT B w (W.setCell ⟨q,14,none⟩ (.int .u64 key))):=by
  unfold Hid; intro W hW
  have h':=(hd.below0 hW).store 14 (.int .u64 key) { s with key:=key } rfl
  exact ⟨⟨⟨p,FA,fc,h'.1⟩,(hp.below0 hW).keptT h'.2 (by decide),hf,hs,Nat.le_trans hB (Nat.le_trans hW.size h'.2.size)⟩,(KeptT.bel hW).trans (h'.2.sub (by unfold DAT; decide))⟩
 have HCE : Hid (∀ W,Below w.heap.size w W → W.cell? ⟨q,14,none⟩ = some (.int .u64 s.key) ∧ W.frozen? ⟨q,14,none⟩ = false):=by
  unfold Hid; intro W hW; exact ⟨((hd.below0 hW).cell 14 (by decide)).trans rfl,(hd.below0 hW).free 14⟩
 clear hd hp hf hs
 by_cases h1 : stE s P = 0
 ·have HS : Hid (acqS s P key = { s with key:=key }):=by unfold Hid acqS; rw [if_pos h1]
  have HE:=Lib.hid h1
  rw [h1] at HST
  clear h1
  go_enter Tryz.func26,Tryz.ntmps26
  go_wp2_with fail
  refine HST.out.mono ?_
  rintro e w1 ⟨rfl,hb1⟩
  obtain ⟨c14,f14⟩:=HCE.out w1 hb1
  have HF:=Lib.hid (HYE.out w1 hb1)
  go_wp2
  go_ret
  rw [HE.out,HS.out]
  exact ⟨rfl,HF.out⟩
 ·have HS : Hid (acqS s P key = s):=by unfold Hid acqS; rw [if_neg h1]
  have h2 : (stE s P != 0) = true:=by simpa using h1
  generalize stE s P = E at *
  clear h1
  go_enter Tryz.func26,Tryz.ntmps26
  go_wp2_with fail
  refine HST.out.mono ?_
  rintro e w1 ⟨rfl,hb1⟩
  have HF:=Lib.hid (HNO.out w1 hb1)
  go_wp2
  go_ret
  rw [HS.out]
  exact ⟨rfl,HF.out⟩
end
end Go.Proofs.YtggkengmlkhdiaaGreat
namespace Go.Proofs.YtggkengmlkhdiaaGreat
set_option linter.unusedVariables false
open Go.RowKit
def LastIs (g : Geo) (F : List Flt) (S : ST) (b : Nat) (l : List Wr) : Prop:=
 match l.getLast? with
 | none=>verX S.v b = (0,false) ∧ readE20 g F 0 S b = 9
 | some w=>verX S.v b = (w.ver,true) ∧ (if w.trim = true then readE20 g F 0 S b = 9 ∧ readX20 g F 0 S b = noEnt else readE20 g F 0 S b = 0 ∧ (readX20 g F 0 S b).ver = w.ver ∧ (readX20 g F 0 S b).dt = w.dt)
section
variable {w : World} {N r q pw : Nat} {g : Geo} {F : List Flt} {n : Nat} {R : RG}
end
end Go.Proofs.YtggkengmlkhdiaaGreat
namespace Go.Proofs.YtggkengmlkhdiaaGreat
set_option linter.unusedVariables false
open Go.RowKit
structure Fine (g : Geo) (n c : Nat) (R : RG) : Prop where
 good : GoodR g n c R
 hon : HonI g n c R
 un : R.S.d.P.armed = false
structure Small (g : Geo) (n : Nat) (F : List Flt) : Prop where
 vg : Vg g
 p : possB g n = true
 F40 : F.length ≤ 40
 F64 : ∀ f ∈ F,I64 f.to_
 vf : validF F = true
section
variable {g : Geo} {F : List Flt} {n c : Nat} {R R' : RG} {a : Act20} {er : Int}
theorem Small.nn (h : Small g n F) : (1 ≤ n ∧ n ≤ 65536) ∧ (n : Int) ≤ (g.bands - 3) * bz g:=by
 have:=h.p
 unfold possB at this
 rw [bzN_valid h.vg] at this
 simp only [Bool.and_eq_true,decide_eq_true_eq] at this
 exact ⟨⟨by omega,by omega⟩,this.2.2⟩
theorem Fine.act (hS : Small g n F) (hR : RunF F) (h : Fine g n c R) (hc : c ≤ 1000) (hd : 0 ≤ a.data ∧ a.data < 256) (hr : ActR g F n a R R' er) : er = 0 ∧ Fine g n (c + 1) R' ∧ (1 ≤ V.freeN R.S.v.bs → 1 ≤ V.freeN R'.S.v.bs):=by
 obtain ⟨hn,hnb⟩:=hS.nn
 have hh:=act_hon hR.noTear hn hd hc h.hon hr
 rcases act_on hR h.good h.hon hc hnb hn hd hr with ⟨h1,h2,h3,h4⟩ | ⟨_,h2,_⟩
 ·exact ⟨h1,⟨h2,hh,h3.trans h.un⟩,h4⟩
 ·have:=h2.armed; rw [h.un] at this; cases this
theorem Fine.in_ (hS : Small g n F) (h : Fine g n c R) (hc : c ≤ 80) : RigIn g F n R:=hon_in h.hon hc hS.F64 hS.F40 hS.p
theorem fine0 (hS : Small g n F) (hR : RunF F) : (newDD g F 0 (d0N g)).2 = 0 ∧ Fine g n 0 (R0 g F n) ∧ 1 ≤ V.freeN (R0 g F n).S.v.bs:=by
 obtain ⟨h1,h2,h3,h4⟩:=good0 (F:=F) hR hS.vg hS.nn.1
 exact ⟨h1,⟨h2,hon0 hS.vg hS.nn.1 h1,h3⟩,h4⟩
end
section
variable {w : World} {N r q pw : Nat} {g : Geo} {F : List Flt} {n c : Nat} {R : RG}
end
end Go.Proofs.YtggkengmlkhdiaaGreat
namespace Go.Proofs.YtggkengmlkhdiaaGreat
set_option linter.unusedVariables false
open Go.RowKit
theorem fine_start {g : Geo} {n : Nat} {F : List Flt} (hS : Small g n F) (hR : RunF F) (A0 A1 : Option Addr) (c0 c1 m : Nat) (w : World) (hr : Rd w w.heap.size A0 (flatF F)) :
  Calls Tryz.prog 23 #[.agg #[.int .i64 g.random,.int .i64 g.bands,.int .i64 g.tracks,.int .i64 g.sectors,.int .i64 g.overlap,.int .i64 (n : Int),.slice A0 F.length c0,.slice A1 m c1]] w fun e w'=>(∃ r q pw,e = .returned (.tuple #[.pointer (some ⟨r,0,none⟩),.int .i64 0]) ∧ RigM w' w.heap.size r q pw g F n (R0 g F n)) ∧ Below w.heap.size w w':=by
 refine (start_any g n F A0 A1 c0 c1 m w hS.vg hS.p hr hS.vf (by have:=hS.F40; omega)).mono ?_
 rintro e w' ⟨hb,hpo⟩
 rw [if_pos (fine0 hS hR).1] at hpo
 exact ⟨hpo,hb⟩
end Go.Proofs.YtggkengmlkhdiaaGreat
namespace Go.Proofs.YtggkengmlkhdiaaGreat
set_option linter.unusedVariables false
open Go.RowKit
structure FencD (d : DC) : Prop where
 dead : d.s.dead = false
 off : d.P.off = false
 seen : d.s.seen = d.P.fails
 un : d.P.armed = false
 key : d.s.key ≠ 0
theorem FencD.st {d : DC} (h : FencD d) : stE d.s d.P = 0:=by unfold stE; simp [h.dead,h.off,h.seen]
theorem FencD.call {d : DC} (h : FencD d) : callP d.P = ⟨false,false,wrap64 (d.P.left - 1),d.P.fails⟩:=by
 have ht : trip d.P = false:=by unfold trip; rw [h.un]; rfl
 unfold callP
 rw [ht,h.off,h.un]; rfl
theorem FencD.beg {F : List Flt} {d : DC} (h : FencD d) : begD F d.s d.P 0 = ⟨17,d.s,callP d.P,noF⟩:=by
 unfold begD
 rw [h.st,if_neg (by decide),h.call,if_neg (by show ¬ false = true; decide),if_pos (fun e=>h.key e.symm)]
theorem try_fenc {F : List Flt} {f : DC → DC × Ans} {d : DC} (hf : Begins F f) (h : FencD d) : ∃ d',tryD f d = (d',⟨17,[]⟩) ∧ FencD d' ∧ d'.s = d.s ∧ d'.L = d.L ∧ d'.O = d.O:=by
 have hb:=h.beg (F:=F)
 have e : f d = (⟨d.s,callP d.P,d.L,d.O⟩,⟨17,[]⟩):=by rw [hf d (by rw [hb]; show (17 : Int) ≠ 0; decide),hb]
 refine ⟨⟨d.s,callP d.P,d.L,d.O⟩,?_,⟨h.dead,by rw [h.call],by rw [h.call]; exact h.seen,by rw [h.call],h.key⟩,rfl,rfl,rfl⟩
 rw [try_stop (k:=0) (fun j hj=>absurd hj (by omega)) (.inr ⟨by omega,by unfold ansN callN; rw [e]; show ¬ (17 : Int) = 16; decide⟩)]
 show ((f d).1,(f d).2) = _
 rw [e]
theorem rdS20_fenc {g : Geo} {F : List Flt} {d : DC} (h : FencD d) {k : Nat} (hk : 1 ≤ k) : (rdS20 g F 0 d k).2.2 = 17 ∧ FencD (rdS20 g F 0 d k).1 ∧ (rdS20 g F 0 d k).1.s = d.s ∧ (rdS20 g F 0 d k).1.L = d.L ∧ (rdS20 g F 0 d k).1.O = d.O:=by
 obtain ⟨d',e,h1,h2,h3,h4⟩:=try_fenc (rOne_begins g F (g.random + ((0 : Nat) : Int))) h
 have e1 : rdS20 g F 0 d 1 = (d',[],17):=by
  have z : rdS20 g F 0 d 0 = (d,[],0):=rfl
  show rdS20 g F 0 d (0 + 1) = _
  rw [rdS20,z]
  simp only [e]
  rfl
 obtain ⟨i,rfl⟩ : ∃ i,k = 1 + i:=⟨k - 1,by omega⟩
 rw [rdS20_stay (by rw [e1]; show (17 : Int) ≠ 0; decide) i,e1]
 exact ⟨rfl,h1,h2,h3,h4⟩
theorem flush_fenc {g : Geo} {F : List Flt} {S : ST} (h : FencD S.d) (hv : S.v.failed = 0) : ∃ d',flushR g F 0 S = (⟨S.v.fail 17,d'⟩,17) ∧ FencD d' ∧ d'.s = S.d.s ∧ d'.L = S.d.L ∧ d'.O = S.d.O:=by
 obtain ⟨d',e,h1,h2,h3,h4⟩:=try_fenc (fOne_begins g F) h
 refine ⟨d',?_,h1,h2,h3,h4⟩
 unfold flushR flushS
 rw [if_pos hv,e]
theorem fail_failed (v : DV) : (v.fail 17).failed = 17:=by unfold DV.fail; rw [if_neg (by decide)]
theorem LiveD.fence {d : DC} (h : LiveD d) (hu : d.P.armed = false) {key : Int} (hk : key ≠ 0) : FencD ⟨acqS d.s d.P key,d.P,d.L,d.O⟩:=by
 have e : stE d.s d.P = 0:=by unfold stE; simp [h.dead,h.off,h.seen]
 unfold acqS
 rw [if_pos e]
 exact ⟨h.dead,h.off,h.seen,hu,hk⟩
end Go.Proofs.YtggkengmlkhdiaaGreat
namespace Go.Proofs.YtggkengmlkhdiaaGreat
set_option linter.unusedVariables false
open Go.RowKit
section
variable {w : World} {N r p q pw : Nat} {g : Geo} {F : List Flt} {n : Nat} {R : RG}
def RigP (w : World) (N r p q pw : Nat) (g : Geo) (F : List Flt) (n : Nat) (R : RG) : Prop:=∃ ha hc fa fc hs,Rig w N r p q pw ha hc fa fc g F n R hs
theorem RigP.below {w' : World} (h : RigP w N r p q pw g F n R) (hb : Below w.heap.size w w') : RigP w' N r p q pw g F n R:=by
 obtain ⟨ha,hc,fa,fc,hs,h⟩:=h
 exact ⟨ha,hc,fa,fc,hs,h.below0 hb⟩
theorem RigP.c1 (h : RigP w N r p q pw g F n R) : w.cell? ⟨r,1,none⟩ = some (.pointer (some ⟨q,0,none⟩)):=by
 obtain ⟨ha,hc,fa,fc,hs,h⟩:=h
 exact h.cells.2.1
theorem RigP.c2 (h : RigP w N r p q pw g F n R) : w.cell? ⟨r,2,none⟩ = some (.pointer (some ⟨p,0,none⟩)):=by
 obtain ⟨ha,hc,fa,fc,hs,h⟩:=h
 exact h.cells.2.2.1
theorem acq_rig (key : Int) (h : RigP w N r p q pw g F n R) : Calls Tryz.prog 26 #[.pointer (some ⟨q,0,none⟩),.int .u64 key] w fun e w'=>e = .returned (.int .i64 (stE R.S.d.s R.S.d.P)) ∧ RigP w' N r p q pw g F n { R with S:=⟨R.S.v,⟨acqS R.S.d.s R.S.d.P key,R.S.d.P,R.S.d.L,R.S.d.O⟩⟩ } ∧ KeptT RGT (Bd.of N) w w':=by
 obtain ⟨ha,hc,fa,fc,hs,h⟩:=h
 obtain ⟨ea,ec,BA,bc,hd⟩:=h.drv
 refine (dacquire_any key hd.dsk).mono ?_
 rintro e w' ⟨rfl,h1,h2⟩
 exact ⟨rfl,⟨ha,hc,fa,fc,hs,h.drive ⟨ea,ec,BA,bc,hd.disk (d:=⟨acqS R.S.d.s R.S.d.P key,R.S.d.P,R.S.d.L,R.S.d.O⟩) h1 h2⟩ (h2.sub dat_drt)⟩,h2.sub (fun t ht=>drt_rgt t (dat_drt t ht))⟩
theorem openbad_rig (hg : Vg g) (hp : possB g n = true) (hu : R.S.d.U8) (hF : F.length ≤ 9223372036854775807) (h0 : (rdS20 g F 0 R.S.d (nSec g)).2.2 = 17) (h : RigP w N r p q pw g F n R) :
  Calls Tryz.prog 27 #[.pointer (some ⟨q,0,none⟩),.int .u64 0,.int .i64 n] w fun e w'=>e = .returned (.tuple #[.pointer none,.int .i64 17]) ∧ RigP w' N r p q pw g F n { R with S:=⟨R.S.v,(rdS20 g F 0 R.S.d (nSec g)).1⟩ } ∧ KeptT RGT (Bd.of N) w w':=by
 obtain ⟨ha,hc,fa,fc,hs,HH⟩:=h
 obtain ⟨ea,ec,BA,bc,hd⟩:=HH.drv
 have hN0 : N ≤ w.heap.size:=Nat.le_of_lt (Nat.lt_of_le_of_lt HH.low HH.lt)
 have hx0 : ∀ k,(k = p ∨ k = ea) → k < w.heap.size:=fun k hk=>by
  rcases hk with rfl | rfl
  ·exact (IsT.own hd.obj).lt
  ·exact (IsT.own hd.es).lt
 have hdm0 : DM w (Bd.out N (fun k=>k = p ∨ k = ea) w.heap.size hx0 hN0) q pw g F R.S.d:=DM.apart hd.dsk (fun k hk=>by
  rcases hk with rfl | rfl
  ·exact HasT.mem (IsT.own hd.obj) (by simp)
  ·exact HasT.mem (IsT.own hd.es) (by simp)) hx0 hN0
 refine (opendr_any (key:=0) (n : Int) hg hdm0 hu hF).mono ?_
 rintro e w' hpost
 unfold OpenPost at hpost
 rw [if_pos hp,h0,if_neg (by decide)] at hpost
 obtain ⟨rfl,h1,h2⟩:=hpost
 have h3:=hd.other h2 (DM.back h1)
 have h4 : KeptT DRT (Bd.of N) w w':=h2.wider (fun k hk=>⟨hk.1,fun h=>h⟩)
 exact ⟨rfl,⟨ha,hc,fa,fc,hs,HH.drive ⟨ea,ec,BA,bc,h3⟩ h4⟩,h4.sub drt_rgt⟩
theorem flush_rig (hF : F.length ≤ 9223372036854775807) (hO : R.S.d.O.length + 9 ≤ 99000) (h : RigP w N r p q pw g F n R) :
  Calls Tryz.prog 21 #[.pointer (some ⟨p,0,none⟩)] w fun e w'=>e = .returned (.int .i64 (flushR g F 0 R.S).2) ∧ RigP w' N r p q pw g F n { R with S:=(flushR g F 0 R.S).1 } ∧ KeptT RGT (Bd.of N) w w':=by
 obtain ⟨ha,hc,fa,fc,hs,HH⟩:=h
 obtain ⟨ea,ec,BA,bc,hd⟩:=HH.drv
 refine (flush20_any (key:=0) hF hO hd).mono ?_
 rintro e w' ⟨rfl,h1,h2⟩
 exact ⟨rfl,⟨ha,hc,fa,fc,hs,HH.drive ⟨ea,ec,BA,bc,h1⟩ h2⟩,h2.sub drt_rgt⟩
theorem RigP.to {w' : World} {S' : ST} {ea ec : Nat} {ha hc fa fc : Nat} {hs : List Hs} (HH : Rig w N r p q pw ha hc fa fc g F n R hs) (h : DrvTo w (Bd.of N) p q pw g F 0 S' ea ec w') : RigP w' N r p q pw g F n { R with S:=S' } ∧ KeptT RGT (Bd.of N) w w':=by
 obtain ⟨BA,bc,h1,h2⟩:=h
 exact ⟨⟨ha,hc,fa,fc,hs,HH.drive ⟨ea,ec,BA,bc,h1⟩ h2⟩,h2.sub drt_rgt⟩
theorem read_failed (b : Int) (hf : R.S.v.failed = 17) (hu : R.S.d.U8) (hF : F.length ≤ 9223372036854775807) (h : RigP w N r p q pw g F n R) :
  Calls Tryz.prog 14 #[.pointer (some ⟨p,0,none⟩),.int .i64 b] w fun e w'=>e = .returned (.tuple #[.int .u64 0,.agg #[.int .u8 0,.int .u8 0,.int .u8 0,.int .u8 0,.int .u8 0,.int .u8 0,.int .u8 0,.int .u8 0],.int .i64 17]) ∧ RigP w' N r p q pw g F n R ∧ KeptT RGT (Bd.of N) w w':=by
 obtain ⟨ha,hc,fa,fc,hs,HH⟩:=h
 obtain ⟨ea,ec,BA,bc,hd⟩:=HH.drv
 have hno : ¬ readsB R.S b:=fun hh=>by have:=hh.1; omega
 have e1 : readE20 g F 0 R.S b = 17:=by unfold readE20; rw [if_neg (by omega),hf]
 have e2 : readX20 g F 0 R.S b = noEnt:=by unfold readX20; rw [if_neg (fun hh=>hno hh.1)]
 have e3 : readS20 g F 0 R.S b = R.S:=by unfold readS20; rw [if_neg hno]
 refine (read20_any (key:=0) b hu hF hd).mono ?_
 rintro e w' ⟨h1,h2⟩
 rw [e1,e2] at h1
 rw [e3] at h2
 exact ⟨h1,RigP.to HH h2⟩
theorem clean_failed (hf : R.S.v.failed = 17) (hv : VOk g R.S.v) (hu : R.S.d.U8) (hF : F.length ≤ 9223372036854775807) (h64 : ∀ f ∈ F,I64 f.to_) (hO : R.S.d.O.length + 1100 ≤ 99000) (h : RigP w N r p q pw g F n R) :
  Calls Tryz.prog 15 #[.pointer (some ⟨p,0,none⟩)] w fun e w'=>e = .returned (.tuple #[.int .i64 0,.int .i64 17]) ∧ RigP w' N r p q pw g F n R ∧ KeptT RGT (Bd.of N) w w':=by
 obtain ⟨ha,hc,fa,fc,hs,HH⟩:=h
 obtain ⟨ea,ec,BA,bc,hd⟩:=HH.drv
 refine (cleanm20_any (key:=0) hv hu h64 hF hO hd).mono ?_
 rintro e w' ⟨x,hx,rfl,h2⟩
 unfold CleanMR at hx
 rw [if_neg (by omega),hf] at hx
 subst hx
 exact ⟨rfl,RigP.to HH h2⟩
theorem write_failed (b ver : Int) (h1 : 0 ≤ ver) (h2 : ver ≤ 18446744073709551615) (hf : R.S.v.failed = 17) (hv : VOk g R.S.v) (hu : R.S.d.U8) (hF : F.length ≤ 9223372036854775807) (h64 : ∀ f ∈ F,I64 f.to_) (hO : R.S.d.O.length + 1100 ≤ 99000) (h : RigP w N r p q pw g F n R) :
  Calls Tryz.prog 19 #[.pointer (some ⟨p,0,none⟩),.int .i64 b,.int .u64 ver,.agg #[.int .u8 0,.int .u8 0,.int .u8 0,.int .u8 0,.int .u8 0,.int .u8 0,.int .u8 0,.int .u8 0]] w fun e w'=>e = .returned (.int .i64 17) ∧ RigP w' N r p q pw g F n R ∧ KeptT RGT (Bd.of N) w w':=by
 obtain ⟨ha,hc,fa,fc,hs,HH⟩:=h
 obtain ⟨ea,ec,BA,bc,hd⟩:=HH.drv
 refine (write20_any (key:=0) b ver 0 0 0 0 0 0 0 0 ⟨.inl rfl,h1,h2,rfl,zeros8_u8⟩ hv hu h64 hF hO hd).mono ?_
 rintro e w' ⟨x,hx,rfl,h2⟩
 have e1 : preE R.S.v b ver = 17:=by unfold preE; rw [if_neg (by omega),hf]
 unfold WriteR at hx
 simp only at hx
 rw [e1,if_neg (by decide)] at hx
 subst hx
 exact ⟨rfl,RigP.to HH h2⟩
theorem trim_failed (b ver : Int) (h1 : 0 ≤ ver) (h2 : ver ≤ 18446744073709551615) (hf : R.S.v.failed = 17) (hv : VOk g R.S.v) (hu : R.S.d.U8) (hF : F.length ≤ 9223372036854775807) (h64 : ∀ f ∈ F,I64 f.to_) (hO : R.S.d.O.length + 1100 ≤ 99000) (h : RigP w N r p q pw g F n R) :
  Calls Tryz.prog 20 #[.pointer (some ⟨p,0,none⟩),.int .i64 b,.int .u64 ver] w fun e w'=>e = .returned (.int .i64 17) ∧ RigP w' N r p q pw g F n R ∧ KeptT RGT (Bd.of N) w w':=by
 obtain ⟨ha,hc,fa,fc,hs,HH⟩:=h
 obtain ⟨ea,ec,BA,bc,hd⟩:=HH.drv
 refine (trim20_any (key:=0) b ver ⟨.inr ⟨rfl,rfl⟩,h1,h2,rfl,zeros8_u8⟩ hv hu h64 hF hO hd).mono ?_
 rintro e w' ⟨x,hx,rfl,h2⟩
 have e1 : preE R.S.v b ver = 17:=by unfold preE; rw [if_neg (by omega),hf]
 unfold WriteR at hx
 simp only at hx
 rw [e1,if_neg (by decide)] at hx
 subst hx
 exact ⟨rfl,RigP.to HH h2⟩
theorem flush_failed (hf : R.S.v.failed = 17) (hF : F.length ≤ 9223372036854775807) (hO : R.S.d.O.length + 9 ≤ 99000) (h : RigP w N r p q pw g F n R) :
  Calls Tryz.prog 21 #[.pointer (some ⟨p,0,none⟩)] w fun e w'=>e = .returned (.int .i64 17) ∧ RigP w' N r p q pw g F n R ∧ KeptT RGT (Bd.of N) w w':=by
 have e1 : flushR g F 0 R.S = (R.S,17):=by unfold flushR; rw [if_neg (by omega),hf]
 refine (flush_rig hF hO h).mono ?_
 rintro e w' ⟨h1,h2,h3⟩
 rw [e1] at h1 h2
 exact ⟨h1,h2,h3⟩
end
end Go.Proofs.YtggkengmlkhdiaaGreat
namespace Go.Proofs.YtggkengmlkhdiaaGreat
set_option linter.unusedVariables false
open Go.RowKit
def acqR (R : RG) (key : Int) : RG:={ R with S:=⟨R.S.v,⟨acqS R.S.d.s R.S.d.P key,R.S.d.P,R.S.d.L,R.S.d.O⟩⟩ }
def opnR (g : Geo) (F : List Flt) (R : RG) : RG:={ R with S:=⟨R.S.v,(rdS20 g F 0 R.S.d (nSec g)).1⟩ }
def fluR (g : Geo) (F : List Flt) (R : RG) : RG:={ R with S:=(flushR g F 0 R.S).1 }
structure FencA (g : Geo) (R : RG) (key : Int) : Prop where
 u6 : (acqR R key).S.d.U8
 e6 : (rdS20 g [] 0 (acqR R key).S.d (nSec g)).2.2 = 17
 o7 : (opnR g [] (acqR R key)).S.d.O.length + 9 ≤ 99000
 e7 : (flushR g [] 0 (opnR g [] (acqR R key)).S).2 = 17
 f9 : (acqR (fluR g [] (opnR g [] (acqR R key))) 0).S.v.failed = 17
 v9 : VOk g (acqR (fluR g [] (opnR g [] (acqR R key))) 0).S.v
 u9 : (acqR (fluR g [] (opnR g [] (acqR R key))) 0).S.d.U8
 o9 : (acqR (fluR g [] (opnR g [] (acqR R key))) 0).S.d.O.length + 1100 ≤ 99000
theorem FencA.of {g : Geo} {n c : Nat} {R : RG} (hv : Vg g) (h : Fine g n c R) (hO : R.S.d.O.length ≤ 82160) {key : Int} (hk : key ≠ 0) : FencA g R key:=by
 have hf : FencD (acqR R key).S.d:=h.good.now.live.fence h.un hk
 have hns : 1 ≤ nSec g:=by
  have:=hv.b0; have:=hv.bz
  have hpos : 0 < g.bands * bz g:=Int.mul_pos (by omega) (by unfold bz; omega)
  unfold nSec
  unfold bz at hpos
  first | omega | (have:=hpos; unfold bz; omega)
 obtain ⟨h1,h2,h3,h4,h5⟩:=rdS20_fenc (g:=g) (F:=[]) hf hns
 have hu6 : (acqR R key).S.d.U8:=h.hon.u8
 have hf7 : FencD (opnR g [] (acqR R key)).S.d:=h2
 obtain ⟨d',e,g1,g2,g3,g4⟩:=flush_fenc (g:=g) (F:=[]) (S:=(opnR g [] (acqR R key)).S) hf7 h.good.now.f0
 have h5' : (opnR g [] (acqR R key)).S.d.O = R.S.d.O:=h5
 have h4' : (opnR g [] (acqR R key)).S.d.L = R.S.d.L:=h4
 have hu:=h.hon.u8
 have e8 : fluR g [] (opnR g [] (acqR R key)) = { (opnR g [] (acqR R key)) with S:=⟨(opnR g [] (acqR R key)).S.v.fail 17,d'⟩ }:=by unfold fluR; rw [e]
 refine ⟨hu6,h1,by rw [h5']; omega,by rw [e],?_,?_,?_,?_⟩
 ·rw [e8]; exact fail_failed _
 ·rw [e8]; exact h.hon.ok.fail 17
 ·rw [e8]
  show DC.U8 ⟨acqS d'.s d'.P 0,d'.P,d'.L,d'.O⟩
  unfold DC.U8 at hu ⊢
  simp only
  rw [g3,g4,h4',h5']
  exact hu
 ·rw [e8]
  show d'.O.length + 1100 ≤ 99000
  rw [g4,h5']; omega
end Go.Proofs.YtggkengmlkhdiaaGreat
