/-
  WHAT IS SHOWN: what Arm, Off, On of the power supply, Restart of the disk and Open do to a rig; a history that is cut in memory. entries of a rig returns true behind a power failure, a restart and Open; the histories are cut then. plays of tegulalaw20 returns true for a small case whose faults are slow ones, never more than eight in a row. Conditions: as each theorem names them.
-/
import Derived.Test.YtggkengmlkhdiaaGreatM47
import Derived.StillTailTactics
namespace Go.Proofs.YtggkengmlkhdiaaGreat
set_option linter.unusedVariables false
open Go.RowKit
section
variable {w w':World} {n ha hc:Nat} {hs:List Hs}
theorem flatW_take:∀ (l:List Wr) (m:Nat),(∀ x∈l,x.dt.length=8)→flatW (l.take m)=(flatW l).take (m * 10)
 | [],m,_=>by simp [flatW]
 | a::l,0,_=>by simp [flatW]
 | a::l,m+1,h=>by
   have ha:=wcells_len (h a (by simp))
   have e:flatW (a::l)=a.cells++flatW l:=rfl
   have e2:flatW ((a::l).take (m+1))=a.cells++flatW (l.take m):=rfl
   have h1:a.cells.take ((m+1) * 10)=a.cells:=List.take_of_length_le (by omega)
   rw [e,e2,flatW_take l m (fun x hx=>h x (by simp [hx])),List.take_append,h1,ha,show (m+1) * 10 - 10=m * 10 by omega]
theorem HistM.shape (h:HistM w n ha hc hs) {i:Nat} {k:Hs} (hi:hs[i]?=some k):(k.A=none∧k.xs.length=0∧k.c=0)∨∃ gk,k.A=some ⟨gk,0,none⟩∧k.xs.length≤k.c:=by
 rcases (h.each i k hi).2 with ⟨h2,h3⟩ | ⟨g',cp,cur,h2,_,_,h5,_⟩
 ·unfold Hs.v at h2
  injection h2 with h2 h4 h6
  exact .inl ⟨h2,h3,h6⟩
 ·unfold Hs.v at h2
  injection h2 with h2 h4 h6
  exact .inr ⟨g',h2,by rw [h6]; exact h5⟩
theorem HistM.cut (h:HistM w n ha hc hs) {i:Nat} {k:Hs} (hi:hs[i]?=some k) {m:Nat} (hm:m≤k.xs.length):
  HistM (w.setCell ⟨ha,i,none⟩ (.slice k.A m k.c)) n ha hc (hs.set i ⟨k.A,k.xs.take m,k.c⟩):=by
 have hl:i < hs.length:=(List.getElem?_eq_some_iff.1 hi).1
 have hha:IsT 62 w ha:=IsT.own h.own
 have hst:=(World.ownsRow.stored h.own i (.slice k.A m k.c)).1
 have hml:(k.xs.take m).length=m:=by rw [List.length_take]; omega
 have hrow:∀ {t:TypeId} {s:Nat} {v:Value} {l:Nat} {xs:List Value},w.ownsRow n t s v l xs→v.ownBlock≠some ha→(w.setCell ⟨ha,i,none⟩ (.slice k.A m k.c)).ownsRow n t s v l xs:=by
  intro t s v l xs ho hb
  exact own_kept ho ((Kept.refl (fun b=>b=ha) w).setCell (p:=⟨ha,i,none⟩) (fun _=>rfl) _) (fun b e hb'=>hb (by rw [e,hb']))
 have hne:∀ (j:Nat) (u:Hs),hs[j]?=some u→u.v.ownBlock≠some ha:=fun j u hu e'=>by
  rcases (h.each j u hu).2 with ⟨h2,_⟩ | ⟨g',cp,cur,h2,_,h4,_⟩
  ·rw [h2] at e'; cases e'
  ·rw [h2] at e'; injection e' with e'; subst e'
   exact (hha.ne (IsT.of h4) (by decide)) rfl
 have hob:∀ x y:Nat,(Value.slice k.A x k.c).ownBlock=(Value.slice k.A y k.c).ownBlock:=fun x y=>by cases k.A <;> rfl
 have hvb:(Hs.v ⟨k.A,k.xs.take m,k.c⟩).ownBlock=k.v.ownBlock:=hob _ _
 refine ⟨?_,?_,?_,?_⟩
 ·have ev:Hs.v ⟨k.A,k.xs.take m,k.c⟩= .slice k.A m k.c:=by simp only [Hs.v,hml]
  rw [List.length_set,List.map_set,ev]; exact hst
 ·intro j u hu
  by_cases e:i=j
  ·subst e
   rw [List.getElem?_set_self hl] at hu
   injection hu with hu; subst hu
   have ho:=hrow (h.each i k hi) (hne i k hi)
   refine ⟨?_,?_⟩
   ·simp only
    rw [flatW_take _ _ (h.wok i k hi),List.length_take,ho.1,hml]; omega
   ·rcases ho.2 with ⟨h2,h3⟩ | ⟨g',cp,cur,h2,h3,h4,h5,h6,h7,h8⟩
    ·left
     unfold Hs.v at h2 ⊢
     injection h2 with h2 _ h4
     simp only [hml]
     have:m=0:=by omega
     subst this
     rw [h2,h4]; exact ⟨rfl,rfl⟩
    ·right
     unfold Hs.v at h2 ⊢
     injection h2 with h2 _ h9
     refine ⟨g',cp,cur,by simp only [hml]; rw [h2,h9],h3,h4,by simp only [hml]; omega,h6,h7,?_⟩
     simp only [hml]
     rw [flatW_take _ _ (h.wok i k hi),← h8,List.take_take]
     congr 1; omega
  ·rw [List.getElem?_set_ne e] at hu
   exact hrow (h.each j u hu) (hne j u hu)
 ·intro a b u v hu hv hab
  by_cases ea:i=a
  ·subst ea
   rw [List.getElem?_set_self hl] at hu
   injection hu with hu; subst hu
   rw [List.getElem?_set_ne hab] at hv
   rw [hvb]; exact h.apart i b k v hi hv hab
  ·rw [List.getElem?_set_ne ea] at hu
   by_cases eb:i=b
   ·subst eb
    rw [List.getElem?_set_self hl] at hv
    injection hv with hv; subst hv
    rw [hvb]; exact h.apart a i u k hu hi hab
   ·rw [List.getElem?_set_ne eb] at hv
    exact h.apart a b u v hu hv hab
 ·intro j u hu
  by_cases e:i=j
  ·subst e
   rw [List.getElem?_set_self hl] at hu
   injection hu with hu; subst hu
   intro y hy
   exact h.wok i k hi y (List.mem_of_mem_take hy)
  ·rw [List.getElem?_set_ne e] at hu
   exact h.wok j u hu
end
section
variable {w w':World} {N r p q pw ha hc fa fc:Nat} {g:Geo} {F:List Flt} {n:Nat} {R:RG} {hs:List Hs}
theorem Rig.cut (h:Rig w N r p q pw ha hc fa fc g F n R hs) {i:Nat} {k:Hs} (hi:hs[i]?=some k) {m:Nat} (hm:m≤k.xs.length):
  Rig (w.setCell ⟨ha,i,none⟩ (.slice k.A m k.c)) N r p q pw ha hc fa fc g F n { R with hist:=R.hist.set i (k.xs.take m) } (hs.set i ⟨k.A,k.xs.take m,k.c⟩)∧KeptT RGT (Bd.of N) w (w.setCell ⟨ha,i,none⟩ (.slice k.A m k.c)):=by
 have hkT:KeptT [62] (Bd.of N) w (w.setCell ⟨ha,i,none⟩ (.slice k.A m k.c)):=by
  refine KeptT.of ((Kept.refl (fun b=>b=ha) w).setCell (p:=⟨ha,i,none⟩) (fun _=>rfl) _) (fun b hb hS=>?_)
  have e':b=ha:=hS
  subst e'
  exact ⟨Bd.hasOf.2 h.hist.low,HasT.mem (IsT.own h.hist.own) (by simp)⟩
 obtain ⟨ea,ec,BA,bc,hd⟩:=h.drv
 refine ⟨⟨?_,h.hist.cut hi hm,?_,own_ty h.fl hkT (by decide),⟨ea,ec,BA,bc,hd.types hkT (by decide)⟩⟩,hkT.sub (by unfold RGT; decide)⟩
 ·simp only [List.length_set]; exact own_ty h.obj hkT (by decide)
 ·simp only
  rw [List.map_set,h.hh]
def RigQ (w:World) (N r p q pw:Nat) (g:Geo) (F:List Flt) (n:Nat) (R:RG):Prop:=∃ ha hc fa fc hs,Rig w N r p q pw ha hc fa fc g F n R hs
theorem RigQ.m (h:RigQ w N r p q pw g F n R):RigM w N r q pw g F n R:=⟨p,h⟩
theorem RigQ.c (h:RigQ w N r p q pw g F n R):w.cell? ⟨r,0,none⟩=some (.pointer (some ⟨pw,0,none⟩))∧w.cell? ⟨r,1,none⟩=some (.pointer (some ⟨q,0,none⟩))∧w.cell? ⟨r,2,none⟩=some (.pointer (some ⟨p,0,none⟩))∧w.cell? ⟨r,3,none⟩=some (.int .i64 n)∧w.frozen? ⟨r,2,none⟩=false:=by
 obtain ⟨ha,hc,fa,fc,hs,h⟩:=h
 obtain ⟨x0,x1,x2,x3,_⟩:=h.cells
 exact ⟨x0,x1,x2,x3,h.free 2⟩
theorem RigQ.disk (h:RigQ w N r p q pw g F n R):DM w (Bd.of N) q pw g F R.S.d∧∀ w' d,DM w' (Bd.of N) q pw g F d→KeptT DAT (Bd.of N) w w'→RigQ w' N r p q pw g F n { R with S:=⟨R.S.v,d⟩ }∧KeptT RGT (Bd.of N) w w':=by
 obtain ⟨ha,hc,fa,fc,hs,h⟩:=h
 obtain ⟨ea,ec,BA,bc,hd⟩:=h.drv
 exact ⟨hd.dsk,fun w' d h1 h2=>⟨⟨ha,hc,fa,fc,hs,h.drive ⟨ea,ec,BA,bc,hd.disk (d:=d) h1 h2⟩ (h2.sub dat_drt)⟩,h2.sub (fun t ht=>drt_rgt t (dat_drt t ht))⟩⟩
theorem arm_rig (m:Int) (h:RigQ w N r p q pw g F n R):Calls Tryz.prog 64 #[.pointer (some ⟨pw,0,none⟩),.int .i64 m] w fun e w'=>e= .returned (.tuple #[])∧RigQ w' N r p q pw g F n (armR R m)∧KeptT RGT (Bd.of N) w w':=by
 obtain ⟨hd,hto⟩:=h.disk
 have h0:DPm w (Bd.of N) q pw g F R.S.d.s R.S.d.P R.S.d.L R.S.d.O:=hd
 refine (arm_any m h0.p).mono ?_
 rintro e w' ⟨rfl,h1,h2⟩
 have h3:=hto w' ⟨R.S.d.s,armP R.S.d.P m,R.S.d.L,R.S.d.O⟩ (DPm.power h0 h1 h2) (h2.sub (by unfold DAT; decide))
 exact ⟨rfl,h3.1,h3.2⟩
theorem off_rig (h:RigQ w N r p q pw g F n R):Calls Tryz.prog 65 #[.pointer (some ⟨pw,0,none⟩)] w fun e w'=>e= .returned (.bool R.S.d.P.off)∧w=w':=by
 obtain ⟨hd,hto⟩:=h.disk
 have h0:DPm w (Bd.of N) q pw g F R.S.d.s R.S.d.P R.S.d.L R.S.d.O:=hd
 exact off_any h0.p
def rstR (g:Geo) (R:RG) (keep:Int):RG:={ R with S:=⟨R.S.v,⟨{ R.S.d.s with seen:=R.S.d.P.fails },R.S.d.P,playL g R.S.d.L (R.S.d.O.take (cutN keep R.S.d.O.length)),[]⟩⟩ }
theorem rst_rig (keep:Int) (hdn:DownD R.S.d) (hO:R.S.d.O.length≤100000) (h:RigQ w N r p q pw g F n R):Calls Tryz.prog 66 #[.pointer (some ⟨q,0,none⟩),.int .i64 keep] w fun e w'=>e= .returned (.int .i64 0)∧RigQ w' N r p q pw g F n (rstR g R keep)∧KeptT RGT (Bd.of N) w w':=by
 obtain ⟨hd,hto⟩:=h.disk
 have h0:DPm w (Bd.of N) q pw g F R.S.d.s R.S.d.P R.S.d.L R.S.d.O:=hd
 obtain ⟨e1,e2,e3,e4⟩:=rst_down (g:=g) hdn keep
 have hc:=drestart_any keep h0 hO
 rw [e1,e2,e3,e4] at hc
 refine hc.mono ?_
 rintro e w' ⟨rfl,h1,h2⟩
 have h3:=hto w' ⟨{ R.S.d.s with seen:=R.S.d.P.fails },R.S.d.P,playL g R.S.d.L (R.S.d.O.take (cutN keep R.S.d.O.length)),[]⟩ h1 h2
 exact ⟨rfl,h3.1,h3.2⟩
theorem on_rig (h:RigQ w N r p q pw g F n R):Calls Tryz.prog 67 #[.pointer (some ⟨pw,0,none⟩)] w fun e w'=>e= .returned (.tuple #[])∧RigQ w' N r p q pw g F n { R with S:=⟨R.S.v,⟨R.S.d.s,{ R.S.d.P with off:=false },R.S.d.L,R.S.d.O⟩⟩ }∧KeptT RGT (Bd.of N) w w':=by
 obtain ⟨hd,hto⟩:=h.disk
 have h0:DPm w (Bd.of N) q pw g F R.S.d.s R.S.d.P R.S.d.L R.S.d.O:=hd
 refine (don_any h0.p).mono ?_
 rintro e w' ⟨rfl,h1,h2⟩
 have h3:=hto w' ⟨R.S.d.s,{ R.S.d.P with off:=false },R.S.d.L,R.S.d.O⟩ (DPm.power h0 h1 h2) (h2.sub (by unfold DAT; decide))
 exact ⟨rfl,h3.1,h3.2⟩
def OpenQ (w:World) (N r p q pw:Nat) (g:Geo) (F:List Flt) (n:Nat) (R:RG) (e:Ending) (w':World):Prop:=
 ∃ p' v,OpenV g n (rdS20 g F 0 R.S.d (nSec g)).2.1 v∧e= .returned (.tuple #[.pointer (some ⟨p',0,none⟩),.int .i64 0])∧RigQ w' N r p q pw g F n { R with S:=⟨R.S.v,(rdS20 g F 0 R.S.d (nSec g)).1⟩ }∧
  RigQ (w'.setCell ⟨r,2,none⟩ (.pointer (some ⟨p',0,none⟩))) N r p' q pw g F n { R with S:=⟨v,(rdS20 g F 0 R.S.d (nSec g)).1⟩ }∧KeptT RGT (Bd.of N) w w'∧KeptT RGT (Bd.of N) w (w'.setCell ⟨r,2,none⟩ (.pointer (some ⟨p',0,none⟩)))
theorem open_rig (hg:Vg g) (hp:possB g n=true) (hu:R.S.d.U8) (hF:F.length≤9223372036854775807) (h0:(rdS20 g F 0 R.S.d (nSec g)).2.2=0) (h:RigQ w N r p q pw g F n R):
  Calls Tryz.prog 27 #[.pointer (some ⟨q,0,none⟩),.int .u64 0,.int .i64 n] w (OpenQ w N r p q pw g F n R):=by
 obtain ⟨ha,hc,fa,fc,hs,HH⟩:=h
 obtain ⟨ea,ec,BA,bc,hd⟩:=HH.drv
 have hN0:N≤w.heap.size:=Nat.le_of_lt (Nat.lt_of_le_of_lt HH.low HH.lt)
 have hx0:∀ k,(k=p∨k=ea)→k < w.heap.size:=fun k hk=>by
  rcases hk with rfl | rfl
  ·exact (IsT.own hd.obj).lt
  ·exact (IsT.own hd.es).lt
 have hdm0:DM w (Bd.out N (fun k=>k=p∨k=ea) w.heap.size hx0 hN0) q pw g F R.S.d:=DM.apart hd.dsk (fun k hk=>by
  rcases hk with rfl | rfl
  ·exact HasT.mem (IsT.own hd.obj) (by simp)
  ·exact HasT.mem (IsT.own hd.es) (by simp)) hx0 hN0
 refine (opendr_any (key:=0) (n:Int) hg hdm0 hu hF).mono ?_
 rintro e w' hpost
 unfold OpenPost at hpost
 rw [if_pos hp,if_pos h0,Int.toNat_natCast] at hpost
 obtain ⟨p',v,h1,rfl,h2,h3⟩:=hpost
 have h2d:DM w' (Bd.out N (fun k=>k=p∨k=ea) w.heap.size hx0 hN0) q pw g F (rdS20 g F 0 R.S.d (nSec g)).1:=by
  obtain ⟨_,_,_,_,hdm⟩:=h2; exact hdm.dsk
 have h4:=hd.other h3 (DM.back h2d)
 have h5:KeptT DRT (Bd.of N) w w':=h3.wider (fun k hk=>⟨hk.1,fun h=>h⟩)
 have h6:=HH.drive ⟨ea,ec,BA,bc,h4⟩ h5
 have h7:=h6.setDrive (DrvM.back h2)
 exact ⟨p',v,h1,rfl,⟨ha,hc,fa,fc,hs,h6⟩,⟨ha,hc,fa,fc,hs,h7.1⟩,h5.sub drt_rgt,(h5.sub drt_rgt).trans h7.2⟩
end
end Go.Proofs.YtggkengmlkhdiaaGreat
namespace Go.Proofs.YtggkengmlkhdiaaGreat
set_option linter.unusedVariables false
open Go.RowKit
section
variable {w:World} {N r q pw:Nat} {g:Geo} {F:List Flt} {n c:Nat} {R:RG}
theorem back_last (hR:RunF F) (hF:F.length≤9223372036854775807) (hc:c≤1000) (hB:Back g n c R) {j:Nat} (hj:j < n) {e:NE} {l:List Wr} (he:R.S.v.es[j]?=some e) (hl:R.hist[j]?=some l) {H:List (List Wr)} (hH:H[j]?=some (cutL e l)) (h:RigM w N r q pw g F n { R with hist:=H }):
  Calls Tryz.prog 54 #[.pointer (some ⟨r,0,none⟩),.int .i64 j] w fun e w'=>e= .returned (.bool true)∧RigM w' N r q pw g F n { R with hist:=H,S:=readS20 g F 0 R.S j }∧KeptT DRT (Bd.of N) w w':=by
 have hli:LastIs g F R.S j (cutL e l):=(read20_on hR hB.now hB.un hj (cutH_at he hl)).2.2.2.2.2
 have hln:=hB.hon.hn l (List.mem_of_getElem? hl)
 obtain ⟨k,hk⟩:=cutL_sub e l
 exact last_yes (R:={ R with hist:=H }) hj hH (by rw [hk,List.length_take]; omega) hli hB.now.u8 hF h
set_option maxRecDepth 100000 in
set_option maxHeartbeats 16000000 in
theorem entries_any (hR:RunF F) (hF:F.length≤9223372036854775807) (hn:n≤65536) (hc:c≤1000) (hB:Back g n c R) (h:RigM w N r q pw g F n R):
  Calls Tryz.prog 68 #[.pointer (some ⟨r,0,none⟩)] w fun e w'=>e= .returned (.bool true)∧(∃ S',RigM w' N r q pw g F n { R with hist:=cutH R.S.v.es R.hist,S:=S' }∧Back g n c { R with S:=S' }∧S'.v=R.S.v)∧KeptT RGT (Bd.of N) w w':=by
 have HR:=Lib.hid hR
 have HB:=Lib.hid hB
 have H0:=Lib.hid h
 have HES:Hid (R.S.v.es.length=R.hist.length):=hB.hon.es.trans hB.hon.hl.symm
 have HHL:Hid (R.hist.length=n):=hB.hon.hl
 have HFL:Hid (R.fl.length=n):=hB.hon.fl
 obtain ⟨CJ,hCJ⟩:∃ CJ,CJ=cutJ R.S.v.es R.hist:=⟨_,rfl⟩
 have HC0:Hid (CJ 0=R.hist):=by rw [hCJ]; exact cutJ_zero _ _
 have HCA:Hid (CJ n=cutH R.S.v.es R.hist):=by unfold Hid; rw [hCJ,← HHL.out]; exact cutJ_all HES.out
 have HCT:Hid (∀ j,j < n→(CJ j)[j]?=R.hist[j]?):=fun j hj=>by rw [hCJ]; exact cutJ_at HES.out (by rw [HHL.out]; exact hj)
 have HCS:Hid (∀ j e l,R.S.v.es[j]?=some e→R.hist[j]?=some l→(CJ j).set j (cutL e l)=CJ (j+1)∧(CJ (j+1))[j]?=some (cutL e l)):=fun j e l he hl=>by rw [hCJ]; exact ⟨cutJ_set HES.out he hl,cutJ_next HES.out he hl⟩
 clear hR hB h hCJ
 go_enter Tryz.func68,Tryz.ntmps68
 go_wp2
 go_loopw [3,4,5,6] (fun i _ _ _ wr=>∃ (j:Nat) (S':ST),j≤n∧i= .int .i64 j∧Hid (RigM wr N r q pw g F n { R with hist:=CJ j,S:=S' })∧Hid (Back g n c { R with S:=S' }∧S'.v=R.S.v)∧Hid (KeptT RGT (Bd.of N) w wr)) (fun i _ _ _ _=>n - (intOf i).toNat)
 case atStart=>exact ⟨0,R.S,Nat.zero_le _,rfl,by rw [HC0.out]; exact H0.out,⟨HB.out,rfl⟩,KeptT.refl _ _ _⟩
 case round=>
  obtain ⟨j,S',hj,rfl,HM,HS,HK⟩:=hrel
  obtain ⟨p,ha,hc',fa,fc,hs,hm⟩:=HM.out
  have HM0:=Lib.hid hm
  obtain ⟨x0,x1,x2,x3,x4,x5,x6⟩:=hm.cells
  by_cases hlt:j < n
  ·have d1:decide ((j:Int) < (n:Int))=true:=decide_eq_true (by omega)
   have d2:decide (j < n)=true:=decide_eq_true hlt
   have he:=List.getElem?_eq_getElem (show j < R.S.v.es.length by rw [HES.out,HHL.out]; exact hlt)
   generalize R.S.v.es[j]'(by rw [HES.out,HHL.out]; exact hlt)=en at he
   have hl:=List.getElem?_eq_getElem (show j < R.hist.length by rw [HHL.out]; exact hlt)
   generalize R.hist[j]'(by rw [HHL.out]; exact hlt)=l at hl
   have hes:S'.v.es[j]?=some en:=by rw [HS.out.2]; exact he
   have hfl:=List.getElem?_eq_getElem (show j < R.fl.length by rw [HFL.out]; exact hlt)
   generalize R.fl[j]'(by rw [HFL.out]; exact hlt)=f at hfl
   obtain ⟨m,hcut,hfm⟩:=HS.out.1.cut (b:=j) hes hl
   have hfm:=hfm f hfl
   have hjs:j < hs.length:=by rw [hm.hl]; simp only; rw [← HHL.out] at hlt; have:=(List.getElem?_eq_some_iff.1 ((HCT.out j (by rw [← HHL.out]; exact hlt)).trans hl)).1; exact this
   have hkk:=List.getElem?_eq_getElem hjs
   generalize hs[j]=kk at hkk
   have hkl:kk.xs=l:=by
    have h1:=hm.hh
    have h2:(CJ j)[j]?=some kk.xs:=by
     have h3:(hs.map Hs.xs)[j]?=some kk.xs:=by rw [List.getElem?_map,hkk]; rfl
     rw [h1] at h3; exact h3
    rw [HCT.out j hlt,hl] at h2; injection h2 with h2; exact h2.symm
   have hln:l.length≤1000:=Nat.le_trans (HS.out.1.hon.hn l (List.mem_of_getElem? hl)) hc
   have hmv:m≤kk.xs.length:=by rw [hkl]; exact hcut.le
   have HCU:=Lib.hid hcut
   have HKK:=Lib.hid hkk
   have HKL:=Lib.hid hkl
   have HEN:=Lib.hid hes
   have HE0:=Lib.hid he
   have HL0:=Lib.hid hl
   have HFIN:Hid (∀ wx,Below wr.heap.size wr wx→Rig wx N r p q pw ha hc' fa fc g F n { R with hist:=CJ j,S:=S' } hs∧RigM (wx.setCell ⟨ha,j,none⟩ (.slice kk.A m kk.c)) N r q pw g F n { R with hist:=CJ (j+1),S:=S' }∧KeptT RGT (Bd.of N) w (wx.setCell ⟨ha,j,none⟩ (.slice kk.A m kk.c))):=fun wx hx=>by
    have h1:=HM0.out.below0 hx
    have h2:=h1.cut hkk hmv
    refine ⟨h1,⟨p,ha,hc',fa,fc,hs.set j ⟨kk.A,kk.xs.take m,kk.c⟩,?_⟩,(HK.out.thenBelow hx).trans h2.2⟩
    have e1:({ R with hist:=CJ (j+1),S:=S' }:RG)={ R with hist:=(CJ j).set j (kk.xs.take m),S:=S' }:=by rw [hkl,← hcut.eq,(HCS.out j en l he hl).1]
    rw [e1]; exact h2.1
   have HLA:Hid (∀ wx,RigM wx N r q pw g F n { R with hist:=CJ (j+1),S:=S' }→Calls Tryz.prog 54 #[.pointer (some ⟨r,0,none⟩),.int .i64 j] wx fun e w'=>e= .returned (.bool true)∧RigM w' N r q pw g F n { R with hist:=CJ (j+1),S:=readS20 g F 0 S' j }∧KeptT DRT (Bd.of N) wx w'):=fun wx hx=>
    back_last (R:={ R with S:=S' }) HR.out hF hc HS.out.1 hlt hes hl (HCS.out j en l he hl).2 hx
   have HRD:Hid (Back g n c { R with S:=readS20 g F 0 S' j }∧(readS20 g F 0 S' j).v=R.S.v):=by
    have h1:=HS.out.1.read HR.out hlt
    exact ⟨h1.1,h1.2.trans HS.out.2⟩
   have hsh:=hm.hist.shape hkk
   obtain ⟨ea,ec,BA,bc,hd⟩:=hm.drv
   have hve:=version20_any (j:Int) hd
   rw [verX_at hes] at hve
   have HMF:Hid (f≤m):=hfm
   have HFF:=Lib.hid hfl
   have HMV:=Lib.hid hmv
   have HLN:=Lib.hid hln
   clear hd hm hes he hl hkk hkl hcut hmv hln hfm hfl HCT HCS HC0
   by_cases h0:0≤en.adr
   ·rw [if_pos h0] at hve
    have HVE:=Lib.hid hve
    have HH0:=Lib.hid h0
    obtain ⟨ev,hev⟩:∃ ev,en.ver=ev:=⟨_,rfl⟩
    rw [hev] at HVE
    have HEV:=Lib.hid hev
    clear hve hev h0
    go_wp2_with fail
    refine HVE.out.mono ?_
    rintro e w1 ⟨rfl,hb1⟩
    have HB1:=Lib.hid hb1
    have HR1:=Lib.hid (HFIN.out w1 hb1).1
    clear hb1 HVE x0 x1 x2 x3 x4 x5 x6
    go_wp2
    obtain ⟨m0,hm0⟩:∃ m0,m=m0+1:=⟨m - 1,by have:=(HCU.out.at_ HH0.out).1; omega⟩
    have HM1:=Lib.hid hm0
    clear hm0
    go_loopw [6] (fun i wq=>∃ k:Nat,k≤m0∧i= .int .i64 k∧w1=wq) (fun i _=>m0 - (intOf i).toNat)
    case atStart=>exact ⟨0,Nat.zero_le _,rfl,rfl⟩
    case round=>
     obtain ⟨k,hk,rfl,rfl⟩:=hrel
     obtain ⟨x0,x1,x2,x3,x4,x5,x6⟩:=HR1.out.cells
     have hcb:=HR1.out.hist.cell HKK.out
     unfold Hs.v at hcb
     have hkm:k < kk.xs.length:=by have:=HMV.out; have:=HM1.out; omega
     have hx:=List.getElem?_eq_getElem hkm
     have HX:=Lib.hid hx
     generalize kk.xs[k]=x at hx HX
     obtain ⟨gk,q0,q1,q2,q3,q4,q5,q6,q7,hA,hw⟩:=HR1.out.hist.wr HKK.out hx
     have m0c:=hw.c0
     have HJL:Hid (j < hs.length):=(List.getElem?_eq_some_iff.1 HKK.out).1
     have hjl:=HJL.out
     have hji:(j:Int) < (hs.length:Int):=by omega
     obtain ⟨L,hL⟩:∃ L,kk.xs.length=L:=⟨_,rfl⟩
     rw [hA,hL] at hcb
     have hkL:k < L:=by omega
     have hkI:(k:Int) < (L:Int):=by omega
     have e1:decide ((k:Int) < (L:Int))=true:=decide_eq_true hkI
     have e2:decide (k < L)=true:=decide_eq_true hkL
     have HLI:=Lib.hid hL
     have HAI:=Lib.hid hA
     clear hx hw hkm hL hA
     by_cases hke:k=m0
     ·have hxv:x.ver=ev:=by
       obtain ⟨_,u,hu,huv⟩:=HCU.out.at_ HH0.out
       rw [← HKL.out,show m - 1=k by have:=HM1.out; omega,HX.out] at hu
       injection hu with hu
       rw [hu]; exact huv.trans HEV.out
      rw [hxv] at m0c
      have e3:(ev !=ev)=false:=by simp
      have e4:(ev==ev)=true:=by simp
      subst hke
      have HXX:Hid (m≤L∧L≤1000):=⟨by rw [← HLI.out]; exact HMV.out,by rw [← HLI.out,HKL.out]; exact HLN.out⟩
      have hcf:wr.cell? ⟨fa,j,none⟩=some (.int .i64 f)∨True:=.inr trivial
      clear hcf
      have c2:w1.cell? ⟨fa,j,none⟩=some (.int .i64 f):=by
       rw [World.ownsRow.cellAt HR1.out.fl j (by simp only; have:=HFL.out; omega)]
       simp only [List.getElem?_map]; rw [HFF.out]; rfl
      have hif:(j:Int) < (R.fl.length:Int):=by have:=HFL.out; omega
      simp only at x5
      have hmk:=HM1.out
      have hne:((k:Int)==(L:Int))=false:=by have:=HXX.out; simp; omega
      have hne2:(k==L)=false:=by have:=HXX.out; simp; omega
      have hwr:IntKind.i64.wrap ((k:Int)+1)=(m:Int):=by rw [IntKind.wrap_i64]; have:=HXX.out; omega
      have hfd:decide ((m:Int) < f)=false:=decide_eq_false (by have:=HMF.out; omega)
      obtain ⟨gk',hA',hcap⟩:∃ gk',kk.A=some ⟨gk',0,none⟩∧kk.xs.length≤kk.c:=by
       rcases hsh with ⟨a1,a2,_⟩ | a
       ·rw [HLI.out] at a2; omega
       ·exact a
      have HFZ:=HFIN.out w1.drew ((HB1.out).trans (((Below.refl _ _).drew).mono HB1.out.size))
      have fz:w1.frozen? ⟨ha,j,none⟩=false:=HR1.out.hist.free j
      have hca:(m:Int)≤(kk.c:Int):=by have:=HXX.out; rw [HLI.out] at hcap; omega
      rw [HAI.out] at HFZ
      have HNX:=Lib.hid HFZ.2
      have HLB:=Lib.hid (HLA.out _ HFZ.2.1)
      clear HFZ hA' hcap hsh hmk hk
      have hm00:(0:Int)≤(m:Int):=by omega
      go_wp2_with fail
      go_still_tail 16,(by kernel_rfl)
      change wpList _ _ _ _ _ w1.drew
      go_wp2_with fail
      refine HLB.out.mono ?_
      rintro e w3 ⟨rfl,hr3,hk3⟩
      have HX3:Hid (RigM w3 N r q pw g F n { R with hist:=CJ (j+1),S:=readS20 g F 0 S' j }∧KeptT RGT (Bd.of N) w w3):=⟨hr3,HNX.out.2.trans (hk3.sub drt_rgt)⟩
      clear hr3 hk3 HLB
      go_wp2
      go_roundw
      case rel=>exact ⟨j+1,readS20 g F 0 S' j,hlt,by go_num,HX3.out.1,HRD.out,HX3.out.2⟩
      case measure=>simp [intOf]; omega
     ·have hne:(x.ver !=ev)=true:=by
       have h1:=HCU.out.far HH0.out k x (by have:=HM1.out; omega) (by rw [← HKL.out]; exact HX.out)
       rw [HEV.out] at h1
       simpa using h1
      have hne2:(x.ver==ev)=false:=by simpa using hne
      have hkb:k≤1000:=by rw [← HLI.out,HKL.out] at hkL; have:=HLN.out; omega
      obtain ⟨xv,hxv⟩:∃ xv,x.ver=xv:=⟨_,rfl⟩
      rw [hxv] at hne hne2 m0c
      clear hxv
      go_wp2
      go_roundw
      case rel=>exact ⟨k+1,by omega,by go_num,by trivial⟩
      case measure=>simp [intOf]; omega
   ·rw [if_neg h0] at hve
    have HVE:=Lib.hid hve
    have HMZ:Hid (m=0):=HCU.out.no (by omega)
    clear hve h0
    go_wp2_with fail
    refine HVE.out.mono ?_
    rintro e w1 ⟨rfl,hb1⟩
    have HB1:=Lib.hid hb1
    have HR1:=Lib.hid (HFIN.out w1 hb1).1
    clear hb1 HVE x0 x1 x2 x3 x4 x5 x6
    go_wp2
    obtain ⟨L,hL⟩:∃ L,kk.xs.length=L:=⟨_,rfl⟩
    have HLI:=Lib.hid hL
    clear hL
    go_loopw [6] (fun i wq=>∃ k:Nat,k≤L∧i= .int .i64 k∧w1=wq) (fun i _=>L - (intOf i).toNat)
    case atStart=>exact ⟨0,Nat.zero_le _,rfl,rfl⟩
    case round=>
     obtain ⟨k,hk,rfl,rfl⟩:=hrel
     obtain ⟨x0,x1,x2,x3,x4,x5,x6⟩:=HR1.out.cells
     have hcb:=HR1.out.hist.cell HKK.out
     unfold Hs.v at hcb
     rw [HLI.out] at hcb
     have hjl:=(List.getElem?_eq_some_iff.1 HKK.out).1
     have hji:(j:Int) < (hs.length:Int):=by omega
     by_cases hke:k < L
     ·have e1:decide ((k:Int) < (L:Int))=true:=decide_eq_true (by omega)
      have e2:decide (k < L)=true:=decide_eq_true hke
      have HLN2:Hid (L≤1000):=by rw [← HLI.out,HKL.out]; exact HLN.out
      have hln2:=HLN2.out
      clear hsh
      go_wp2
      go_roundw
      case rel=>exact ⟨k+1,hke,by go_num,by trivial⟩
      case measure=>simp [intOf]; omega
     ·obtain rfl:k=L:=by omega
      have e1:decide ((k:Int) < (k:Int))=false:=decide_eq_false (by omega)
      have e2:decide (k < k)=false:=decide_eq_false (by omega)
      have c2:w1.cell? ⟨fa,j,none⟩=some (.int .i64 f):=by
       rw [World.ownsRow.cellAt HR1.out.fl j (by simp only; have:=HFL.out; omega)]
       simp only [List.getElem?_map]; rw [HFF.out]; rfl
      have hif:(j:Int) < (R.fl.length:Int):=by have:=HFL.out; omega
      simp only at x5
      have hwr:IntKind.i64.wrap ((-1:Int)+1)=0:=by rw [IntKind.wrap_i64]; omega
      have hw0:IntKind.i64.wrap 0=0:=by rw [IntKind.wrap_i64]; omega
      have hfd:decide ((0:Int) < f)=false:=decide_eq_false (by have:=HMF.out; have:=HMZ.out; omega)
      have HFZ:=HFIN.out w1.drew ((HB1.out).trans (((Below.refl _ _).drew).mono HB1.out.size))
      have fz:w1.frozen? ⟨ha,j,none⟩=false:=HR1.out.hist.free j
      rw [HMZ.out] at HFZ
      have HNX:=Lib.hid HFZ.2
      have HLB:=Lib.hid (HLA.out _ HFZ.2.1)
      clear HFZ hk hke
      rcases hsh with ⟨a1,a2,a3⟩ | ⟨gk,a1,a2⟩
      ·rw [a1,a3] at hcb HNX HLB
       clear a1 a2 a3
       go_wp2_with fail
       go_still_tail 16,(by kernel_rfl)
       change wpList _ _ _ _ _ w1.drew
       go_wp2_with fail
       refine HLB.out.mono ?_
       rintro e w3 ⟨rfl,hr3,hk3⟩
       have HX3:Hid (RigM w3 N r q pw g F n { R with hist:=CJ (j+1),S:=readS20 g F 0 S' j }∧KeptT RGT (Bd.of N) w w3):=⟨hr3,HNX.out.2.trans (hk3.sub drt_rgt)⟩
       clear hr3 hk3 HLB
       go_wp2
       go_roundw
       case rel=>exact ⟨j+1,readS20 g F 0 S' j,hlt,by go_num,HX3.out.1,HRD.out,HX3.out.2⟩
       case measure=>simp [intOf]; omega
      ·rw [a1] at hcb HNX HLB
       clear a1 a2
       go_wp2_with fail
       go_still_tail 16,(by kernel_rfl)
       change wpList _ _ _ _ _ w1.drew
       go_wp2_with fail
       refine HLB.out.mono ?_
       rintro e w3 ⟨rfl,hr3,hk3⟩
       have HX3:Hid (RigM w3 N r q pw g F n { R with hist:=CJ (j+1),S:=readS20 g F 0 S' j }∧KeptT RGT (Bd.of N) w w3):=⟨hr3,HNX.out.2.trans (hk3.sub drt_rgt)⟩
       clear hr3 hk3 HLB
       go_wp2
       go_roundw
       case rel=>exact ⟨j+1,readS20 g F 0 S' j,hlt,by go_num,HX3.out.1,HRD.out,HX3.out.2⟩
       case measure=>simp [intOf]; omega
  ·obtain rfl:j=n:=by omega
   have d1:decide ((j:Int) < (j:Int))=false:=decide_eq_false (by omega)
   have d2:decide (j < j)=false:=decide_eq_false (by omega)
   have HX:=Lib.hid (And.intro HM.out HK.out)
   clear hm HM0
   go_wp2
   go_ret
   exact ⟨rfl,⟨S',by rw [← HCA.out]; exact HX.out.1,HS.out.1,HS.out.2⟩,HX.out.2⟩
end
end Go.Proofs.YtggkengmlkhdiaaGreat
namespace Go.Proofs.YtggkengmlkhdiaaGreat
set_option linter.unusedVariables false
open Go.RowKit
theorem fine_start {g:Geo} {n:Nat} {F:List Flt} (hS:Small g n F) (hR:RunF F) (A0 A1:Option Addr) (c0 c1 m:Nat) (w:World) (hr:Rd w w.heap.size A0 (flatF F)):
  Calls Tryz.prog 23 #[.agg #[.int .i64 g.random,.int .i64 g.bands,.int .i64 g.tracks,.int .i64 g.sectors,.int .i64 g.overlap,.int .i64 (n:Int),.slice A0 F.length c0,.slice A1 m c1]] w fun e w'=>(∃ r q pw,e= .returned (.tuple #[.pointer (some ⟨r,0,none⟩),.int .i64 0])∧RigM w' w.heap.size r q pw g F n (R0 g F n))∧Below w.heap.size w w':=by
 refine (start_any g n F A0 A1 c0 c1 m w hS.vg hS.p hr hS.vf (by have:=hS.F40; omega)).mono ?_
 rintro e w' ⟨hb,hpo⟩
 rw [if_pos (fine0 hS hR).1] at hpo
 exact ⟨hpo,hb⟩
end Go.Proofs.YtggkengmlkhdiaaGreat
