/-
  WHAT IS SHOWN: what twins of tegulalaw49 returns: disks and disks of the reference with the same faults. Conditions: the faults are valid.
-/
import Derived.Test.YtaggiceejcegdaaGreatNc33
namespace Go.Proofs.YtaggiceejcegdaaGreat
set_option linter.unusedVariables false
open Go.RowKit
def PZ : Pow:=⟨false,false,0,0⟩
def newMS (fs : List (List Flt)) : MS:=⟨fs.map fun F=>⟨F,newS PZ,blankL gW,[]⟩,PZ⟩
theorem newMS_add (fs : List (List Flt)) (F : List Flt) : newMS (fs ++ [F]) = ⟨(newMS fs).ds ++ [⟨F,newS PZ,blankL gW,[]⟩],PZ⟩:=by
 unfold newMS; simp
def no0 : Nat → Bool:=fun _=>false
theorem ptrs_push (qs : List Nat) (q : Nat) : ptrs (qs ++ [q]) no0 = ptrs qs no0 ++ [.pointer (some ⟨q,0,none⟩)]:=by
 unfold ptrs no0
 rw [List.length_append,List.length_singleton,List.range_succ,List.map_append]
 congr 1
 ·apply List.map_congr_left
  intro i hi
  have:=List.mem_range.1 hi
  simp [List.getD,List.getElem?_append_left this]
 ·simp
structure TwM (w W : World) (pb rb pw rp : Nat) (c2 c3 vP vR : Value) (kP kR : Nat) (LP LR : List Value) (qs rqs : List Nat) (m mr : MS) : Prop where
 pair : W.ownsRow w.heap.size 36 4 (.slice (some ⟨pb,0,none⟩) 1 1) 1 [.pointer (some ⟨pw,0,none⟩),.pointer (some ⟨rp,0,none⟩),c2,c3]
 res : W.ownsRow w.heap.size 36 4 (.slice (some ⟨rb,0,none⟩) 1 1) 1 [.pointer none,.pointer none,.slice none 0 0,.slice none 0 0]
 P : W.ownsRow w.heap.size 52 1 vP kP LP
 R : W.ownsRow w.heap.size 54 1 vR kR LR
 many : ManyM W w.heap.size pw gW qs m
 ref : RManyM W w.heap.size rp gW rqs mr
 bel : Below w.heap.size w W
section
variable {w W W' : World} {pb rb pw rp : Nat} {c2 c3 vP vR : Value} {kP kR : Nat} {LP LR : List Value} {qs rqs : List Nat} {m mr : MS}
theorem TwM.below (h : TwM w W pb rb pw rp c2 c3 vP vR kP kR LP LR qs rqs m mr) (hb : Below W.heap.size W W') : TwM w W' pb rb pw rp c2 c3 vP vR kP kR LP LR qs rqs m mr:=
 ⟨own_kept h.pair (belKept0 (S:=fun _=>False) hb) (fun _ _ h=>h),own_kept h.res (belKept0 (S:=fun _=>False) hb) (fun _ _ h=>h),own_kept h.P (belKept0 (S:=fun _=>False) hb) (fun _ _ h=>h),own_kept h.R (belKept0 (S:=fun _=>False) hb) (fun _ _ h=>h),h.many.below0 hb,h.ref.below0 hb,h.bel.trans (hb.mono h.bel.size)⟩
theorem TwM.growP {v' : Value} {k' : Nat} {L' : List Value} (h : TwM w W pb rb pw rp c2 c3 vP vR kP kR LP LR qs rqs m mr) (ho : W'.ownsRow w.heap.size 52 1 v' k' L') (hg : W.grownBy W' vP.ownBlock) : TwM w W' pb rb pw rp c2 c3 v' vR k' kR L' LR qs rqs m mr:=by
 have kg:=grown_ty hg h.P
 exact ⟨h.pair.kept hg (own_apart h.pair h.P (by decide)),h.res.kept hg (own_apart h.res h.P (by decide)),ho,h.R.kept hg (own_apart h.R h.P (by decide)),h.many.types kg (by decide) (by decide) (by decide) (by decide),h.ref.types kg (by decide) (by decide) (by decide) (by decide),
  h.bel.grown hg h.bel.size (fun k hk=>own_low h.P hk)⟩
theorem TwM.growR {v' : Value} {k' : Nat} {L' : List Value} (h : TwM w W pb rb pw rp c2 c3 vP vR kP kR LP LR qs rqs m mr) (ho : W'.ownsRow w.heap.size 54 1 v' k' L') (hg : W.grownBy W' vR.ownBlock) : TwM w W' pb rb pw rp c2 c3 vP v' kP k' LP L' qs rqs m mr:=by
 have kg:=grown_ty hg h.R
 exact ⟨h.pair.kept hg (own_apart h.pair h.R (by decide)),h.res.kept hg (own_apart h.res h.R (by decide)),h.P.kept hg (own_apart h.P h.R (by decide)),ho,h.many.types kg (by decide) (by decide) (by decide) (by decide),h.ref.types kg (by decide) (by decide) (by decide) (by decide),
  h.bel.grown hg h.bel.size (fun k hk=>own_low h.R hk)⟩
theorem set_pair {w : World} {b base : Nat} {xs : List Value} (h : w.ownsRow base 36 4 (.slice (some ⟨b,0,none⟩) 1 1) 1 xs) (j : Nat) (v : Value) : KeptT [36] (Bd.of 0) w (w.setCell ⟨b,j,none⟩ v):=
 KeptT.of ((Kept.refl (fun k=>k = b) w).setCell (p:=⟨b,j,none⟩) (fun _=>rfl) _) (fun k _ e=>by have e' : k = b:=e; subst e'; exact ⟨⟨Nat.zero_le _,fun h=>h⟩,HasT.mem (IsT.own h) (by simp)⟩)
theorem TwM.set {c2' c3' : Value} (h : TwM w W pb rb pw rp c2 c3 vP vR kP kR LP LR qs rqs m mr) (hne : pb ≠ rb) (j : Nat) (v : Value) (e : [Value.pointer (some ⟨pw,0,none⟩),.pointer (some ⟨rp,0,none⟩),c2,c3].set j v = [Value.pointer (some ⟨pw,0,none⟩),.pointer (some ⟨rp,0,none⟩),c2',c3']) : TwM w (W.setCell ⟨pb,j,none⟩ v) pb rb pw rp c2' c3' vP vR kP kR LP LR qs rqs m mr:=by
 have ks:=set_pair h.pair j v
 have hst:=(World.ownsRow.stored h.pair j v).1
 rw [e] at hst
 exact ⟨hst,own_kept h.res ((Kept.refl (fun k=>k = pb) W).setCell (p:=⟨pb,j,none⟩) (fun _=>rfl) _) (fun k e=>by simp [Value.ownBlock] at e; subst e; exact fun h=>hne h.symm),own_ty h.P ks (by decide),own_ty h.R ks (by decide),h.many.types ks (by decide) (by decide) (by decide) (by decide),h.ref.types ks (by decide) (by decide) (by decide) (by decide),
  h.bel.setCell (p:=⟨pb,j,none⟩) (row_low h.pair) v⟩
end
theorem new_ptr {W : World} {b : Nat} {v : Value} (h : W.cell? ⟨b,0,none⟩ = some v) : ∀ j u,([v] : List Value)[j]? = some u → W.cell? ((⟨b,0,none⟩ : Addr).add j) = some u:=by
 intro j u hj
 match j,hj with
 | 0,hj=>simp at hj; subst hj; simpa [Addr.add] using h
 | j + 1,hj=>simp at hj
theorem relZ : RelP PZ ⟨false,false,0,0⟩:=by unfold RelP PZ; simp
def TwPost (w : World) (fs : List (List Flt)) (e : Ending) (w' : World) : Prop:=
 ∃ pw rp PA pc RA rc qs rqs,e = .returned (.tuple #[.agg #[.pointer (some ⟨pw,0,none⟩),.pointer (some ⟨rp,0,none⟩),.slice PA fs.length pc,.slice RA fs.length rc],.bool true]) ∧ w'.ownsRow w.heap.size 52 1 (.slice PA fs.length pc) fs.length (ptrs qs no0) ∧ w'.ownsRow w.heap.size 54 1 (.slice RA fs.length rc) fs.length (ptrs rqs no0) ∧
  ManyM w' w.heap.size pw gW qs (newMS fs) ∧ RManyM w' w.heap.size rp gW rqs (newMS fs) ∧ Below w.heap.size w w'
theorem info_pd : (Tryz.prog.info? 52).map (fun i=>(i.zero,i.size,i.bytes)) = some (some (.pointer none),1,8):=by kernel_rfl
theorem info_pr : (Tryz.prog.info? 54).map (fun i=>(i.zero,i.size,i.bytes)) = some (some (.pointer none),1,8):=by kernel_rfl
set_option maxRecDepth 100000 in
set_option maxHeartbeats 16000000 in
theorem twins_any (fs : List FL) (A : Option Addr) (c : Nat) (w : World) (h : FlsR w w.heap.size A fs) (hl : fs.length ≤ 6) (hv : ∀ x ∈ fs,x.F.length ≤ 40 ∧ validF x.F = true) :
  Calls Tryz.prog 11 #[.slice A fs.length c] w (TwPost w (fs.map FL.F)):=by
 obtain ⟨i0,hi0,hy0,hy1,hy2⟩:=info_parts info_pd
 obtain ⟨i1,hi1,hz0,hz1,hz2⟩:=info_parts info_pr
 have HH:=Lib.hid h
 have HV:=Lib.hid hv
 clear h hv
 go_enter Tryz.func11,Tryz.ntmps11
 go_wp2_with fail
 have hb0 : Below w.heap.size w (w.alloc (.cells #[.pointer none,.pointer none,.slice none 0 0,.slice none 0 0] 36)):=(Below.refl _ _).alloc (Nat.le_refl _) _
 have ores:=World.ownsRow_lit (base:=w.heap.size) (e:=36) (size:=4) w #[.pointer none,.pointer none,.slice none 0 0,.slice none 0 0] 1 (Nat.le_refl _) (by decide) rfl
 have HB0:=Lib.hid hb0
 have HRES:=Lib.hid ores
 clear hb0 ores
 refine (newpower_any _).mono ?_
 rintro e w1 ⟨pw,rfl,hp1,hb1⟩
 have HP1:=Lib.hid hp1
 have HB1:=Lib.hid (HB0.out.trans (hb1.mono HB0.out.size))
 have HR1:=Lib.hid (own_kept HRES.out (belKept0 (S:=fun _=>False) hb1) (fun _ _ h=>h))
 clear hp1 hb1
 go_wp2_with fail
 refine (rnewpower_any _).mono ?_
 rintro e w2 ⟨rp,rfl,hp2,hb2⟩
 have HP2:=Lib.hid (HP1.out.below0 hb2)
 have HQ2:=Lib.hid hp2
 have HB2:=Lib.hid (HB1.out.trans (hb2.mono HB1.out.size))
 have HR2:=Lib.hid (own_kept HR1.out (belKept0 (S:=fun _=>False) hb2) (fun _ _ h=>h))
 clear hp2 hb2
 have hbp : Below w2.heap.size w2 (w2.alloc (.cells #[.pointer (some ⟨pw,0,none⟩),.pointer (some ⟨rp,0,none⟩),.slice none 0 0,.slice none 0 0] 36)):=(Below.refl _ _).alloc (Nat.le_refl _) _
 have orow:=World.ownsRow_lit (base:=w.heap.size) (e:=36) (size:=4) w2 #[.pointer (some ⟨pw,0,none⟩),.pointer (some ⟨rp,0,none⟩),.slice none 0 0,.slice none 0 0] 1 HB2.out.size (by decide) rfl
 have hz12:=HB1.out.size
 have H0 : Hid (∃ (PA : Option Addr) (pc : Nat) (RA : Option Addr) (rc : Nat) (qs rqs : List Nat),TwM w (w2.alloc (.cells #[.pointer (some ⟨pw,0,none⟩),.pointer (some ⟨rp,0,none⟩),.slice none 0 0,.slice none 0 0] 36)) w2.heap.size w.heap.size pw rp (.slice PA 0 pc) (.slice RA 0 rc) (.slice PA 0 pc) (.slice RA 0 rc) 0 0 (ptrs qs no0) (ptrs rqs no0) qs rqs (newMS ((fs.map FL.F).take 0)) (newMS ((fs.map FL.F).take 0))):=by
  refine ⟨none,0,none,0,[],[],orow,own_kept HR2.out (belKept0 (S:=fun _=>False) hbp) (fun _ _ h=>h),World.ownsRow_nil _ _ _ _,World.ownsRow_nil _ _ _ _,?_,?_,HB2.out.trans (hbp.mono HB2.out.size)⟩
  ·exact (ManyM.none_ ⟨own_mono HP2.out.obj (by show w.heap.size ≤ (w.alloc _).heap.size; simp),fun h=>h⟩ HB2.out.size).below0 hbp
  ·exact (RManyM.none_ ⟨_,relZ,own_mono HQ2.out.obj hz12,fun h=>h⟩ HB2.out.size).below0 hbp
 have hpb : w2.heap.size ≠ w.heap.size:=by have:=HB2.out.size; have h1:=(IsT.own HR2.out).lt; omega
 clear hbp orow hz12
 go_wp2
 go_loopw [16] (fun i wr=>∃ k : Nat,k ≤ fs.length ∧ i = .int .i64 k ∧ Hid (∃ (PA : Option Addr) (pc : Nat) (RA : Option Addr) (rc : Nat) (qs rqs : List Nat),TwM w wr w2.heap.size w.heap.size pw rp (.slice PA k pc) (.slice RA k rc) (.slice PA k pc) (.slice RA k rc) k k (ptrs qs no0) (ptrs rqs no0) qs rqs (newMS ((fs.map FL.F).take k)) (newMS ((fs.map FL.F).take k)))) (fun i _=>fs.length - (intOf i).toNat)
 case atStart=>exact ⟨0,Nat.zero_le _,rfl,H0⟩
 case round=>
  obtain ⟨k,hk,rfl,HW⟩:=hrel
  by_cases hlt : k < fs.length
  ·obtain ⟨PA,pc,RA,rc,qs,rqs,hw⟩:=HW.out
   obtain ⟨g0,o0,rfl,hg0,j0,hr0⟩:=fl_at (HH.out.up hw.bel) hlt
   have hvv:=HV.out _ (List.getElem_mem hlt)
   have HTK : Hid ((fs.map FL.F).take (k + 1) = (fs.map FL.F).take k ++ [fs[k].F]):=by
    unfold Hid
    rw [List.take_succ_eq_append_getElem (by simpa using hlt)]; simp
   have p0:=(World.ownsRow.cellAt hw.pair 0 (by decide)).trans (show _ = some _ from rfl)
   have p1:=(World.ownsRow.cellAt hw.pair 1 (by decide)).trans (show _ = some _ from rfl)
   have hpl:=(IsT.own hw.pair).lt
   have HHW:=Lib.hid hw
   have HFR:=Lib.hid hr0
   have HVV:=Lib.hid hvv
   generalize fs[k] = x at *
   clear hw hr0 hvv HW
   go_upto_region 5 with (fail)
   go_region_held3 (fun W=>W.cell? ⟨w2.heap.size,0,none⟩ = some (.pointer (some ⟨pw,0,none⟩)))
    (first | assumption | (simp (maxDischargeDepth:=20) [World.cell?_alloc_some, *]; done))
    ((first
      | (go_at_call 44
         obtain ⟨B,hBt,hpB,hadd⟩:=HW3.out.many.new
         refine (dnew_yes x.F x.A x.c gW_ok HVV.out.2 ((HFR.out.below (Below.refl _ _).drew (Nat.le_refl _)).below hb3' (Nat.le_refl _) |>.more hb3'.size) (by have:=HVV.out.1; omega) hpB hBt).mono ?_
         rintro e w4 ⟨q,rfl,hd4,hb4⟩
         have HW4 : Hid (TwM w w4 w2.heap.size w.heap.size pw rp (.slice PA k pc) (.slice RA k rc) (.slice PA k pc) (.slice RA k rc) k k (ptrs qs no0) (ptrs rqs no0) (qs ++ [q]) rqs (newMS ((fs.map FL.F).take (k + 1))) (newMS ((fs.map FL.F).take k))):=by
          have hm4:=hadd _ _ _ _ _ _ hb4 hd4
          have h4:=HW3.out.below hb4
          rw [HTK.out,newMS_add]
          exact ⟨h4.pair,h4.res,h4.P,h4.R,hm4,h4.ref,h4.bel⟩
         have HFR4:=Lib.hid ((((HFR.out.below (Below.refl _ _).drew (Nat.le_refl _)).below hb3' (Nat.le_refl _)).more hb3'.size).below hb4 (Nat.le_refl _))
         have hb4':=hb4.size
         have q0':=(World.ownsRow.cellAt HW4.out.pair 0 (by decide)).trans (show _ = some _ from rfl)
         clear hd4 hb4 hadd hpB)
      | (go_at_call 45
         refine (wgeo_any _).mono ?_
         rintro e w3 ⟨rfl,hb3⟩
         have HW3:=Lib.hid ((HHW.out.below (Below.refl _ _).drew).below hb3)
         have q0:=(World.ownsRow.cellAt HW3.out.pair 0 (by decide)).trans (show _ = some _ from rfl)
         have hb3':=hb3
         clear hb3)))
   have q1:=(World.ownsRow.cellAt HW4.out.pair 1 (by decide)).trans (show _ = some _ from rfl)
   have hpl4:=(IsT.own HW4.out.pair).lt
   clear q0 q0' p0 p1
   go_upto_region 6 with (fail)
   go_region_held3 (fun W=>W.cell? ⟨w2.heap.size,1,none⟩ = some (.pointer (some ⟨rp,0,none⟩)))
    (first | assumption | (simp (maxDischargeDepth:=20) [World.cell?_alloc_some, *]; done))
    ((first
      | (go_at_call 46
         obtain ⟨B,R,hBt,hrel,hpB,hadd⟩:=HW5.out.ref.new
         refine (rdnew_yes x.F x.A x.c gW_ok HVV.out.2 ((HFR4.out.below (Below.refl _ _).drew (by omega)).below hb5' (by show _ ≤ w4.heap.size; omega) |>.more (by have:=hb5'.size; have h9 : w4.drew.heap.size = w4.heap.size:=rfl; omega)) (by have:=HVV.out.1; omega) hpB hrel hBt).mono ?_
         rintro e w6 ⟨q5,rfl,hd6,hb6⟩
         have HT : Hid (TwM w w6 w2.heap.size w.heap.size pw rp (.slice PA k pc) (.slice RA k rc) (.slice PA k pc) (.slice RA k rc) k k (ptrs qs no0) (ptrs rqs no0) (qs ++ [q]) (rqs ++ [q5]) (newMS ((fs.map FL.F).take (k + 1))) (newMS ((fs.map FL.F).take (k + 1)))):=by
          have hm6:=hadd _ _ _ _ _ _ hb6 hd6
          have h6:=HW5.out.below hb6
          rw [HTK.out,newMS_add] at h6 ⊢
          exact ⟨h6.pair,h6.res,h6.P,h6.R,h6.many,hm6,h6.bel⟩
         have q1':=(World.ownsRow.cellAt HT.out.pair 1 (by decide)).trans (show _ = some _ from rfl)
         clear hd6 hb6 hadd hpB)
      | (go_at_call 45
         refine (wgeo_any _).mono ?_
         rintro e w5 ⟨rfl,hb5⟩
         have HW5:=Lib.hid ((HW4.out.below (Below.refl _ _).drew).below hb5)
         have q1'':=(World.ownsRow.cellAt HW5.out.pair 1 (by decide)).trans (show _ = some _ from rfl)
         have hb5':=hb5
         clear hb5)))
   clear q1 q1' q1'' HW4 HW5 hb5' hb4' hb3' hpl4 hpl HW3 HHW HFR HFR4
   (try clear x2 x3 y2 y3 z2 z3 f2 f3)
   have x2:=(World.ownsRow.cellAt HT.out.pair 2 (by decide)).trans (show _ = some _ from rfl)
   have x3:=(World.ownsRow.cellAt HT.out.pair 3 (by decide)).trans (show _ = some _ from rfl)
   have y2:=fun o=>(World.ownsRow.cellAt (TwM.below HT.out ((Below.refl _ _).alloc (Nat.le_refl _) o)).pair 2 (by decide)).trans (show _ = some _ from rfl)
   have y3:=fun o=>(World.ownsRow.cellAt (TwM.below HT.out ((Below.refl _ _).alloc (Nat.le_refl _) o)).pair 3 (by decide)).trans (show _ = some _ from rfl)
   have z2:=fun o o'=>(World.ownsRow.cellAt (TwM.below HT.out (((Below.refl _ _).alloc (Nat.le_refl _) o).alloc (by simp) o')).pair 2 (by decide)).trans (show _ = some _ from rfl)
   have z3:=fun o o'=>(World.ownsRow.cellAt (TwM.below HT.out (((Below.refl _ _).alloc (Nat.le_refl _) o).alloc (by simp) o')).pair 3 (by decide)).trans (show _ = some _ from rfl)
   have f2:=HT.out.pair.frozenAt 2
   have f3:=HT.out.pair.frozenAt 3
   go_upto_region 9 with (fail)
   have HPL : Hid (∀ i,(Value.slice PA k pc).ownBlock = some i → i < w6.heap.size):=by
    unfold Hid; intro i e
    rcases HT.out.P.2 with ⟨e2,_⟩ | ⟨g,cap,cur,e2,_,h4,_⟩
    ·rw [e2] at e; cases e
    ·rw [e2] at e
     obtain rfl : g = i:=by simpa [Value.ownBlock] using e
     exact lt_of_block h4
   go_region_law (first
    | (refine qstep_append_own_at ?a1 (.tmp 48) (.tmp 50) 33 ?a2 w.heap.size 52 i0 (.pointer none) 1 8 ?a3 hi0 ?a4 ?a5 ?a6 ?a7 ?a8 (.slice PA k pc) k (ptrs qs no0) ?a9 ?b0 ⟨w6.heap.size,0,none⟩ 1 1 [.pointer (some ⟨q,0,none⟩)] ?x1 ?x2 ?b1 ?b5 ?b2 ?b3 ?b4 ?_
       case a1=>rfl
       case a2=>rfl
       case a3=>exact Tryz.underlying33
       case a4=>exact hy0
       case a5=>exact hy1
       case a6=>exact hy2
       case a7=>rfl
       case a8=>decide
       case a9=>rfl
       case x1=>rfl
       case x2=>rfl
       case b0=>
        refine (TwM.below HT.out ?_).P
        first | exact Below.refl _ _ | exact (Below.refl _ _).drew | exact (Below.refl _ _).alloc (Nat.le_refl _) _ | exact ((Below.refl _ _).alloc (Nat.le_refl _) _).drew | exact ((Below.refl _ _).alloc (Nat.le_refl _) _).alloc (by simp) _ | exact (((Below.refl _ _).alloc (Nat.le_refl _) _).alloc (by simp) _).drew
       case b1=>first | exact new_ptr (by simp) | exact new_ptr hk0 | exact new_ptr hk1
       case b5=>intro u hu; simp at hu; subst hu; rfl
       case b2=>unfold maxLen; omega
       case b3=>omega
       case b4=>have:=HT.out.bel.size; first | omega | (simp; omega)
       intro v' w9 hown hgrow _
       obtain ⟨A8,c8,hv⟩:=own_form hown
       subst hv
       have hT2 : TwM w w9 w2.heap.size w.heap.size pw rp (.slice PA k pc) (.slice RA k rc) (.slice A8 (k + 1) c8) (.slice RA k rc) (k + 1) k (ptrs qs no0 ++ [.pointer (some ⟨q,0,none⟩)]) (ptrs rqs no0) (qs ++ [q]) (rqs ++ [q5]) (newMS ((fs.map FL.F).take (k + 1))) (newMS ((fs.map FL.F).take (k + 1))):=by
        refine TwM.growP (TwM.below HT.out ?_) hown hgrow
        first | exact Below.refl _ _ | exact (Below.refl _ _).drew | exact (Below.refl _ _).alloc (Nat.le_refl _) _ | exact ((Below.refl _ _).alloc (Nat.le_refl _) _).drew | exact ((Below.refl _ _).alloc (Nat.le_refl _) _).alloc (by simp) _ | exact (((Below.refl _ _).alloc (Nat.le_refl _) _).alloc (by simp) _).drew
       have hpo:=fun i (h : (Value.slice PA k pc).ownBlock = some i)=>HPL.out i h
       try
        have hk0 : w9.cell? ⟨w6.heap.size,0,none⟩ = some (.pointer (some ⟨q5,0,none⟩)):=by
         refine (World.cell?_of_block (hgrow.block w6.heap.size ?_ (fun e=>by have:=hpo _ e.symm; omega))).trans ?_
         ·first | (simp; done) | (simp; omega)
         ·simp; done
       try
        have hk1 : w9.cell? ⟨w6.heap.size + 1,0,none⟩ = some (.pointer (some ⟨q5,0,none⟩)):=by
         refine (World.cell?_of_block (hgrow.block (w6.heap.size + 1) ?_ (fun e=>by have:=hpo _ e.symm; omega))).trans ?_
         ·first | (simp; done) | (simp; omega)
         ·simp; done
       clear hpo
       clear HT
       have HT:=Lib.hid hT2
       clear hT2 hown hgrow
       (try clear x2 x3 y2 y3 z2 z3 f2 f3)
       have x2:=(World.ownsRow.cellAt HT.out.pair 2 (by decide)).trans (show _ = some _ from rfl)
       have x3:=(World.ownsRow.cellAt HT.out.pair 3 (by decide)).trans (show _ = some _ from rfl)
       have y2:=fun o=>(World.ownsRow.cellAt (TwM.below HT.out ((Below.refl _ _).alloc (Nat.le_refl _) o)).pair 2 (by decide)).trans (show _ = some _ from rfl)
       have y3:=fun o=>(World.ownsRow.cellAt (TwM.below HT.out ((Below.refl _ _).alloc (Nat.le_refl _) o)).pair 3 (by decide)).trans (show _ = some _ from rfl)
       have z2:=fun o o'=>(World.ownsRow.cellAt (TwM.below HT.out (((Below.refl _ _).alloc (Nat.le_refl _) o).alloc (by simp) o')).pair 2 (by decide)).trans (show _ = some _ from rfl)
       have z3:=fun o o'=>(World.ownsRow.cellAt (TwM.below HT.out (((Below.refl _ _).alloc (Nat.le_refl _) o).alloc (by simp) o')).pair 3 (by decide)).trans (show _ = some _ from rfl)
       have f2:=HT.out.pair.frozenAt 2
       have f3:=HT.out.pair.frozenAt 3)
    | (refine qstep_append_own_at ?a1 (.tmp 48) (.tmp 50) 33 ?a2 w.heap.size 52 i0 (.pointer none) 1 8 ?a3 hi0 ?a4 ?a5 ?a6 ?a7 ?a8 (.slice PA k pc) k (ptrs qs no0) ?a9 ?b0 ⟨(w6.heap.size + 1),0,none⟩ 1 1 [.pointer (some ⟨q,0,none⟩)] ?x1 ?x2 ?b1 ?b5 ?b2 ?b3 ?b4 ?_
       case a1=>rfl
       case a2=>rfl
       case a3=>exact Tryz.underlying33
       case a4=>exact hy0
       case a5=>exact hy1
       case a6=>exact hy2
       case a7=>rfl
       case a8=>decide
       case a9=>rfl
       case x1=>rfl
       case x2=>rfl
       case b0=>
        refine (TwM.below HT.out ?_).P
        first | exact Below.refl _ _ | exact (Below.refl _ _).drew | exact (Below.refl _ _).alloc (Nat.le_refl _) _ | exact ((Below.refl _ _).alloc (Nat.le_refl _) _).drew | exact ((Below.refl _ _).alloc (Nat.le_refl _) _).alloc (by simp) _ | exact (((Below.refl _ _).alloc (Nat.le_refl _) _).alloc (by simp) _).drew
       case b1=>first | exact new_ptr (by simp) | exact new_ptr hk0 | exact new_ptr hk1
       case b5=>intro u hu; simp at hu; subst hu; rfl
       case b2=>unfold maxLen; omega
       case b3=>omega
       case b4=>have:=HT.out.bel.size; first | omega | (simp; omega)
       intro v' w9 hown hgrow _
       obtain ⟨A8,c8,hv⟩:=own_form hown
       subst hv
       have hT2 : TwM w w9 w2.heap.size w.heap.size pw rp (.slice PA k pc) (.slice RA k rc) (.slice A8 (k + 1) c8) (.slice RA k rc) (k + 1) k (ptrs qs no0 ++ [.pointer (some ⟨q,0,none⟩)]) (ptrs rqs no0) (qs ++ [q]) (rqs ++ [q5]) (newMS ((fs.map FL.F).take (k + 1))) (newMS ((fs.map FL.F).take (k + 1))):=by
        refine TwM.growP (TwM.below HT.out ?_) hown hgrow
        first | exact Below.refl _ _ | exact (Below.refl _ _).drew | exact (Below.refl _ _).alloc (Nat.le_refl _) _ | exact ((Below.refl _ _).alloc (Nat.le_refl _) _).drew | exact ((Below.refl _ _).alloc (Nat.le_refl _) _).alloc (by simp) _ | exact (((Below.refl _ _).alloc (Nat.le_refl _) _).alloc (by simp) _).drew
       have hpo:=fun i (h : (Value.slice PA k pc).ownBlock = some i)=>HPL.out i h
       try
        have hk0 : w9.cell? ⟨w6.heap.size,0,none⟩ = some (.pointer (some ⟨q5,0,none⟩)):=by
         refine (World.cell?_of_block (hgrow.block w6.heap.size ?_ (fun e=>by have:=hpo _ e.symm; omega))).trans ?_
         ·first | (simp; done) | (simp; omega)
         ·simp; done
       try
        have hk1 : w9.cell? ⟨w6.heap.size + 1,0,none⟩ = some (.pointer (some ⟨q5,0,none⟩)):=by
         refine (World.cell?_of_block (hgrow.block (w6.heap.size + 1) ?_ (fun e=>by have:=hpo _ e.symm; omega))).trans ?_
         ·first | (simp; done) | (simp; omega)
         ·simp; done
       clear hpo
       clear HT
       have HT:=Lib.hid hT2
       clear hT2 hown hgrow
       (try clear x2 x3 y2 y3 z2 z3 f2 f3)
       have x2:=(World.ownsRow.cellAt HT.out.pair 2 (by decide)).trans (show _ = some _ from rfl)
       have x3:=(World.ownsRow.cellAt HT.out.pair 3 (by decide)).trans (show _ = some _ from rfl)
       have y2:=fun o=>(World.ownsRow.cellAt (TwM.below HT.out ((Below.refl _ _).alloc (Nat.le_refl _) o)).pair 2 (by decide)).trans (show _ = some _ from rfl)
       have y3:=fun o=>(World.ownsRow.cellAt (TwM.below HT.out ((Below.refl _ _).alloc (Nat.le_refl _) o)).pair 3 (by decide)).trans (show _ = some _ from rfl)
       have z2:=fun o o'=>(World.ownsRow.cellAt (TwM.below HT.out (((Below.refl _ _).alloc (Nat.le_refl _) o).alloc (by simp) o')).pair 2 (by decide)).trans (show _ = some _ from rfl)
       have z3:=fun o o'=>(World.ownsRow.cellAt (TwM.below HT.out (((Below.refl _ _).alloc (Nat.le_refl _) o).alloc (by simp) o')).pair 3 (by decide)).trans (show _ = some _ from rfl)
       have f2:=HT.out.pair.frozenAt 2
       have f3:=HT.out.pair.frozenAt 3)
    | (refine qstep_append_own_at ?a1 (.tmp 53) (.tmp 55) 34 ?a2 w.heap.size 54 i1 (.pointer none) 1 8 ?a3 hi1 ?a4 ?a5 ?a6 ?a7 ?a8 (.slice RA k rc) k (ptrs rqs no0) ?a9 ?b0 ⟨w9.heap.size,0,none⟩ 1 1 [.pointer (some ⟨q5,0,none⟩)] ?x1 ?x2 ?b1 ?b5 ?b2 ?b3 ?b4 ?_
       case a1=>rfl
       case a2=>rfl
       case a3=>exact Tryz.underlying34
       case a4=>exact hz0
       case a5=>exact hz1
       case a6=>exact hz2
       case a7=>rfl
       case a8=>decide
       case a9=>rfl
       case x1=>rfl
       case x2=>rfl
       case b0=>
        refine (TwM.below HT.out ?_).R
        first | exact Below.refl _ _ | exact (Below.refl _ _).drew | exact (Below.refl _ _).alloc (Nat.le_refl _) _ | exact ((Below.refl _ _).alloc (Nat.le_refl _) _).drew | exact ((Below.refl _ _).alloc (Nat.le_refl _) _).alloc (by simp) _ | exact (((Below.refl _ _).alloc (Nat.le_refl _) _).alloc (by simp) _).drew
       case b1=>first | exact new_ptr (by simp) | exact new_ptr hk0 | exact new_ptr hk1
       case b5=>intro u hu; simp at hu; subst hu; rfl
       case b2=>unfold maxLen; omega
       case b3=>omega
       case b4=>have:=HT.out.bel.size; first | omega | (simp; omega)
       intro v' w10 hown hgrow _
       obtain ⟨A7,c7,hv⟩:=own_form hown
       subst hv
       have hT2 : TwM w w10 w2.heap.size w.heap.size pw rp (.slice PA k pc) (.slice RA k rc) (.slice A8 (k + 1) c8) (.slice A7 (k + 1) c7) (k + 1) (k + 1) (ptrs qs no0 ++ [.pointer (some ⟨q,0,none⟩)]) (ptrs rqs no0 ++ [.pointer (some ⟨q5,0,none⟩)]) (qs ++ [q]) (rqs ++ [q5]) (newMS ((fs.map FL.F).take (k + 1))) (newMS ((fs.map FL.F).take (k + 1))):=by
        refine TwM.growR (TwM.below HT.out ?_) hown hgrow
        first | exact Below.refl _ _ | exact (Below.refl _ _).drew | exact (Below.refl _ _).alloc (Nat.le_refl _) _ | exact ((Below.refl _ _).alloc (Nat.le_refl _) _).drew | exact ((Below.refl _ _).alloc (Nat.le_refl _) _).alloc (by simp) _ | exact (((Below.refl _ _).alloc (Nat.le_refl _) _).alloc (by simp) _).drew
       clear HT
       have HT:=Lib.hid hT2
       clear hT2 hown hgrow
       (try clear x2 x3 y2 y3 z2 z3 f2 f3)
       have x2:=(World.ownsRow.cellAt HT.out.pair 2 (by decide)).trans (show _ = some _ from rfl)
       have x3:=(World.ownsRow.cellAt HT.out.pair 3 (by decide)).trans (show _ = some _ from rfl)
       have y2:=fun o=>(World.ownsRow.cellAt (TwM.below HT.out ((Below.refl _ _).alloc (Nat.le_refl _) o)).pair 2 (by decide)).trans (show _ = some _ from rfl)
       have y3:=fun o=>(World.ownsRow.cellAt (TwM.below HT.out ((Below.refl _ _).alloc (Nat.le_refl _) o)).pair 3 (by decide)).trans (show _ = some _ from rfl)
       have z2:=fun o o'=>(World.ownsRow.cellAt (TwM.below HT.out (((Below.refl _ _).alloc (Nat.le_refl _) o).alloc (by simp) o')).pair 2 (by decide)).trans (show _ = some _ from rfl)
       have z3:=fun o o'=>(World.ownsRow.cellAt (TwM.below HT.out (((Below.refl _ _).alloc (Nat.le_refl _) o).alloc (by simp) o')).pair 3 (by decide)).trans (show _ = some _ from rfl)
       have f2:=HT.out.pair.frozenAt 2
       have f3:=HT.out.pair.frozenAt 3)
    | (refine qstep_append_own_at ?a1 (.tmp 53) (.tmp 55) 34 ?a2 w.heap.size 54 i1 (.pointer none) 1 8 ?a3 hi1 ?a4 ?a5 ?a6 ?a7 ?a8 (.slice RA k rc) k (ptrs rqs no0) ?a9 ?b0 ⟨w6.heap.size,0,none⟩ 1 1 [.pointer (some ⟨q5,0,none⟩)] ?x1 ?x2 ?b1 ?b5 ?b2 ?b3 ?b4 ?_
       case a1=>rfl
       case a2=>rfl
       case a3=>exact Tryz.underlying34
       case a4=>exact hz0
       case a5=>exact hz1
       case a6=>exact hz2
       case a7=>rfl
       case a8=>decide
       case a9=>rfl
       case x1=>rfl
       case x2=>rfl
       case b0=>
        refine (TwM.below HT.out ?_).R
        first | exact Below.refl _ _ | exact (Below.refl _ _).drew | exact (Below.refl _ _).alloc (Nat.le_refl _) _ | exact ((Below.refl _ _).alloc (Nat.le_refl _) _).drew | exact ((Below.refl _ _).alloc (Nat.le_refl _) _).alloc (by simp) _ | exact (((Below.refl _ _).alloc (Nat.le_refl _) _).alloc (by simp) _).drew
       case b1=>first | exact new_ptr (by simp) | exact new_ptr hk0 | exact new_ptr hk1
       case b5=>intro u hu; simp at hu; subst hu; rfl
       case b2=>unfold maxLen; omega
       case b3=>omega
       case b4=>have:=HT.out.bel.size; first | omega | (simp; omega)
       intro v' w10 hown hgrow _
       obtain ⟨A7,c7,hv⟩:=own_form hown
       subst hv
       have hT2 : TwM w w10 w2.heap.size w.heap.size pw rp (.slice PA k pc) (.slice RA k rc) (.slice A8 (k + 1) c8) (.slice A7 (k + 1) c7) (k + 1) (k + 1) (ptrs qs no0 ++ [.pointer (some ⟨q,0,none⟩)]) (ptrs rqs no0 ++ [.pointer (some ⟨q5,0,none⟩)]) (qs ++ [q]) (rqs ++ [q5]) (newMS ((fs.map FL.F).take (k + 1))) (newMS ((fs.map FL.F).take (k + 1))):=by
        refine TwM.growR (TwM.below HT.out ?_) hown hgrow
        first | exact Below.refl _ _ | exact (Below.refl _ _).drew | exact (Below.refl _ _).alloc (Nat.le_refl _) _ | exact ((Below.refl _ _).alloc (Nat.le_refl _) _).drew | exact ((Below.refl _ _).alloc (Nat.le_refl _) _).alloc (by simp) _ | exact (((Below.refl _ _).alloc (Nat.le_refl _) _).alloc (by simp) _).drew
       clear HT
       have HT:=Lib.hid hT2
       clear hT2 hown hgrow
       (try clear x2 x3 y2 y3 z2 z3 f2 f3)
       have x2:=(World.ownsRow.cellAt HT.out.pair 2 (by decide)).trans (show _ = some _ from rfl)
       have x3:=(World.ownsRow.cellAt HT.out.pair 3 (by decide)).trans (show _ = some _ from rfl)
       have y2:=fun o=>(World.ownsRow.cellAt (TwM.below HT.out ((Below.refl _ _).alloc (Nat.le_refl _) o)).pair 2 (by decide)).trans (show _ = some _ from rfl)
       have y3:=fun o=>(World.ownsRow.cellAt (TwM.below HT.out ((Below.refl _ _).alloc (Nat.le_refl _) o)).pair 3 (by decide)).trans (show _ = some _ from rfl)
       have z2:=fun o o'=>(World.ownsRow.cellAt (TwM.below HT.out (((Below.refl _ _).alloc (Nat.le_refl _) o).alloc (by simp) o')).pair 2 (by decide)).trans (show _ = some _ from rfl)
       have z3:=fun o o'=>(World.ownsRow.cellAt (TwM.below HT.out (((Below.refl _ _).alloc (Nat.le_refl _) o).alloc (by simp) o')).pair 3 (by decide)).trans (show _ = some _ from rfl)
       have f2:=HT.out.pair.frozenAt 2
       have f3:=HT.out.pair.frozenAt 3)
    | (refine qstep_append_own_at ?a1 (.tmp 53) (.tmp 55) 34 ?a2 w.heap.size 54 i1 (.pointer none) 1 8 ?a3 hi1 ?a4 ?a5 ?a6 ?a7 ?a8 (.slice RA k rc) k (ptrs rqs no0) ?a9 ?b0 ⟨(w6.heap.size + 1),0,none⟩ 1 1 [.pointer (some ⟨q5,0,none⟩)] ?x1 ?x2 ?b1 ?b5 ?b2 ?b3 ?b4 ?_
       case a1=>rfl
       case a2=>rfl
       case a3=>exact Tryz.underlying34
       case a4=>exact hz0
       case a5=>exact hz1
       case a6=>exact hz2
       case a7=>rfl
       case a8=>decide
       case a9=>rfl
       case x1=>rfl
       case x2=>rfl
       case b0=>
        refine (TwM.below HT.out ?_).R
        first | exact Below.refl _ _ | exact (Below.refl _ _).drew | exact (Below.refl _ _).alloc (Nat.le_refl _) _ | exact ((Below.refl _ _).alloc (Nat.le_refl _) _).drew | exact ((Below.refl _ _).alloc (Nat.le_refl _) _).alloc (by simp) _ | exact (((Below.refl _ _).alloc (Nat.le_refl _) _).alloc (by simp) _).drew
       case b1=>first | exact new_ptr (by simp) | exact new_ptr hk0 | exact new_ptr hk1
       case b5=>intro u hu; simp at hu; subst hu; rfl
       case b2=>unfold maxLen; omega
       case b3=>omega
       case b4=>have:=HT.out.bel.size; first | omega | (simp; omega)
       intro v' w10 hown hgrow _
       obtain ⟨A7,c7,hv⟩:=own_form hown
       subst hv
       have hT2 : TwM w w10 w2.heap.size w.heap.size pw rp (.slice PA k pc) (.slice RA k rc) (.slice A8 (k + 1) c8) (.slice A7 (k + 1) c7) (k + 1) (k + 1) (ptrs qs no0 ++ [.pointer (some ⟨q,0,none⟩)]) (ptrs rqs no0 ++ [.pointer (some ⟨q5,0,none⟩)]) (qs ++ [q]) (rqs ++ [q5]) (newMS ((fs.map FL.F).take (k + 1))) (newMS ((fs.map FL.F).take (k + 1))):=by
        refine TwM.growR (TwM.below HT.out ?_) hown hgrow
        first | exact Below.refl _ _ | exact (Below.refl _ _).drew | exact (Below.refl _ _).alloc (Nat.le_refl _) _ | exact ((Below.refl _ _).alloc (Nat.le_refl _) _).drew | exact ((Below.refl _ _).alloc (Nat.le_refl _) _).alloc (by simp) _ | exact (((Below.refl _ _).alloc (Nat.le_refl _) _).alloc (by simp) _).drew
       clear HT
       have HT:=Lib.hid hT2
       clear hT2 hown hgrow
       (try clear x2 x3 y2 y3 z2 z3 f2 f3)
       have x2:=(World.ownsRow.cellAt HT.out.pair 2 (by decide)).trans (show _ = some _ from rfl)
       have x3:=(World.ownsRow.cellAt HT.out.pair 3 (by decide)).trans (show _ = some _ from rfl)
       have y2:=fun o=>(World.ownsRow.cellAt (TwM.below HT.out ((Below.refl _ _).alloc (Nat.le_refl _) o)).pair 2 (by decide)).trans (show _ = some _ from rfl)
       have y3:=fun o=>(World.ownsRow.cellAt (TwM.below HT.out ((Below.refl _ _).alloc (Nat.le_refl _) o)).pair 3 (by decide)).trans (show _ = some _ from rfl)
       have z2:=fun o o'=>(World.ownsRow.cellAt (TwM.below HT.out (((Below.refl _ _).alloc (Nat.le_refl _) o).alloc (by simp) o')).pair 2 (by decide)).trans (show _ = some _ from rfl)
       have z3:=fun o o'=>(World.ownsRow.cellAt (TwM.below HT.out (((Below.refl _ _).alloc (Nat.le_refl _) o).alloc (by simp) o')).pair 3 (by decide)).trans (show _ = some _ from rfl)
       have f2:=HT.out.pair.frozenAt 2
       have f3:=HT.out.pair.frozenAt 3))
   all_goals
    have HN9 : Hid (TwM w ((w10.setCell ⟨w2.heap.size,2,none⟩ (.slice A8 (k + 1) c8)).setCell ⟨w2.heap.size,3,none⟩ (.slice A7 (k + 1) c7)) w2.heap.size w.heap.size pw rp (.slice A8 (k + 1) c8) (.slice A7 (k + 1) c7) (.slice A8 (k + 1) c8) (.slice A7 (k + 1) c7) (k + 1) (k + 1) (ptrs (qs ++ [q]) no0) (ptrs (rqs ++ [q5]) no0) (qs ++ [q]) (rqs ++ [q5]) (newMS ((fs.map FL.F).take (k + 1))) (newMS ((fs.map FL.F).take (k + 1)))):=by
     have h1:=(HT.out.set (c2':=.slice A8 (k + 1) c8) (c3':=.slice RA k rc) hpb 2 (.slice A8 (k + 1) c8) rfl).set (c2':=.slice A8 (k + 1) c8) (c3':=.slice A7 (k + 1) c7) hpb 3 (.slice A7 (k + 1) c7) rfl
     rw [← ptrs_push,← ptrs_push] at h1
     exact h1
    clear HT x2 x3 y2 y3 z2 z3 f2 f3
    go_wp2
    go_roundw
    case rel=>exact ⟨k + 1,hlt,by go_num,⟨A8,c8,A7,c7,_,_,HN9.out⟩⟩
    case measure=>simp [intOf]; omega
  ·obtain rfl : k = fs.length:=by omega
   obtain ⟨PA,pc,RA,rc,qs,rqs,hw⟩:=HW.out
   rw [List.take_of_length_le (by simp)] at hw
   have HHW:=Lib.hid hw
   have p0:=(World.ownsRow.cellAt hw.pair 0 (by decide)).trans (show _ = some _ from rfl)
   have p1:=(World.ownsRow.cellAt hw.pair 1 (by decide)).trans (show _ = some _ from rfl)
   have p2:=(World.ownsRow.cellAt hw.pair 2 (by decide)).trans (show _ = some _ from rfl)
   have p3:=(World.ownsRow.cellAt hw.pair 3 (by decide)).trans (show _ = some _ from rfl)
   have r0:=(World.ownsRow.cellAt hw.res 0 (by decide)).trans (show _ = some _ from rfl)
   have r1:=(World.ownsRow.cellAt hw.res 1 (by decide)).trans (show _ = some _ from rfl)
   have r2:=(World.ownsRow.cellAt hw.res 2 (by decide)).trans (show _ = some _ from rfl)
   have r3:=(World.ownsRow.cellAt hw.res 3 (by decide)).trans (show _ = some _ from rfl)
   have f0:=hw.res.frozenAt 0
   have f1:=hw.res.frozenAt 1
   have f2:=hw.res.frozenAt 2
   have f3:=hw.res.frozenAt 3
   have HD : Hid (TwPost w (fs.map FL.F) (.returned (.tuple #[.agg #[.pointer (some ⟨pw,0,none⟩),.pointer (some ⟨rp,0,none⟩),.slice PA fs.length pc,.slice RA fs.length rc],.bool true])) ((((wr.setCell ⟨w.heap.size,0,none⟩ (.pointer (some ⟨pw,0,none⟩))).setCell ⟨w.heap.size,1,none⟩ (.pointer (some ⟨rp,0,none⟩))).setCell ⟨w.heap.size,2,none⟩ (.slice PA fs.length pc)).setCell ⟨w.heap.size,3,none⟩ (.slice RA fs.length rc))):=by
    have s0:=(World.ownsRow.stored hw.res 0 (.pointer (some ⟨pw,0,none⟩))).1
    have s1:=(World.ownsRow.stored s0 1 (.pointer (some ⟨rp,0,none⟩))).1
    have s2:=(World.ownsRow.stored s1 2 (.slice PA fs.length pc)).1
    have ks:=(((set_pair hw.res 0 (.pointer (some ⟨pw,0,none⟩))).trans (set_pair s0 1 (.pointer (some ⟨rp,0,none⟩)))).trans (set_pair s1 2 (.slice PA fs.length pc))).trans (set_pair s2 3 (.slice RA fs.length rc))
    have hl9 : (fs.map FL.F).length = fs.length:=by simp
    unfold Hid TwPost
    rw [hl9]
    exact ⟨pw,rp,PA,pc,RA,rc,qs,rqs,rfl,own_ty hw.P ks (by decide),own_ty hw.R ks (by decide),hw.many.types ks (by decide) (by decide) (by decide) (by decide),hw.ref.types ks (by decide) (by decide) (by decide) (by decide),
     (((hw.bel.setCell (p:=⟨w.heap.size,0,none⟩) (Nat.le_refl _) _).setCell (p:=⟨w.heap.size,1,none⟩) (Nat.le_refl _) _).setCell (p:=⟨w.heap.size,2,none⟩) (Nat.le_refl _) _).setCell (p:=⟨w.heap.size,3,none⟩) (Nat.le_refl _) _⟩
   clear hw HW
   go_wp2
   exact bodyPost_ret (v:=.tuple #[.agg #[.pointer (some ⟨pw,0,none⟩),.pointer (some ⟨rp,0,none⟩),.slice PA fs.length pc,.slice RA fs.length rc],.bool true]) (by simp [results,Tryz.results11,go_sem, *]) rfl HD.out
end Go.Proofs.YtaggiceejcegdaaGreat
