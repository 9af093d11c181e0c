/-
  WHAT IS SHOWN: DriveCleans and what it needs. Conditions: none.
-/
import Derived.Test.YtggkengmlkhdiaaGreatM46
namespace Go.Proofs.YtggkengmlkhdiaaGreat
set_option linter.unusedVariables false
open Go.RowKit
section
variable {w w' : World} {B : Bd} {p q pw : Nat} {g : Geo} {F : List Flt} {key : Int} {S : ST} {ea ec : Nat} {BA : Option Addr} {bc : Nat}
set_option maxRecDepth 100000
set_option maxHeartbeats 4000000
theorem info20_any (hn : S.v.bs.length ≤ 100000) (h : Drv w B p q pw g F key S ea ec BA bc) : Calls Tryz.prog 18 #[.pointer (some ⟨p,0,none⟩)] w fun e w'=>∃ A c,e = .returned (.slice A S.v.bs.length c) ∧ w'.ownsRow w.heap.size 76 4 (.slice A S.v.bs.length c) S.v.bs.length (V.flat S.v.bs) ∧ Below w.heap.size w w':=by
 have c3:=h.cells.2.2.2.1
 have HC:=Lib.hid (V.clone_any S.v.bs BA bc w h.bs.rd hn)
 clear h
 go_enter Tryz.func18,Tryz.ntmps18
 go_wp2_with fail
 refine HC.out.mono ?_
 rintro e w1 ⟨A,c,rfl,ho,hb⟩
 have HO:=Lib.hid (And.intro ho hb)
 clear ho hb HC
 go_wp2
 go_ret
 exact ⟨A,c,rfl,HO.out⟩
end
end Go.Proofs.YtggkengmlkhdiaaGreat
namespace Go.Proofs.YtggkengmlkhdiaaGreat
set_option linter.unusedVariables false
open Go.RowKit
def LastIs (g : Geo) (F : List Flt) (S : ST) (b : Nat) (l : List Wr) : Prop:=
 match l.getLast? with
 | none=>verX S.v b = (0,false) ∧ readE20 g F 0 S b = 9
 | some w=>verX S.v b = (w.ver,true) ∧ (if w.trim = true then readE20 g F 0 S b = 9 ∧ readX20 g F 0 S b = noEnt else readE20 g F 0 S b = 0 ∧ (readX20 g F 0 S b).ver = w.ver ∧ (readX20 g F 0 S b).dt = w.dt)
section
variable {w : World} {N r q pw : Nat} {g : Geo} {F : List Flt} {n : Nat} {R : RG}
set_option maxRecDepth 100000 in
set_option maxHeartbeats 16000000 in
theorem last_yes {b : Nat} {l : List Wr} (hb : b < n) (hl : R.hist[b]? = some l) (hll : l.length ≤ 1000000) (hi : LastIs g F R.S b l) (hu8 : R.S.d.U8) (hF : F.length ≤ 9223372036854775807) (h : RigM w N r q pw g F n R) :
  Calls Tryz.prog 54 #[.pointer (some ⟨r,0,none⟩),.int .i64 b] w fun e w'=>e = .returned (.bool true) ∧ RigM w' N r q pw g F n { R with S:=readS20 g F 0 R.S b } ∧ KeptT RGT (Bd.of N) w w':=by
 obtain ⟨p,ha,hc,fa,fc,hs,h⟩:=h
 have H0:=Lib.hid h
 obtain ⟨ea,ec,BA,bc,hd⟩:=h.drv
 have HVE:=Lib.hid (version20_any (b : Int) hd)
 have HRD : Hid (∀ W,Below w.heap.size w W → Calls Tryz.prog 14 #[.pointer (some ⟨p,0,none⟩),.int .i64 (b : Int)] W (ReadTo20 W (Bd.of N) p q pw g F 0 R.S ea ec (b : Int))):=fun W hW=>read20_any (key:=0) (b : Int) hu8 hF (hd.below0 hW)
 have hbl : b < hs.length:=by
  have:=(List.getElem?_eq_some_iff.1 hl).1
  rw [h.hl]; exact this
 have HKK:=Lib.hid (List.getElem?_eq_getElem hbl)
 generalize hs[b] = k at HKK
 have hkl : k.xs = l:=by
  have h1:=h.hh
  have h2 : R.hist[b]? = some k.xs:=by rw [← h1,List.getElem?_map,HKK.out]; rfl
  rw [hl] at h2; injection h2 with h2; exact h2.symm
 subst hkl
 have hl8:=readX_len (g:=g) (F:=F) (key:=0) (b:=(b : Int)) (S:=R.S)
 obtain ⟨dd0,dd1,dd2,dd3,dd4,dd5,dd6,dd7,hdt⟩:=len8 hl8
 have HFI : Hid (∀ W S',DrvTo w (Bd.of N) p q pw g F 0 S' ea ec W → RigM W N r q pw g F n { R with S:=S' } ∧ KeptT RGT (Bd.of N) w W):=fun W S' ⟨BA1,bc1,h1,h2⟩=>⟨⟨p,ha,hc,fa,fc,hs,H0.out.drive ⟨ea,ec,BA1,bc1,h1⟩ h2⟩,h2.sub drt_rgt⟩
 have HLT : Hid (N ≤ w.heap.size):=Nat.le_of_lt (Nat.lt_of_le_of_lt h.low h.lt)
 unfold LastIs at hi
 have HLI:=Lib.hid hi
 unfold ReadTo20 at HRD
 have HLL:=Lib.hid hll
 obtain ⟨x0,x1,x2,x3,x4,x5,x6⟩:=h.cells
 clear hd hi h hl8 hl hll
 rw [hdt] at HRD HLI
 simp only [List.map_cons,List.map_nil] at HRD
 generalize hVX : verX R.S.v (b : Int) = VX at *
 generalize readE20 g F 0 R.S (b : Int) = rer at *
 have HX0 : Hid (readX20 g F 0 R.S (b : Int) = noEnt → (readX20 g F 0 R.S (b : Int)).ver = 0 ∧ [dd0,dd1,dd2,dd3,dd4,dd5,dd6,dd7] = zeros8):=fun hh=>by
  rw [← hdt,hh]; exact ⟨rfl,rfl⟩
 generalize readX20 g F 0 R.S (b : Int) = rx at *
 generalize readS20 g F 0 R.S (b : Int) = S6 at *
 obtain ⟨vx,hx⟩:=VX
 clear hVX hdt
 obtain ⟨rv,hrv⟩ : ∃ rv,rx.ver = rv:=⟨_,rfl⟩
 rw [hrv] at HRD HLI HX0
 simp only at HVE
 go_enter Tryz.func54,Tryz.ntmps54
 go_wp2_with fail
 refine HVE.out.mono ?_
 rintro e w1 ⟨rfl,hb1⟩
 have HB1:=Lib.hid hb1
 have HR1:=Lib.hid (HRD.out w1 hb1)
 have h1:=H0.out.below0 hb1
 clear x0 x1 x2 x3 x4 x5 x6 HVE HRD hb1
 obtain ⟨x0,x1,x2,x3,x4,x5,x6⟩:=h1.cells
 clear h1
 go_wp2_with fail
 refine HR1.out.mono ?_
 rintro e w6 ⟨rfl,hto6⟩
 have HT6:=Lib.hid (hto6.from HB1.out)
 clear hto6 HR1 HB1 x0 x1 x2 x3 x4 x5 x6
 have HR6:=Lib.hid (HFI.out w6 S6 HT6.out)
 obtain ⟨BA6,bc6,hd6,hk6⟩:=HT6.out
 have HG6:=Lib.hid (H0.out.drive ⟨ea,ec,BA6,bc6,hd6⟩ hk6)
 clear hd6 hk6 HT6
 have hX7 : (w6.alloc (.cells #[.int .u8 dd0,.int .u8 dd1,.int .u8 dd2,.int .u8 dd3,.int .u8 dd4,.int .u8 dd5,.int .u8 dd6,.int .u8 dd7] 27)).heap[w6.heap.size]? = some (.cells #[.int .u8 dd0,.int .u8 dd1,.int .u8 dd2,.int .u8 dd3,.int .u8 dd4,.int .u8 dd5,.int .u8 dd6,.int .u8 dd7] 27 (0,0)):=heap_alloc_new _ _
 have hB7 : Below w6.heap.size w6 (w6.alloc (.cells #[.int .u8 dd0,.int .u8 dd1,.int .u8 dd2,.int .u8 dd3,.int .u8 dd4,.int .u8 dd5,.int .u8 dd6,.int .u8 dd7] 27)):=(Below.refl _ _).alloc (Nat.le_refl _) _
 have HR7:=Lib.hid (HG6.out.below0 hB7)
 have HX7:=Lib.hid hX7
 have HK7 : Hid (KeptT RGT (Bd.of N) w (w6.alloc (.cells #[.int .u8 dd0,.int .u8 dd1,.int .u8 dd2,.int .u8 dd3,.int .u8 dd4,.int .u8 dd5,.int .u8 dd6,.int .u8 dd7] 27))):=HR6.out.2.thenBelow hB7
 have HFN : Hid (∀ W,Below (w6.alloc (.cells #[.int .u8 dd0,.int .u8 dd1,.int .u8 dd2,.int .u8 dd3,.int .u8 dd4,.int .u8 dd5,.int .u8 dd6,.int .u8 dd7] 27)).heap.size (w6.alloc (.cells #[.int .u8 dd0,.int .u8 dd1,.int .u8 dd2,.int .u8 dd3,.int .u8 dd4,.int .u8 dd5,.int .u8 dd6,.int .u8 dd7] 27)) W → RigM W N r q pw g F n { R with S:=S6 } ∧ KeptT RGT (Bd.of N) w W):=fun W hW=>⟨⟨p,ha,hc,fa,fc,hs,HR7.out.below0 hW⟩,HK7.out.thenBelow hW⟩
 clear hX7 hB7 HR6 HG6 HFI
 go_upto_region 3 with fail
 generalize (w6.alloc (.cells #[.int .u8 dd0,.int .u8 dd1,.int .u8 dd2,.int .u8 dd3,.int .u8 dd4,.int .u8 dd5,.int .u8 dd6,.int .u8 dd7] 27)) = w7 at *
 generalize w6.heap.size = b7 at *
 obtain ⟨z0,z1,z2,z3,z4,z5,z6⟩:=HR7.out.cells
 have hcb:=HR7.out.hist.cell HKK.out
 unfold Hs.v at hcb
 cases hg : k.xs.getLast? with
 | none=>
   have hnil : k.xs = []:=List.getLast?_eq_none_iff.1 hg
   have HLJ:=HLI.out
   rw [hg] at HLJ
   obtain ⟨j1,j2⟩:=HLJ
   injection j1 with j1 j3
   subst j1; subst j2; subst j3
   have hk0 : k.xs.length = 0:=by rw [hnil]; rfl
   rw [hk0] at hcb
   clear hnil hg hk0
   go_wp2
   go_ret
   exact ⟨rfl,(HFN.out w7 (Below.refl _ _)).1,(HFN.out w7 (Below.refl _ _)).2⟩
 | some x=>
   obtain ⟨m,hm⟩ : ∃ m,k.xs.length = m + 1:=by
    cases hx : k.xs with
    | nil=>rw [hx] at hg; cases hg
    | cons a t=>exact ⟨t.length,rfl⟩
   have hxm : k.xs[m]? = some x:=by
    rw [List.getLast?_eq_getElem?,hm] at hg; exact hg
   obtain ⟨gk,q0,q1,q2,q3,q4,q5,q6,q7,hA,hw⟩:=HR7.out.hist.wr HKK.out hxm
   obtain ⟨hdt,m0,m1,m2,m3,m4,m5,m6,m7,m8,m9⟩:=hw
   have hgl : gk < w7.heap.size:=block_lt_of_cell m0
   have hrl : r < w7.heap.size:=HR7.out.lt
   have hal : ha < w7.heap.size:=(IsT.own HR7.out.hist.own).lt
   obtain ⟨L,hL⟩ : ∃ L,k.xs.length = L:=⟨_,rfl⟩
   rw [hA,hL] at hcb
   have HLJ:=HLI.out
   rw [hg] at HLJ
   obtain ⟨j1,j2⟩:=HLJ
   injection j1 with j1 j3
   subst j1; subst j3
   have HJ2:=Lib.hid j2
   have HDT:=Lib.hid hdt
   have hbl : b < hs.length:=(List.getElem?_eq_some_iff.1 HKK.out).1
   have hml : m ≤ 1000000:=by have:=HLL.out; omega
   have e0 : ((L : Int) == 0) = false:=by simp; omega
   have e1 : (L == 0) = false:=by simp; omega
   have hwr : IntKind.i64.wrap ((L : Int) - 1) = (m : Int):=by rw [IntKind.wrap_i64]; omega
   have hmL : (m : Int) < (L : Int):=by omega
   have hmN : m < L:=by omega
   have hm0 : (0 : Int) ≤ (m : Int):=by omega
   have HFC : Hid (∀ W : World,Below w7.heap.size w7 W → W.heap[b7]? = some (.cells #[.int .u8 dd0,.int .u8 dd1,.int .u8 dd2,.int .u8 dd3,.int .u8 dd4,.int .u8 dd5,.int .u8 dd6,.int .u8 dd7] 27 (0,0))):=fun W hW=>belObj hW HX7.out (lt_of_block HX7.out)
   clear hg hxm j2 hdt hA hm hL
   go_upto_region 5 with fail
   go_cut [10] (fun s10 wx=>∃ b8,s10 = .pointer (some ⟨b8,0,none⟩) ∧ Hid (wx.heap[b8]? = some (.cells #[.int .u64 x.ver,.int .u8 q0,.int .u8 q1,.int .u8 q2,.int .u8 q3,.int .u8 q4,.int .u8 q5,.int .u8 q6,.int .u8 q7,.bool x.trim] 64 (0,0)) ∧ Below w7.heap.size w7 wx))
   case first=>
    go_region_held3 (fun W=>W.cell? ⟨r,4,none⟩ = some (.slice (some ⟨ha,0,none⟩) hs.length hc) ∧ W.cell? ⟨ha,b,none⟩ = some (.slice (some ⟨gk,0,none⟩) L k.c) ∧ W.cell? ⟨gk,m * 10,none⟩ = some (.int .u64 x.ver) ∧ W.cell? ⟨gk,m * 10 + 1,none⟩ = some (.int .u8 q0) ∧ W.cell? ⟨gk,m * 10 + 2,none⟩ = some (.int .u8 q1) ∧ W.cell? ⟨gk,m * 10 + 3,none⟩ = some (.int .u8 q2) ∧ W.cell? ⟨gk,m * 10 + 4,none⟩ = some (.int .u8 q3) ∧ W.cell? ⟨gk,m * 10 + 5,none⟩ = some (.int .u8 q4) ∧ W.cell? ⟨gk,m * 10 + 6,none⟩ = some (.int .u8 q5) ∧ W.cell? ⟨gk,m * 10 + 7,none⟩ = some (.int .u8 q6) ∧ W.cell? ⟨gk,m * 10 + 8,none⟩ = some (.int .u8 q7) ∧ W.cell? ⟨gk,m * 10 + 9,none⟩ = some (.bool x.trim))
     (first | (refine ⟨?_,?_,?_,?_,?_,?_,?_,?_,?_,?_,?_,?_⟩ <;> assumption) | (simp (maxDischargeDepth:=20) [World.cell?_alloc_some, *]; done))
     (fail)
    all_goals (go_wp2_with fail; go_meet)
    exact ⟨_,rfl,heap_alloc_new w7 _,((Below.refl _ _).alloc (Nat.le_refl _) _).drew⟩
   case rest=>
    obtain ⟨b8,rfl,H8⟩:=hcut
    obtain ⟨⟨p0,p1,p2,p3,p4,p5,p6,p7,p8,p9⟩,_⟩:=cells10w H8.out.1
    obtain ⟨⟨y0,y1,y2,y3,y4,y5,y6,y7⟩,_⟩:=cells8q (HFC.out _ H8.out.2)
    have HFZ:=Lib.hid (HFN.out _ H8.out.2)
    clear m0 m1 m2 m3 m4 m5 m6 m7 m8 m9 z0 z1 z2 z3 z4 z5 z6 hcb hgl hrl hal
    obtain ⟨tr,htr⟩ : ∃ tr,x.trim = tr:=⟨_,rfl⟩
    have HJ3:=HJ2.out
    rw [htr] at HJ3 p9
    clear HJ2
    cases tr
    ·simp only [Bool.false_eq_true,if_false] at HJ3
     obtain ⟨rfl,h2,h3⟩:=HJ3
     subst h2
     have hbe : ∀ W : World,(Op.equalIn 10000 27 (.agg #[.int .u8 dd0,.int .u8 dd1,.int .u8 dd2,.int .u8 dd3,.int .u8 dd4,.int .u8 dd5,.int .u8 dd6,.int .u8 dd7]) (.agg #[.int .u8 q0,.int .u8 q1,.int .u8 q2,.int .u8 q3,.int .u8 q4,.int .u8 q5,.int .u8 q6,.int .u8 q7])).run Tryz.prog W = .ok true W:=fun W=>by
      rw [blk_eql,decide_eq_true (h3.trans HDT.out)]
     clear h3 htr
     go_wp2
     go_ret
     exact ⟨rfl,HFZ.out.1,HFZ.out.2⟩
    ·simp only [if_true] at HJ3
     obtain ⟨rfl,h2⟩:=HJ3
     obtain ⟨h3,h4⟩:=HX0.out h2
     have hbe : ∀ W : World,(Op.equalIn 10000 27 (.agg #[.int .u8 dd0,.int .u8 dd1,.int .u8 dd2,.int .u8 dd3,.int .u8 dd4,.int .u8 dd5,.int .u8 dd6,.int .u8 dd7]) (.agg #[.int .u8 0,.int .u8 0,.int .u8 0,.int .u8 0,.int .u8 0,.int .u8 0,.int .u8 0,.int .u8 0])).run Tryz.prog W = .ok true W:=fun W=>by
      have h5 : [dd0,dd1,dd2,dd3,dd4,dd5,dd6,dd7] = [0,0,0,0,0,0,0,0]:=h4
      rw [blk_eql,decide_eq_true h5]
     subst h3
     clear h2 h4 htr
     go_wp2
     go_ret
     exact ⟨rfl,HFZ.out.1,HFZ.out.2⟩
theorem LastIs.of (hR : RunF F) (h : NowS g n R.hist R.S) (hu : R.S.d.P.armed = false) {b : Nat} (hb : b < n) {l : List Wr} (hl : R.hist[b]? = some l) : LastIs g F R.S b l:=(read20_on hR h hu hb hl).2.2.2.2.2
set_option maxRecDepth 100000 in
set_option maxHeartbeats 16000000 in
theorem all_yes {c : Nat} (hR : RunF F) (hF : F.length ≤ 9223372036854775807) (hn : n ≤ 65536) (hG : GoodR g n c R) (hH : HonI g n c R) (hl : R.hist.length = n) (hll : ∀ l ∈ R.hist,l.length ≤ 1000000) (hu : R.S.d.P.armed = false) (h : RigM w N r q pw g F n R) :
  Calls Tryz.prog 33 #[.pointer (some ⟨r,0,none⟩)] w fun e w'=>e = .returned (.bool true) ∧ (∃ S',RigM w' N r q pw g F n { R with S:=S' } ∧ GoodR g n c { R with S:=S' } ∧ S'.d.P.armed = false ∧ S'.v = R.S.v ∧ HonI g n c { R with S:=S' }) ∧ KeptT RGT (Bd.of N) w w':=by
 have HH0:=Lib.hid hH
 have H0:=Lib.hid h
 have HG0:=Lib.hid hG
 have HU0:=Lib.hid hu
 have HHL:=Lib.hid hl
 have HLL:=Lib.hid hll
 have HR:=Lib.hid hR
 clear hR hG hH hl hu hll h
 go_enter Tryz.func33,Tryz.ntmps33
 go_wp2
 go_loopw [3] (fun i wr=>∃ (j : Nat) (S' : ST),j ≤ n ∧ i = .int .i64 j ∧ Hid (RigM wr N r q pw g F n { R with S:=S' }) ∧ Hid (GoodR g n c { R with S:=S' }) ∧ Hid (S'.d.P.armed = false ∧ S'.v = R.S.v ∧ HonI g n c { R with S:=S' }) ∧ Hid (KeptT RGT (Bd.of N) w wr)) (fun i _=>n - (intOf i).toNat)
 case atStart=>exact ⟨0,R.S,Nat.zero_le _,rfl,H0.out,HG0.out,⟨HU0.out,rfl,HH0.out⟩,KeptT.refl _ _ _⟩
 case round=>
  obtain ⟨j,S',hj,rfl,HM,HG,HS,HK⟩:=hrel
  obtain ⟨p,ha,hc,fa,fc,hs,hm⟩:=HM.out
  obtain ⟨x0,x1,x2,x3,x4,x5,x6⟩:=hm.cells
  clear hm
  by_cases hlt : j < n
  ·have d1 : decide ((j : Int) < (n : Int)) = true:=decide_eq_true (by omega)
   have d2 : decide (j < n) = true:=decide_eq_true hlt
   have hh:=List.getElem?_eq_getElem (show j < R.hist.length by rw [HHL.out]; exact hlt)
   have hml:=HLL.out _ (List.getElem_mem (show j < R.hist.length by rw [HHL.out]; exact hlt))
   generalize R.hist[j]'(by rw [HHL.out]; exact hlt) = l at hh hml
   have hli : LastIs g F S' j l:=LastIs.of (R:={ R with S:=S' }) HR.out HG.out.now HS.out.1 hlt hh
   have HLA:=Lib.hid (last_yes (R:={ R with S:=S' }) hlt hh hml hli HG.out.now.u8 hF HM.out)
   have hrd:=HG.out.read HR.out HHL.out HS.out.1 hlt
   have hro:=hon_rd (F:=F) (b:=(j : Int)) HS.out.2.2
   have HRD:=Lib.hid hrd
   have HRO:=Lib.hid hro
   clear hh hml hli hrd hro
   go_wp2_with fail
   refine HLA.out.mono ?_
   rintro e w2 ⟨rfl,hm2,hk2⟩
   have HX : Hid (RigM w2 N r q pw g F n { R with S:=readS20 g F 0 S' j } ∧ KeptT RGT (Bd.of N) w w2):=⟨hm2,HK.out.trans hk2⟩
   clear hm2 hk2 HLA x0 x1 x2 x3 x4 x5 x6
   go_wp2
   go_roundw
   case rel=>exact ⟨j + 1,readS20 g F 0 S' j,hlt,by go_num,HX.out.1,HRD.out.1,⟨HRD.out.2.1,HRD.out.2.2.trans HS.out.2.1,HRO.out⟩,HX.out.2⟩
   case measure=>simp [intOf]; omega
  ·obtain rfl : j = n:=by omega
   have d1 : decide ((j : Int) < (j : Int)) = false:=decide_eq_false (by omega)
   have d2 : decide (j < j) = false:=decide_eq_false (by omega)
   go_wp2
   go_ret
   exact ⟨rfl,⟨S',HM.out,HG.out,HS.out⟩,HK.out⟩
end
end Go.Proofs.YtggkengmlkhdiaaGreat
namespace Go.Proofs.YtggkengmlkhdiaaGreat
set_option linter.unusedVariables false
open Go.RowKit
structure Fine (g : Geo) (n c : Nat) (R : RG) : Prop where
 good : GoodR g n c R
 hon : HonI g n c R
 un : R.S.d.P.armed = false
structure Small (g : Geo) (n : Nat) (F : List Flt) : Prop where
 vg : Vg g
 p : possB g n = true
 F40 : F.length ≤ 40
 F64 : ∀ f ∈ F,I64 f.to_
 vf : validF F = true
section
variable {g : Geo} {F : List Flt} {n c : Nat} {R R' : RG} {a : Act20} {er : Int}
theorem Small.nn (h : Small g n F) : (1 ≤ n ∧ n ≤ 65536) ∧ (n : Int) ≤ (g.bands - 3) * bz g:=by
 have:=h.p
 unfold possB at this
 rw [bzN_valid h.vg] at this
 simp only [Bool.and_eq_true,decide_eq_true_eq] at this
 exact ⟨⟨by omega,by omega⟩,this.2.2⟩
theorem Fine.act (hS : Small g n F) (hR : RunF F) (h : Fine g n c R) (hc : c ≤ 1000) (hd : 0 ≤ a.data ∧ a.data < 256) (hr : ActR g F n a R R' er) : er = 0 ∧ Fine g n (c + 1) R' ∧ (1 ≤ V.freeN R.S.v.bs → 1 ≤ V.freeN R'.S.v.bs):=by
 obtain ⟨hn,hnb⟩:=hS.nn
 have hh:=act_hon hR.noTear hn hd hc h.hon hr
 rcases act_on hR h.good h.hon hc hnb hn hd hr with ⟨h1,h2,h3,h4⟩ | ⟨_,h2,_⟩
 ·exact ⟨h1,⟨h2,hh,h3.trans h.un⟩,h4⟩
 ·have:=h2.armed; rw [h.un] at this; cases this
theorem Fine.in_ (hS : Small g n F) (h : Fine g n c R) (hc : c ≤ 80) : RigIn g F n R:=hon_in h.hon hc hS.F64 hS.F40 hS.p
theorem fine0 (hS : Small g n F) (hR : RunF F) : (newDD g F 0 (d0N g)).2 = 0 ∧ Fine g n 0 (R0 g F n) ∧ 1 ≤ V.freeN (R0 g F n).S.v.bs:=by
 obtain ⟨h1,h2,h3,h4⟩:=good0 (F:=F) hR hS.vg hS.nn.1
 exact ⟨h1,⟨h2,hon0 hS.vg hS.nn.1 h1,h3⟩,h4⟩
end
section
variable {w : World} {N r q pw : Nat} {g : Geo} {F : List Flt} {n c : Nat} {R : RG}
theorem fine_all (hS : Small g n F) (hR : RunF F) (hF : Fine g n c R) (hc : c ≤ 1000) (h : RigM w N r q pw g F n R) :
  Calls Tryz.prog 33 #[.pointer (some ⟨r,0,none⟩)] w fun e w'=>e = .returned (.bool true) ∧ (∃ R',RigM w' N r q pw g F n R' ∧ Fine g n c R' ∧ R'.S.v = R.S.v ∧ R'.hist = R.hist ∧ R'.next = R.next) ∧ KeptT RGT (Bd.of N) w w':=by
 refine (all_yes hR (by have:=hS.F40; omega) hS.nn.1.2 hF.good hF.hon hF.hon.hl (fun l hl=>by have:=hF.hon.hn l hl; omega) hF.un h).mono ?_
 rintro e w' ⟨h1,⟨S',h2,h3,h4,h5,h6⟩,h7⟩
 exact ⟨h1,⟨{ R with S:=S' },h2,⟨h3,h6,h4⟩,h5,rfl,rfl⟩,h7⟩
end
end Go.Proofs.YtggkengmlkhdiaaGreat
namespace Go.Proofs.YtggkengmlkhdiaaGreat
set_option linter.unusedVariables false
open Go.RowKit
theorem fine_start {g : Geo} {n : Nat} {F : List Flt} (hS : Small g n F) (hR : RunF F) (A0 A1 : Option Addr) (c0 c1 m : Nat) (w : World) (hr : Rd w w.heap.size A0 (flatF F)) :
  Calls Tryz.prog 23 #[.agg #[.int .i64 g.random,.int .i64 g.bands,.int .i64 g.tracks,.int .i64 g.sectors,.int .i64 g.overlap,.int .i64 (n : Int),.slice A0 F.length c0,.slice A1 m c1]] w fun e w'=>(∃ r q pw,e = .returned (.tuple #[.pointer (some ⟨r,0,none⟩),.int .i64 0]) ∧ RigM w' w.heap.size r q pw g F n (R0 g F n)) ∧ Below w.heap.size w w':=by
 refine (start_any g n F A0 A1 c0 c1 m w hS.vg hS.p hr hS.vf (by have:=hS.F40; omega)).mono ?_
 rintro e w' ⟨hb,hpo⟩
 rw [if_pos (fine0 hS hR).1] at hpo
 exact ⟨hpo,hb⟩
end Go.Proofs.YtggkengmlkhdiaaGreat
namespace Go.Proofs.YtggkengmlkhdiaaGreat.V
set_option linter.unusedVariables false
open Go.RowKit
theorem anyBadR_drop (sz : Int) (l : List BI) (k : Nat) (h : k < l.length) : anyBad sz (l.drop k) = (badB sz l[k].used l[k].live || anyBad sz (l.drop (k + 1))):=by
 rw [List.drop_eq_getElem_cons h]; rfl
set_option maxHeartbeats 400000 in
theorem rvalid_any (sz : Int) (l : List BI) (A : Option Addr) (c : Nat) (w : World) (hl : Rd w w.heap.size A (flat l)) (hn : l.length ≤ 9223372036854775807) :
  Calls Tryz.prog 28 #[.slice A l.length c,.int .i64 sz] w fun e w'=>e = .returned (.bool (validB l sz)) ∧ Below w.heap.size w w':=by
 have HV : ∀ x,Hid (validB l sz = x) → validB l sz = x:=fun _ h=>h.out
 unfold validB
 by_cases g1 : 1 ≤ l.length
 ·by_cases g2 : l.length ≤ 64
  ·by_cases g3 : 1 ≤ sz
   ·have e1 : decide (1 ≤ l.length) = true:=decide_eq_true (by omega)
    have e2 : decide (l.length ≤ 64) = true:=decide_eq_true (by omega)
    have e3 : decide (1 ≤ sz) = true:=decide_eq_true (by omega)
    rw [e1,e2,e3]
    clear e1 e2 e3 HV
    simp only [Bool.true_and]
    go_enter Tryz.func28,Tryz.ntmps28
    go_wp2
    go_loopw [5] (fun i wr=>∃ k : Nat,k ≤ l.length ∧ i = .int .i64 k ∧ anyBad sz l = anyBad sz (l.drop k) ∧ Below w.heap.size w wr) (fun i _=>l.length - (intOf i).toNat)
    case atStart=>exact ⟨0,Nat.zero_le _,rfl,rfl,Below.refl _ _⟩
    case round=>
     obtain ⟨k,hk,rfl,hfb,hbl⟩:=hrel
     have HF:=Lib.hid hfb; clear hfb
     by_cases hlt : k < l.length
     ·obtain ⟨g,o,rfl,hg,h0,h1,h2,h3⟩:=(hl).band (get_some hlt)
      have j0:=(hbl.cell (p:=⟨g,_,none⟩) hg).trans h0
      have j1:=(hbl.cell (p:=⟨g,_,none⟩) hg).trans h1
      have j2:=(hbl.cell (p:=⟨g,_,none⟩) hg).trans h2
      have j3:=(hbl.cell (p:=⟨g,_,none⟩) hg).trans h3
      clear h0 h1 h2 h3
      have HS:=Lib.hid (anyBadR_drop sz l k hlt)
      by_cases t1 : l[k].live < 0
      ·have HB : Hid (badB sz l[k].used l[k].live = true):=by unfold Hid badB; simp [t1]
       go_wp2
       go_quiet (fail)
       go_wp2
       go_ret
       exact ⟨by rw [HF.out,HS.out,HB.out]; rfl,below_drewN' hbl _⟩
      ·have d1 : decide (l[k].live < 0) = false:=decide_eq_false t1
       by_cases t2 : l[k].used < l[k].live
       ·have HB : Hid (badB sz l[k].used l[k].live = true):=by unfold Hid badB; simp [t2]
        have d2 : decide (l[k].used < l[k].live) = true:=decide_eq_true t2
        clear t1 t2
        go_wp2
        go_quiet (fail)
        go_wp2
        go_ret
        exact ⟨by rw [HF.out,HS.out,HB.out]; rfl,below_drewN' hbl _⟩
       ·have d2 : decide (l[k].used < l[k].live) = false:=decide_eq_false t2
        by_cases t3 : sz < l[k].used
        ·have HB : Hid (badB sz l[k].used l[k].live = true):=by unfold Hid badB; simp [t3]
         have d3 : decide (sz < l[k].used) = true:=decide_eq_true t3
         clear t1 t2 t3
         go_wp2
         go_quiet (fail)
         go_wp2
         go_ret
         exact ⟨by rw [HF.out,HS.out,HB.out]; rfl,below_drewN' hbl _⟩
        ·have HB : Hid (badB sz l[k].used l[k].live = false):=by unfold Hid badB; simp [t1,t2,t3]
         have d3 : decide (sz < l[k].used) = false:=decide_eq_false t3
         clear t1 t2 t3
         go_wp2
         go_quiet (fail)
         go_wp2
         go_roundw
         case rel=>exact ⟨k + 1,by omega,by go_num,by rw [HF.out,HS.out,HB.out]; rfl,below_drewN' hbl _⟩
         case measure=>simp [intOf]; omega
     ·have hk' : k = l.length:=by omega
      subst hk'
      go_wp2
      go_ret
      exact ⟨by rw [HF.out,List.drop_of_length_le (Nat.le_refl _)]; rfl,hbl⟩
   ·have e3 : decide (1 ≤ sz) = false:=decide_eq_false (by omega)
    rw [e3]
    clear e3 HV
    go_enter Tryz.func28,Tryz.ntmps28
    go_wp2
    go_ret
    exact ⟨by simp,Below.refl _ _⟩
  ·have e3 : decide (l.length ≤ 64) = false:=decide_eq_false (by omega)
   rw [e3]
   clear e3 HV
   go_enter Tryz.func28,Tryz.ntmps28
   go_wp2
   go_ret
   exact ⟨by simp,Below.refl _ _⟩
 ·have e3 : decide (1 ≤ l.length) = false:=decide_eq_false (by omega)
  rw [e3]
  clear e3 HV
  go_enter Tryz.func28,Tryz.ntmps28
  go_wp2
  go_ret
  exact ⟨by simp,Below.refl _ _⟩
set_option maxHeartbeats 1000000 in
theorem ropen_any (sz : Int) (l : List BI) (A : Option Addr) (c : Nat) (w : World) (hl : Rd w w.heap.size A (flat l)) (hn : l.length ≤ 100000) :
  Calls Tryz.prog 32 #[.slice A l.length c,.int .i64 sz] w fun e w'=>e = .returned (.int .i64 (openB l sz)) ∧ Below w.heap.size w w':=by
 unfold openB
 cases hv : validB l sz
 ·go_enter Tryz.func32,Tryz.ntmps32
  go_wp2
  go_loopw [5,6] (fun n i wr=>n = .int .i64 (-1) ∧ i = .int .i64 0 ∧ Below w.heap.size w wr) (fun _ _ _=>0)
  case atStart=>exact ⟨rfl,rfl,Below.refl _ _⟩
  case round=>
   obtain ⟨rfl,rfl,hbl⟩:=hrel
   go_wp2_with (go_at_call 28; refine (rvalid_any sz l A c _ ((hl.below hbl (Nat.le_refl _)).more hbl.size) (by omega)).mono ?_; rintro e w1 ⟨rfl,hb1⟩)
   go_ret
   exact ⟨rfl,hbl.trans (hb1.mono hbl.size)⟩
 ·have hv1:=hv
  simp only [validB,Bool.and_eq_true,decide_eq_true_eq] at hv1
  have hl0:=hv1.1.1.1
  clear hv1
  go_enter Tryz.func32,Tryz.ntmps32
  go_wp2
  go_loopw [5,6] (fun n i wr=>∃ k : Nat,k ≤ l.length ∧ i = .int .i64 k ∧ n = .int .i64 (openFrom sz (-1,0) 0 (l.take k)).1 ∧ Below w.heap.size w wr) (fun _ i _=>l.length - (intOf i).toNat)
  case atStart=>exact ⟨0,Nat.zero_le _,rfl,rfl,Below.refl _ _⟩
  case round=>
   obtain ⟨k,hk,rfl,rfl,hbl⟩:=hrel
   by_cases hlt : k < l.length
   ·have hrd:=(hl.below hbl (Nat.le_refl _)).more hbl.size
    have HI:=Lib.hid (openFrom_inv sz l k hk)
    have HS:=Lib.hid (openFrom_take sz l (-1,0) k hlt)
    go_wp2_with fail
    refine (rvalid_any sz l A c _ hrd (by omega)).mono ?_
    rintro e w1 ⟨rfl,hb1⟩
    have hbl1:=hbl.trans (hb1.mono hbl.size)
    clear hbl hb1 hrd
    have hbl:=hbl1
    clear hbl1
    obtain ⟨g,o,rfl,hg,h0,h1,h2,h3⟩:=hl.band (get_some hlt)
    have j0:=(hbl.cell (p:=⟨g,_,none⟩) hg).trans h0
    have j2:=(hbl.cell (p:=⟨g,_,none⟩) hg).trans h2
    clear h0 h1 h2 h3
    by_cases hp1 : 0 < l[k].used
    ·have d1 : decide (0 < l[k].used) = true:=decide_eq_true hp1
     by_cases hp2 : l[k].used < sz
     ·have d2 : decide (l[k].used < sz) = true:=decide_eq_true hp2
      have HP : Hid (partB sz l[k] = true):=by unfold Hid partB; simp [hp1,hp2]
      clear hp1 hp2
      rcases HI.out with hm | ⟨j,hjk,hm,bb,hbb,hage⟩
      ·have HN:=Lib.hid (openStep_first (k:=k) HP.out hm)
       rw [hm]
       clear hm
       go_wp2
       go_quiet (fail)
       go_wp2
       go_roundw
       case rel=>exact ⟨k + 1,by omega,by go_num,by rw [HS.out,HN.out],below_drewN' hbl _⟩
       case measure=>simp [intOf]; omega
      ·have hj : j < l.length:=by omega
       have HB : Hid (bb = l[j]):=by unfold Hid; rw [get_some hj] at hbb; injection hbb with h; exact h.symm
       have HX : Hid (openStep sz (openFrom sz (-1,0) 0 (l.take k)) k l[k] = if decide (l[j].age < l[k].age) = true then ((k : Int),l[k].age) else openFrom sz (-1,0) 0 (l.take k)):=by
        unfold Hid; rw [openStep_next (k:=k) HP.out hm,← hage,HB.out]
       have HM:=Lib.hid hm
       rw [hm]
       clear hm hage hbb
       obtain ⟨g',o',e,_,_,_,b2',_⟩:=hl.band (get_some hj)
       simp only [Option.some.injEq,Addr.mk.injEq,and_true] at e
       obtain ⟨rfl,rfl⟩:=e
       have i2:=(hbl.cell (p:=⟨g,_,none⟩) hg).trans b2'
       clear b2'
       have d3 : decide ((j : Int) < 0) = false:=by simp
       have d5 : (j : Int) < l.length:=by omega
       have d6 : (k : Int) < l.length:=by omega
       have d7 : (0 : Int) ≤ j:=by omega
       have d8 : (0 : Int) ≤ k:=by omega
       cases hage : decide (l[j].age < l[k].age)
       ·go_wp2
        go_quiet (fail)
        go_wp2
        go_roundw
        case rel=>exact ⟨k + 1,by omega,by go_num,by rw [HS.out,HX.out,hage,← HM.out]; rfl,below_drewN' hbl _⟩
        case measure=>simp [intOf]; omega
       ·go_wp2
        go_quiet (fail)
        go_wp2
        go_roundw
        case rel=>exact ⟨k + 1,by omega,by go_num,by rw [HS.out,HX.out,hage]; rfl,below_drewN' hbl _⟩
        case measure=>simp [intOf]; omega
     ·have d2 : decide (l[k].used < sz) = false:=decide_eq_false hp2
      have HP : Hid (partB sz l[k] = false):=by unfold Hid partB; simp [hp2]
      clear hp1 hp2
      go_wp2
      go_quiet (fail)
      go_wp2
      go_roundw
      case rel=>exact ⟨k + 1,by omega,by go_num,by rw [HS.out,openStep_no HP.out],below_drewN' hbl _⟩
      case measure=>simp [intOf]; omega
    ·have d1 : decide (0 < l[k].used) = false:=decide_eq_false hp1
     have HP : Hid (partB sz l[k] = false):=by unfold Hid partB; simp [hp1]
     clear hp1
     go_wp2
     go_quiet (fail)
     go_wp2
     go_roundw
     case rel=>exact ⟨k + 1,by omega,by go_num,by rw [HS.out,openStep_no HP.out],below_drewN' hbl _⟩
     case measure=>simp [intOf]; omega
   ·have hk' : k = l.length:=by omega
    subst hk'
    go_wp2_with (go_at_call 28; refine (rvalid_any sz l A c _ ((hl.below hbl (Nat.le_refl _)).more hbl.size) (by omega)).mono ?_; rintro e w1 ⟨rfl,hb1⟩)
    go_ret
    exact ⟨by first | rfl | (rw [List.take_of_length_le (Nat.le_refl _)]; rfl),hbl.trans (hb1.mono hbl.size)⟩
end Go.Proofs.YtggkengmlkhdiaaGreat.V
