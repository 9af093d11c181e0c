/-
  WHAT IS SHOWN: what Write, Trim and Clean of drive return and leave, whatever has to be cleaned. how what was found lies in a map, and what newer of scan returns. Conditions: as each theorem names them.
-/
import Derived.Test.YtggkengmlkhdiaaGreatM30
import Derived.Test.YtggkengmlkhdiaaGreatM14
import Derived.Maps.OwnSet
import Derived.Maps.OwnOps
import Derived.Maps.RangeWalk
import Derived.Maps.Ext
namespace Go.Proofs.YtggkengmlkhdiaaGreat
set_option linter.unusedVariables false
open Go.RowKit
def bandsOf (w:World) (p:Nat):List V.BI:=
 match w.cell? ⟨p,3,none⟩ with
 | some (.slice (some ⟨gb,o,_⟩) n _)=>(List.range n).map fun i=>⟨intOf ((w.cell? ⟨gb,o+i * 4,none⟩).getD undef),intOf ((w.cell? ⟨gb,o+i * 4+1,none⟩).getD undef),intOf ((w.cell? ⟨gb,o+i * 4+2,none⟩).getD undef),intOf ((w.cell? ⟨gb,o+i * 4+3,none⟩).getD undef)⟩
 | _=>[]
section
variable {w w':World} {B:Bd} {p q pw:Nat} {g:Geo} {F:List Flt} {key:Int} {S:ST} {ea ec:Nat} {BA:Option Addr} {bc:Nat}
theorem bandsOf_drv (h:Drv w B p q pw g F key S ea ec BA bc):bandsOf w p=S.v.bs:=by
 have hc:=h.cells.2.2.2.1
 unfold bandsOf
 rw [hc]
 by_cases h0:0 < S.v.bs.length
 ·obtain ⟨gb,o,rfl,_,_⟩:=h.bs.rd.band (V.get_some h0)
  simp only
  apply List.ext_getElem
  ·simp
  ·intro i h1 h2
   obtain ⟨gb',o',e,_,c0,c1,c2,c3⟩:=h.bs.rd.band (V.get_some h2)
   simp only [Option.some.injEq,Addr.mk.injEq,and_true] at e
   obtain ⟨rfl,rfl⟩:=e
   simp only [List.getElem_map,List.getElem_range,c0,c1,c2,c3,Option.getD_some]
   rfl
 ·have hz:S.v.bs=[]:=List.length_eq_zero_iff.1 (by omega)
  rw [hz]
  cases BA with
  | none=>rfl
  | some a=>obtain ⟨gb,o,f⟩:=a; rfl
theorem cleanR_u8 {k:Int} {r:ST × Int × Int} (hu:S.d.U8) (h:CleanR g F key k S r):r.1.d.U8:=by
 obtain ⟨l,_,rfl⟩:=h
 have h1:(mvK g F key k l S l.length).1.d.U8:=mvK_u8 hu _
 rw [clean_at rfl]
 generalize mvK g F key k l S l.length=M at *
 split
 ·unfold wipeS
  have h2:(flushS g F key M.1).1.d.U8:=flushS_u8 h1
  have h3:(eraseS g F key k (flushS g F key M.1).1).1.d.U8:=eraseS_u8 h2
  generalize eraseS g F key k (flushS g F key M.1).1=E at *
  generalize flushS g F key M.1=L at *
  split
  ·split
   ·exact h3
   ·exact h3
  ·exact h2
 ·exact h1
theorem cleans_u8 {T:ST} (hu:S.d.U8) (h:Cleans g F key S T):T.d.U8:=by
 induction h with
 | none=>exact hu
 | more _ _ _ hc ih=>exact cleanR_u8 ih hc
def PutPost (w:World) (B:Bd) (p q pw:Nat) (g:Geo) (F:List Flt) (key:Int) (S:ST) (ea ec:Nat) (x:Ent) (e:Ending) (w':World):Prop:=
 ∃ r:ST × Int,WriteR g F key S x r∧e= .returned (.int .i64 r.2)∧DrvTo w B p q pw g F key r.1 ea ec w'
set_option maxRecDepth 100000 in
set_option maxHeartbeats 16000000 in
theorem put20_any (x:Ent) (hx:KindOk x) (hv:VOk g S.v) (hu8:S.d.U8) (hF:∀ f∈F,I64 f.to_) (hn:F.length≤9223372036854775807) (hon:S.d.O.length+1100≤99000) (h:Drv w B p q pw g F key S ea ec BA bc):
  Calls Tryz.prog 46 #[.pointer (some ⟨p,0,none⟩),entV x] w (PutPost w B p q pw g F key S ea ec x):=by
 have HPOST:Hid (∀ e W r,WriteR g F key S x r→e= .returned (.int .i64 r.2)→DrvTo w B p q pw g F key r.1 ea ec W→PutPost w B p q pw g F key S ea ec x e W):=fun e W r h1 h2 h3=>⟨r,h1,h2,h3⟩
 have HRJ:Hid (∀ er,preE S.v x.blk x.ver=er→er≠0→WriteR g F key S x (S,er)):=by
  intro er he hne; unfold WriteR; rw [he,if_neg hne]
 have HRP:Hid (preE S.v x.blk x.ver=0→∀ r,PutR g F key S x r→WriteR g F key S x r):=by
  intro he r hr; unfold WriteR; rw [if_pos he]; exact hr
 have HPR:Hid (∀ f,S.v.failed=f→preE S.v x.blk x.ver=(if f=0 then (if 0≤x.blk∧x.blk < S.v.es.length then (if x.ver=0∨x.ver < (S.v.es.getD x.blk.toNat noNE).ver then 1 else 0) else 2) else f)):=by
  intro f hf; unfold preE; rw [hf]
 obtain ⟨kind,blk,ver,dt⟩:=x
 obtain ⟨hk,hv0,hv1,hl8,hu8x⟩:=hx
 simp only at hk hv0 hv1 hl8 hu8x HPR HRJ HRP
 obtain ⟨d0,d1,d2,d3,d4,d5,d6,d7,rfl⟩:=len8 hl8
 show Calls Tryz.prog 46 #[.pointer (some ⟨p,0,none⟩),.agg #[.int .i64 kind,.int .i64 blk,.int .u64 ver,.int .u8 d0,.int .u8 d1,.int .u8 d2,.int .u8 d3,.int .u8 d4,.int .u8 d5,.int .u8 d6,.int .u8 d7]] w _
 have hbl0:Below w.heap.size w (w.alloc (.cells #[.int .i64 kind,.int .i64 blk,.int .u64 ver,.int .u8 d0,.int .u8 d1,.int .u8 d2,.int .u8 d3,.int .u8 d4,.int .u8 d5,.int .u8 d6,.int .u8 d7] 89)):=(Below.refl _ _).alloc (Nat.le_refl _) _
 have hO:(w.alloc (.cells #[.int .i64 kind,.int .i64 blk,.int .u64 ver,.int .u8 d0,.int .u8 d1,.int .u8 d2,.int .u8 d3,.int .u8 d4,.int .u8 d5,.int .u8 d6,.int .u8 d7] 89)).heap[w.heap.size]?=some (.cells #[.int .i64 kind,.int .i64 blk,.int .u64 ver,.int .u8 d0,.int .u8 d1,.int .u8 d2,.int .u8 d3,.int .u8 d4,.int .u8 d5,.int .u8 d6,.int .u8 d7] 89 (0,0)):=heap_alloc_new _ _
 have h0:=h.below0 hbl0
 have HH:=Lib.hid h
 have HV:=Lib.hid hv
 have hl64:=hv.len64
 have HST:=Lib.hid (state20_any h0)
 have HHA:=Lib.hid (has20_any blk h0)
 have hve:0≤blk→blk < S.v.es.length→1≤ver→validE ⟨kind,blk,ver,[d0,d1,d2,d3,d4,d5,d6,d7]⟩=true:=fun h1 h2 h3=>by
  unfold validE
  have:=hv.e1
  simp only [decide_eq_true h1,decide_eq_true (show blk < 65536 by omega),decide_eq_true h3,Bool.true_and]
  rcases hk with hk | ⟨hk,hz⟩
  ·rw [if_neg (by omega)]; simpa using hk
  ·rw [if_pos hk]; simpa using hz
 have HVE:=Lib.hid hve
 have HXO:Hid ((⟨kind,blk,ver,[d0,d1,d2,d3,d4,d5,d6,d7]⟩:Ent).Ok):=⟨hv0,hv1,rfl,hu8x⟩
 have HV0:Hid (0≤ver):=hv0
 have HF:=Lib.hid hF
 have HU8:=Lib.hid hu8
 have HON:=Lib.hid hon
 clear hk hv0 hv1 hl8 hu8x hF hv h h0 hve hu8 hon
 generalize PutPost w B p q pw g F key S ea ec ⟨kind,blk,ver,[d0,d1,d2,d3,d4,d5,d6,d7]⟩=PP at *
 generalize hfl:S.v.failed=fl at *
 go_enter Tryz.func46,Tryz.ntmps46
 go_wp2_with fail
 generalize (w.alloc (.cells #[.int .i64 kind,.int .i64 blk,.int .u64 ver,.int .u8 d0,.int .u8 d1,.int .u8 d2,.int .u8 d3,.int .u8 d4,.int .u8 d5,.int .u8 d6,.int .u8 d7] 89))=w0 at *
 refine HST.out.mono ?_
 rintro e w1 ⟨rfl,rfl⟩
 have HB0:=Lib.hid hbl0
 have HO:=Lib.hid hO
 obtain ⟨⟨o0,o1,o2,o3,o4,o5,o6,o7,o8,o9,o10⟩,_⟩:=cells11 hO
 clear hbl0 hO HST
 have HPF:=Lib.hid (HPR.out fl rfl)
 have HRET:Hid (∀ er,preE S.v blk ver=er→er≠0→∀ W,Below w.heap.size w W→∀ e,e= .returned (.int .i64 er)→PP e W):=fun er h1 h2 W h3 e h4=>HPOST.out e W _ (HRJ.out er h1 h2) h4 (DrvTo.refl HH.out h3)
 by_cases hz:fl=0
 ·subst hz
  have HPR0:Hid (preE S.v blk ver=(if 0≤blk∧blk < S.v.es.length then (if ver=0∨ver < (S.v.es.getD blk.toNat noNE).ver then 1 else 0) else 2)):=by unfold Hid; rw [HPF.out,if_pos rfl]
  clear HPR HPF
  go_wp2_with fail
  refine HHA.out.mono ?_
  rintro e w1 ⟨rfl,rfl⟩
  by_cases hbb:0≤blk∧blk < S.v.es.length
  ·obtain ⟨hb0,hb1⟩:=hbb
   rw [decide_eq_true hb0,decide_eq_true hb1,Bool.true_and]
   obtain ⟨b,rfl⟩:=Int.eq_ofNat_of_zero_le hb0
   have hbn:b < S.v.es.length:=by omega
   have hne:=List.getElem?_eq_getElem hbn
   generalize hn0:S.v.es[b]=n at hne
   clear hn0
   have HPR2:Hid (preE S.v (b:Int) ver=(if ver=0∨ver < n.ver then 1 else 0)):=by
    unfold Hid; rw [HPR0.out,if_pos ⟨hb0,hb1⟩,Int.toNat_natCast,getD_of hne]
   have hh0:=HH.out.below0 HB0.out
   obtain ⟨y0,y1,y2⟩:=hh0.entry hne
   have x2:=hh0.cells.2.2.1
   have x3:=hh0.cells.2.2.2.1
   clear hne hh0 hbn HPR0
   by_cases hz:ver=0
   ·have HPU:Hid (preE S.v (b:Int) ver=1):=by unfold Hid; rw [HPR2.out,if_pos (.inl hz)]
    have dz:(ver==0)=true:=by simpa using hz
    clear hz HPR2
    go_wp2
    go_quiet (fail)
    have HR:=Lib.hid (HRET.out 1 HPU.out (by decide) _ (below_drewN HB0.out nq) _ rfl)
    go_wp2
    exact HR.out
   ·have dz:(ver==0)=false:=by simpa using hz
    by_cases hlt:ver < n.ver
    ·have HPU:Hid (preE S.v (b:Int) ver=1):=by unfold Hid; rw [HPR2.out,if_pos (.inr hlt)]
     have dl:decide (ver < n.ver)=true:=decide_eq_true hlt
     clear hz hlt HPR2
     go_wp2
     go_quiet (fail)
     have HR:=Lib.hid (HRET.out 1 HPU.out (by decide) _ (below_drewN HB0.out nq) _ rfl)
     go_wp2
     exact HR.out
    ·have HPU:Hid (preE S.v (b:Int) ver=0):=by unfold Hid; rw [HPR2.out,if_neg (by omega)]
     have dl:decide (ver < n.ver)=false:=decide_eq_false hlt
     have HVG:Hid (1≤ver):=by have:=HV0.out; unfold Hid; omega
     have HVA:=Lib.hid (HVE.out hb0 hb1 HVG.out)
     have HRP1:=Lib.hid (HRP.out HPU.out)
     have HBL:Hid ((0:Int)≤(b:Int)∧(b:Int) < S.v.es.length):=⟨hb0,hb1⟩
     clear hz hlt y0 y2 HRET HRJ HRP HPU HPR2 HVE
     go_wp2
     go_quiet (fail)
     have HBN:=Lib.hid (below_drewN HB0.out nq)
     have HON2:Hid (∀ W,KeptT DRT B (w1.drewN nq) W→W.heap[w.heap.size]?=some (.cells #[.int .i64 kind,.int .i64 (b:Int),.int .u64 ver,.int .u8 d0,.int .u8 d1,.int .u8 d2,.int .u8 d3,.int .u8 d4,.int .u8 d5,.int .u8 d6,.int .u8 d7] 89 (0,0))):=fun W hW=>by
      have h1:(w1.drewN nq).heap[w.heap.size]?=some (.cells #[.int .i64 kind,.int .i64 (b:Int),.int .u64 ver,.int .u8 d0,.int .u8 d1,.int .u8 d2,.int .u8 d3,.int .u8 d4,.int .u8 d5,.int .u8 d6,.int .u8 d7] 89 (0,0)):=HO.out
      exact Kept.obj hW h1 (KeptT.no (IsT.of h1) (by unfold DRT; decide))
     have HD0:Hid (DrvTo (w1.drewN nq) B p q pw g F key S ea ec (w1.drewN nq)):=DrvTo.refl (HH.out.below0 HBN.out) (Below.refl _ _)
     clear o0 o1 o2 o3 o4 o5 o6 o7 o8 o9 o10 x2 y1 x3
     generalize w1.drewN nq=wn at *
     have HKN:Hid (KeptT DRT B w wn):=KeptT.bel HBN.out
     go_wp2
     go_loopw [39] (fun _ wr=>∃ T,Hid (Cleans g F key S T)∧Hid (DrvTo wn B p q pw g F key T ea ec wr)) (fun _ wr=>(meaB (bz g) (bandsOf wr p)).toNat)
     case atStart=>exact ⟨S,Cleans.none S,HD0.out⟩
     case round=>
      obtain ⟨T,HCL,HDT⟩:=hrel
      obtain ⟨BA2,bc2,hd,hkT⟩:=HDT.out
      have hro:=cleans_told HV.out HCL.out
      have hut:=cleans_u8 HU8.out HCL.out
      have HVT:=Lib.hid hro.ok
      have HES:=Lib.hid hro.es
      have HOT:Hid (T.d.O.length+1100≤99000):=by
       have:=HON.out
       unfold Hid
       rcases hro.O1 with h | h <;> omega
      have HDR:=Lib.hid hd
      have HKT:=Lib.hid hkT
      have HUT:=Lib.hid hut
      have HMB:=Lib.hid (bandsOf_drv hd)
      have c3:=hd.cells.2.2.2.1
      have hfr:=Lib.hid (V.free_any T.v.bs BA2 bc2 wr hd.bs.rd (by have:=HVT.out.len64; omega))
      have HM1:=Lib.hid (HVT.out.mea1)
      clear hro hut hd hkT
      go_wp2_with fail
      refine hfr.out.mono ?_
      rintro e w5 ⟨rfl,hb5⟩
      have HD5:=Lib.hid (HDR.out.below0 hb5)
      have HK5:Hid (KeptT DRT B wn w5):=HKT.out.thenBelow hb5
      clear hb5 hfr c3
      by_cases hf2:V.freeN T.v.bs < 2
      ·have dfr:decide (V.freeN T.v.bs < 2)=true:=decide_eq_true hf2
       have HF2:=Lib.hid hf2
       have HVI:=Lib.hid (victim20_any HVT.out HD5.out)
       obtain ⟨VV,hVV⟩:∃ VV,VV=victimN g T.v:=⟨_,rfl⟩
       have HVV:=Lib.hid hVV
       unfold Hid at HVI
       rw [← hVV] at HVI
       clear hVV hf2
       obtain ⟨v1,v2⟩:=VV
       generalize hfn:V.freeN T.v.bs=fn at *
       have HFN:=Lib.hid hfn
       clear hfn
       go_wp2_with fail
       refine HVI.mono ?_
       rintro e w6 ⟨rfl,hb6⟩
       have HD6:=Lib.hid (HD5.out.below0 hb6)
       have HK6:Hid (KeptT DRT B wn w6):=HK5.out.thenBelow hb6
       clear hb6 HVI
       by_cases hv2:v2=0
       ·have j2:(v2 !=0)=false:=by simpa using hv2
        subst hv2
        obtain ⟨k,hk1,hvc⟩:=victim_told HVT.out (by rw [← HVV.out])
        have hk2:v1=(k:Int):=by rw [← hk1,← HVV.out]
        subst hk2
        have hcl:=clean20_any k hvc.hk HVT.out HUT.out HF.out hn HOT.out HD6.out
        have HCL2:Hid (Calls Tryz.prog 42 #[.pointer (some ⟨p,0,none⟩),.int .i64 (k:Int)] w6 (CleanPost w6 B p q pw g F key T ea ec k)):=hcl
        have HVC:=Lib.hid hvc
        clear hcl hvc
        unfold CleanPost at HCL2
        go_wp2_with fail
        refine HCL2.out.mono ?_
        rintro e w7 ⟨⟨U,m,er⟩,hcr,rfl,hto⟩
        have HCR:=Lib.hid hcr
        have HTO:=Lib.hid hto
        clear hcr hto HCL2
        simp only at HTO
        by_cases her:er=0
        ·have j3:(er !=0)=false:=by simpa using her
         subst her
         have HVZ:Hid ((victimN g T.v).2=0):=by unfold Hid; rw [← HVV.out]
         have HV1:Hid ((victimN g T.v).1=(k:Int)):=hk1
         have HCN:Hid (Cleans g F key S U):=Cleans.more HCL.out (by rw [HFN.out]; exact HF2.out) HVZ.out (by rw [HV1.out]; exact HCR.out)
         have HTN:Hid (DrvTo wn B p q pw g F key U ea ec w7):=by obtain ⟨A7,c7,h1,h2⟩:=HTO.out; exact ⟨A7,c7,h1,HK6.out.trans h2⟩
         have HME:Hid ((meaB (bz g) (bandsOf w7 p)).toNat < (meaB (bz g) (bandsOf wr p)).toNat):=by
          obtain ⟨A7,c7,h1,h2⟩:=HTO.out
          have h3:=(clean_told HVT.out HVC.out.hk HCR.out).2 HVC.out.ch
          have h4:=bandsOf_drv h1
          have h5:=HMB.out
          have h6:=HM1.out
          unfold Hid
          rw [h4,h5]
          have h3':meaB (bz g) U.v.bs < meaB (bz g) T.v.bs:=h3
          omega
         clear hk1 HVV
         go_wp2
         go_roundw
         case rel=>exact ⟨U,HCN,HTN⟩
         case measure=>exact HME.out
        ·have j3:(er !=0)=true:=by simpa using her
         have HPT:Hid (PutR g F key S ⟨kind,(b:Int),ver,[d0,d1,d2,d3,d4,d5,d6,d7]⟩ (U,er)):=⟨T,HCL.out,.inr (.inr ⟨by rw [HFN.out]; exact HF2.out,by rw [← HVV.out],U,m,er,by rw [hk1]; exact HCR.out,her,rfl⟩)⟩
         have HTN:Hid (DrvTo w B p q pw g F key U ea ec w7):=by obtain ⟨A7,c7,h1,h2⟩:=HTO.out; exact ⟨A7,c7,h1,(HKN.out.trans HK6.out).trans h2⟩
         have HR:=Lib.hid (HPOST.out _ w7 _ (HRP1.out _ HPT.out) rfl HTN.out)
         clear hk1 HVV her
         go_wp2
         exact HR.out
       ·have j2:(v2 !=0)=true:=by simpa using hv2
        have HPT:Hid (PutR g F key S ⟨kind,(b:Int),ver,[d0,d1,d2,d3,d4,d5,d6,d7]⟩ (T,11)):=⟨T,HCL.out,.inr (.inl ⟨by rw [HFN.out]; exact HF2.out,by rw [← HVV.out]; exact hv2,rfl⟩)⟩
        have HR:=Lib.hid (HPOST.out _ w6 _ (HRP1.out _ HPT.out) rfl ⟨BA2,bc2,HD6.out,HKN.out.trans HK6.out⟩)
        clear hv2 HVV
        go_wp2
        exact HR.out
      ·have dfr:decide (V.freeN T.v.bs < 2)=false:=decide_eq_false hf2
       have HO5:=HON2.out w5 HK5.out
       obtain ⟨⟨o0,o1,o2,o3,o4,o5,o6,o7,o8,o9,o10⟩,_⟩:=cells11 HO5
       have hap:=append20_any ⟨kind,(b:Int),ver,[d0,d1,d2,d3,d4,d5,d6,d7]⟩ (-1) (by omega) HXO.out HBL.out.1 (by rw [HES.out]; exact HBL.out.2) HVA.out HVT.out HF.out hn (by have:=HOT.out; omega) HD5.out
       obtain ⟨AP,hAP⟩:∃ AP,AP=appN g F key T ⟨kind,(b:Int),ver,[d0,d1,d2,d3,d4,d5,d6,d7]⟩ (-1):=⟨_,rfl⟩
       rw [← hAP] at hap
       have HPT:Hid (PutR g F key S ⟨kind,(b:Int),ver,[d0,d1,d2,d3,d4,d5,d6,d7]⟩ AP):=⟨T,HCL.out,.inl ⟨by omega,hAP⟩⟩
       have HAP:Hid (Calls Tryz.prog 79 #[.pointer (some ⟨p,0,none⟩),.agg #[.int .i64 kind,.int .i64 (b:Int),.int .u64 ver,.int .u8 d0,.int .u8 d1,.int .u8 d2,.int .u8 d3,.int .u8 d4,.int .u8 d5,.int .u8 d6,.int .u8 d7],.int .i64 (-1)] w5 fun e w'=>e= .returned (.int .i64 AP.2)∧DrvTo w5 B p q pw g F key AP.1 ea ec w'):=hap
       clear hap hAP HO5 hf2
       obtain ⟨AT,ae⟩:=AP
       simp only at HAP
       generalize V.freeN T.v.bs=fn at *
       go_wp2_with fail
       refine HAP.out.mono ?_
       rintro e w6 ⟨rfl,hto⟩
       have HTN:Hid (DrvTo w B p q pw g F key AT ea ec w6):=by obtain ⟨A7,c7,h1,h2⟩:=hto; exact ⟨A7,c7,h1,(HKN.out.trans HK5.out).trans h2⟩
       have HR:=Lib.hid (HPOST.out _ w6 _ (HRP1.out _ HPT.out) rfl HTN.out)
       clear hto HAP o0 o1 o2 o3 o4 o5 o6 o7 o8 o9 o10
       go_wp2
       exact HR.out
  ·have HPU:Hid (preE S.v blk ver=2):=by unfold Hid; rw [HPR0.out,if_neg hbb]
   have hd:(decide (0≤blk) && decide (blk < S.v.es.length))=false:=by
    cases h1:(decide (0≤blk) && decide (blk < S.v.es.length)) with
    | false=>rfl
    | true=>simp only [Bool.and_eq_true,decide_eq_true_eq] at h1; exact absurd h1 hbb
   rw [hd]
   have HR:=Lib.hid (HRET.out 2 HPU.out (by decide) _ HB0.out _ rfl)
   clear hbb hd HPR0
   go_wp2
   exact HR.out
 ·have hne:(fl !=0)=true:=by simpa using hz
  have HPU:Hid (preE S.v blk ver=fl):=by unfold Hid; rw [HPF.out,if_neg hz]
  have HR:=Lib.hid (HRET.out fl HPU.out hz _ HB0.out _ rfl)
  clear hz HPF HPR
  go_wp2
  exact HR.out
set_option maxRecDepth 100000 in
set_option maxHeartbeats 4000000 in
theorem write20_any (b ver d0 d1 d2 d3 d4 d5 d6 d7:Int) (hx:KindOk ⟨1,b,ver,[d0,d1,d2,d3,d4,d5,d6,d7]⟩) (hv:VOk g S.v) (hu8:S.d.U8) (hF:∀ f∈F,I64 f.to_) (hn:F.length≤9223372036854775807) (hon:S.d.O.length+1100≤99000) (h:Drv w B p q pw g F key S ea ec BA bc):
  Calls Tryz.prog 19 #[.pointer (some ⟨p,0,none⟩),.int .i64 b,.int .u64 ver,.agg #[.int .u8 d0,.int .u8 d1,.int .u8 d2,.int .u8 d3,.int .u8 d4,.int .u8 d5,.int .u8 d6,.int .u8 d7]] w (PutPost w B p q pw g F key S ea ec ⟨1,b,ver,[d0,d1,d2,d3,d4,d5,d6,d7]⟩):=by
 have hbl0:Below w.heap.size w (w.alloc (.cells #[.int .u8 d0,.int .u8 d1,.int .u8 d2,.int .u8 d3,.int .u8 d4,.int .u8 d5,.int .u8 d6,.int .u8 d7] 27)):=(Below.refl _ _).alloc (Nat.le_refl _) _
 have HP:Hid (Calls Tryz.prog 46 #[.pointer (some ⟨p,0,none⟩),.agg #[.int .i64 1,.int .i64 b,.int .u64 ver,.int .u8 d0,.int .u8 d1,.int .u8 d2,.int .u8 d3,.int .u8 d4,.int .u8 d5,.int .u8 d6,.int .u8 d7]] (w.alloc (.cells #[.int .u8 d0,.int .u8 d1,.int .u8 d2,.int .u8 d3,.int .u8 d4,.int .u8 d5,.int .u8 d6,.int .u8 d7] 27)) _):=put20_any ⟨1,b,ver,[d0,d1,d2,d3,d4,d5,d6,d7]⟩ hx hv hu8 hF hn hon (h.below0 hbl0)
 clear hx hv hu8 hF h
 unfold PutPost at HP ⊢
 generalize WriteR g F key S ⟨1,b,ver,[d0,d1,d2,d3,d4,d5,d6,d7]⟩=WR at *
 go_enter Tryz.func19,Tryz.ntmps19
 go_wp2_with fail
 refine HP.out.mono ?_
 rintro e w1 ⟨r,hr,rfl,hto⟩
 have HT:=Lib.hid (And.intro hr (hto.from hbl0))
 clear hto hbl0 HP hr
 go_wp2
 go_ret
 exact ⟨r,HT.out.1,rfl,HT.out.2⟩
set_option maxRecDepth 100000 in
set_option maxHeartbeats 4000000 in
theorem trim20_any (b ver:Int) (hx:KindOk ⟨2,b,ver,zeros8⟩) (hv:VOk g S.v) (hu8:S.d.U8) (hF:∀ f∈F,I64 f.to_) (hn:F.length≤9223372036854775807) (hon:S.d.O.length+1100≤99000) (h:Drv w B p q pw g F key S ea ec BA bc):
  Calls Tryz.prog 20 #[.pointer (some ⟨p,0,none⟩),.int .i64 b,.int .u64 ver] w (PutPost w B p q pw g F key S ea ec ⟨2,b,ver,zeros8⟩):=by
 have HP:Hid (Calls Tryz.prog 46 #[.pointer (some ⟨p,0,none⟩),.agg #[.int .i64 2,.int .i64 b,.int .u64 ver,.int .u8 0,.int .u8 0,.int .u8 0,.int .u8 0,.int .u8 0,.int .u8 0,.int .u8 0,.int .u8 0]] w _):=put20_any ⟨2,b,ver,zeros8⟩ hx hv hu8 hF hn hon h
 clear hx hv hu8 hF h
 unfold PutPost at HP ⊢
 generalize WriteR g F key S ⟨2,b,ver,zeros8⟩=WR at *
 go_enter Tryz.func20,Tryz.ntmps20
 go_wp2_with fail
 refine HP.out.mono ?_
 rintro e w1 ⟨r,hr,rfl,hto⟩
 have HT:=Lib.hid (And.intro hr hto)
 clear hto HP hr
 go_wp2
 go_ret
 exact ⟨r,HT.out.1,rfl,HT.out.2⟩
def CleanMPost (w:World) (B:Bd) (p q pw:Nat) (g:Geo) (F:List Flt) (key:Int) (S:ST) (ea ec:Nat) (e:Ending) (w':World):Prop:=
 ∃ r:ST × Int × Int,CleanMR g F key S r∧e= .returned (.tuple #[.int .i64 r.2.1,.int .i64 r.2.2])∧DrvTo w B p q pw g F key r.1 ea ec w'
set_option maxRecDepth 100000 in
set_option maxHeartbeats 4000000 in
theorem cleanm20_any (hv:VOk g S.v) (hu8:S.d.U8) (hF:∀ f∈F,I64 f.to_) (hn:F.length≤9223372036854775807) (hon:S.d.O.length+1100≤99000) (h:Drv w B p q pw g F key S ea ec BA bc):
  Calls Tryz.prog 15 #[.pointer (some ⟨p,0,none⟩)] w (CleanMPost w B p q pw g F key S ea ec):=by
 have HST:=Lib.hid (state20_any h)
 have HH:=Lib.hid h
 have HVI:=Lib.hid (victim20_any hv h)
 have HCL:Hid (∀ (k:Nat) W,(victimN g S.v).2=0→(victimN g S.v).1=(k:Int)→Below w.heap.size w W→Calls Tryz.prog 42 #[.pointer (some ⟨p,0,none⟩),.int .i64 (k:Int)] W (CleanPost W B p q pw g F key S ea ec k)):=by
  intro k W h0 h1 hW
  obtain ⟨k',e,hvc⟩:=victim_told hv h0
  have:k=k':=by omega
  subst this
  exact clean20_any k hvc.hk hv hu8 hF hn hon (h.below0 hW)
 have HKK:Hid ((victimN g S.v).2=0→∃ k:Nat,(victimN g S.v).1=(k:Int)):=fun h0=>by obtain ⟨k,e,_⟩:=victim_told hv h0; exact ⟨k,e⟩
 have HPOST:Hid (∀ e W r,CleanMR g F key S r→e= .returned (.tuple #[.int .i64 r.2.1,.int .i64 r.2.2])→DrvTo w B p q pw g F key r.1 ea ec W→CleanMPost w B p q pw g F key S ea ec e W):=fun e W r h1 h2 h3=>⟨r,h1,h2,h3⟩
 have HM:Hid (∀ f,S.v.failed=f→∀ V,victimN g S.v=V→∀ r,CleanMR g F key S r↔(if f=0 then (if V.2=0 then CleanR g F key V.1 S r else r=(S,0,9)) else r=(S,0,f))):=by
  intro f hf V hV r; unfold CleanMR; rw [hf,hV]
 clear hv hu8 hF h
 generalize CleanMPost w B p q pw g F key S ea ec=PP at *
 generalize hfl:S.v.failed=fl at *
 obtain ⟨VV,hVV⟩:∃ VV,VV=victimN g S.v:=⟨_,rfl⟩
 rw [← hVV] at HVI HCL HKK HM
 clear hVV
 obtain ⟨v1,v2⟩:=VV
 have HM1:=Lib.hid (HM.out fl rfl _ rfl)
 go_enter Tryz.func15,Tryz.ntmps15
 go_wp2_with fail
 refine HST.out.mono ?_
 rintro e w1 ⟨rfl,rfl⟩
 by_cases hz:fl=0
 ·subst hz
  go_wp2_with fail
  refine HVI.out.mono ?_
  rintro e w2 ⟨rfl,hb2⟩
  have HB2:=Lib.hid hb2
  clear hb2
  by_cases hv2:v2=0
  ·have j2:(v2 !=0)=false:=by simpa using hv2
   obtain ⟨k,hk⟩:=HKK.out hv2
   have hk':v1=(k:Int):=hk
   subst hk'
   have HC:=Lib.hid (HCL.out k w2 hv2 rfl HB2.out)
   have HM2:Hid (∀ r,CleanR g F key k S r→CleanMR g F key S r):=fun r hr=>(HM1.out r).2 (by simp only [if_true]; rw [if_pos hv2]; exact hr)
   clear HCL HKK HM HM1 hv2
   unfold CleanPost at HC
   go_wp2_with fail
   refine HC.out.mono ?_
   rintro e w3 ⟨r,hr,rfl,hto⟩
   have HR:=Lib.hid (HPOST.out _ w3 r (HM2.out r hr) rfl (hto.from HB2.out))
   clear hr hto HC
   go_wp2
   exact HR.out
  ·have j2:(v2 !=0)=true:=by simpa using hv2
   have HR:=Lib.hid (HPOST.out _ w2 (S,0,9) ((HM1.out _).2 (by simp [hv2])) rfl (DrvTo.refl HH.out HB2.out))
   clear hv2 HM1
   go_wp2
   exact HR.out
 ·have d0:(fl !=0)=true:=by simpa using hz
  have HR:=Lib.hid (HPOST.out _ w1 (S,0,fl) ((HM1.out _).2 (by rw [if_neg hz])) rfl (DrvTo.refl HH.out (Below.refl _ _)))
  clear hz HM1
  go_wp2
  exact HR.out
end
end Go.Proofs.YtggkengmlkhdiaaGreat
namespace Go.Proofs.YtggkengmlkhdiaaGreat
set_option linter.unusedVariables false
open Go.RowKit Go.Maps
def candV (c:Cnd):Value:=.agg (c.x.cells++[Value.int .i64 c.adr,Value.int .u64 c.tm]).toArray
def candOf:Value→Option Cnd
 | .agg a=>match a.toList with
   | [.int .i64 k,.int .i64 b,.int .u64 v,.int .u8 d0,.int .u8 d1,.int .u8 d2,.int .u8 d3,.int .u8 d4,.int .u8 d5,.int .u8 d6,.int .u8 d7,.int .i64 ad,.int .u64 t]=>some ⟨⟨k,b,v,[d0,d1,d2,d3,d4,d5,d6,d7]⟩,ad,t⟩
   | _=>none
 | _=>none
theorem candOf_val {c:Cnd} (h:c.x.dt.length=8):candOf (candV c)=some c:=by
 obtain ⟨⟨k,b,v,dt⟩,ad,t⟩:=c
 obtain ⟨d0,d1,d2,d3,d4,d5,d6,d7,rfl⟩:=len8 h
 rfl
theorem candOf_inv {v:Value} {c:Cnd} (h:candOf v=some c):v=candV c∧c.x.dt.length=8:=by
 unfold candOf at h
 split at h
 ·rename_i a
  split at h
  ·rename_i e
   injection h with h
   subst h
   refine ⟨?_,rfl⟩
   unfold candV
   congr 1
   apply Array.toList_inj.1
   rw [e]
   rfl
  ·cases h
 ·cases h
def R20 (v:Value):Option (DataW Cnd × List MemPlace):=(candOf v).map fun c=>(.held c,[])
theorem R20_mk {c:Cnd} (h:c.x.dt.length=8):R20 (candV c)=some (.held c,[]):=by unfold R20; rw [candOf_val h]; rfl
theorem R20_inv {v:Value} {y:DataW Cnd × List MemPlace} (h:R20 v=some y):∃ c,v=candV c∧y=(.held c,[])∧c.x.dt.length=8:=by
 unfold R20 at h
 cases e:candOf v with
 | none=>rw [e] at h; cases h
 | some c=>
   rw [e] at h
   injection h with h
   exact ⟨c,(candOf_inv e).1,h.symm,(candOf_inv e).2⟩
theorem lawI:Keyed Tryz.prog 3:=int_keyed Tryz.underlying3
theorem cand_zero (w:World):(zeroValue 144).run Tryz.prog w= .ok (candV cnd0) w:=by kernel_rfl
theorem keyI {b:Int} (h:I64 b):keyOf Tryz.prog 3 (.int .i64 b)=some (.int .i64 b):=keyOf_int_mk Tryz.underlying3 (WalkArith.wf_i64 h)
structure MapIs (D:DataW Cnd) (m:Int→Option Cnd):Prop where
 is:IsMap D
 has:∀ i,Maps.has D (.int .i64 i)=(m i).isSome
 at_:∀ i c,m i=some c→∀ z,D.atKey (.int .i64 i) z= .held c
 only:∀ kl,Maps.has D kl=true→∃ i,I64 i∧kl= .int .i64 i
theorem MapIs.nil:MapIs (.map []) (fun _=>none):=⟨isMap_empty,fun _=>rfl,fun _ _ h=>by simp at h,fun _ h=>by simp [Maps.has] at h⟩
theorem lit_ne {i j:Int} (h:i≠j):(Lit.int .i64 i)≠Lit.int .i64 j:=fun e=>by injection e with _ e; exact h e
theorem MapIs.put {D:DataW Cnd} {m:Int→Option Cnd} (h:MapIs D m) {b:Int} (hb:I64 b) (c:Cnd):MapIs (D.put (.int .i64 b) (.held c)) (mput m b c):=by
 refine ⟨h.is.put _ _,fun i=>?_,fun i d hd z=>?_,fun kl hk=>?_⟩
 ·unfold mput
  by_cases e:i=b
  ·subst e; rw [if_pos rfl,has_put_same h.is (show WideAt.IsKeyLit (.int .i64 i) from trivial)]; rfl
  ·rw [if_neg e,has_put_other (lit_ne e)]; exact h.has i
 ·unfold mput at hd
  by_cases e:i=b
  ·subst e; rw [if_pos rfl] at hd; injection hd with hd; subst hd
   exact atKey_put_same h.is (show WideAt.IsKeyLit (.int .i64 i) from trivial) _ _
  ·rw [if_neg e] at hd; rw [atKey_put_other (lit_ne e)]; exact h.at_ i d hd z
 ·by_cases e:kl= .int .i64 b
  ·exact ⟨b,hb,e⟩
  ·rw [has_put_other e] at hk; exact h.only kl hk
def MapM (w:World) (b n:Nat) (m:Int→Option Cnd):Prop:=∃ D,w.ownsMap Tryz.prog 3 R20 b n D∧MapIs D m
section
variable {P:Program} {w w':World} {b n:Nat} {m:Int→Option Cnd}
theorem MapM.kept {row:Option Nat} (h:MapM w b n m) (hg:w.grownBy w' row) (hne:some b≠row):MapM w' b n m:=by
 obtain ⟨D,h1,h2⟩:=h
 exact ⟨D,h1.kept hg hne,h2⟩
theorem MapM.set (h:MapM w b n m) {a:Addr} (ha:b≠a.block) (u:Value):MapM (w.setCell a u) b n m:=by
 obtain ⟨D,h1,h2⟩:=h
 exact ⟨D,h1.setCell ha u,h2⟩
theorem MapM.below (h:MapM w b n m) {B:Nat} (hb:Below B w w') (hB:b < B):MapM w' b n m:=by
 obtain ⟨D,⟨es,clock,h1,h3⟩,h2⟩:=h
 exact ⟨D,⟨es,clock,(hb.block b hB).trans h1,h3⟩,h2⟩
theorem MapM.mono (h:MapM w b n m) {k:Nat} (hk:n≤k):MapM w b k m:=by
 obtain ⟨D,h1,h2⟩:=h
 exact ⟨D,h1.mono hk,h2⟩
theorem MapM.lt (h:MapM w b n m):b < w.heap.size:=by obtain ⟨D,h1,_⟩:=h; exact h1.lt
theorem MapM.ne (h:MapM w b n m) {k:Nat} {t:TypeId} (ht:IsT t w k):b≠k:=fun e=>by
 subst e
 obtain ⟨D,⟨es,clock,h1,_⟩,_⟩:=h
 obtain ⟨cur,fr,h2⟩:=ht
 rw [h1] at h2
 cases h2
theorem wpList_look_as {H:Type} {P:Program} (w:World) {ops:Array Oper} {rest:List Oper} {o:Oper} {a:Act} {Q:Exit→Act→World→Prop} (hg:o.guard=none) (m x:Operand) (t:TypeId) (hop:o.op=Op.lookup t m x true)
  (k e:TypeId) (K:Keyed P k) (ht:P.underlying t=some (.map k e)) (R:Value→Option (DataW H × List MemPlace)) {z:Value} (hz:(zeroValue e).run P w= .ok z w) (zd:DataW H) (zp:List MemPlace) (hzd:R z=some (zd,zp)) (b n:Nat) (D:DataW H)
  (hm:a.eval m= .map (some b)) (hown:w.ownsMap P k R b n D) (key:Value) (kl:Lit) (hx:a.eval x=key) (hkey:keyOf P k key=some kl) (val:Value) (ok:Bool) (hval:∀ v ps,R v=some (D.atKey kl zd,ps)→v=val) (hok:Maps.has D kl=ok)
  (hK:wpList P ops Q rest (a.put o.dst (.tuple #[val,.bool ok])) w):wpList P ops Q (o::rest) a w:=
 wpList_lookup_own_ok w hg m x t hop k e K ht R hz zd zp hzd b n D hm hown key kl hx hkey (fun v ps hv=>by rw [hok,hval v ps hv]; exact hK)
theorem look_none {D:DataW Cnd} {m:Int→Option Cnd} (h:MapIs D m) {i:Int} (hi:m i=none):(∀ v ps,R20 v=some (D.atKey (.int .i64 i) (.held cnd0),ps)→v=candV cnd0)∧Maps.has D (.int .i64 i)=false:=by
 have hh:Maps.has D (.int .i64 i)=false:=by rw [h.has,hi]; rfl
 refine ⟨fun v ps hv=>?_,hh⟩
 rw [atKey_of_not_has hh] at hv
 obtain ⟨c,h1,h2,_⟩:=R20_inv hv
 injection h2 with h2 _
 injection h2 with h2
 rw [h1,← h2]
theorem look_some {D:DataW Cnd} {m:Int→Option Cnd} (h:MapIs D m) {i:Int} {o:Cnd} (hi:m i=some o):(∀ v ps,R20 v=some (D.atKey (.int .i64 i) (.held cnd0),ps)→v=candV o)∧Maps.has D (.int .i64 i)=true:=by
 refine ⟨fun v ps hv=>?_,by rw [h.has,hi]; rfl⟩
 rw [h.at_ i o hi] at hv
 obtain ⟨c,h1,h2,_⟩:=R20_inv hv
 injection h2 with h2 _
 injection h2 with h2
 rw [h1,← h2]
end
section
variable {w:World}
set_option maxRecDepth 100000
set_option maxHeartbeats 4000000
theorem newer_any (k b v d0 d1 d2 d3 d4 d5 d6 d7 ad t k' b' v' e0 e1 e2 e3 e4 e5 e6 e7 ad' t':Int):
  Calls Tryz.prog 94 #[.agg #[.int .i64 k,.int .i64 b,.int .u64 v,.int .u8 d0,.int .u8 d1,.int .u8 d2,.int .u8 d3,.int .u8 d4,.int .u8 d5,.int .u8 d6,.int .u8 d7,.int .i64 ad,.int .u64 t],.agg #[.int .i64 k',.int .i64 b',.int .u64 v',.int .u8 e0,.int .u8 e1,.int .u8 e2,.int .u8 e3,.int .u8 e4,.int .u8 e5,.int .u8 e6,.int .u8 e7,.int .i64 ad',.int .u64 t']] w fun e w'=>
   e= .returned (.bool (decide (v' < v) || (decide (v=v') && decide (t' < t))))∧Below w.heap.size w w':=by
 have HB:Hid (Below w.heap.size w ((w.alloc (.cells #[.int .i64 k,.int .i64 b,.int .u64 v,.int .u8 d0,.int .u8 d1,.int .u8 d2,.int .u8 d3,.int .u8 d4,.int .u8 d5,.int .u8 d6,.int .u8 d7,.int .i64 ad,.int .u64 t] 144)).alloc (.cells #[.int .i64 k',.int .i64 b',.int .u64 v',.int .u8 e0,.int .u8 e1,.int .u8 e2,.int .u8 e3,.int .u8 e4,.int .u8 e5,.int .u8 e6,.int .u8 e7,.int .i64 ad',.int .u64 t'] 144))):=((Below.refl _ _).alloc (Nat.le_refl _) _).alloc (by simp) _
 by_cases h1:v' < v
 ·have d1:decide (v' < v)=true:=decide_eq_true h1
  rw [d1,Bool.true_or]
  clear h1
  go_enter Tryz.func94,Tryz.ntmps94
  go_wp2
  go_quiet (fail)
  have HD:=Lib.hid (below_drewN HB.out nq)
  go_wp2
  go_ret
  exact ⟨rfl,HD.out⟩
 ·have d1:decide (v' < v)=false:=decide_eq_false h1
  rw [d1,Bool.false_or]
  by_cases h2:v=v'
  ·subst h2
   have d2:(v==v)=true:=by simp
   rw [decide_eq_true (rfl:v=v),Bool.true_and]
   clear h1
   go_enter Tryz.func94,Tryz.ntmps94
   go_wp2
   go_quiet (fail)
   have HD:=Lib.hid (below_drewN HB.out nq)
   go_wp2
   go_ret
   exact ⟨by simp,HD.out⟩
  ·have d2:(v==v')=false:=by simpa using h2
   rw [decide_eq_false h2,Bool.false_and]
   clear h1 h2
   go_enter Tryz.func94,Tryz.ntmps94
   go_wp2
   go_quiet (fail)
   have HD:=Lib.hid (below_drewN HB.out nq)
   go_wp2
   go_ret
   exact ⟨rfl,HD.out⟩
end
end Go.Proofs.YtggkengmlkhdiaaGreat
