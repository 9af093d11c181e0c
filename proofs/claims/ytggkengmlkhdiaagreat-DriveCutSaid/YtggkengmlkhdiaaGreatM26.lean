/-
  WHAT IS SHOWN: what Write and Trim of drive return and leave while two bands are free. what Read of drive returns and leaves. Conditions: as each theorem names them.
-/
import Derived.Test.YtggkengmlkhdiaaGreatM25
import Derived.Test.YtggkengmlkhdiaaGreatM24
namespace Go.Proofs.YtggkengmlkhdiaaGreat
set_option linter.unusedVariables false
open Go.RowKit
def putE (g:Geo) (F:List Flt) (key:Int) (S:ST) (x:Ent):ST × Int:=if preE S.v x.blk x.ver=0 then appN g F key S x (-1) else (S,preE S.v x.blk x.ver)
def KindOk (x:Ent):Prop:=(x.kind=1∨(x.kind=2∧x.dt=zeros8))∧0≤x.ver∧x.ver≤18446744073709551615∧x.dt.length=8∧U8s x.dt
section
variable {w w':World} {B:Bd} {p q pw:Nat} {g:Geo} {F:List Flt} {key:Int} {S:ST} {ea ec:Nat} {BA:Option Addr} {bc:Nat}
theorem DrvTo.refl (h:Drv w B p q pw g F key S ea ec BA bc) (hb:Below w.heap.size w w'):DrvTo w B p q pw g F key S ea ec w':=⟨BA,bc,h.below0 hb,KeptT.bel hb⟩
theorem DrvTo.from {w0:World} {S':ST} (h:DrvTo w B p q pw g F key S' ea ec w') (hb:Below w0.heap.size w0 w):DrvTo w0 B p q pw g F key S' ea ec w':=by
 obtain ⟨A,c,h1,h2⟩:=h
 exact ⟨A,c,h1,(KeptT.bel hb).trans h2⟩
set_option maxRecDepth 100000 in
set_option maxHeartbeats 8000000 in
theorem put20_easy (x:Ent) (hx:KindOk x) (hv:VOk g S.v) (hf0:S.v.failed=0) (hfr:2≤V.freeN S.v.bs) (hF:∀ f∈F,I64 f.to_) (hn:F.length≤9223372036854775807) (hon:S.d.O.length+9≤99000) (h:Drv w B p q pw g F key S ea ec BA bc):
  Calls Tryz.prog 46 #[.pointer (some ⟨p,0,none⟩),entV x] w fun e w'=>e= .returned (.int .i64 (putE g F key S x).2)∧DrvTo w B p q pw g F key (putE g F key S x).1 ea ec w':=by
 have HPE:Hid (∀ e,preE S.v x.blk x.ver=e→putE g F key S x=if e=0 then appN g F key S x (-1) else (S,e)):=by
  intro e he; unfold putE; rw [he]
 have HPR:Hid (preE S.v x.blk x.ver=(if 0≤x.blk∧x.blk < S.v.es.length then (if x.ver=0∨x.ver < (S.v.es.getD x.blk.toNat noNE).ver then 1 else 0) else 2)):=by
  unfold Hid preE; rw [if_pos hf0]
 obtain ⟨kind,blk,ver,dt⟩:=x
 obtain ⟨hk,hv0,hv1,hl8,hu8⟩:=hx
 simp only at hk hv0 hv1 hl8 hu8 HPE HPR
 obtain ⟨d0,d1,d2,d3,d4,d5,d6,d7,rfl⟩:=len8 hl8
 show Calls Tryz.prog 46 #[.pointer (some ⟨p,0,none⟩),.agg #[.int .i64 kind,.int .i64 blk,.int .u64 ver,.int .u8 d0,.int .u8 d1,.int .u8 d2,.int .u8 d3,.int .u8 d4,.int .u8 d5,.int .u8 d6,.int .u8 d7]] w _
 have hbl0:Below w.heap.size w (w.alloc (.cells #[.int .i64 kind,.int .i64 blk,.int .u64 ver,.int .u8 d0,.int .u8 d1,.int .u8 d2,.int .u8 d3,.int .u8 d4,.int .u8 d5,.int .u8 d6,.int .u8 d7] 89)):=(Below.refl _ _).alloc (Nat.le_refl _) _
 have hO:(w.alloc (.cells #[.int .i64 kind,.int .i64 blk,.int .u64 ver,.int .u8 d0,.int .u8 d1,.int .u8 d2,.int .u8 d3,.int .u8 d4,.int .u8 d5,.int .u8 d6,.int .u8 d7] 89)).heap[w.heap.size]?=some (.cells #[.int .i64 kind,.int .i64 blk,.int .u64 ver,.int .u8 d0,.int .u8 d1,.int .u8 d2,.int .u8 d3,.int .u8 d4,.int .u8 d5,.int .u8 d6,.int .u8 d7] 89 (0,0)):=heap_alloc_new _ _
 have h0:=h.below0 hbl0
 have HH:=Lib.hid h
 have HV:=Lib.hid hv
 have hl64:=hv.len64
 have HST:=Lib.hid (state20_any h0)
 unfold Hid at HST
 rw [hf0] at HST
 have HHA:=Lib.hid (has20_any blk h0)
 have HAP:Hid (∀ W,Below w.heap.size w W→0≤blk→blk < S.v.es.length→1≤ver→Calls Tryz.prog 79 #[.pointer (some ⟨p,0,none⟩),.agg #[.int .i64 kind,.int .i64 blk,.int .u64 ver,.int .u8 d0,.int .u8 d1,.int .u8 d2,.int .u8 d3,.int .u8 d4,.int .u8 d5,.int .u8 d6,.int .u8 d7],.int .i64 (-1)] W fun e w'=>e= .returned (.int .i64 (appN g F key S ⟨kind,blk,ver,[d0,d1,d2,d3,d4,d5,d6,d7]⟩ (-1)).2)∧DrvTo W B p q pw g F key (appN g F key S ⟨kind,blk,ver,[d0,d1,d2,d3,d4,d5,d6,d7]⟩ (-1)).1 ea ec w'):=by
  intro W hW h1 h2 h3
  have hve:validE ⟨kind,blk,ver,[d0,d1,d2,d3,d4,d5,d6,d7]⟩=true:=by
   unfold validE
   have:=hv.e1
   simp only [decide_eq_true h1,decide_eq_true (show blk < 65536 by omega),decide_eq_true h3,Bool.true_and]
   rcases hk with hk | ⟨hk,hz⟩
   ·rw [if_neg (by omega)]; simpa using hk
   ·rw [if_pos hk]; simpa using hz
  exact append20_any ⟨kind,blk,ver,[d0,d1,d2,d3,d4,d5,d6,d7]⟩ (-1) (by omega) ⟨hv0,hv1,rfl,hu8⟩ h1 h2 hve hv hF hn hon (h.below0 hW)
 have HFR:=Lib.hid (fun W (hW:Below w.heap.size w W)=>V.free_any S.v.bs BA bc W ((h.below0 hW).bs.rd) (by omega))
 have HF2:Hid (2≤V.freeN S.v.bs):=hfr
 have HV0:Hid (0≤ver):=hv0
 clear hk hv0 hv1 hl8 hu8 hF hv h h0 hf0 hfr
 go_enter Tryz.func46,Tryz.ntmps46
 go_wp2_with fail
 generalize (w.alloc (.cells #[.int .i64 kind,.int .i64 blk,.int .u64 ver,.int .u8 d0,.int .u8 d1,.int .u8 d2,.int .u8 d3,.int .u8 d4,.int .u8 d5,.int .u8 d6,.int .u8 d7] 89))=w0 at *
 refine HST.mono ?_
 rintro e w1 ⟨rfl,rfl⟩
 have HB0:=Lib.hid hbl0
 have HO:=Lib.hid hO
 obtain ⟨⟨o0,o1,o2,o3,o4,o5,o6,o7,o8,o9,o10⟩,_⟩:=cells11 hO
 clear hbl0 hO HST
 go_wp2_with fail
 refine HHA.out.mono ?_
 rintro e w1 ⟨rfl,rfl⟩
 by_cases hb0:0≤blk
 ·by_cases hb1:blk < S.v.es.length
  ·rw [decide_eq_true hb0,decide_eq_true hb1,Bool.true_and]
   obtain ⟨b,rfl⟩:=Int.eq_ofNat_of_zero_le hb0
   have hbn:b < S.v.es.length:=by omega
   have hne:=List.getElem?_eq_getElem hbn
   generalize hn0:S.v.es[b]=n at hne
   clear hn0
   have HPR2:Hid (preE S.v (b:Int) ver=(if ver=0∨ver < n.ver then 1 else 0)):=by
    unfold Hid; rw [HPR.out,if_pos ⟨hb0,hb1⟩,Int.toNat_natCast,getD_of hne]
   have hh0:=HH.out.below0 HB0.out
   obtain ⟨y0,y1,y2⟩:=hh0.entry hne
   have x2:=hh0.cells.2.2.1
   have x3:=hh0.cells.2.2.2.1
   clear hne hh0 hbn
   by_cases hz:ver=0
   ·have HPU:Hid (putE g F key S ⟨kind,(b:Int),ver,[d0,d1,d2,d3,d4,d5,d6,d7]⟩=(S,1)):=by
     unfold Hid; rw [HPE.out 1 (by rw [HPR2.out,if_pos (.inl hz)])]; rfl
    have dz:(ver==0)=true:=by simpa using hz
    clear hz
    go_wp2
    go_quiet (fail)
    go_wp2
    go_ret
    rw [HPU.out]
    exact ⟨rfl,DrvTo.refl HH.out (below_drewN HB0.out _)⟩
   ·have dz:(ver==0)=false:=by simpa using hz
    by_cases hlt:ver < n.ver
    ·have HPU:Hid (putE g F key S ⟨kind,(b:Int),ver,[d0,d1,d2,d3,d4,d5,d6,d7]⟩=(S,1)):=by
      unfold Hid; rw [HPE.out 1 (by rw [HPR2.out,if_pos (.inr hlt)])]; rfl
     have dl:decide (ver < n.ver)=true:=decide_eq_true hlt
     clear hz hlt
     go_wp2
     go_quiet (fail)
     go_wp2
     go_ret
     rw [HPU.out]
     exact ⟨rfl,DrvTo.refl HH.out (below_drewN HB0.out _)⟩
    ·have HPU:Hid (putE g F key S ⟨kind,(b:Int),ver,[d0,d1,d2,d3,d4,d5,d6,d7]⟩=appN g F key S ⟨kind,(b:Int),ver,[d0,d1,d2,d3,d4,d5,d6,d7]⟩ (-1)):=by
      unfold Hid; rw [HPE.out 0 (by rw [HPR2.out,if_neg (by omega)])]; rfl
     have dl:decide (ver < n.ver)=false:=decide_eq_false hlt
     have HVG:Hid (1≤ver):=by have:=HV0.out; unfold Hid; omega
     clear hz hlt y0 y2
     go_wp2
     go_quiet (fail)
     have HBN:=Lib.hid (below_drewN HB0.out nq)
     have HON:Hid (∀ W,Below (w1.drewN nq).heap.size (w1.drewN nq) W→W.heap[w.heap.size]?=some (.cells #[.int .i64 kind,.int .i64 (b:Int),.int .u64 ver,.int .u8 d0,.int .u8 d1,.int .u8 d2,.int .u8 d3,.int .u8 d4,.int .u8 d5,.int .u8 d6,.int .u8 d7] 89 (0,0))):=fun W hW=>belObj hW HO.out (lt_of_block HO.out)
     clear o0 o1 o2 o3 o4 o5 o6 o7 o8 o9 o10 x2 y1
     generalize w1.drewN nq=wn at *
     go_wp2
     go_loopw [39] (fun _ wr=>Hid (Below wn.heap.size wn wr)) (fun _ _=>0)
     case atStart=>exact Below.refl _ _
     case round=>
      have HR:=Lib.hid hrel.out
      have HRW:=Lib.hid (HBN.out.trans (HR.out.mono HBN.out.size))
      have x3r:=(HH.out.below0 HRW.out).cells.2.2.2.1
      clear hrel x3
      go_wp2_with fail
      refine (HFR.out wr HRW.out).mono ?_
      rintro e w5 ⟨rfl,hb5⟩
      have HB5:=Lib.hid (HR.out.trans (hb5.mono HR.out.size))
      have HBW:=Lib.hid (HRW.out.trans (hb5.mono HRW.out.size))
      have dfr:decide (V.freeN S.v.bs < 2)=false:=decide_eq_false (by have:=HF2.out; omega)
      have hO5:=HON.out w5 HB5.out
      obtain ⟨⟨o0,o1,o2,o3,o4,o5,o6,o7,o8,o9,o10⟩,_⟩:=cells11 hO5
      clear hb5 hO5 x3r
      go_wp2_with fail
      refine (HAP.out w5 HBW.out hb0 hb1 HVG.out).mono ?_
      rintro e w6 ⟨rfl,hto⟩
      have HTO:=Lib.hid (hto.from HBW.out)
      clear hto
      go_wp2
      go_ret
      rw [HPU.out]
      exact ⟨rfl,HTO.out⟩
  ·have HPU:Hid (putE g F key S ⟨kind,blk,ver,[d0,d1,d2,d3,d4,d5,d6,d7]⟩=(S,2)):=by
    unfold Hid; rw [HPE.out 2 (by rw [HPR.out,if_neg (by omega)])]; rfl
   rw [decide_eq_true hb0,decide_eq_false hb1,Bool.true_and]
   clear hb0 hb1
   go_wp2
   go_ret
   rw [HPU.out]
   exact ⟨rfl,DrvTo.refl HH.out HB0.out⟩
 ·have HPU:Hid (putE g F key S ⟨kind,blk,ver,[d0,d1,d2,d3,d4,d5,d6,d7]⟩=(S,2)):=by
   unfold Hid; rw [HPE.out 2 (by rw [HPR.out,if_neg (by omega)])]; rfl
  rw [decide_eq_false hb0,Bool.false_and]
  clear hb0
  go_wp2
  go_ret
  rw [HPU.out]
  exact ⟨rfl,DrvTo.refl HH.out HB0.out⟩
set_option maxRecDepth 100000 in
set_option maxHeartbeats 4000000 in
theorem write20_easy (b ver d0 d1 d2 d3 d4 d5 d6 d7:Int) (hx:KindOk ⟨1,b,ver,[d0,d1,d2,d3,d4,d5,d6,d7]⟩) (hv:VOk g S.v) (hf0:S.v.failed=0) (hfr:2≤V.freeN S.v.bs) (hF:∀ f∈F,I64 f.to_) (hn:F.length≤9223372036854775807) (hon:S.d.O.length+9≤99000) (h:Drv w B p q pw g F key S ea ec BA bc):
  Calls Tryz.prog 19 #[.pointer (some ⟨p,0,none⟩),.int .i64 b,.int .u64 ver,.agg #[.int .u8 d0,.int .u8 d1,.int .u8 d2,.int .u8 d3,.int .u8 d4,.int .u8 d5,.int .u8 d6,.int .u8 d7]] w fun e w'=>e= .returned (.int .i64 (putE g F key S ⟨1,b,ver,[d0,d1,d2,d3,d4,d5,d6,d7]⟩).2)∧DrvTo w B p q pw g F key (putE g F key S ⟨1,b,ver,[d0,d1,d2,d3,d4,d5,d6,d7]⟩).1 ea ec w':=by
 have hbl0:Below w.heap.size w (w.alloc (.cells #[.int .u8 d0,.int .u8 d1,.int .u8 d2,.int .u8 d3,.int .u8 d4,.int .u8 d5,.int .u8 d6,.int .u8 d7] 27)):=(Below.refl _ _).alloc (Nat.le_refl _) _
 have HP:Hid (Calls Tryz.prog 46 #[.pointer (some ⟨p,0,none⟩),.agg #[.int .i64 1,.int .i64 b,.int .u64 ver,.int .u8 d0,.int .u8 d1,.int .u8 d2,.int .u8 d3,.int .u8 d4,.int .u8 d5,.int .u8 d6,.int .u8 d7]] (w.alloc (.cells #[.int .u8 d0,.int .u8 d1,.int .u8 d2,.int .u8 d3,.int .u8 d4,.int .u8 d5,.int .u8 d6,.int .u8 d7] 27)) _):=put20_easy ⟨1,b,ver,[d0,d1,d2,d3,d4,d5,d6,d7]⟩ hx hv hf0 hfr hF hn hon (h.below0 hbl0)
 clear hx hv hf0 hfr hF h
 generalize putE g F key S ⟨1,b,ver,[d0,d1,d2,d3,d4,d5,d6,d7]⟩=r at *
 go_enter Tryz.func19,Tryz.ntmps19
 go_wp2_with fail
 refine HP.out.mono ?_
 rintro e w1 ⟨rfl,hto⟩
 have HT:=Lib.hid (hto.from hbl0)
 clear hto hbl0 HP
 go_wp2
 go_ret
 exact ⟨rfl,HT.out⟩
set_option maxRecDepth 100000 in
set_option maxHeartbeats 4000000 in
theorem trim20_easy (b ver:Int) (hx:KindOk ⟨2,b,ver,zeros8⟩) (hv:VOk g S.v) (hf0:S.v.failed=0) (hfr:2≤V.freeN S.v.bs) (hF:∀ f∈F,I64 f.to_) (hn:F.length≤9223372036854775807) (hon:S.d.O.length+9≤99000) (h:Drv w B p q pw g F key S ea ec BA bc):
  Calls Tryz.prog 20 #[.pointer (some ⟨p,0,none⟩),.int .i64 b,.int .u64 ver] w fun e w'=>e= .returned (.int .i64 (putE g F key S ⟨2,b,ver,zeros8⟩).2)∧DrvTo w B p q pw g F key (putE g F key S ⟨2,b,ver,zeros8⟩).1 ea ec w':=by
 have HP:Hid (Calls Tryz.prog 46 #[.pointer (some ⟨p,0,none⟩),.agg #[.int .i64 2,.int .i64 b,.int .u64 ver,.int .u8 0,.int .u8 0,.int .u8 0,.int .u8 0,.int .u8 0,.int .u8 0,.int .u8 0,.int .u8 0]] w _):=put20_easy ⟨2,b,ver,zeros8⟩ hx hv hf0 hfr hF hn hon h
 clear hx hv hf0 hfr hF h
 generalize putE g F key S ⟨2,b,ver,zeros8⟩=r at *
 go_enter Tryz.func20,Tryz.ntmps20
 go_wp2_with fail
 refine HP.out.mono ?_
 rintro e w1 ⟨rfl,hto⟩
 have HT:=Lib.hid hto
 clear hto HP
 go_wp2
 go_ret
 exact ⟨rfl,HT.out⟩
end
end Go.Proofs.YtggkengmlkhdiaaGreat
namespace Go.Proofs.YtggkengmlkhdiaaGreat
set_option linter.unusedVariables false
open Go.RowKit
theorem cells8q {w:World} {b:Nat} {v0 v1 v2 v3 v4 v5 v6 v7:Value} {t:TypeId} (h:w.heap[b]?=some (.cells #[v0,v1,v2,v3,v4,v5,v6,v7] t (0,0))):(w.cell? ⟨b,0,none⟩=some v0∧w.cell? ⟨b,1,none⟩=some v1∧w.cell? ⟨b,2,none⟩=some v2∧w.cell? ⟨b,3,none⟩=some v3∧w.cell? ⟨b,4,none⟩=some v4∧w.cell? ⟨b,5,none⟩=some v5∧w.cell? ⟨b,6,none⟩=some v6∧w.cell? ⟨b,7,none⟩=some v7)∧(w.frozen? ⟨b,0,none⟩=false∧w.frozen? ⟨b,1,none⟩=false∧w.frozen? ⟨b,2,none⟩=false∧w.frozen? ⟨b,3,none⟩=false∧w.frozen? ⟨b,4,none⟩=false∧w.frozen? ⟨b,5,none⟩=false∧w.frozen? ⟨b,6,none⟩=false∧w.frozen? ⟨b,7,none⟩=false):=by
 refine ⟨⟨?_,?_,?_,?_,?_,?_,?_,?_⟩,⟨?_,?_,?_,?_,?_,?_,?_,?_⟩⟩ <;> first | (simp [World.cell?,h]; done) | simp [World.frozen?,h]
theorem set8q {w:World} {b:Nat} {l:List Value} {t:TypeId} (h:w.heap[b]?=some (.cells l.toArray t (0,0))) (hl:l.length=8) (v0 v1 v2 v3 v4 v5 v6 v7:Value):
  ((((((((w.setCell ⟨b,0,none⟩ v0).setCell ⟨b,1,none⟩ v1).setCell ⟨b,2,none⟩ v2).setCell ⟨b,3,none⟩ v3).setCell ⟨b,4,none⟩ v4).setCell ⟨b,5,none⟩ v5).setCell ⟨b,6,none⟩ v6).setCell ⟨b,7,none⟩ v7).heap[b]?=some (.cells #[v0,v1,v2,v3,v4,v5,v6,v7] t (0,0))∧Kept (fun k=>k=b) w ((((((((w.setCell ⟨b,0,none⟩ v0).setCell ⟨b,1,none⟩ v1).setCell ⟨b,2,none⟩ v2).setCell ⟨b,3,none⟩ v3).setCell ⟨b,4,none⟩ v4).setCell ⟨b,5,none⟩ v5).setCell ⟨b,6,none⟩ v6).setCell ⟨b,7,none⟩ v7):=by
 refine ⟨?_,?_⟩
 ·match l,hl with
  | [_,_,_,_,_,_,_,_],_=>
    exact heap_setQ (heap_setQ (heap_setQ (heap_setQ (heap_setQ (heap_setQ (heap_setQ (heap_setQ h 0 v0) 1 v1) 2 v2) 3 v3) 4 v4) 5 v5) 6 v6) 7 v7
 ·repeat' apply Kept.setCell
  all_goals first | exact Kept.refl _ _ | exact fun _=>rfl
theorem ftX_len {g:Geo} {F:List Flt} {key:Int} {S:ST} (i:Nat):(ftX g F key S i).dt.length=8:=by
 unfold ftX
 split
 ·exact decX_len _
 ·rfl
def ReadTo20 (w:World) (B:Bd) (p q pw:Nat) (g:Geo) (F:List Flt) (key:Int) (S:ST) (ea ec:Nat) (b:Int) (e:Ending) (w':World):Prop:=
 e= .returned (.tuple #[.int .u64 (readX20 g F key S b).ver,.agg ((readX20 g F key S b).dt.map (Value.int .u8)).toArray,.int .i64 (readE20 g F key S b)])∧DrvTo w B p q pw g F key (readS20 g F key S b) ea ec w'
section
variable {w w':World} {B:Bd} {p q pw:Nat} {g:Geo} {F:List Flt} {key:Int} {S:ST} {ea ec:Nat} {BA:Option Addr} {bc:Nat}
set_option maxRecDepth 100000 in
set_option maxHeartbeats 8000000 in
theorem read20_any (b:Int) (hu8:S.d.U8) (hn:F.length≤9223372036854775807) (h:Drv w B p q pw g F key S ea ec BA bc):Calls Tryz.prog 14 #[.pointer (some ⟨p,0,none⟩),.int .i64 b] w (ReadTo20 w B p q pw g F key S ea ec b):=by
 unfold ReadTo20
 have hbl0:Below w.heap.size w (w.alloc (.cells #[.int .u8 0,.int .u8 0,.int .u8 0,.int .u8 0,.int .u8 0,.int .u8 0,.int .u8 0,.int .u8 0] 27)):=(Below.refl _ _).alloc (Nat.le_refl _) _
 have hO:(w.alloc (.cells #[.int .u8 0,.int .u8 0,.int .u8 0,.int .u8 0,.int .u8 0,.int .u8 0,.int .u8 0,.int .u8 0] 27)).heap[w.heap.size]?=some (.cells #[.int .u8 0,.int .u8 0,.int .u8 0,.int .u8 0,.int .u8 0,.int .u8 0,.int .u8 0,.int .u8 0] 27 (0,0)):=heap_alloc_new _ _
 have h0:=h.below0 hbl0
 have HH:=Lib.hid h
 have HST:=Lib.hid (state20_any h0)
 have HHA:=Lib.hid (has20_any b h0)
 have HRE:Hid (∀ f,S.v.failed=f→readE20 g F key S b=(if f=0 then (if 0≤b∧b < S.v.es.length then (if (S.v.es.getD b.toNat noNE).adr < 0∨(S.v.es.getD b.toNat noNE).kind=2 then 9 else if ftE g F key S b.toNat=16 then 15 else ftE g F key S b.toNat) else 2) else f)):=by
  intro f hf; unfold readE20; rw [hf]
 have HRN:Hid (¬ readsB S b→readX20 g F key S b=noEnt∧readS20 g F key S b=S):=by
  intro hnr
  refine ⟨?_,?_⟩
  ·unfold readX20; rw [if_neg (fun h=>hnr h.1)]
  ·unfold readS20; rw [if_neg hnr]
 have HRY:Hid (readsB S b→readX20 g F key S b=(if ftE g F key S b.toNat=0 then ftX g F key S b.toNat else noEnt)∧readS20 g F key S b=⟨if ftE g F key S b.toNat=15∨ftE g F key S b.toNat=16 then S.v else S.v.fail (ftE g F key S b.toNat),(rdX g F key S b.toNat).1⟩):=by
  intro hr
  refine ⟨?_,?_⟩
  ·unfold readX20
   by_cases h0:ftE g F key S b.toNat=0
   ·rw [if_pos ⟨hr,h0⟩,if_pos h0]
   ·rw [if_neg (fun h=>h0 h.2),if_neg h0]
  ·unfold readS20; rw [if_pos hr]
 have HFT:=Lib.hid (fun W (hW:Below w.heap.size w W) (i:Nat) (hi:i < S.v.es.length)=>fetch20_any i hi hu8 hn (h.below0 hW))
 clear hu8 h h0
 generalize hfl:S.v.failed=fl at *
 have HFN:Hid (∀ W1 W,Below w.heap.size w W1→Kept (fun k=>k=w.heap.size) W1 W→DrvTo w B p q pw g F key S ea ec W):=by
  intro W1 W hW1 hk
  exact DrvTo.refl HH.out (hW1.trans (hk.below (fun i h=>by have h':i=w.heap.size:=h; omega) hW1.size))
 go_enter Tryz.func14,Tryz.ntmps14
 go_wp2_with fail
 generalize (w.alloc (.cells #[.int .u8 0,.int .u8 0,.int .u8 0,.int .u8 0,.int .u8 0,.int .u8 0,.int .u8 0,.int .u8 0] 27))=w0 at *
 have HB0:=Lib.hid hbl0
 have HO:=Lib.hid hO
 have HFN0:=Lib.hid (fun W hk=>HFN.out w0 W HB0.out hk)
 clear hbl0 hO
 refine HST.out.mono ?_
 rintro e w1 ⟨rfl,rfl⟩
 by_cases hz:fl=0
 ·subst hz
  go_wp2_with fail
  refine HHA.out.mono ?_
  rintro e w2 ⟨rfl,rfl⟩
  by_cases hbb:0≤b∧b < S.v.es.length
  ·obtain ⟨hb0,hb1⟩:=hbb
   rw [decide_eq_true hb0,decide_eq_true hb1,Bool.true_and]
   obtain ⟨i,rfl⟩:=Int.eq_ofNat_of_zero_le hb0
   have hin:i < S.v.es.length:=by omega
   have hne:=List.getElem?_eq_getElem hin
   generalize hn0:S.v.es[i]=n at hne
   clear hn0
   have hh0:=HH.out.below0 HB0.out
   obtain ⟨y0,y1,y2⟩:=hh0.entry hne
   have x2:=hh0.cells.2.2.1
   have HRE2:Hid (∀ f,ftE g F key S i=f→readE20 g F key S (i:Int)=(if n.adr < 0∨n.kind=2 then 9 else if f=16 then 15 else f)):=by
    intro f hf
    rw [HRE.out 0 rfl,if_pos rfl,if_pos ⟨hb0,hb1⟩,Int.toNat_natCast,getD_of hne,hf]
   have HRB:Hid (readsB S (i:Int)↔¬ (n.adr < 0∨n.kind=2)):=by
    unfold Hid readsB
    rw [Int.toNat_natCast,getD_of hne]
    exact ⟨fun h=>h.2.2,fun h=>⟨hfl,⟨hb0,hb1⟩,h⟩⟩
   clear hne hh0 HRE
   by_cases ha:n.adr < 0
   ·have hnr:¬ readsB S (i:Int):=fun h=>HRB.out.mp h (.inl ha)
    have hx:=HRN.out hnr
    have HR:Hid ((readX20 g F key S (i:Int))=noEnt∧readE20 g F key S (i:Int)=9∧readS20 g F key S (i:Int)=S):=⟨hx.1,by rw [HRE2.out _ rfl,if_pos (.inl ha)],hx.2⟩
    have da:decide (n.adr < 0)=true:=decide_eq_true ha
    clear hnr hx ha hfl
    obtain ⟨⟨p0,p1,p2,p3,p4,p5,p6,p7⟩,⟨q0,q1,q2,q3,q4,q5,q6,q7⟩⟩:=cells8q HO.out
    have hS:=set8q (l:=[_,_,_,_,_,_,_,_]) HO.out rfl (.int .u8 0) (.int .u8 0) (.int .u8 0) (.int .u8 0) (.int .u8 0) (.int .u8 0) (.int .u8 0) (.int .u8 0)
    have HS:=Lib.hid hS.1
    have HF2:=Lib.hid (HFN0.out _ hS.2)
    clear hS
    go_wp2
    obtain ⟨⟨r0,r1,r2,r3,r4,r5,r6,r7⟩,_⟩:=cells8q HS.out
    generalize ((((((((w2.setCell ⟨w.heap.size,0,none⟩ (.int .u8 0)).setCell ⟨w.heap.size,1,none⟩ (.int .u8 0)).setCell ⟨w.heap.size,2,none⟩ (.int .u8 0)).setCell ⟨w.heap.size,3,none⟩ (.int .u8 0)).setCell ⟨w.heap.size,4,none⟩ (.int .u8 0)).setCell ⟨w.heap.size,5,none⟩ (.int .u8 0)).setCell ⟨w.heap.size,6,none⟩ (.int .u8 0)).setCell ⟨w.heap.size,7,none⟩ (.int .u8 0))=w30 at *
    clear p0 p1 p2 p3 p4 p5 p6 p7 q0 q1 q2 q3 q4 q5 q6 q7
    refine bodyPost_ret (by simp [results,Tryz.results14,go_sem, *]; rfl) rfl ?_
    rw [HR.out.1,HR.out.2.1,HR.out.2.2]
    exact ⟨rfl,HF2.out⟩
   ·have da:decide (n.adr < 0)=false:=decide_eq_false ha
    by_cases hk:n.kind=2
    ·have hnr:¬ readsB S (i:Int):=fun h=>HRB.out.mp h (.inr hk)
     have hx:=HRN.out hnr
     have HR:Hid ((readX20 g F key S (i:Int))=noEnt∧readE20 g F key S (i:Int)=9∧readS20 g F key S (i:Int)=S):=⟨hx.1,by rw [HRE2.out _ rfl,if_pos (.inr hk)],hx.2⟩
     have dk:(n.kind==2)=true:=by simpa using hk
     clear hnr hx ha hk hfl
     obtain ⟨⟨p0,p1,p2,p3,p4,p5,p6,p7⟩,⟨q0,q1,q2,q3,q4,q5,q6,q7⟩⟩:=cells8q HO.out
     have hS:=set8q (l:=[_,_,_,_,_,_,_,_]) HO.out rfl (.int .u8 0) (.int .u8 0) (.int .u8 0) (.int .u8 0) (.int .u8 0) (.int .u8 0) (.int .u8 0) (.int .u8 0)
     have HS:=Lib.hid hS.1
     have HF2:=Lib.hid (HFN0.out _ hS.2)
     clear hS
     go_wp2
     obtain ⟨⟨r0,r1,r2,r3,r4,r5,r6,r7⟩,_⟩:=cells8q HS.out
     generalize ((((((((w2.setCell ⟨w.heap.size,0,none⟩ (.int .u8 0)).setCell ⟨w.heap.size,1,none⟩ (.int .u8 0)).setCell ⟨w.heap.size,2,none⟩ (.int .u8 0)).setCell ⟨w.heap.size,3,none⟩ (.int .u8 0)).setCell ⟨w.heap.size,4,none⟩ (.int .u8 0)).setCell ⟨w.heap.size,5,none⟩ (.int .u8 0)).setCell ⟨w.heap.size,6,none⟩ (.int .u8 0)).setCell ⟨w.heap.size,7,none⟩ (.int .u8 0))=w30 at *
     clear p0 p1 p2 p3 p4 p5 p6 p7 q0 q1 q2 q3 q4 q5 q6 q7
     refine bodyPost_ret (by simp [results,Tryz.results14,go_sem, *]; rfl) rfl ?_
     rw [HR.out.1,HR.out.2.1,HR.out.2.2]
     exact ⟨rfl,HF2.out⟩
    ·have dk:(n.kind==2)=false:=by simpa using hk
     have hor:¬ (n.adr < 0∨n.kind=2):=fun h=>h.elim ha hk
     have hx:=HRY.out (HRB.out.mpr hor)
     rw [Int.toNat_natCast] at hx
     have HRX:=Lib.hid hx.1
     have HRS:=Lib.hid hx.2
     have HRE3:Hid (∀ f,ftE g F key S i=f→readE20 g F key S (i:Int)=(if f=16 then 15 else f)):=by
      intro f hf; rw [HRE2.out f hf,if_neg hor]
     have HFE:=Lib.hid (HFT.out w2 HB0.out i hin)
     unfold Hid at HFE
     have hxl:=ftX_len (g:=g) (F:=F) (key:=key) (S:=S) i
     generalize hfe:ftE g F key S i=fe at *
     rcases hX:ftX g F key S i with ⟨k1,b1,v1,dt⟩
     rw [hX] at hxl HFE HRX
     obtain ⟨f0,f1,f2,f3,f4,f5,f6,f7,rfl⟩:=len8 hxl
     generalize (rdX g F key S i).1=d' at *
     have HRE4:=Lib.hid (HRE3.out fe rfl)
     have HFE':Hid (Calls Tryz.prog 39 #[.pointer (some ⟨p,0,none⟩),.int .i64 (i:Int)] w2 fun e w'=>e= .returned (.tuple #[.agg #[.int .i64 k1,.int .i64 b1,.int .u64 v1,.int .u8 f0,.int .u8 f1,.int .u8 f2,.int .u8 f3,.int .u8 f4,.int .u8 f5,.int .u8 f6,.int .u8 f7],.int .i64 fe])∧Drv w' B p q pw g F key ⟨S.v,d'⟩ ea ec BA bc∧KeptT DAT B w2 w'):=HFE
     clear HFE hx hor ha hk hxl hX HRN HRY HFT HRB HRE2 HRE3 hfe hfl HHA HST HFN
     go_wp2_with fail
     refine HFE'.out.mono ?_
     rintro e w3 ⟨rfl,hd3,hk3⟩
     have HD3:=Lib.hid hd3
     have HK3:Hid (KeptT DAT B w w3):=(KeptT.bel HB0.out).trans hk3
     have HO3:=Lib.hid (Kept.obj hk3 HO.out (KeptT.no (IsT.of HO.out) (by unfold DAT; decide)))
     clear hd3 hk3 HFE' y0 y1 y2 x2
     have HFN3:Hid (∀ W,Kept (fun k=>k=w.heap.size) (w3.alloc (.cells #[.int .i64 k1,.int .i64 b1,.int .u64 v1,.int .u8 f0,.int .u8 f1,.int .u8 f2,.int .u8 f3,.int .u8 f4,.int .u8 f5,.int .u8 f6,.int .u8 f7] 89)) W→Drv W B p q pw g F key ⟨S.v,d'⟩ ea ec BA bc∧KeptT DAT B w W):=by
      intro W hk
      have hb:Below w3.heap.size w3 (w3.alloc (.cells #[.int .i64 k1,.int .i64 b1,.int .u64 v1,.int .u8 f0,.int .u8 f1,.int .u8 f2,.int .u8 f3,.int .u8 f4,.int .u8 f5,.int .u8 f6,.int .u8 f7] 89)):=(Below.refl _ _).alloc (Nat.le_refl _) _
      have hO:=belObj hb HO3.out (lt_of_block HO3.out)
      have hkT:KeptT [27] (Bd.of 0) (w3.alloc (.cells #[.int .i64 k1,.int .i64 b1,.int .u64 v1,.int .u8 f0,.int .u8 f1,.int .u8 f2,.int .u8 f3,.int .u8 f4,.int .u8 f5,.int .u8 f6,.int .u8 f7] 89)) W:=KeptT.of hk (fun k _ e=>by have e':k=w.heap.size:=e; subst e'; exact ⟨⟨Nat.zero_le _,fun h=>h⟩,HasT.mem (IsT.of hO) (by simp)⟩)
      refine ⟨(HD3.out.below0 hb).types hkT (by decide),Kept.trans (HK3.out.trans (KeptT.bel hb)) hk (fun i hi e=>by have e':i=w.heap.size:=e; omega)⟩
     have HO4:Hid ((w3.alloc (.cells #[.int .i64 k1,.int .i64 b1,.int .u64 v1,.int .u8 f0,.int .u8 f1,.int .u8 f2,.int .u8 f3,.int .u8 f4,.int .u8 f5,.int .u8 f6,.int .u8 f7] 89)).heap[w.heap.size]?=some (.cells #[.int .u8 0,.int .u8 0,.int .u8 0,.int .u8 0,.int .u8 0,.int .u8 0,.int .u8 0,.int .u8 0] 27 (0,0))):=belObj ((Below.refl w3.heap.size w3).alloc (Nat.le_refl _) (.cells #[.int .i64 k1,.int .i64 b1,.int .u64 v1,.int .u8 f0,.int .u8 f1,.int .u8 f2,.int .u8 f3,.int .u8 f4,.int .u8 f5,.int .u8 f6,.int .u8 f7] 89)) HO3.out (lt_of_block HO3.out)
     have HX4:Hid ((w3.alloc (.cells #[.int .i64 k1,.int .i64 b1,.int .u64 v1,.int .u8 f0,.int .u8 f1,.int .u8 f2,.int .u8 f3,.int .u8 f4,.int .u8 f5,.int .u8 f6,.int .u8 f7] 89)).heap[w3.heap.size]?=some (.cells #[.int .i64 k1,.int .i64 b1,.int .u64 v1,.int .u8 f0,.int .u8 f1,.int .u8 f2,.int .u8 f3,.int .u8 f4,.int .u8 f5,.int .u8 f6,.int .u8 f7] 89 (0,0))):=heap_alloc_new _ _
     have HLT:Hid (w.heap.size < w3.heap.size):=lt_of_block HO3.out
     by_cases h0:fe=0
     ·subst h0
      go_upto_region 11 with fail
      generalize (w3.alloc (.cells #[.int .i64 k1,.int .i64 b1,.int .u64 v1,.int .u8 f0,.int .u8 f1,.int .u8 f2,.int .u8 f3,.int .u8 f4,.int .u8 f5,.int .u8 f6,.int .u8 f7] 89))=w4 at *
      have HR:Hid (readE20 g F key S (i:Int)=0∧readX20 g F key S (i:Int)=⟨k1,b1,v1,[f0,f1,f2,f3,f4,f5,f6,f7]⟩∧readS20 g F key S (i:Int)=⟨S.v,d'⟩):=⟨by rw [HRE4.out]; rfl,by rw [HRX.out]; rfl,by rw [HRS.out,if_neg (by omega)]; rfl⟩
      obtain ⟨⟨p0,p1,p2,p3,p4,p5,p6,p7⟩,⟨q0,q1,q2,q3,q4,q5,q6,q7⟩⟩:=cells8q HO4.out
      obtain ⟨⟨o0,o1,o2,o3,o4,o5,o6,o7,o8,o9,o10⟩,_⟩:=cells11 HX4.out
      have hS:=set8q (l:=[_,_,_,_,_,_,_,_]) HO4.out rfl (.int .u8 f0) (.int .u8 f1) (.int .u8 f2) (.int .u8 f3) (.int .u8 f4) (.int .u8 f5) (.int .u8 f6) (.int .u8 f7)
      have hG:∀ W:World,W.heap[w.heap.size]?=some (.cells #[.int .u8 f0,.int .u8 f1,.int .u8 f2,.int .u8 f3,.int .u8 f4,.int .u8 f5,.int .u8 f6,.int .u8 f7] 27 (0,0))∧Kept (fun k=>k=w.heap.size) w4 W→Hid (W.drew.heap[w.heap.size]?=some (.cells #[.int .u8 f0,.int .u8 f1,.int .u8 f2,.int .u8 f3,.int .u8 f4,.int .u8 f5,.int .u8 f6,.int .u8 f7] 27 (0,0)))∧Hid (Drv W.drew B p q pw g F key ⟨S.v,d'⟩ ea ec BA bc∧KeptT DAT B w W.drew):=fun W h=>⟨h.1,HFN3.out W.drew (Kept.trans h.2 (belKept0 ((Below.refl W.heap.size W).drew)) (fun _ _ h=>h))⟩
      obtain ⟨HS,HF2⟩:=hG _ hS
      clear hG
      clear hS
      go_region
      generalize ((((((((w4.setCell ⟨w.heap.size,0,none⟩ (.int .u8 f0)).setCell ⟨w.heap.size,1,none⟩ (.int .u8 f1)).setCell ⟨w.heap.size,2,none⟩ (.int .u8 f2)).setCell ⟨w.heap.size,3,none⟩ (.int .u8 f3)).setCell ⟨w.heap.size,4,none⟩ (.int .u8 f4)).setCell ⟨w.heap.size,5,none⟩ (.int .u8 f5)).setCell ⟨w.heap.size,6,none⟩ (.int .u8 f6)).setCell ⟨w.heap.size,7,none⟩ (.int .u8 f7)).drew=w5 at *
      clear p0 p1 p2 p3 p4 p5 p6 p7 q0 q1 q2 q3 q4 q5 q6 q7 o0 o1 o2 o3 o4 o5 o6 o7 o8 o9 o10
      obtain ⟨⟨r0,r1,r2,r3,r4,r5,r6,r7⟩,_⟩:=cells8q HS.out
      go_wp2
      refine bodyPost_ret (by simp [results,Tryz.results14,go_sem, *]; rfl) rfl ?_
      rw [HR.out.1,HR.out.2.1,HR.out.2.2]
      exact ⟨rfl,BA,bc,HF2.out.1,HF2.out.2.sub dat_drt⟩
     ·have d0:(fe==0)=false:=by simpa using h0
      have HFN4:Hid (∀ W,Kept (fun k=>k=w.heap.size) (w3.alloc (.cells #[.int .i64 k1,.int .i64 b1,.int .u64 v1,.int .u8 f0,.int .u8 f1,.int .u8 f2,.int .u8 f3,.int .u8 f4,.int .u8 f5,.int .u8 f6,.int .u8 f7] 89)) W→DrvTo w B p q pw g F key ⟨S.v,d'⟩ ea ec W):=fun W hk=>⟨BA,bc,(HFN3.out W hk).1,(HFN3.out W hk).2.sub dat_drt⟩
      by_cases h15:fe=15
      ·subst h15
       have HR:Hid (readX20 g F key S (i:Int)=noEnt∧readE20 g F key S (i:Int)=15∧readS20 g F key S (i:Int)=⟨S.v,d'⟩):=⟨by rw [HRX.out]; rfl,by rw [HRE4.out]; rfl,by rw [HRS.out]; rfl⟩
       go_upto_region 14 with fail
       generalize (w3.alloc (.cells #[.int .i64 k1,.int .i64 b1,.int .u64 v1,.int .u8 f0,.int .u8 f1,.int .u8 f2,.int .u8 f3,.int .u8 f4,.int .u8 f5,.int .u8 f6,.int .u8 f7] 89))=w4 at *
       obtain ⟨⟨p0,p1,p2,p3,p4,p5,p6,p7⟩,⟨q0,q1,q2,q3,q4,q5,q6,q7⟩⟩:=cells8q HO4.out
       have hS:=set8q (l:=[_,_,_,_,_,_,_,_]) HO4.out rfl (.int .u8 0) (.int .u8 0) (.int .u8 0) (.int .u8 0) (.int .u8 0) (.int .u8 0) (.int .u8 0) (.int .u8 0)
       have HS:=Lib.hid hS.1
       have HF2:=Lib.hid (HFN4.out _ hS.2)
       clear hS
       go_wp2
       obtain ⟨⟨r0,r1,r2,r3,r4,r5,r6,r7⟩,_⟩:=cells8q HS.out
       generalize ((((((((w4.setCell ⟨w.heap.size,0,none⟩ (.int .u8 0)).setCell ⟨w.heap.size,1,none⟩ (.int .u8 0)).setCell ⟨w.heap.size,2,none⟩ (.int .u8 0)).setCell ⟨w.heap.size,3,none⟩ (.int .u8 0)).setCell ⟨w.heap.size,4,none⟩ (.int .u8 0)).setCell ⟨w.heap.size,5,none⟩ (.int .u8 0)).setCell ⟨w.heap.size,6,none⟩ (.int .u8 0)).setCell ⟨w.heap.size,7,none⟩ (.int .u8 0))=w30 at *
       clear p0 p1 p2 p3 p4 p5 p6 p7 q0 q1 q2 q3 q4 q5 q6 q7
       refine bodyPost_ret (by simp [results,Tryz.results14,go_sem, *]; rfl) rfl ?_
       rw [HR.out.1,HR.out.2.1,HR.out.2.2]
       exact ⟨rfl,HF2.out⟩
      ·have d15:(fe==15)=false:=by simpa using h15
       by_cases h16:fe=16
       ·subst h16
        have HR:Hid (readX20 g F key S (i:Int)=noEnt∧readE20 g F key S (i:Int)=15∧readS20 g F key S (i:Int)=⟨S.v,d'⟩):=⟨by rw [HRX.out]; rfl,by rw [HRE4.out]; rfl,by rw [HRS.out]; rfl⟩
        go_upto_region 14 with fail
        generalize (w3.alloc (.cells #[.int .i64 k1,.int .i64 b1,.int .u64 v1,.int .u8 f0,.int .u8 f1,.int .u8 f2,.int .u8 f3,.int .u8 f4,.int .u8 f5,.int .u8 f6,.int .u8 f7] 89))=w4 at *
        obtain ⟨⟨p0,p1,p2,p3,p4,p5,p6,p7⟩,⟨q0,q1,q2,q3,q4,q5,q6,q7⟩⟩:=cells8q HO4.out
        have hS:=set8q (l:=[_,_,_,_,_,_,_,_]) HO4.out rfl (.int .u8 0) (.int .u8 0) (.int .u8 0) (.int .u8 0) (.int .u8 0) (.int .u8 0) (.int .u8 0) (.int .u8 0)
        have HS:=Lib.hid hS.1
        have HF2:=Lib.hid (HFN4.out _ hS.2)
        clear hS
        go_wp2
        obtain ⟨⟨r0,r1,r2,r3,r4,r5,r6,r7⟩,_⟩:=cells8q HS.out
        generalize ((((((((w4.setCell ⟨w.heap.size,0,none⟩ (.int .u8 0)).setCell ⟨w.heap.size,1,none⟩ (.int .u8 0)).setCell ⟨w.heap.size,2,none⟩ (.int .u8 0)).setCell ⟨w.heap.size,3,none⟩ (.int .u8 0)).setCell ⟨w.heap.size,4,none⟩ (.int .u8 0)).setCell ⟨w.heap.size,5,none⟩ (.int .u8 0)).setCell ⟨w.heap.size,6,none⟩ (.int .u8 0)).setCell ⟨w.heap.size,7,none⟩ (.int .u8 0))=w30 at *
        clear p0 p1 p2 p3 p4 p5 p6 p7 q0 q1 q2 q3 q4 q5 q6 q7
        refine bodyPost_ret (by simp [results,Tryz.results14,go_sem, *]; rfl) rfl ?_
        rw [HR.out.1,HR.out.2.1,HR.out.2.2]
        exact ⟨rfl,HF2.out⟩
       ·have d16:(fe==16)=false:=by simpa using h16
        have HR:Hid (readX20 g F key S (i:Int)=noEnt∧readE20 g F key S (i:Int)=fe∧readS20 g F key S (i:Int)=⟨S.v.fail fe,d'⟩):=⟨by rw [HRX.out,if_neg h0],by rw [HRE4.out,if_neg h16],by rw [HRS.out,if_neg (by omega)]⟩
        clear h0 h15 h16
        go_upto_region 15 with fail
        have HD4:=Lib.hid (HFN3.out _ (Kept.refl _ _))
        have HFA:=Lib.hid (fail_any fe HD4.out.1)
        generalize (w3.alloc (.cells #[.int .i64 k1,.int .i64 b1,.int .u64 v1,.int .u8 f0,.int .u8 f1,.int .u8 f2,.int .u8 f3,.int .u8 f4,.int .u8 f5,.int .u8 f6,.int .u8 f7] 89))=w4 at *
        go_wp2_with fail
        refine HFA.out.mono ?_
        rintro e w5 ⟨rfl,hd5,hk5⟩
        have HO5:=Lib.hid (Kept.obj hk5 HO4.out (KeptT.no (IsT.of HO4.out) (by unfold DRT; decide)))
        have HFN5:Hid (∀ W,Kept (fun k=>k=w.heap.size) w5 W→DrvTo w B p q pw g F key ⟨S.v.fail fe,d'⟩ ea ec W):=by
         have HD5:=Lib.hid hd5
         have HK5:Hid (KeptT DRT B w w5):=(HD4.out.2.sub dat_drt).trans hk5
         intro W hk
         have hkT:KeptT [27] (Bd.of 0) w5 W:=KeptT.of hk (fun k _ e=>by have e':k=w.heap.size:=e; subst e'; exact ⟨⟨Nat.zero_le _,fun h=>h⟩,HasT.mem (IsT.of HO5.out) (by simp)⟩)
         exact ⟨BA,bc,HD5.out.types hkT (by decide),Kept.trans HK5.out hk (fun i hi e=>by have e':i=w.heap.size:=e; omega)⟩
        clear hd5 hk5 HFA HD4
        obtain ⟨⟨p0,p1,p2,p3,p4,p5,p6,p7⟩,⟨q0,q1,q2,q3,q4,q5,q6,q7⟩⟩:=cells8q HO5.out
        have hS:=set8q (l:=[_,_,_,_,_,_,_,_]) HO5.out rfl (.int .u8 0) (.int .u8 0) (.int .u8 0) (.int .u8 0) (.int .u8 0) (.int .u8 0) (.int .u8 0) (.int .u8 0)
        have HS:=Lib.hid hS.1
        have HF2:=Lib.hid (HFN5.out _ hS.2)
        clear hS
        go_wp2
        obtain ⟨⟨r0,r1,r2,r3,r4,r5,r6,r7⟩,_⟩:=cells8q HS.out
        generalize ((((((((w5.setCell ⟨w.heap.size,0,none⟩ (.int .u8 0)).setCell ⟨w.heap.size,1,none⟩ (.int .u8 0)).setCell ⟨w.heap.size,2,none⟩ (.int .u8 0)).setCell ⟨w.heap.size,3,none⟩ (.int .u8 0)).setCell ⟨w.heap.size,4,none⟩ (.int .u8 0)).setCell ⟨w.heap.size,5,none⟩ (.int .u8 0)).setCell ⟨w.heap.size,6,none⟩ (.int .u8 0)).setCell ⟨w.heap.size,7,none⟩ (.int .u8 0))=w30 at *
        clear p0 p1 p2 p3 p4 p5 p6 p7 q0 q1 q2 q3 q4 q5 q6 q7
        refine bodyPost_ret (by simp [results,Tryz.results14,go_sem, *]; rfl) rfl ?_
        rw [HR.out.1,HR.out.2.1,HR.out.2.2]
        exact ⟨rfl,HF2.out⟩
  ·have hd:(decide (0≤b) && decide (b < S.v.es.length))=false:=by
    cases h1:(decide (0≤b) && decide (b < S.v.es.length)) with
    | false=>rfl
    | true=>simp only [Bool.and_eq_true,decide_eq_true_eq] at h1; exact absurd h1 hbb
   have hnr:¬ readsB S b:=fun h=>hbb h.2.1
   have hx:=HRN.out hnr
   have HR:Hid ((readX20 g F key S b)=noEnt∧readE20 g F key S b=2∧readS20 g F key S b=S):=⟨hx.1,by rw [HRE.out 0 rfl,if_pos rfl,if_neg hbb],hx.2⟩
   rw [hd]
   clear hd hnr hx hbb
   obtain ⟨⟨p0,p1,p2,p3,p4,p5,p6,p7⟩,⟨q0,q1,q2,q3,q4,q5,q6,q7⟩⟩:=cells8q HO.out
   have hS:=set8q (l:=[_,_,_,_,_,_,_,_]) HO.out rfl (.int .u8 0) (.int .u8 0) (.int .u8 0) (.int .u8 0) (.int .u8 0) (.int .u8 0) (.int .u8 0) (.int .u8 0)
   have HS:=Lib.hid hS.1
   have HF2:=Lib.hid (HFN0.out _ hS.2)
   clear hS
   go_wp2
   obtain ⟨⟨r0,r1,r2,r3,r4,r5,r6,r7⟩,_⟩:=cells8q HS.out
   generalize ((((((((w2.setCell ⟨w.heap.size,0,none⟩ (.int .u8 0)).setCell ⟨w.heap.size,1,none⟩ (.int .u8 0)).setCell ⟨w.heap.size,2,none⟩ (.int .u8 0)).setCell ⟨w.heap.size,3,none⟩ (.int .u8 0)).setCell ⟨w.heap.size,4,none⟩ (.int .u8 0)).setCell ⟨w.heap.size,5,none⟩ (.int .u8 0)).setCell ⟨w.heap.size,6,none⟩ (.int .u8 0)).setCell ⟨w.heap.size,7,none⟩ (.int .u8 0))=w30 at *
   clear p0 p1 p2 p3 p4 p5 p6 p7 q0 q1 q2 q3 q4 q5 q6 q7
   refine bodyPost_ret (by simp [results,Tryz.results14,go_sem, *]; rfl) rfl ?_
   rw [HR.out.1,HR.out.2.1,HR.out.2.2]
   exact ⟨rfl,HF2.out⟩
 ·have hne:(fl !=0)=true:=by simpa using hz
  have hnr:¬ readsB S b:=fun h=>hz (by rw [← hfl]; exact h.1)
  have hx:=HRN.out hnr
  have HR:Hid ((readX20 g F key S b)=noEnt∧readE20 g F key S b=fl∧readS20 g F key S b=S):=⟨hx.1,by rw [HRE.out fl rfl,if_neg hz],hx.2⟩
  clear hz hnr hx hfl
  obtain ⟨⟨p0,p1,p2,p3,p4,p5,p6,p7⟩,⟨q0,q1,q2,q3,q4,q5,q6,q7⟩⟩:=cells8q HO.out
  have hS:=set8q (l:=[_,_,_,_,_,_,_,_]) HO.out rfl (.int .u8 0) (.int .u8 0) (.int .u8 0) (.int .u8 0) (.int .u8 0) (.int .u8 0) (.int .u8 0) (.int .u8 0)
  have HS:=Lib.hid hS.1
  have HF2:=Lib.hid (HFN0.out _ hS.2)
  clear hS
  go_wp2
  obtain ⟨⟨r0,r1,r2,r3,r4,r5,r6,r7⟩,_⟩:=cells8q HS.out
  generalize ((((((((w1.setCell ⟨w.heap.size,0,none⟩ (.int .u8 0)).setCell ⟨w.heap.size,1,none⟩ (.int .u8 0)).setCell ⟨w.heap.size,2,none⟩ (.int .u8 0)).setCell ⟨w.heap.size,3,none⟩ (.int .u8 0)).setCell ⟨w.heap.size,4,none⟩ (.int .u8 0)).setCell ⟨w.heap.size,5,none⟩ (.int .u8 0)).setCell ⟨w.heap.size,6,none⟩ (.int .u8 0)).setCell ⟨w.heap.size,7,none⟩ (.int .u8 0))=w30 at *
  clear p0 p1 p2 p3 p4 p5 p6 p7 q0 q1 q2 q3 q4 q5 q6 q7
  refine bodyPost_ret (by simp [results,Tryz.results14,go_sem, *]; rfl) rfl ?_
  rw [HR.out.1,HR.out.2.1,HR.out.2.2]
  exact ⟨rfl,HF2.out⟩
end
end Go.Proofs.YtggkengmlkhdiaaGreat
