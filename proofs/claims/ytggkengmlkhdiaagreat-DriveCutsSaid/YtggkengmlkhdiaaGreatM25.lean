/-
  WHAT IS SHOWN: what append of drive returns and leaves. Conditions: the drive lies in memory; its account of the bands holds.
-/
import Derived.Test.YtggkengmlkhdiaaGreatM21
import Derived.Test.YtggkengmlkhdiaaGreatM23
namespace Go.Proofs.YtggkengmlkhdiaaGreat
set_option linter.unusedVariables false
open Go.RowKit
section
variable {w w':World} {B:Bd} {p q pw:Nat} {g:Geo} {F:List Flt} {key:Int} {S:ST} {ea ec:Nat} {BA:Option Addr} {bc:Nat}
structure Box2 (w:World) (n p:Nat) (kind blk ver d0 d1 d2 d3 d4 d5 d6 d7:Int):Prop where
 d:w.heap[n]?=some (.cells #[.pointer (some ⟨p,0,none⟩)] 22 (0,0))
 e:w.heap[n+1]?=some (.cells #[.int .i64 kind,.int .i64 blk,.int .u64 ver,.int .u8 d0,.int .u8 d1,.int .u8 d2,.int .u8 d3,.int .u8 d4,.int .u8 d5,.int .u8 d6,.int .u8 d7] 89 (0,0))
section
variable {n:Nat} {kind blk ver d0 d1 d2 d3 d4 d5 d6 d7:Int}
theorem Box2.below {b:Nat} (h:Box2 w n p kind blk ver d0 d1 d2 d3 d4 d5 d6 d7) (hb:Below b w w') (hn:n+1 < b):Box2 w' n p kind blk ver d0 d1 d2 d3 d4 d5 d6 d7:=⟨belObj hb h.d (by omega),belObj hb h.e hn⟩
theorem Box2.types {ts:List TypeId} {C:Bd} (h:Box2 w n p kind blk ver d0 d1 d2 d3 d4 d5 d6 d7) (hk:KeptT ts C w w') (h1:22 ∉ ts) (h2:89 ∉ ts):Box2 w' n p kind blk ver d0 d1 d2 d3 d4 d5 d6 d7:=
 ⟨Kept.obj hk h.d (KeptT.no (IsT.of h.d) h1),Kept.obj hk h.e (KeptT.no (IsT.of h.e) h2)⟩
theorem Box2.cells (h:Box2 w n p kind blk ver d0 d1 d2 d3 d4 d5 d6 d7):w.cell? ⟨n,0,none⟩=some (.pointer (some ⟨p,0,none⟩))∧(w.cell? ⟨n+1,0,none⟩=some (.int .i64 kind)∧w.cell? ⟨n+1,1,none⟩=some (.int .i64 blk)∧w.cell? ⟨n+1,2,none⟩=some (.int .u64 ver)∧w.cell? ⟨n+1,3,none⟩=some (.int .u8 d0)∧w.cell? ⟨n+1,4,none⟩=some (.int .u8 d1)∧w.cell? ⟨n+1,5,none⟩=some (.int .u8 d2)∧w.cell? ⟨n+1,6,none⟩=some (.int .u8 d3)∧w.cell? ⟨n+1,7,none⟩=some (.int .u8 d4)∧w.cell? ⟨n+1,8,none⟩=some (.int .u8 d5)∧w.cell? ⟨n+1,9,none⟩=some (.int .u8 d6)∧w.cell? ⟨n+1,10,none⟩=some (.int .u8 d7)):=
 ⟨dcell_one h.d,(cells11 h.e).1⟩
theorem Box2.new (w:World) (p:Nat) (kind blk ver d0 d1 d2 d3 d4 d5 d6 d7:Int):Box2 ((w.alloc (.cells #[.pointer (some ⟨p,0,none⟩)] 22)).alloc (.cells #[.int .i64 kind,.int .i64 blk,.int .u64 ver,.int .u8 d0,.int .u8 d1,.int .u8 d2,.int .u8 d3,.int .u8 d4,.int .u8 d5,.int .u8 d6,.int .u8 d7] 89)) w.heap.size p kind blk ver d0 d1 d2 d3 d4 d5 d6 d7:=by
 constructor
 ·exact belObj (B:=w.heap.size+1) ((Below.refl _ _).alloc (by simp) _) (heap_alloc_new w _) (by omega)
 ·have h1:=heap_alloc_new (w.alloc (.cells #[.pointer (some ⟨p,0,none⟩)] 22)) (.cells #[.int .i64 kind,.int .i64 blk,.int .u64 ver,.int .u8 d0,.int .u8 d1,.int .u8 d2,.int .u8 d3,.int .u8 d4,.int .u8 d5,.int .u8 d6,.int .u8 d7] 89)
  rw [show (w.alloc (.cells #[.pointer (some ⟨p,0,none⟩)] 22)).heap.size=w.heap.size+1 by simp] at h1
  exact h1
end
theorem own_le {w:World} {base m n c:Nat} {t:TypeId} {A:Option Addr} {xs:List Value} (h:w.ownsRow base t m (.slice A n c) n xs):n≤c:=by
 rcases h.2 with ⟨h2,h3⟩ | ⟨g',cap,cur,h2,_,_,h5,_⟩
 ·omega
 ·injection h2 with _ _ h2
  omega
theorem lt_alloc (w:World) (o:Obj):w.heap.size < (w.alloc o).heap.size:=by simp
structure EncMid (w wx:World) (p bb:Nat) (A:Option Addr) (c:Nat) (ys:List Int) (kind blk ver d0 d1 d2 d3 d4 d5 d6 d7:Int):Prop where
 b:Below w.heap.size w wx
 x:Box2 wx w.heap.size p kind blk ver d0 d1 d2 d3 d4 d5 d6 d7
 o:wx.heap[bb]?=some (.cells #[.slice A ys.length c] 65 (0,0))
 r:RdT wx 5 A (ys.map (Value.int .u8))
 l:ys.length≤c
 k:w.heap.size+2≤bb
theorem EncMid.below0 {wx:World} {bb:Nat} {A:Option Addr} {c:Nat} {ys:List Int} {kind blk ver d0 d1 d2 d3 d4 d5 d6 d7:Int} (h:EncMid w w' p bb A c ys kind blk ver d0 d1 d2 d3 d4 d5 d6 d7) (hb:Below w'.heap.size w' wx):EncMid w wx p bb A c ys kind blk ver d0 d1 d2 d3 d4 d5 d6 d7:=
 ⟨h.b.trans (hb.mono h.b.size),h.x.below hb (lt_of_block h.x.e),belObj hb h.o (lt_of_block h.o),h.r.below0 hb,h.l,h.k⟩
set_option maxRecDepth 100000 in
set_option maxHeartbeats 16000000 in
theorem append20_any (x:Ent) (except:Int) (hx:except < S.v.bs.length) (ho:x.Ok) (hb0:0≤x.blk) (hb1:x.blk < S.v.es.length) (hval:validE x=true) (hv:VOk g S.v) (hF:∀ f∈F,I64 f.to_) (hn:F.length≤9223372036854775807) (hon:S.d.O.length+9≤99000) (h:Drv w B p q pw g F key S ea ec BA bc):
  Calls Tryz.prog 79 #[.pointer (some ⟨p,0,none⟩),entV x,.int .i64 except] w fun e w'=>e= .returned (.int .i64 (appN g F key S x except).2)∧DrvTo w B p q pw g F key (appN g F key S x except).1 ea ec w':=by
 obtain ⟨kind,blk,ver,dt⟩:=x
 obtain ⟨b,hbk⟩:=Int.eq_ofNat_of_zero_le (show 0≤blk from hb0)
 have HBK:=Lib.hid hbk
 have HBL:Hid (blk < S.v.es.length):=hb1
 clear hb1 hb0 hbk
 have h8:=ho.len
 obtain ⟨d0,d1,d2,d3,d4,d5,d6,d7,rfl⟩:=len8 h8
 show Calls Tryz.prog 79 #[.pointer (some ⟨p,0,none⟩),.agg #[.int .i64 kind,.int .i64 blk,.int .u64 ver,.int .u8 d0,.int .u8 d1,.int .u8 d2,.int .u8 d3,.int .u8 d4,.int .u8 d5,.int .u8 d6,.int .u8 d7],.int .i64 except] w _
 have PB:=Box2.new w p kind blk ver d0 d1 d2 d3 d4 d5 d6 d7
 have hbl0:Below w.heap.size w ((w.alloc (.cells #[.pointer (some ⟨p,0,none⟩)] 22)).alloc (.cells #[.int .i64 kind,.int .i64 blk,.int .u64 ver,.int .u8 d0,.int .u8 d1,.int .u8 d2,.int .u8 d3,.int .u8 d4,.int .u8 d5,.int .u8 d6,.int .u8 d7] 89)):=((Below.refl _ _).alloc (Nat.le_refl _) _).alloc (by simp) _
 have hz0:((w.alloc (.cells #[.pointer (some ⟨p,0,none⟩)] 22)).alloc (.cells #[.int .i64 kind,.int .i64 blk,.int .u64 ver,.int .u8 d0,.int .u8 d1,.int .u8 d2,.int .u8 d3,.int .u8 d4,.int .u8 d5,.int .u8 d6,.int .u8 d7] 89)).heap.size=w.heap.size+2:=by simp
 have h0:=h.below0 hbl0
 have HO:=Lib.hid (open20_any except hx hv h0)
 have HAP:Hid (∀ z er,openN g S.v.bs except=(z,er)→appN g F key S ⟨kind,blk,ver,[d0,d1,d2,d3,d4,d5,d6,d7]⟩ except=if er=0 then (if validE ⟨kind,blk,ver,[d0,d1,d2,d3,d4,d5,d6,d7]⟩=true then (if (wrX g F key S ⟨kind,blk,ver,[d0,d1,d2,d3,d4,d5,d6,d7]⟩ z).2.er=0 then (⟨linkV g S.v ⟨kind,blk,ver,[d0,d1,d2,d3,d4,d5,d6,d7]⟩ z,(wrX g F key S ⟨kind,blk,ver,[d0,d1,d2,d3,d4,d5,d6,d7]⟩ z).1⟩,0) else (⟨S.v.fail (wrX g F key S ⟨kind,blk,ver,[d0,d1,d2,d3,d4,d5,d6,d7]⟩ z).2.er,(wrX g F key S ⟨kind,blk,ver,[d0,d1,d2,d3,d4,d5,d6,d7]⟩ z).1⟩,(wrX g F key S ⟨kind,blk,ver,[d0,d1,d2,d3,d4,d5,d6,d7]⟩ z).2.er)) else (S,1)) else (S,er)):=by
  intro z er h1; unfold appN; rw [h1]
 have HTO:Hid (∀ z er,openN g S.v.bs except=(z,er)→er=0→∃ (k:Nat) (hk:k < S.v.bs.length),z=(k:Int)∧S.v.bs[k].used < bz g∧(k:Int)≠except):=by
  intro z er h1 h2
  have h3:=openN_told hv hx (by rw [h1]; exact h2)
  rw [h1] at h3
  exact h3
 have HH:=Lib.hid h
 have HV:=Lib.hid hv
 have HX:=Lib.hid ho
 rcases hopn:openN g S.v.bs except with ⟨z,er⟩
 have HA:=Lib.hid (HAP.out z er hopn)
 have HT:=Lib.hid (HTO.out z er hopn)
 rw [hopn] at HO
 simp only at HO
 clear hopn HAP HTO h h0 hv ho h8
 go_enter Tryz.func79,Tryz.ntmps79
 go_wp2_with fail
 generalize ((w.alloc (.cells #[.pointer (some ⟨p,0,none⟩)] 22)).alloc (.cells #[.int .i64 kind,.int .i64 blk,.int .u64 ver,.int .u8 d0,.int .u8 d1,.int .u8 d2,.int .u8 d3,.int .u8 d4,.int .u8 d5,.int .u8 d6,.int .u8 d7] 89))=w0 at *
 have HZ0:=Lib.hid hz0
 clear hz0
 refine HO.out.mono ?_
 rintro e w1 ⟨rfl,hb1'⟩
 have HB1:=Lib.hid (hbl0.trans (hb1'.mono hbl0.size))
 have PB1:=PB.below hb1' (by rw [HZ0.out]; omega)
 have HPB1:=Lib.hid PB1
 have hlt1:w.heap.size+2≤w1.heap.size:=by have:=hb1'.size; rw [HZ0.out] at this; exact this
 have HLT1:=Lib.hid hlt1
 clear hb1' PB HO hbl0 hlt1
 by_cases he:er=0
 ·obtain ⟨k,hk,hkz,hu,hne⟩:=HT.out he
  subst he
  have HEN:=Lib.hid (fun W=>encode_yes ⟨kind,blk,ver,[d0,d1,d2,d3,d4,d5,d6,d7]⟩ HX.out hval (tick S.v.time) (tick_u64 _).1 W)
  have HYL:Hid ((encB ⟨kind,blk,ver,[d0,d1,d2,d3,d4,d5,d6,d7]⟩ (tick S.v.time)).length=37):=encB_len rfl
  have HWX:Hid (∀ k,wrX g F key S ⟨kind,blk,ver,[d0,d1,d2,d3,d4,d5,d6,d7]⟩ k=tryD (wOne g F key (nextA g S.v k) (encB ⟨kind,blk,ver,[d0,d1,d2,d3,d4,d5,d6,d7]⟩ (tick S.v.time))) S.d):=fun k=>rfl
  have HAV:=Lib.hid HA.out
  unfold Hid at HAV
  rw [if_pos rfl,if_pos hval,HWX.out] at HAV
  have HAW:=Lib.hid HAV
  clear HAV HA
  have HEN2:Hid (∀ W,Calls Tryz.prog 110 #[.agg #[.int .i64 kind,.int .i64 blk,.int .u64 ver,.int .u8 d0,.int .u8 d1,.int .u8 d2,.int .u8 d3,.int .u8 d4,.int .u8 d5,.int .u8 d6,.int .u8 d7],.int .u64 (IntKind.u64.wrap (S.v.time+1))] W (OwnOE W.heap.size W (encB ⟨kind,blk,ver,[d0,d1,d2,d3,d4,d5,d6,d7]⟩ (tick S.v.time)))):=HEN
  clear HEN
  generalize encB ⟨kind,blk,ver,[d0,d1,d2,d3,d4,d5,d6,d7]⟩ (tick S.v.time)=ys at *
  obtain ⟨b0,⟨b1,b2,b3,b4,b5,b6,b7,b8,b9,b10,b11⟩⟩:=PB1.cells
  have d4c:=(HH.out.below0 HB1.out).cells.2.2.2.2.1
  have HCS:Hid (∀ W,Below w1.heap.size w1 W→(W.cell? ⟨w.heap.size,0,none⟩=some (.pointer (some ⟨p,0,none⟩)))∧W.cell? ⟨p,4,none⟩=some (.int .u64 S.v.time)∧(W.cell? ⟨w.heap.size+1,0,none⟩=some (.int .i64 kind)∧W.cell? ⟨w.heap.size+1,1,none⟩=some (.int .i64 blk)∧W.cell? ⟨w.heap.size+1,2,none⟩=some (.int .u64 ver)∧W.cell? ⟨w.heap.size+1,3,none⟩=some (.int .u8 d0)∧W.cell? ⟨w.heap.size+1,4,none⟩=some (.int .u8 d1)∧W.cell? ⟨w.heap.size+1,5,none⟩=some (.int .u8 d2)∧W.cell? ⟨w.heap.size+1,6,none⟩=some (.int .u8 d3)∧W.cell? ⟨w.heap.size+1,7,none⟩=some (.int .u8 d4)∧W.cell? ⟨w.heap.size+1,8,none⟩=some (.int .u8 d5)∧W.cell? ⟨w.heap.size+1,9,none⟩=some (.int .u8 d6)∧W.cell? ⟨w.heap.size+1,10,none⟩=some (.int .u8 d7))):=by
   intro W hW
   have h1:=(HPB1.out.below hW (by have:=HLT1.out; omega)).cells
   exact ⟨h1.1,(HH.out.below0 (HB1.out.trans (hW.mono HB1.out.size))).cells.2.2.2.2.1,h1.2⟩
  have HFI:Hid (∀ (W:World) (bb:Nat) (A:Option Addr) (c:Nat) (v:Value),Below w1.heap.size w1 W→W.heap[bb]?=some (.cells #[v] 65 (0,0))→w1.heap.size≤bb→W.ownsRow w1.heap.size 5 1 (.slice A ys.length c) ys.length (ys.map (Value.int .u8))→
    EncMid w (W.setCell ⟨bb,0,none⟩ (.slice A ys.length c)) p bb A c ys kind blk ver d0 d1 d2 d3 d4 d5 d6 d7):=by
   intro W bb A c v hW ho hb hr
   have hlt:=HLT1.out
   have hk:Kept (fun k=>k=bb) W (W.setCell ⟨bb,0,none⟩ (.slice A ys.length c)):=(Kept.refl (fun k=>k=bb) W).setCell (p:=⟨bb,0,none⟩) (fun _=>rfl) _
   have hb2:Below w1.heap.size w1 (W.setCell ⟨bb,0,none⟩ (.slice A ys.length c)):=hW.setCell hb _
   refine ⟨HB1.out.trans (hb2.mono HB1.out.size),HPB1.out.below hb2 (by omega),set_one ho,(RdT.of_own hr).kept hk (Free.one ho (by decide)),?_,by omega⟩
   exact own_le hr
  have HFA:Hid (∀ (W:World) (A:Option Addr) (c:Nat),Below w1.heap.size w1 W→W.ownsRow w1.heap.size 5 1 (.slice A ys.length c) ys.length (ys.map (Value.int .u8))→
    EncMid w (W.alloc (.cells #[.slice A ys.length c] 65)) p W.heap.size A c ys kind blk ver d0 d1 d2 d3 d4 d5 d6 d7):=by
   intro W A c hW hr
   have hlt:=HLT1.out
   have hb2:Below w1.heap.size w1 (W.alloc (.cells #[.slice A ys.length c] 65)):=hW.alloc hW.size _
   exact ⟨HB1.out.trans (hb2.mono HB1.out.size),HPB1.out.below hb2 (by omega),heap_alloc_new _ _,(RdT.of_own hr).below0 ((Below.refl _ _).alloc (Nat.le_refl _) _),own_le hr,Nat.le_trans hlt hW.size⟩
  have HNE:Hid (∀ W,Below w1.heap.size w1 W→(w.heap.size≠W.heap.size∧W.heap.size≠w.heap.size)∧(w.heap.size+1≠W.heap.size∧W.heap.size≠w.heap.size+1)∧(p≠W.heap.size∧W.heap.size≠p)):=by
   intro W hW
   have h1:=hW.size
   have h2:=HLT1.out
   have h3:p < w1.heap.size:=(IsT.own (HH.out.below0 HB1.out).obj).lt
   omega
  obtain ⟨⟨n0,n1⟩,⟨n2,n3⟩,⟨n4,n5⟩⟩:=HNE.out w1 (Below.refl _ _)
  clear PB1
  go_upto_region 4 with fail
  go_cut [8,9] (fun s8 s9 wx=>∃ (bb:Nat) (A:Option Addr) (c:Nat),s8= .int .i64 0∧s9= .pointer (some ⟨bb,0,none⟩)∧Hid (EncMid w wx p bb A c ys kind blk ver d0 d1 d2 d3 d4 d5 d6 d7))
  case first=>
   go_region_held3 (fun W=>(W.cell? ⟨w.heap.size,0,none⟩=some (.pointer (some ⟨p,0,none⟩)))∧W.cell? ⟨p,4,none⟩=some (.int .u64 S.v.time)∧(W.cell? ⟨w.heap.size+1,0,none⟩=some (.int .i64 kind)∧W.cell? ⟨w.heap.size+1,1,none⟩=some (.int .i64 blk)∧W.cell? ⟨w.heap.size+1,2,none⟩=some (.int .u64 ver)∧W.cell? ⟨w.heap.size+1,3,none⟩=some (.int .u8 d0)∧W.cell? ⟨w.heap.size+1,4,none⟩=some (.int .u8 d1)∧W.cell? ⟨w.heap.size+1,5,none⟩=some (.int .u8 d2)∧W.cell? ⟨w.heap.size+1,6,none⟩=some (.int .u8 d3)∧W.cell? ⟨w.heap.size+1,7,none⟩=some (.int .u8 d4)∧W.cell? ⟨w.heap.size+1,8,none⟩=some (.int .u8 d5)∧W.cell? ⟨w.heap.size+1,9,none⟩=some (.int .u8 d6)∧W.cell? ⟨w.heap.size+1,10,none⟩=some (.int .u8 d7)))
    (first | (refine ⟨?_,?_,?_,?_,?_,?_,?_,?_,?_,?_,?_,?_,?_⟩ <;> assumption) | (simp (maxDischargeDepth:=20) [World.cell?_alloc_some,World.cell?_setCell_far, *]; done))
    ((go_at_call 110
      refine (HEN2.out _).mono ?_
      rintro e w4 ⟨A4,c4,rfl,ho4,hb4⟩
      have hBW:Below w1.heap.size w1 w4:=by
       first
        | exact ((Below.refl _ _).drew).trans hb4
        | exact (((Below.refl w1.heap.size w1).alloc (Nat.le_refl _) (.cells #[.slice none 0 0] 65)).drew).trans (hb4.mono (by simp))
      have hOW:w4.ownsRow w1.heap.size 5 1 (.slice A4 ys.length c4) ys.length (ys.map (Value.int .u8)):=own_mono ho4 (by first | exact Nat.le_refl _ | (simp; done))
      obtain ⟨q0,q1,⟨r1,r2,r3,r4,r5,r6,r7,r8,r9,r10,r11⟩⟩:=HCS.out w4 hBW
      obtain ⟨⟨m0,m1⟩,⟨m2,m3⟩,⟨m4,m5⟩⟩:=HNE.out w4 hBW
      (first | (have hbx:=belObj hb4 (heap_alloc_new w1 (.cells #[.slice none 0 0] 65)) (lt_alloc w1 (.cells #[.slice none 0 0] 65)); have bx0:=dcell_one hbx; have bx1:=free_one hbx) | skip)))
   all_goals (go_wp2_with fail; go_meet)
   all_goals first
    | exact ⟨_,A4,c4,rfl,rfl,HFA.out w4 A4 c4 hBW hOW⟩
    | exact ⟨_,A4,c4,rfl,rfl,HFI.out w4 _ A4 c4 _ hBW hbx (Nat.le_refl _) hOW⟩
  case rest=>
   obtain ⟨bb,A,c,rfl,rfl,HM⟩:=hcut
   clear HFA HFI HNE HCS HEN2 n0 n1 n2 n3 n4 n5 b0 b1 b2 b3 b4 b5 b6 b7 b8 b9 b10 b11 d4c HPB1 HLT1 HB1
   have hdc:=HH.out.below0 HM.out.b
   obtain ⟨x0,x1,x2,x3,x4,x5⟩:=hdc.cells
   obtain ⟨b0,⟨b1,b2,b3,b4,b5,b6,b7,b8,b9,b10,b11⟩⟩:=HM.out.x.cells
   obtain ⟨gB,oB,hBA,hgB,y0,y1,y2,y3⟩:=hdc.bs.rd.band (V.get_some hk)
   subst hkz
   have hbz:=HV.out.bz1
   have hev:=HV.out.each hk
   have hr0:=HV.out.gv.r0
   have hr1:=HV.out.gv.r1
   have hl64:=HV.out.len64
   have hk0:(k:Int) < S.v.bs.length:=by omega
   have hm:=mul_lim (a:=(k:Int)) (b:=bz g) (A:=64) (B:=1024) (by omega) (by omega) (by omega) (by omega)
   have HNX:Hid (nextA g S.v k=g.random+k * bz g+S.v.bs[k].used):=by unfold Hid nextA; rw [V.at_eq hk]
   have HGE:=Lib.hid (fun W (hW:Below wc.heap.size wc W)=>dgeo_any (hdc.below0 hW).dsk)
   have HSZ:=Lib.hid (fun W (hW:Below wc.heap.size wc W)=>size20_any HV.out.gv (hdc.below0 hW))
   have HLT:Hid (w.heap.size+2≤wc.heap.size):=Nat.le_trans HM.out.k (Nat.le_of_lt (lt_of_block HM.out.o))
   have HCS:Hid (∀ W,Below wc.heap.size wc W→(W.cell? ⟨w.heap.size,0,none⟩=some (.pointer (some ⟨p,0,none⟩)))∧W.cell? ⟨p,0,none⟩=some (.pointer (some ⟨q,0,none⟩))∧W.cell? ⟨p,3,none⟩=some (.slice (some ⟨gB,oB,none⟩) S.v.bs.length bc)∧W.cell? ⟨gB,oB+k * 4,none⟩=some (.int .i64 S.v.bs[k].used)):=by
    intro W hW
    have h1:=(HM.out.x.below hW (by have:=HLT.out; omega)).cells
    have h2:=(hdc.below0 hW).cells
    rw [hBA] at h2
    exact ⟨h1.1,h2.1,h2.2.2.2.1,(hW.cell (p:=⟨gB,_,none⟩) hgB).trans y0⟩
   have HNE:Hid (∀ W,Below wc.heap.size wc W→(w.heap.size≠W.heap.size∧W.heap.size≠w.heap.size)∧(gB≠W.heap.size∧W.heap.size≠gB)∧(p≠W.heap.size∧W.heap.size≠p)):=by
    intro W hW
    have h1:=hW.size
    have h2:=HLT.out
    have h3:p < wc.heap.size:=(IsT.own hdc.obj).lt
    omega
   rw [hBA] at x3
   generalize hus:S.v.bs[k].used=us at *
   generalize hzz:bz g=zz at *
   have HZZ:=Lib.hid hzz
   clear hzz
   have hw1:IntKind.i64.wrap ((k:Int) * zz)=(k:Int) * zz:=by rw [IntKind.wrap_i64]; omega
   have hw2:IntKind.i64.wrap (g.random+(k:Int) * zz)=g.random+(k:Int) * zz:=by rw [IntKind.wrap_i64]; omega
   have hw3:IntKind.i64.wrap (g.random+(k:Int) * zz+us)=g.random+(k:Int) * zz+us:=by rw [IntKind.wrap_i64]; omega
   have HAI:Hid (I64 (g.random+(k:Int) * zz+us)):=⟨by omega,by omega⟩
   have hfd:=geo_random g
   obtain ⟨⟨n0,n1⟩,⟨n2,n3⟩,⟨n4,n5⟩⟩:=HNE.out wc (Below.refl _ _)
   have HDC:=Lib.hid hdc
   clear hdc y1 y2 y3 hBA hev hr0 hr1 hl64 hm hbz
   have HFS:Hid (∀ (W:World) (ba:Nat) (v:Value),Below wc.heap.size wc W→W.heap[ba]?=some (.cells #[v] 3 (0,0))→wc.heap.size≤ba→
     EncMid w (W.setCell ⟨ba,0,none⟩ (.int .i64 (g.random+(k:Int) * zz+us))) p bb A c ys kind blk ver d0 d1 d2 d3 d4 d5 d6 d7∧(W.setCell ⟨ba,0,none⟩ (.int .i64 (g.random+(k:Int) * zz+us))).heap[ba]?=some (.cells #[.int .i64 (g.random+(k:Int) * zz+us)] 3 (0,0))∧Below wc.heap.size wc (W.setCell ⟨ba,0,none⟩ (.int .i64 (g.random+(k:Int) * zz+us)))):=by
    intro W ba v hW ho hb
    have hb2:Below wc.heap.size wc (W.setCell ⟨ba,0,none⟩ (.int .i64 (g.random+(k:Int) * zz+us))):=hW.setCell hb _
    exact ⟨HM.out.below0 hb2,set_one ho,hb2⟩
   have HFA:Hid (∀ (W:World),Below wc.heap.size wc W→
     EncMid w (W.alloc (.cells #[.int .i64 (g.random+(k:Int) * zz+us)] 3)) p bb A c ys kind blk ver d0 d1 d2 d3 d4 d5 d6 d7∧(W.alloc (.cells #[.int .i64 (g.random+(k:Int) * zz+us)] 3)).heap[W.heap.size]?=some (.cells #[.int .i64 (g.random+(k:Int) * zz+us)] 3 (0,0))∧Below wc.heap.size wc (W.alloc (.cells #[.int .i64 (g.random+(k:Int) * zz+us)] 3))):=by
    intro W hW
    have hb2:Below wc.heap.size wc (W.alloc (.cells #[.int .i64 (g.random+(k:Int) * zz+us)] 3)):=hW.alloc hW.size _
    exact ⟨HM.out.below0 hb2,heap_alloc_new _ _,hb2⟩
   go_upto_region 7 with fail
   go_cut [10] (fun s10 wx=>∃ ba:Nat,s10= .pointer (some ⟨ba,0,none⟩)∧Hid (EncMid w wx p bb A c ys kind blk ver d0 d1 d2 d3 d4 d5 d6 d7∧wx.heap[ba]?=some (.cells #[.int .i64 (g.random+(k:Int) * zz+us)] 3 (0,0))∧Below wc.heap.size wc wx))
   case first=>
    go_region_held3 (fun W=>(W.cell? ⟨w.heap.size,0,none⟩=some (.pointer (some ⟨p,0,none⟩)))∧W.cell? ⟨p,0,none⟩=some (.pointer (some ⟨q,0,none⟩))∧W.cell? ⟨p,3,none⟩=some (.slice (some ⟨gB,oB,none⟩) S.v.bs.length bc)∧W.cell? ⟨gB,oB+k * 4,none⟩=some (.int .i64 us))
     (first | (refine ⟨?_,?_,?_,?_⟩ <;> assumption) | (simp (maxDischargeDepth:=20) [World.cell?_alloc_some,World.cell?_setCell_far, *]; done))
     ((first
       | (go_at_call 57
          (first | refine (HGE.out _ ((Below.refl _ _).drew)).mono ?_ | refine (HGE.out _ (((Below.refl wc.heap.size wc).alloc (Nat.le_refl _) (.cells #[.int .i64 0] 3)).drew)).mono ?_)
          rintro e w4 ⟨rfl,hb4⟩
          have hBG:Below wc.heap.size wc w4:=by
           first
            | exact ((Below.refl _ _).drew).trans hb4
            | exact (((Below.refl wc.heap.size wc).alloc (Nat.le_refl _) (.cells #[.int .i64 0] 3)).drew).trans (hb4.mono (by simp))
          obtain ⟨q0,q1,q3,q4⟩:=HCS.out w4 hBG
          obtain ⟨⟨m0,m1⟩,⟨m2,m3⟩,⟨m4,m5⟩⟩:=HNE.out w4 hBG
          (first | (have hbx:=belObj hb4 (heap_alloc_new wc (.cells #[.int .i64 0] 3)) (lt_alloc wc (.cells #[.int .i64 0] 3)); have bx0:=dcell_one hbx; have bx1:=free_one hbx) | skip))
       | (go_at_call 72
          (first | refine (HSZ.out _ hBG).mono ?_ | refine (HSZ.out _ (hBG.alloc hBG.size (.cells #[.int .i64 0] 3))).mono ?_)
          rintro e w5 ⟨rfl,hb5⟩
          have hBS:Below wc.heap.size wc w5:=by
           first
            | exact hBG.trans (hb5.mono hBG.size)
            | exact (hBG.alloc hBG.size (.cells #[.int .i64 0] 3)).trans (hb5.mono (Nat.le_trans hBG.size (Nat.le_of_lt (lt_alloc w4 (.cells #[.int .i64 0] 3)))))
          obtain ⟨z0,z1,z3,z4⟩:=HCS.out w5 hBS
          obtain ⟨⟨l0,l1⟩,⟨l2,l3⟩,⟨l4,l5⟩⟩:=HNE.out w5 hBS
          (first | (have hby:=belObj hb5 hbx (lt_of_block hbx); have by0:=dcell_one hby; have by1:=free_one hby) | (have hby:=belObj hb5 (heap_alloc_new w4 (.cells #[.int .i64 0] 3)) (lt_alloc w4 (.cells #[.int .i64 0] 3)); have by0:=dcell_one hby; have by1:=free_one hby) | skip))))
    all_goals (go_wp2_with fail; go_meet)
    all_goals first
     | exact ⟨_,rfl,HFA.out w5 hBS⟩
     | exact ⟨_,rfl,HFS.out w5 _ _ hBS hby (Nat.le_refl _)⟩
     | exact ⟨_,rfl,HFS.out w5 _ _ hBS hby hBG.size⟩
   case rest=>
    obtain ⟨ba,rfl,HM2⟩:=hcut
    have HDX:=Lib.hid (HDC.out.below0 HM2.out.2.2)
    have HTR:=Lib.hid (trywr20_any (p:=p) (q:=q) (key:=key) (a:=g.random+(k:Int) * zz+us) (xs:=ys) (A:=A) (c:=c) HDX.out.dsk hF hn hon HAI.out (fun W hW=>((HM2.out.1.r).kept hW (KeptT.free (by unfold DAT; decide))).rd) (by rw [HYL.out]; omega) HM2.out.1.l HM2.out.1.x.d HM2.out.2.1 HM2.out.1.o HDX.out.dkey)
    rw [HNX.out] at HAW
    generalize tryD (wOne g F key (g.random+(k:Int) * zz+us) ys) S.d=R at *
    obtain ⟨d',⟨er,by_⟩⟩:=R
    simp only at HTR HAW
    clear hfd hw1 hw2 hw3 HCS HNE HGE HSZ HFS HFA n0 n1 n2 n3 n4 n5 x0 x1 x2 x3 x4 x5 y0 b0 b1 b2 b3 b4 b5 b6 b7 b8 b9 b10 b11
    go_wp2_with fail
    refine HTR.out.mono ?_
    rintro e w5 ⟨rfl,hd5,hk5⟩
    have HD5:=Lib.hid (HDX.out.disk hd5 hk5)
    have HK5:Hid (KeptT DRT B w w5):=(KeptT.bel HM2.out.1.b).trans (hk5.sub dat_drt)
    have HX5:=Lib.hid (HM2.out.1.x.types hk5 (by unfold DAT; decide) (by unfold DAT; decide))
    have HA5:=Lib.hid (Kept.obj hk5 HM2.out.2.1 (KeptT.no (IsT.of HM2.out.2.1) (by unfold DAT; decide)))
    clear hd5 hk5 HTR HDX HDC HM2 HM
    obtain ⟨b0,⟨b1,b2,b3,_⟩⟩:=HX5.out.cells
    by_cases her:er=0
    ·subst her
     obtain rfl:blk=(b:Int):=HBK.out
     obtain rfl:bz g=zz:=HZZ.out
     have HAF:Hid (appN g F key S ⟨kind,(b:Int),ver,[d0,d1,d2,d3,d4,d5,d6,d7]⟩ except=(⟨linkV g S.v ⟨kind,(b:Int),ver,[d0,d1,d2,d3,d4,d5,d6,d7]⟩ k,d'⟩,0)):=by unfold Hid; rw [HAW.out,if_pos rfl]
     have hbl:b < S.v.es.length:=by have:=HBL.out; omega
     have HV1:Hid (VOk g { S.v with time:=tick S.v.time }):=⟨HV.out.gv,HV.out.oks,HV.out.val,HV.out.len,HV.out.e0,HV.out.e1,HV.out.adr,HV.out.inj,HV.out.live,HV.out.ver,HV.out.kind,tick_u64 _⟩
     have HLK:Hid (linkV g S.v ⟨kind,(b:Int),ver,[d0,d1,d2,d3,d4,d5,d6,d7]⟩ k=⟨(unlinkV g { S.v with time:=tick S.v.time } b).es.set b ⟨kind,ver,nextA g S.v k⟩,V.appL (unlinkV g { S.v with time:=tick S.v.time } b).bs (bz g) k (tick S.v.time),tick S.v.time,S.v.failed⟩):=rfl
     have HV2:=Lib.hid (unlink_ok HV1.out (b:=b) hbl)
     have HV3:Hid ((unlinkV g { S.v with time:=tick S.v.time } b).time=tick S.v.time∧(unlinkV g { S.v with time:=tick S.v.time } b).failed=S.v.failed∧(unlinkV g { S.v with time:=tick S.v.time } b).es.length=S.v.es.length):=⟨rfl,rfl,(unlink_len HV1.out hbl).2.1⟩
     rw [HNX.out] at HLK
     have HS6:=Lib.hid (HD5.out.setTime (tick S.v.time))
     have x4:=HD5.out.cells.2.2.2.2.1
     have f4:=HD5.out.free 4
     clear HAW
     go_upto_region 12 with fail
     have HS6':Hid (Drv (w5.setCell ⟨p,4,none⟩ (.int .u64 (IntKind.u64.wrap (S.v.time+1)))) B p q pw g F key ⟨{ S.v with time:=tick S.v.time },d'⟩ ea ec BA bc∧KeptT DRT B w5 (w5.setCell ⟨p,4,none⟩ (.int .u64 (IntKind.u64.wrap (S.v.time+1))))):=HS6.out
     clear HS6 x4 f4
     generalize w5.setCell ⟨p,4,none⟩ (.int .u64 (IntKind.u64.wrap (S.v.time+1)))=w6 at *
     have HX6:=Lib.hid (HX5.out.types HS6'.out.2 (by unfold DRT; decide) (by unfold DRT; decide))
     have HA6:=Lib.hid (Kept.obj HS6'.out.2 HA5.out (KeptT.no (IsT.of HA5.out) (by unfold DRT; decide)))
     have HK6:=Lib.hid (HK5.out.trans HS6'.out.2)
     have HUL:=Lib.hid (unlink20_any (S:=⟨{ S.v with time:=tick S.v.time },d'⟩) b HV1.out hbl HS6'.out.1)
     clear HX5 HA5 HK5 HD5 b0 b1 b2 b3
     obtain ⟨b0,⟨b1,b2,b3,_⟩⟩:=HX6.out.cells
     generalize hv2:unlinkV g { S.v with time:=tick S.v.time } b=v2 at *
     clear hv2
     go_wp2_with fail
     refine HUL.out.mono ?_
     rintro e w7 ⟨rfl,BA7,bc7,hd7,hk7⟩
     have HD7:=Lib.hid hd7
     have HX7:=Lib.hid (HX6.out.types hk7 (by unfold DRT; decide) (by unfold DRT; decide))
     have HA7:=Lib.hid (Kept.obj hk7 HA6.out (KeptT.no (IsT.of HA6.out) (by unfold DRT; decide)))
     have HK7:=Lib.hid (HK6.out.trans hk7)
     clear hd7 hk7 HX6 HA6 HK6 HUL HS6' b0 b1 b2 b3
     have hb64:=HV2.out.len64
     have hbe:(b:Int) < v2.es.length:=by have:=HV3.out.2.2; omega
     have HSZ:=Lib.hid (fun W (hW:Below w7.heap.size w7 W)=>size20_any HV2.out.gv (HD7.out.below0 hW))
     have HAPP:=Lib.hid (fun W (hW:Below w7.heap.size w7 W)=>V.append_any v2.bs (bz g) k (tick S.v.time) HV2.out.oks BA7 bc7 W ((HD7.out.below0 hW).bs.rd) (by omega))
     have HFB:Hid (∀ (W:World) (A:Option Addr) (c:Nat) (bs:List V.BI),Below w7.heap.size w7 W→W.ownsRow w7.heap.size 76 4 (.slice A bs.length c) bs.length (V.flat bs)→
       Drv (W.setCell ⟨p,3,none⟩ (.slice A bs.length c)) B p q pw g F key ⟨{ v2 with bs:=bs },d'⟩ ea ec A c∧KeptT DRT B w7 (W.setCell ⟨p,3,none⟩ (.slice A bs.length c))):=by
      intro W A c bs hW ho
      have h':=(HD7.out.below0 hW).setBands (c:=c) (RdT.of_own ho)
      exact ⟨h'.1,(KeptT.bel hW).trans h'.2⟩
     have HCB:Hid (∀ W,Below w7.heap.size w7 W→W.cell? ⟨w.heap.size,0,none⟩=some (.pointer (some ⟨p,0,none⟩))∧W.cell? ⟨p,3,none⟩=some (.slice BA7 v2.bs.length bc7)∧W.cell? ⟨p,4,none⟩=some (.int .u64 (tick S.v.time))∧W.frozen? ⟨p,3,none⟩=false):=by
      intro W hW
      have h1:=(HD7.out.below0 hW).cells
      have h2:=(HX7.out.below hW (lt_of_block HX7.out.e)).cells
      rw [HV3.out.1] at h1
      exact ⟨h2.1,h1.2.2.2.1,h1.2.2.2.2.1,(HD7.out.below0 hW).free 3⟩
     obtain ⟨C,hC⟩:∃ C:List Value→World→Prop,C=fun h W=>match h with
      | []=>W=w7.drew
      | [v]=>v= .int .i64 (bz g)∧Below w7.heap.size w7 W
      | [_,u]=>∃ A c,u= .tuple #[.slice A (V.appL v2.bs (bz g) k (tick S.v.time)).length c,.int .i64 (V.appE v2.bs (bz g) k)]∧W.ownsRow w7.heap.size 76 4 (.slice A (V.appL v2.bs (bz g) k (tick S.v.time)).length c) (V.appL v2.bs (bz g) k (tick S.v.time)).length (V.flat (V.appL v2.bs (bz g) k (tick S.v.time)))∧Below w7.heap.size w7 W
      | [_,_,_]=>∃ A c,Drv W B p q pw g F key ⟨{ v2 with bs:=V.appL v2.bs (bz g) k (tick S.v.time) },d'⟩ ea ec A c∧KeptT DRT B w7 W
      | _=>False:=⟨_,rfl⟩
     have hb7:Below w7.heap.size w7 w7.drew:=(Below.refl _ _).drew
     have hall:∀ t:HeldL C 2,Below w7.heap.size w7 t.w:=fun t=>by
      obtain ⟨s,W,h,l⟩:=t
      simp only
      subst hC
      match s,h,l with
      | [],h,_=>have h':W=w7.drew:=h; rw [h']; exact hb7
      | [v],h,_=>exact h.2
      | [_,u],h,_=>obtain ⟨_,_,_,_,h⟩:=h; exact h
     have HC0:Hid (C [] w7.drew):=by subst hC; exact rfl
     have HK1:Hid (∀ W,C [] W→Calls Tryz.prog 72 #[.pointer (some ⟨p,0,none⟩)] W fun e w'=>∃ x,e= .returned x∧C ([]++[x]) w'):=by
      subst hC
      intro W hW
      have hW':W=w7.drew:=hW
      subst hW'
      exact (HSZ.out _ hb7).mono fun e w' h=>⟨_,h.1,rfl,hb7.trans h.2⟩
     have HK2:Hid (∀ v W,C [v] W→Calls Tryz.prog 113 #[.slice BA7 v2.bs.length bc7,.int .i64 (bz g),.int .i64 k,.int .u64 (tick S.v.time)] W fun e w'=>∃ x,e= .returned x∧C ([v]++[x]) w'):=by
      subst hC
      intro v W hW
      obtain ⟨_,hW⟩:=hW
      refine (HAPP.out W hW).mono ?_
      rintro e w' ⟨A,c,he,ho,hb'⟩
      exact ⟨_,he,A,c,rfl,own_mono ho hW.size,hW.trans (hb'.mono hW.size)⟩
     have HG1:Hid (∀ v W,C [v] W→v= .int .i64 (bz g)):=by subst hC; exact fun _ _ h=>h.1
     have HG2:Hid (∀ v u W,C [v,u] W→∃ A c,u= .tuple #[.slice A (V.appL v2.bs (bz g) k (tick S.v.time)).length c,.int .i64 (V.appE v2.bs (bz g) k)]∧Below w7.heap.size w7 W):=by
      subst hC; intro v u W h; obtain ⟨A,c,h1,_,h2⟩:=h; exact ⟨A,c,h1,h2⟩
     have HG3:Hid (∀ v A c W,C [v,.tuple #[.slice A (V.appL v2.bs (bz g) k (tick S.v.time)).length c,.int .i64 (V.appE v2.bs (bz g) k)]] W→C ([v,.tuple #[.slice A (V.appL v2.bs (bz g) k (tick S.v.time)).length c,.int .i64 (V.appE v2.bs (bz g) k)]]++[undef]) (W.setCell ⟨p,3,none⟩ (.slice A (V.appL v2.bs (bz g) k (tick S.v.time)).length c))):=by
      subst hC
      intro v A c W h
      obtain ⟨A',c',h1,h2,h3⟩:=h
      injection h1 with h1
      have h1':=congrArg (fun a=>a[0]?) h1
      simp only [List.getElem?_toArray,List.getElem?_cons_zero,Option.some.injEq] at h1'
      injection h1' with e1 e2 e3
      subst e1; subst e3
      exact ⟨A,c,HFB.out W A c _ h3 h2⟩
     have HG4:Hid (∀ v u x W,C [v,u,x] W→∃ A c,Drv W B p q pw g F key ⟨{ v2 with bs:=V.appL v2.bs (bz g) k (tick S.v.time) },d'⟩ ea ec A c∧KeptT DRT B w7 W):=by subst hC; exact fun _ _ _ _ h=>h
     have e0:∀ t:HeldL C 2,t.w.cell? ⟨w.heap.size,0,none⟩=some (.pointer (some ⟨p,0,none⟩)):=fun t=>(HCB.out _ (hall t)).1
     have e3:∀ t:HeldL C 2,t.w.cell? ⟨p,3,none⟩=some (.slice BA7 v2.bs.length bc7):=fun t=>(HCB.out _ (hall t)).2.1
     have e4:∀ t:HeldL C 2,t.w.cell? ⟨p,4,none⟩=some (.int .u64 (tick S.v.time)):=fun t=>(HCB.out _ (hall t)).2.2.1
     have hne1:Nonempty (HeldL C 2):=⟨⟨[],_,HC0.out,by simp⟩⟩
     have hne2:Nonempty (HeldC C):=⟨⟨[],_,HC0.out⟩⟩
     generalize V.appL v2.bs (bz g) k (tick S.v.time)=bs' at *
     generalize V.appE v2.bs (bz g) k=ub at *
     clear hC hall hb7 HSZ HAPP HFB
     go_wp2_with fail
     refine wp_region_chainL C 18 [6,12] [18,14,13,12,6] [0,1,4,5,8,11] (by kernel_rfl) (by kernel_rfl) (by kernel_rfl) (by kernel_rfl) (by kernel_rfl) HC0.out ?_
     repeat (first | (refine wpCh_nl 2 (by rfl) (by rfl) (by rfl) ?_; go_big_quiet_step (fail); refine wpQuiet_nil ?_) | (refine wpCh_n (by rfl) (by rfl) ?_; go_big_quiet_step (fail); refine wpQuiet_nil ?_))
     refine wpCh_l (f:=72) (args:=#[.pointer (some ⟨p,0,none⟩)]) (by rfl) (by rfl) (fun W=>by simp [go_sem]) (fun W hW=>HK1.out W hW) (fun v W hW=>?_)
     obtain rfl:=HG1.out v W hW
     go_big_quiet_step (fail)
     refine wpQuiet_nil ?_
     repeat (first | (refine wpCh_nl 2 (by rfl) (by rfl) (by rfl) ?_; go_big_quiet_step (fail); refine wpQuiet_nil ?_) | (refine wpCh_n (by rfl) (by rfl) ?_; go_big_quiet_step (fail); refine wpQuiet_nil ?_))
     refine wpCh_l (f:=113) (args:=#[.slice BA7 v2.bs.length bc7,.int .i64 (bz g),.int .i64 k,.int .u64 (tick S.v.time)]) (by rfl) (by rfl) (fun W=>by simp [go_sem]) (fun W hW=>HK2.out _ W hW) (fun v W hW=>?_)
     obtain ⟨A,c,rfl,_⟩:=HG2.out _ v W hW
     go_big_quiet_step (fail)
     refine wpQuiet_nil ?_
     repeat (first | (refine wpCh_nl 2 (by rfl) (by rfl) (by rfl) ?_; go_big_quiet_step (fail); refine wpQuiet_nil ?_) | (refine wpCh_n (by rfl) (by rfl) ?_; go_big_quiet_step (fail); refine wpQuiet_nil ?_))
     refine wpCh_s (by rfl) (by rfl) rfl (fun W hW=>⟨W.setCell ⟨p,3,none⟩ (.slice A bs'.length c),?_,HG3.out _ _ _ W hW⟩) (fun v W hW=>?_)
     ·obtain ⟨_,_,_,hbW⟩:=HG2.out _ _ W hW
      obtain ⟨_,k3,_,k4⟩:=HCB.out W hbW
      simp [go_sem, *]
     refine wpCh_nil ?_
     intro w8 hcw
     obtain ⟨A8,c8,hd8,hk8⟩:=HG4.out _ _ _ w8 hcw
     have HD8:=Lib.hid hd8
     have HX8:=Lib.hid (HX7.out.types hk8 (by unfold DRT; decide) (by unfold DRT; decide))
     have HA8:=Lib.hid (Kept.obj hk8 HA7.out (KeptT.no (IsT.of HA7.out) (by unfold DRT; decide)))
     have HK8:=Lib.hid (HK7.out.trans hk8)
     clear hcw hd8 hk8 HX7 HA7 HK7 HD7 HG1 HG2 HG3 HG4 HK1 HK2 HC0 HCB e0 e3 e4 hne1 hne2
     have hne8:=List.getElem?_eq_getElem (show b < v2.es.length by omega)
     generalize hnn:v2.es[b]=n8 at hne8
     clear hnn
     have HS9:Hid (Drv (((w8.drew.setCell ⟨ea,b * 3,none⟩ (.int .i64 kind)).setCell ⟨ea,b * 3+1,none⟩ (.int .u64 ver)).setCell ⟨ea,b * 3+2,none⟩ (.int .i64 (g.random+(k:Int) * bz g+us))) B p q pw g F key ⟨⟨v2.es.set b ⟨kind,ver,g.random+(k:Int) * bz g+us⟩,bs',v2.time,v2.failed⟩,d'⟩ ea ec A8 c8∧KeptT DRT B w8.drew (((w8.drew.setCell ⟨ea,b * 3,none⟩ (.int .i64 kind)).setCell ⟨ea,b * 3+1,none⟩ (.int .u64 ver)).setCell ⟨ea,b * 3+2,none⟩ (.int .i64 (g.random+(k:Int) * bz g+us)))):=
      (HD8.out.below0 (w':=w8.drew) ((Below.refl _ _).drew)).setEntry (i:=b) (by simp only; omega) ⟨kind,ver,g.random+(k:Int) * bz g+us⟩
     have hd8d:=HD8.out.below0 (w':=w8.drew) ((Below.refl _ _).drew)
     have hce:=hd8d.entry (i:=b) hne8
     have hcc:=hd8d.cells
     have hbx:=(HX8.out.below (w':=w8.drew) ((Below.refl _ _).drew) (lt_of_block HX8.out.e)).cells
     have hba:w8.drew.cell? ⟨ba,0,none⟩=some (.int .i64 (g.random+(k:Int) * bz g+us)):=dcell_one HA8.out
     obtain ⟨C,hC⟩:∃ C:List Value→World→Prop,C=fun h W=>match h with
      | []=>W=w8.drew
      | [_]=>W=(((w8.drew.setCell ⟨ea,b * 3,none⟩ (.int .i64 kind)).setCell ⟨ea,b * 3+1,none⟩ (.int .u64 ver)).setCell ⟨ea,b * 3+2,none⟩ (.int .i64 (g.random+(k:Int) * bz g+us)))
      | _=>False:=⟨_,rfl⟩
     have hall:∀ t:HeldL C 0,t.w=w8.drew:=fun t=>by
      obtain ⟨s,W,h,l⟩:=t
      simp only
      subst hC
      match s,h,l with
      | [],h,_=>exact h
     have HC0:Hid (C [] w8.drew):=by subst hC; exact rfl
     have HG3:Hid (∀ W,C [] W→W=w8.drew):=by subst hC; exact fun _ h=>h
     have HG4:Hid (C ([]++[undef]) (((w8.drew.setCell ⟨ea,b * 3,none⟩ (.int .i64 kind)).setCell ⟨ea,b * 3+1,none⟩ (.int .u64 ver)).setCell ⟨ea,b * 3+2,none⟩ (.int .i64 (g.random+(k:Int) * bz g+us)))):=by subst hC; exact rfl
     have HG5:Hid (∀ v W,C [v] W→W=(((w8.drew.setCell ⟨ea,b * 3,none⟩ (.int .i64 kind)).setCell ⟨ea,b * 3+1,none⟩ (.int .u64 ver)).setCell ⟨ea,b * 3+2,none⟩ (.int .i64 (g.random+(k:Int) * bz g+us)))):=by subst hC; exact fun _ _ h=>h
     have e0:∀ t:HeldL C 0,t.w.cell? ⟨w.heap.size,0,none⟩=some (.pointer (some ⟨p,0,none⟩)):=fun t=>by rw [hall t]; exact hbx.1
     have e1:∀ t:HeldL C 0,t.w.cell? ⟨p,2,none⟩=some (.slice (some ⟨ea,0,none⟩) v2.es.length ec):=fun t=>by rw [hall t]; exact hcc.2.2.1
     have e2:∀ t:HeldL C 0,t.w.cell? ⟨w.heap.size+1,1,none⟩=some (.int .i64 (b:Int)):=fun t=>by rw [hall t]; exact hbx.2.2.1
     have e3:∀ t:HeldL C 0,t.w.cell? ⟨w.heap.size+1,0,none⟩=some (.int .i64 kind):=fun t=>by rw [hall t]; exact hbx.2.1
     have e4:∀ t:HeldL C 0,t.w.cell? ⟨w.heap.size+1,2,none⟩=some (.int .u64 ver):=fun t=>by rw [hall t]; exact hbx.2.2.2.1
     have e5:∀ t:HeldL C 0,t.w.cell? ⟨ba,0,none⟩=some (.int .i64 (g.random+(k:Int) * bz g+us)):=fun t=>by rw [hall t]; exact hba
     have hne1:Nonempty (HeldL C 0):=⟨⟨[],_,HC0.out,by simp⟩⟩
     have hne2:Nonempty (HeldC C):=⟨⟨[],_,HC0.out⟩⟩
     have z0:w8.cell? ⟨ea,b * 3,none⟩=some (.int .i64 n8.kind):=hce.1
     have z1:w8.cell? ⟨ea,b * 3+1,none⟩=some (.int .u64 n8.ver):=hce.2.1
     have z2:w8.cell? ⟨ea,b * 3+2,none⟩=some (.int .i64 n8.adr):=hce.2.2
     have y0:w8.frozen? ⟨ea,b * 3,none⟩=false:=hd8d.freeE (b * 3)
     have y1:w8.frozen? ⟨ea,b * 3+1,none⟩=false:=hd8d.freeE (b * 3+1)
     have y2:w8.frozen? ⟨ea,b * 3+2,none⟩=false:=hd8d.freeE (b * 3+2)
     clear hce
     have HFIN:Hid (DrvTo w B p q pw g F key (appN g F key S ⟨kind,(b:Int),ver,[d0,d1,d2,d3,d4,d5,d6,d7]⟩ except).1 ea ec (((w8.drew.setCell ⟨ea,b * 3,none⟩ (.int .i64 kind)).setCell ⟨ea,b * 3+1,none⟩ (.int .u64 ver)).setCell ⟨ea,b * 3+2,none⟩ (.int .i64 (g.random+(k:Int) * bz g+us)))∧(appN g F key S ⟨kind,(b:Int),ver,[d0,d1,d2,d3,d4,d5,d6,d7]⟩ except).2=0):=by
      rw [HAF.out,HLK.out]
      refine ⟨⟨A8,c8,?_,HK8.out.trans (KeptT.trans (KeptT.bel ((Below.refl _ _).drew)) HS9.out.2)⟩,rfl⟩
      have h9:=HS9.out.1
      rw [HV3.out.1,HV3.out.2.1] at h9
      exact h9
     clear hC hall hd8d hcc hbx hba HS9 hne8
     generalize g.random+(k:Int) * bz g+us=aa at *
     go_wp2_with fail
     refine wp_region_chainL C 13 [] [13] [0,3,5,7,9,10] (by kernel_rfl) (by kernel_rfl) (by kernel_rfl) (by kernel_rfl) (by kernel_rfl) HC0.out ?_
     repeat (first | (refine wpCh_nl 0 (by rfl) (by rfl) (by rfl) ?_; go_big_quiet_step (fail); refine wpQuiet_nil ?_) | (refine wpCh_n (by rfl) (by rfl) ?_; go_big_quiet_step (fail); refine wpQuiet_nil ?_))
     refine wpCh_s (by rfl) (by rfl) rfl (fun W hW=>⟨(((w8.drew.setCell ⟨ea,b * 3,none⟩ (.int .i64 kind)).setCell ⟨ea,b * 3+1,none⟩ (.int .u64 ver)).setCell ⟨ea,b * 3+2,none⟩ (.int .i64 aa)),?_,HG4.out⟩) (fun v W hW=>?_)
     ·obtain rfl:=HG3.out W hW
      simp [go_sem, *]
     refine wpCh_nil ?_
     intro w9 hcw
     obtain rfl:=HG5.out _ w9 hcw
     clear hcw HG3 HG4 HG5 e0 e1 e2 e3 e4 e5 HC0 hne1 hne2 z0 z1 z2 y0 y1 y2
     generalize (((w8.drew.setCell ⟨ea,b * 3,none⟩ (.int .i64 kind)).setCell ⟨ea,b * 3+1,none⟩ (.int .u64 ver)).setCell ⟨ea,b * 3+2,none⟩ (.int .i64 aa))=w9 at *
     go_wp2
     go_ret
     rw [HFIN.out.2]
     exact ⟨rfl,HFIN.out.1⟩
    ·have HAF:Hid (appN g F key S ⟨kind,blk,ver,[d0,d1,d2,d3,d4,d5,d6,d7]⟩ except=(⟨S.v.fail er,d'⟩,er)):=by unfold Hid; rw [HAW.out,if_neg her]
     have hne':(er !=0)=true:=by simpa using her
     clear her HAW
     go_wp2_with fail
     refine (fail_any er HD5.out).mono ?_
     rintro e w6 ⟨rfl,hd6,hk6⟩
     have HFIN:Hid (DrvTo w B p q pw g F key ⟨S.v.fail er,d'⟩ ea ec w6):=⟨BA,bc,hd6,HK5.out.trans hk6⟩
     clear hd6 hk6
     go_wp2
     go_ret
     rw [HAF.out]
     exact ⟨rfl,HFIN.out⟩
 ·have HAF:Hid (appN g F key S ⟨kind,blk,ver,[d0,d1,d2,d3,d4,d5,d6,d7]⟩ except=(S,er)):=by unfold Hid; rw [HA.out,if_neg he]
  have hne:(er !=0)=true:=by simpa using he
  go_wp2
  go_ret
  rw [HAF.out]
  exact ⟨rfl,BA,bc,HH.out.below0 HB1.out,KeptT.bel HB1.out⟩
end
end Go.Proofs.YtggkengmlkhdiaaGreat
