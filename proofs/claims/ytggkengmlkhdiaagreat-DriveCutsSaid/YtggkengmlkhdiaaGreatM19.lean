/-
  WHAT IS SHOWN: what unlink of drive leaves. what band.Valid, band.Free and band.Open return, and that they change nothing that was there. what band.Open returns, and that it changes nothing that was there. what victim.Better and tegularef18.Better return, for any bands, size and time: the same; they change nothing that was there. Conditions: as each theorem names them.
-/
import Derived.Test.YtggkengmlkhdiaaGreatM18
import Derived.Test.YtggkengmlkhdiaaGreatRows
import Derived.Test.YtggkengmlkhdiaaGreatM10
import Derived.Deep.QuietTactic
import Derived.BigQuiet
import Derived.Handy
import Derived.Test.YtggkengmlkhdiaaGreatM11
namespace Go.Proofs.YtggkengmlkhdiaaGreat
set_option linter.unusedVariables false
open Go.RowKit
section
variable {w w':World} {B:Bd} {p q pw:Nat} {g:Geo} {F:List Flt} {key:Int} {S:ST} {ea ec:Nat} {BA:Option Addr} {bc:Nat}
def DrvTo (w:World) (B:Bd) (p q pw:Nat) (g:Geo) (F:List Flt) (key:Int) (S:ST) (ea ec:Nat) (w':World):Prop:=∃ BA bc,Drv w' B p q pw g F key S ea ec BA bc∧KeptT DRT B w w'
theorem VOk.adr_le {v:DV} (h:VOk g v) {b:Nat} {n:NE} (hn:v.es[b]?=some n) (h0:0≤n.adr):g.random≤n.adr∧n.adr≤100000:=by
 rcases h.adr b n hn with h1 | ⟨k,i,h1⟩
 ·omega
 ·have h2:=h1.nn h
  have h3:=h.gv.sz
  have h4:=h.gv.r1
  have h5:bz g=g.tracks * g.sectors:=rfl
  rw [h5] at h2
  omega
set_option maxRecDepth 100000 in
set_option maxHeartbeats 8000000 in
theorem unlink20_any (b:Nat) (hv:VOk g S.v) (hb:b < S.v.es.length) (h:Drv w B p q pw g F key S ea ec BA bc):Calls Tryz.prog 78 #[.pointer (some ⟨p,0,none⟩),.int .i64 b] w fun e w'=>e= .returned (.tuple #[])∧DrvTo w B p q pw g F key ⟨unlinkV g S.v b,S.d⟩ ea ec w':=by
 have hn:=List.getElem?_eq_getElem hb
 generalize hne:S.v.es[b]=n at hn
 clear hne
 obtain ⟨e0,e1,e2⟩:=h.entry hn
 obtain ⟨c0,c1,c2,c3,c4,c5⟩:=h.cells
 have hlt:(b:Int) < S.v.es.length:=by omega
 by_cases h0:0≤n.adr
 ·have hal:=hv.adr_le hn h0
  have HU:Hid (unlinkV g S.v b=⟨S.v.es.set b noNE,V.unlL S.v.bs (bandN g n.adr),S.v.time,S.v.failed⟩):=by
   unfold Hid unlinkV; rw [getD_of hn,if_pos h0]
  have hbl64:=hv.len64
  have HBD:=Lib.hid (fun W (hW:Below w.heap.size w W)=>band20_any hv.gv n.adr hal.1 hal.2 (h.below0 hW))
  have HUN:=Lib.hid (fun W (hW:Below w.heap.size w W) (k:Int)=>V.unlink_any S.v.bs k hv.oks BA bc W ((h.below0 hW).bs.rd) (by omega))
  have HFB:Hid (∀ W A c bs,Below w.heap.size w W→W.ownsRow w.heap.size 76 4 (.slice A bs.length c) bs.length (V.flat bs)→
    Drv (W.setCell ⟨p,3,none⟩ (.slice A bs.length c)) B p q pw g F key ⟨{ S.v with bs:=bs },S.d⟩ ea ec A c∧KeptT DRT B w (W.setCell ⟨p,3,none⟩ (.slice A bs.length c))):=by
   intro W A c bs hW ho
   have h':=(h.below0 hW).setBands (c:=c) (RdT.of_own ho)
   exact ⟨h'.1,(KeptT.bel hW).trans h'.2⟩
  have HSE:Hid (∀ W A c bs,Drv W B p q pw g F key ⟨{ S.v with bs:=bs },S.d⟩ ea ec A c→KeptT DRT B w W→
    (W.cell? ⟨p,2,none⟩=some (.slice (some ⟨ea,0,none⟩) S.v.es.length ec))∧(W.cell? ⟨ea,b * 3,none⟩=some (.int .i64 n.kind)∧W.cell? ⟨ea,b * 3+1,none⟩=some (.int .u64 n.ver)∧W.cell? ⟨ea,b * 3+2,none⟩=some (.int .i64 n.adr))∧
    (W.frozen? ⟨ea,b * 3,none⟩=false∧W.frozen? ⟨ea,b * 3+1,none⟩=false∧W.frozen? ⟨ea,b * 3+2,none⟩=false)∧
    DrvTo w B p q pw g F key ⟨⟨S.v.es.set b noNE,bs,S.v.time,S.v.failed⟩,S.d⟩ ea ec (((W.setCell ⟨ea,b * 3,none⟩ (.int .i64 0)).setCell ⟨ea,b * 3+1,none⟩ (.int .u64 0)).setCell ⟨ea,b * 3+2,none⟩ (.int .i64 (-1)))):=by
   intro W A c bs hd hk
   have h':=hd.setEntry (i:=b) hb noNE
   exact ⟨hd.cells.2.2.1,hd.entry (i:=b) hn,⟨hd.freeE _,hd.freeE _,hd.freeE _⟩,A,c,h'.1,hk.trans h'.2⟩
  have HCB:Hid (∀ W,Below w.heap.size w W→W.cell? ⟨p,3,none⟩=some (.slice BA S.v.bs.length bc)∧W.frozen? ⟨p,3,none⟩=false):=fun W hW=>⟨(h.below0 hW).cells.2.2.2.1,(h.below0 hW).free 3⟩
  obtain ⟨C,hC⟩:∃ C:List Value→World→Prop,C=fun h W=>match h with
   | []=>W=w.drew
   | [v]=>v= .int .i64 (bandN g n.adr)∧Below w.heap.size w W
   | [_,u]=>∃ A c,u= .tuple #[.slice A (V.unlL S.v.bs (bandN g n.adr)).length c,.int .i64 (V.unlE S.v.bs (bandN g n.adr))]∧W.ownsRow w.heap.size 76 4 (.slice A (V.unlL S.v.bs (bandN g n.adr)).length c) (V.unlL S.v.bs (bandN g n.adr)).length (V.flat (V.unlL S.v.bs (bandN g n.adr)))∧Below w.heap.size w W
   | [_,_,_]=>∃ A c,Drv W B p q pw g F key ⟨{ S.v with bs:=V.unlL S.v.bs (bandN g n.adr) },S.d⟩ ea ec A c∧KeptT DRT B w W
   | _=>False:=⟨_,rfl⟩
  have hb0:Below w.heap.size w w.drew:=(Below.refl _ _).drew
  have hall:∀ t:HeldL C 2,Below w.heap.size w t.w:=fun t=>by
   obtain ⟨s,W,h,l⟩:=t
   simp only
   subst hC
   match s,h,l with
   | [],h,_=>have h':W=w.drew:=h; rw [h']; exact hb0
   | [v],h,_=>exact h.2
   | [_,u],h,_=>obtain ⟨_,_,_,_,h⟩:=h; exact h
  have HC0:Hid (C [] w.drew):=by subst hC; exact rfl
  have HK1:Hid (∀ W,C [] W→Calls Tryz.prog 75 #[.pointer (some ⟨p,0,none⟩),.int .i64 n.adr] W fun e w'=>∃ x,e= .returned x∧C ([]++[x]) w'):=by
   subst hC
   intro W hW
   have hW':W=w.drew:=hW
   subst hW'
   exact (HBD.out _ hb0).mono fun e w' h=>⟨_,h.1,rfl,hb0.trans h.2⟩
  have HK2:Hid (∀ v W,C [v] W→Calls Tryz.prog 108 #[.slice BA S.v.bs.length bc,.int .i64 (bandN g n.adr)] W fun e w'=>∃ x,e= .returned x∧C ([v]++[x]) w'):=by
   subst hC
   intro v W hW
   obtain ⟨_,hW⟩:=hW
   refine (HUN.out W hW _).mono ?_
   rintro e w' ⟨A,c,he,ho,hb'⟩
   exact ⟨_,he,A,c,rfl,own_mono ho hW.size,hW.trans (hb'.mono hW.size)⟩
  have HV1:Hid (∀ v W,C [v] W→v= .int .i64 (bandN g n.adr)):=by subst hC; exact fun _ _ h=>h.1
  have HV2:Hid (∀ v u W,C [v,u] W→∃ A c,u= .tuple #[.slice A (V.unlL S.v.bs (bandN g n.adr)).length c,.int .i64 (V.unlE S.v.bs (bandN g n.adr))]∧Below w.heap.size w W):=by
   subst hC; intro v u W h; obtain ⟨A,c,h1,_,h2⟩:=h; exact ⟨A,c,h1,h2⟩
  have HV3:Hid (∀ v A c W,C [v,.tuple #[.slice A (V.unlL S.v.bs (bandN g n.adr)).length c,.int .i64 (V.unlE S.v.bs (bandN g n.adr))]] W→C ([v,.tuple #[.slice A (V.unlL S.v.bs (bandN g n.adr)).length c,.int .i64 (V.unlE S.v.bs (bandN g n.adr))]]++[undef]) (W.setCell ⟨p,3,none⟩ (.slice A (V.unlL S.v.bs (bandN g n.adr)).length c))):=by
   subst hC
   intro v A c W h
   obtain ⟨A',c',h1,h2,h3⟩:=h
   injection h1 with h1
   have h1':=congrArg (fun a=>a[0]?) h1
   simp only [List.getElem?_toArray,List.getElem?_cons_zero,Option.some.injEq] at h1'
   injection h1' with e1 e2 e3
   subst e1; subst e3
   exact ⟨A,c,HFB.out W A c _ h3 h2⟩
  have HV4:Hid (∀ v u x W,C [v,u,x] W→∃ A c,Drv W B p q pw g F key ⟨{ S.v with bs:=V.unlL S.v.bs (bandN g n.adr) },S.d⟩ ea ec A c∧KeptT DRT B w W):=by subst hC; exact fun _ _ _ _ h=>h
  have f3:∀ t:HeldL C 2,t.w.cell? ⟨p,3,none⟩=some (.slice BA S.v.bs.length bc):=fun t=>(HCB.out _ (hall t)).1
  have hne:Nonempty (HeldL C 2):=⟨⟨[],_,HC0.out,by simp⟩⟩
  have hne':Nonempty (HeldC C):=⟨⟨[],_,HC0.out⟩⟩
  have h00:decide (0≤n.adr)=true:=decide_eq_true h0
  rw [HU.out]
  generalize V.unlL S.v.bs (bandN g n.adr)=bs' at *
  generalize V.unlE S.v.bs (bandN g n.adr)=ub at *
  generalize bandN g n.adr=k at *
  clear hC hall hb0 HBD HUN HFB h hv hal hbl64 HU
  go_enter Tryz.func78,Tryz.ntmps78
  go_wp2_with fail
  refine wp_region_chainL C 14 [7,8] [14,10,9,8,7] [4] (by kernel_rfl) (by kernel_rfl) (by kernel_rfl) (by kernel_rfl) (by kernel_rfl) HC0.out ?_
  repeat (first | (refine wpCh_nl 2 (by rfl) (by rfl) (by rfl) ?_; go_big_quiet_step (fail); refine wpQuiet_nil ?_) | (refine wpCh_n (by rfl) (by rfl) ?_; go_big_quiet_step (fail); refine wpQuiet_nil ?_))
  refine wpCh_l (f:=75) (args:=#[.pointer (some ⟨p,0,none⟩),.int .i64 n.adr]) (by rfl) (by rfl) (fun W=>by simp [go_sem]) (fun W hW=>HK1.out W hW) (fun v W hW=>?_)
  obtain rfl:=HV1.out v W hW
  go_big_quiet_step (fail)
  refine wpQuiet_nil ?_
  refine wpCh_l (f:=108) (args:=#[.slice BA S.v.bs.length bc,.int .i64 k]) (by rfl) (by rfl) (fun W=>by simp [go_sem]) (fun W hW=>HK2.out _ W hW) (fun v W hW=>?_)
  obtain ⟨A,c,rfl,_⟩:=HV2.out _ v W hW
  go_big_quiet_step (fail)
  refine wpQuiet_nil ?_
  repeat (first | (refine wpCh_nl 2 (by rfl) (by rfl) (by rfl) ?_; go_big_quiet_step (fail); refine wpQuiet_nil ?_) | (refine wpCh_n (by rfl) (by rfl) ?_; go_big_quiet_step (fail); refine wpQuiet_nil ?_))
  refine wpCh_s (by rfl) (by rfl) rfl (fun W hW=>⟨W.setCell ⟨p,3,none⟩ (.slice A bs'.length c),?_,HV3.out _ _ _ W hW⟩) (fun v W hW=>?_)
  ·obtain ⟨_,_,_,hbW⟩:=HV2.out _ _ W hW
   obtain ⟨b3,b4⟩:=HCB.out W hbW
   simp [go_sem, *]
  refine wpCh_nil ?_
  intro wc hcw
  obtain ⟨A2,c2,hd,hk⟩:=HV4.out _ _ _ wc hcw
  obtain ⟨g2,⟨g0,g1,g3⟩,⟨g4,g5,g6⟩,hfin⟩:=HSE.out wc A2 c2 _ hd hk
  have HFIN:=Lib.hid hfin
  clear hd hk hfin hcw HV1 HV2 HV3 HV4 HK1 HK2 HC0 HSE HCB hne hne' f3 e0 e1 e2 c0 c1 c2 c3 c4 c5
  go_wp2
  go_end0
  exact ⟨rfl,HFIN.out⟩
 ·have HU:Hid (unlinkV g S.v b=⟨S.v.es.set b noNE,S.v.bs,S.v.time,S.v.failed⟩):=by
   unfold Hid unlinkV; rw [getD_of hn,if_neg h0]
  have hS:=h.setEntry (i:=b) hb noNE
  have HFIN:Hid (DrvTo w B p q pw g F key ⟨⟨S.v.es.set b noNE,S.v.bs,S.v.time,S.v.failed⟩,S.d⟩ ea ec (((w.setCell ⟨ea,b * 3,none⟩ (.int .i64 0)).setCell ⟨ea,b * 3+1,none⟩ (.int .u64 0)).setCell ⟨ea,b * 3+2,none⟩ (.int .i64 (-1)))):=⟨BA,bc,hS⟩
  have f0:=h.freeE (b * 3)
  have f1:=h.freeE (b * 3+1)
  have f2:=h.freeE (b * 3+2)
  have h00:decide (0≤n.adr)=false:=decide_eq_false h0
  rw [HU.out]
  clear h hv hS HU
  go_enter Tryz.func78,Tryz.ntmps78
  go_wp2
  go_end0
  exact ⟨rfl,HFIN.out⟩
end
end Go.Proofs.YtggkengmlkhdiaaGreat
namespace Go.Proofs.YtggkengmlkhdiaaGreat.V
set_option linter.unusedVariables false
open Go.RowKit
set_option maxHeartbeats 400000 in
theorem bad_any (sz:Int) (u l a wr:Int) (w:World) (b:Nat) (hc:w.cell? ⟨b,0,none⟩=some (.int .i64 sz)):
  Calls Tryz.prog 130 #[.agg #[.int .i64 u,.int .i64 l,.int .u64 a,.int .u64 wr],.pointer (some ⟨b,0,none⟩)] w fun e w'=>e= .returned (.bool (badB sz u l))∧Below w.heap.size w w':=by
 have hb:=block_lt_of_cell hc
 simp only at hb
 unfold badB
 go_enter Tryz.func130,Tryz.ntmps130
 go_wp2
 all_goals (go_ret; exact ⟨by simp [*],(Below.refl _ _).alloc (Nat.le_refl _) _⟩)
set_option maxHeartbeats 400000 in
theorem idx_any (sz:Int) (l:List BI) (A:Option Addr) (c:Nat) (w:World) (b:Nat) (hl:Rd w w.heap.size A (flat l)) (hn:l.length≤100000) (hc:w.cell? ⟨b,0,none⟩=some (.int .i64 sz)):
  Calls Tryz.prog 163 #[.slice A l.length c,.func (.func 130) #[] #[.pointer (some ⟨b,0,none⟩)]] w fun e w'=>e= .returned (.int .i64 (firstBad sz l 0))∧Below w.heap.size w w':=by
 have hb:=block_lt_of_cell hc
 simp only at hb
 go_enter Tryz.func163,Tryz.ntmps163
 go_wp2
 go_loopw [8] (fun i wr=>∃ k:Nat,k≤l.length∧i= .int .i64 k∧firstBad sz l 0=firstBad sz (l.drop k) k∧Below w.heap.size w wr) (fun i _=>l.length - (intOf i).toNat)
 case atStart=>exact ⟨0,Nat.zero_le _,rfl,rfl,Below.refl _ _⟩
 case round=>
  obtain ⟨k,hk,rfl,hfb,hbl⟩:=hrel
  have HF:=Lib.hid hfb; clear hfb
  by_cases hlt:k < l.length
  ·obtain ⟨g,o,rfl,hg,h0,h1,h2,h3⟩:=hl.band (get_some hlt)
   have j0:=(hbl.cell (p:=⟨g,_,none⟩) hg).trans h0
   have j1:=(hbl.cell (p:=⟨g,_,none⟩) hg).trans h1
   have j2:=(hbl.cell (p:=⟨g,_,none⟩) hg).trans h2
   have j3:=(hbl.cell (p:=⟨g,_,none⟩) hg).trans h3
   have hcr:=(hbl.cell (p:=⟨b,0,none⟩) hb).trans hc
   have hfirst:firstBad sz (l.drop k) k=if badB sz l[k].used l[k].live then (k:Int) else firstBad sz (l.drop (k+1)) (k+1):=by
    rw [List.drop_eq_getElem_cons hlt]; rfl
   have HS:=Lib.hid hfirst; clear hfirst
   go_wp2_with fail
   refine (bad_any sz _ _ _ _ _ b hcr).mono ?_
   rintro e w1 ⟨rfl,hb1⟩
   have hbl1:=hbl.trans (hb1.mono hbl.size)
   cases hbd:badB sz l[k].used l[k].live
   ·go_wp2
    go_roundw
    case rel=>exact ⟨k+1,by omega,by go_num,by rw [HF.out,HS.out,hbd]; rfl,hbl1⟩
    case measure=>simp [intOf]; omega
   ·go_wp2
    go_ret
    exact ⟨by rw [HF.out,HS.out,hbd]; rfl,hbl1⟩
  ·have hk':k=l.length:=by omega
   subst hk'
   go_wp2
   go_ret
   exact ⟨by rw [HF.out,List.drop_of_length_le (Nat.le_refl _)]; rfl,hbl⟩
set_option maxHeartbeats 400000 in
theorem contains_any (sz:Int) (l:List BI) (A:Option Addr) (c:Nat) (w:World) (b:Nat) (hl:Rd w w.heap.size A (flat l)) (hn:l.length≤100000) (hc:w.cell? ⟨b,0,none⟩=some (.int .i64 sz)):
  Calls Tryz.prog 129 #[.slice A l.length c,.func (.func 130) #[] #[.pointer (some ⟨b,0,none⟩)]] w fun e w'=>e= .returned (.bool (anyBad sz l))∧Below w.heap.size w w':=by
 have hfb:=firstBad_ge sz l 0
 have HF:=Lib.hid hfb; clear hfb
 go_enter Tryz.func129,Tryz.ntmps129
 go_wp2_with (go_at_call 163; refine (idx_any sz l A c _ b hl hn hc).mono ?_; rintro e w1 ⟨rfl,hb1⟩)
 go_ret
 exact ⟨by rw [← HF.out]; rfl,hb1⟩
set_option maxHeartbeats 400000 in
theorem valid_any (sz:Int) (l:List BI) (A:Option Addr) (c:Nat) (w:World) (hl:Rd w w.heap.size A (flat l)) (hn:l.length≤9223372036854775807):
  Calls Tryz.prog 103 #[.slice A l.length c,.int .i64 sz] w fun e w'=>e= .returned (.bool (validB l sz))∧Below w.heap.size w w':=by
 unfold validB
 go_enter Tryz.func103,Tryz.ntmps103
 go_wp2_with fail
 ·have hc:(w.alloc (.cells #[.int .i64 sz] 3)).cell? ⟨w.heap.size,0,none⟩=some (.int .i64 sz):=by simp
  refine (contains_any sz l A c _ w.heap.size ((hl.alloc (Nat.le_refl _) _).more (by simp)) (by omega) hc).mono ?_
  rintro e w1 ⟨rfl,hb1⟩
  have hbl:Below w.heap.size w w1:=((Below.refl _ _).alloc (Nat.le_refl _) _).trans (hb1.mono (by simp))
  go_wp2
  go_ret
  refine ⟨?_,hbl⟩
  have e1:decide (1≤l.length)=true:=decide_eq_true (by omega)
  have e2:decide (l.length≤64)=true:=decide_eq_true (by omega)
  have e3:decide (1≤sz)=true:=decide_eq_true (by omega)
  rw [e1,e2,e3]; rfl
 ·go_ret
  refine ⟨?_,(Below.refl _ _).alloc (Nat.le_refl _) _⟩
  have e3:decide (1≤sz)=false:=decide_eq_false (by omega)
  rw [e3]; simp
 ·go_ret
  refine ⟨?_,(Below.refl _ _).alloc (Nat.le_refl _) _⟩
  have e3:decide (l.length≤64)=false:=decide_eq_false (by omega)
  rw [e3]; simp
 ·go_ret
  refine ⟨?_,(Below.refl _ _).alloc (Nat.le_refl _) _⟩
  have e3:decide (1≤l.length)=false:=decide_eq_false (by omega)
  rw [e3]; simp
set_option maxHeartbeats 400000 in
theorem free_any (l:List BI) (A:Option Addr) (c:Nat) (w:World) (hl:Rd w w.heap.size A (flat l)) (hn:l.length≤100000):
  Calls Tryz.prog 70 #[.slice A l.length c] w fun e w'=>e= .returned (.int .i64 (freeN l))∧Below w.heap.size w w':=by
 go_enter Tryz.func70,Tryz.ntmps70
 go_wp2
 go_loopw [3,8] (fun n i wr=>∃ k:Nat,k≤l.length∧i= .int .i64 k∧n= .int .i64 (freeN (l.take k))∧Below w.heap.size w wr) (fun _ i _=>l.length - (intOf i).toNat)
 case atStart=>exact ⟨0,Nat.zero_le _,rfl,rfl,Below.refl _ _⟩
 case round=>
  obtain ⟨k,hk,rfl,rfl,hbl⟩:=hrel
  have hfl:=freeN_le (l.take k)
  have hll:(l.take k).length≤k:=List.length_take_le _ _
  by_cases hlt:k < l.length
  ·obtain ⟨g,o,rfl,hg,h0,h1,h2,h3⟩:=hl.band (get_some hlt)
   have j0:=(hbl.cell (p:=⟨g,_,none⟩) hg).trans h0
   have j1:=(hbl.cell (p:=⟨g,_,none⟩) hg).trans h1
   have j2:=(hbl.cell (p:=⟨g,_,none⟩) hg).trans h2
   have j3:=(hbl.cell (p:=⟨g,_,none⟩) hg).trans h3
   have HS:=Lib.hid (freeN_take l k hlt)
   have hz:=hbl.size
   cases hbd:l[k].used==0
   all_goals
    go_wp2
    go_roundw
    case rel=>exact ⟨k+1,by omega,by go_num,by rw [HS.out,hbd]; simp,hbl.alloc hz _⟩
    case measure=>simp [intOf]; omega
  ·have hk':k=l.length:=by omega
   subst hk'
   go_wp2
   go_ret
   exact ⟨by rw [List.take_of_length_le (Nat.le_refl _)]; rfl,hbl⟩
set_option maxHeartbeats 400000 in
theorem newer_first (A:Option Addr) (n c:Nat) (i:Int) (w:World) (b1 b2:Nat) (h1:w.cell? ⟨b1,0,none⟩=some (.int .i64 (-1))) (h2:w.cell? ⟨b2,0,none⟩=some (.slice A n c)):
  Calls Tryz.prog 105 #[.int .i64 i,.pointer (some ⟨b1,0,none⟩),.pointer (some ⟨b2,0,none⟩)] w fun e w'=>e= .returned (.bool true)∧Below w.heap.size w w':=by
 go_enter Tryz.func105,Tryz.ntmps105
 go_wp2
 go_quiet (fail)
 go_wp2
 go_ret
 exact ⟨rfl,below_drewN' (Below.refl _ _) _⟩
set_option maxHeartbeats 400000 in
theorem newer_any (l:List BI) (A:Option Addr) (c:Nat) (k j:Nat) (hk:k < l.length) (hj:j < l.length) (w:World) (B b1 b2:Nat) (hl:Rd w B A (flat l)) (hn:l.length≤100000) (h1:w.cell? ⟨b1,0,none⟩=some (.int .i64 j)) (h2:w.cell? ⟨b2,0,none⟩=some (.slice A l.length c)):
  Calls Tryz.prog 105 #[.int .i64 k,.pointer (some ⟨b1,0,none⟩),.pointer (some ⟨b2,0,none⟩)] w fun e w'=>e= .returned (.bool (decide (l[j].age < l[k].age)))∧Below w.heap.size w w':=by
 obtain ⟨g,o,rfl,hg,_,_,a2,_⟩:=hl.band (get_some hk)
 obtain ⟨g',o',e,_,_,_,b2',_⟩:=hl.band (get_some hj)
 simp only [Option.some.injEq,Addr.mk.injEq,and_true] at e
 obtain ⟨rfl,rfl⟩:=e
 have d1:decide ((j:Int) < 0)=false:=by simp
 have d2:(0:Int)≤k:=by omega
 have d3:(k:Int) < l.length:=by omega
 have d4:(0:Int)≤j:=by omega
 have d5:(j:Int) < l.length:=by omega
 go_enter Tryz.func105,Tryz.ntmps105
 go_wp2
 go_quiet (fail)
 go_wp2
 go_ret
 exact ⟨by simp,below_drewN' (Below.refl _ _) _⟩
end Go.Proofs.YtggkengmlkhdiaaGreat.V
namespace Go.Proofs.YtggkengmlkhdiaaGreat.V
set_option linter.unusedVariables false
open Go.RowKit
theorem openStep_no {sz:Int} {s:Int × Int} {k:Nat} {b:BI} (h:partB sz b=false):openStep sz s k b=s:=by unfold openStep; rw [h]; simp
theorem openStep_first {sz:Int} {s:Int × Int} {k:Nat} {b:BI} (h:partB sz b=true) (hs:s.1= -1):openStep sz s k b=((k:Int),b.age):=by unfold openStep; rw [h,hs]; simp
theorem openStep_next {sz:Int} {s:Int × Int} {k j:Nat} {b:BI} (h:partB sz b=true) (hs:s.1=(j:Int)):openStep sz s k b=if decide (s.2 < b.age)=true then ((k:Int),b.age) else s:=by
 unfold openStep; rw [h,hs]
 have:decide ((j:Int) < 0)=false:=decide_eq_false (by omega)
 simp only [this,Bool.true_and,Bool.false_or]
set_option maxHeartbeats 1000000 in
theorem open_any (sz:Int) (l:List BI) (A:Option Addr) (c:Nat) (w:World) (hl:Rd w w.heap.size A (flat l)) (hn:l.length≤100000):
  Calls Tryz.prog 73 #[.slice A l.length c,.int .i64 sz] w fun e w'=>e= .returned (.int .i64 (openB l sz))∧Below w.heap.size w w':=by
 have hl1:Rd (w.alloc (.cells #[.slice A l.length c] 35)) (w.heap.size+1) A (flat l):=(hl.alloc (Nat.le_refl _) _).more (by omega)
 unfold openB
 cases hv:validB l sz
 ·go_enter Tryz.func73,Tryz.ntmps73
  go_wp2_with (go_at_call 103; refine (valid_any sz l A c _ (by simpa using hl1) (by omega)).mono ?_; rintro e w1 ⟨rfl,hb1⟩)
  go_ret
  exact ⟨rfl,((Below.refl _ _).alloc (Nat.le_refl _) _).trans (hb1.mono (by simp))⟩
 ·go_enter Tryz.func73,Tryz.ntmps73
  go_wp2_with fail
  refine (valid_any sz l A c _ (by simpa using hl1) (by omega)).mono ?_
  rintro e w1 ⟨rfl,hb1⟩
  have hbox:w1.cell? ⟨w.heap.size,0,none⟩=some (.slice A l.length c):=(hb1.cell (p:=⟨w.heap.size,0,none⟩) (by simp)).trans (by simp)
  have hsz:w.heap.size+1≤w1.heap.size:=by simpa using hb1.size
  have hbw:Below w.heap.size w w1:=((Below.refl _ _).alloc (Nat.le_refl _) _).trans (hb1.mono (by simp))
  have hrd:=hl.below hbw (Nat.le_refl _)
  have hz1:w.heap.size < w1.heap.size:=by omega
  go_wp2
  go_loopw [16] (fun i wr=>∃ k:Nat,k≤l.length∧i= .int .i64 k∧wr.heap[w1.heap.size]?=some (.cells #[.int .i64 (openFrom sz (-1,0) 0 (l.take k)).1] 3 (0,0))∧wr.cell? ⟨w.heap.size,0,none⟩=some (.slice A l.length c)∧Below w.heap.size w wr) (fun i _=>l.length - (intOf i).toNat)
  case atStart=>exact ⟨0,Nat.zero_le _,rfl,heap_alloc_new _ _,by rw [World.cell?_alloc_past _ _ _ hz1]; exact hbox,hbw.alloc (by omega) _⟩
  case round=>
   obtain ⟨k,hk,rfl,hop,hbx,hbl⟩:=hrel
   have hopc:=cell_of_one hop
   have hopf:=free_of_one hop
   have hopl:=lt_of_block hop
   by_cases hlt:k < l.length
   ·obtain ⟨g,o,rfl,hg,h0,h1,h2,h3⟩:=hl.band (get_some hlt)
    have j0:=(hbl.cell (p:=⟨g,_,none⟩) hg).trans h0
    have j1:=(hbl.cell (p:=⟨g,_,none⟩) hg).trans h1
    have j2:=(hbl.cell (p:=⟨g,_,none⟩) hg).trans h2
    have j3:=(hbl.cell (p:=⟨g,_,none⟩) hg).trans h3
    have HS:=Lib.hid (openFrom_take sz l (-1,0) k hlt)
    have HI:=Lib.hid (openFrom_inv sz l k hk)
    have hz:=hbl.size
    by_cases hp1:0 < l[k].used
    ·by_cases hp2:l[k].used < sz
     ·have HP:Hid (partB sz l[k]=true):=by unfold Hid partB; simp [hp1,hp2]
      rcases HI.out with hm | ⟨j,hjk,hm,bb,hbb,hage⟩
      ·have HM:=Lib.hid hm
       have HN:=Lib.hid (openStep_first (k:=k) HP.out hm)
       rw [hm] at hopc
       clear hm
       go_wp2_with fail
       refine (newer_first _ _ _ _ _ w1.heap.size w.heap.size (by rw [World.cell?_alloc_past _ _ _ hopl]; exact hopc) (by rw [World.cell?_alloc_past _ _ _ (by omega)]; exact hbx)).mono ?_
       rintro e w2 ⟨rfl,hb2⟩
       have hop2:=(hb2.block w1.heap.size (by first | omega | (simp; done) | (simp; omega))).trans ((Below.heap_alloc _ _ _ hopl).trans hop)
       have hbx2:=(hb2.cell (p:=⟨w.heap.size,0,none⟩) (by first | omega | (simp; done) | (simp; omega))).trans ((World.cell?_alloc_past _ _ _ (by omega)).trans hbx)
       have hbl2:=(hbl.alloc hz _).trans (hb2.mono (by first | omega | (simp; done) | (simp; omega)))
       have hopc2:=cell_of_one hop2
       have hopf2:=free_of_one hop2
       have HO2:=Lib.hid hop2; clear hop2
       go_wp2
       go_roundw
       case rel=>exact ⟨k+1,by omega,by go_num,by rw [one_setCell HO2.out,HS.out,HN.out],by rw [World.cell?_setCell_other _ _ _ _ (by first | omega | (simp; done) | (simp; omega))]; exact hbx2,hbl2.setCell (by first | omega | (simp; done) | (simp; omega)) _⟩
       case measure=>simp [intOf]; omega
      ·have HM:=Lib.hid hm
       have HN:=Lib.hid (openStep_next (k:=k) HP.out hm)
       have HA:=Lib.hid hage
       have hj:j < l.length:=by omega
       have HB:Hid (bb=l[j]):=by unfold Hid; rw [get_some hj] at hbb; injection hbb with h; exact h.symm
       rw [hm] at hopc
       clear hm hage hbb
       go_wp2_with fail
       refine (newer_any l _ c k j hlt hj _ w.heap.size w1.heap.size w.heap.size ((hl.below hbl (Nat.le_refl _)).alloc hz _) hn (by rw [World.cell?_alloc_past _ _ _ hopl]; exact hopc) (by rw [World.cell?_alloc_past _ _ _ (by omega)]; exact hbx)).mono ?_
       rintro e w2 ⟨rfl,hb2⟩
       have hop2:=(hb2.block w1.heap.size (by first | omega | (simp; done) | (simp; omega))).trans ((Below.heap_alloc _ _ _ hopl).trans hop)
       have hbx2:=(hb2.cell (p:=⟨w.heap.size,0,none⟩) (by first | omega | (simp; done) | (simp; omega))).trans ((World.cell?_alloc_past _ _ _ (by omega)).trans hbx)
       have hbl2:=(hbl.alloc hz _).trans (hb2.mono (by first | omega | (simp; done) | (simp; omega)))
       have hopc2:=cell_of_one hop2
       have hopf2:=free_of_one hop2
       have HO2:=Lib.hid hop2; clear hop2
       have HX:Hid (openStep sz (openFrom sz (-1,0) 0 (l.take k)) k l[k]=if decide (l[j].age < l[k].age)=true then ((k:Int),l[k].age) else openFrom sz (-1,0) 0 (l.take k)):=by
        unfold Hid; rw [HN.out,← HA.out,HB.out]
       cases hage:decide (l[j].age < l[k].age)
       ·have HG:=Lib.hid hage; clear hage
        go_wp2
        go_roundw
        case rel=>exact ⟨k+1,by omega,by go_num,by rw [HO2.out,HS.out,HX.out,HG.out]; rfl,hbx2,hbl2⟩
        case measure=>simp [intOf]; omega
       ·have HG:=Lib.hid hage; clear hage
        go_wp2
        go_roundw
        case rel=>exact ⟨k+1,by omega,by go_num,by rw [one_setCell HO2.out,HS.out,HX.out,HG.out]; rfl,by rw [World.cell?_setCell_other _ _ _ _ (by first | omega | (simp; done) | (simp; omega))]; exact hbx2,hbl2.setCell (by first | omega | (simp; done) | (simp; omega)) _⟩
        case measure=>simp [intOf]; omega
     ·have HP:Hid (partB sz l[k]=false):=by unfold Hid partB; simp [hp2]
      go_wp2
      go_roundw
      case rel=>exact ⟨k+1,by omega,by go_num,by rw [Below.heap_alloc _ _ _ hopl,hop,HS.out,openStep_no HP.out],by rw [World.cell?_alloc_past _ _ _ (by omega)]; exact hbx,hbl.alloc hz _⟩
      case measure=>simp [intOf]; omega
    ·have HP:Hid (partB sz l[k]=false):=by unfold Hid partB; simp [hp1]
     go_wp2
     go_roundw
     case rel=>exact ⟨k+1,by omega,by go_num,by rw [Below.heap_alloc _ _ _ hopl,hop,HS.out,openStep_no HP.out],by rw [World.cell?_alloc_past _ _ _ (by omega)]; exact hbx,hbl.alloc hz _⟩
     case measure=>simp [intOf]; omega
   ·have hk':k=l.length:=by omega
    subst hk'
    go_wp2
    go_ret
    exact ⟨rfl,hbl⟩
end Go.Proofs.YtggkengmlkhdiaaGreat.V
namespace Go.Proofs.YtggkengmlkhdiaaGreat.V
set_option linter.unusedVariables false
open Go.RowKit
theorem two_num {a b c d:Int} (h1:a=c) (h2:b=d):Ending.returned (.tuple #[.int .u64 a,.int .u64 b])= .returned (.tuple #[.int .u64 c,.int .u64 d]):=by rw [h1,h2]
set_option maxHeartbeats 400000 in
theorem mul64_any (x y:Int) (hx:0≤x) (hx2:x < 18446744073709551616) (hy:0≤y) (hy2:y < 18446744073709551616) (w:World):
  Calls Tryz.prog 134 #[.int .u64 x,.int .u64 y] w fun e w'=>e= .returned (.tuple #[.int .u64 (x * y / 18446744073709551616),.int .u64 (x * y % 18446744073709551616)])∧Below w.heap.size w w':=by
 go_enter Tryz.func134,Tryz.ntmps134
 go_wp2
 go_ret2
 exact ⟨two_num (mul_halves x y hx hx2 hy hy2) (u64_mod _),Below.refl _ _⟩
set_option maxHeartbeats 400000 in
theorem vfits_any (b:BI) (w:World):Calls Tryz.prog 131 #[.agg #[.int .i64 b.used,.int .i64 b.live,.int .u64 b.age,.int .u64 b.wear]] w fun e w'=>e= .returned (.bool (fitB b))∧Below w.heap.size w w':=by
 unfold fitB
 go_enter Tryz.func131,Tryz.ntmps131
 go_wp2
 all_goals (go_ret; exact ⟨by simp [*] <;> (intros; omega),((Below.refl _ _).alloc (Nat.le_refl _) _)⟩)
set_option maxHeartbeats 400000 in
theorem yield_any (b:BI) (hb:U64 b.age) (now sz:Int) (hn:U64 now) (h0:0≤b.live) (h1:b.live≤sz) (h2:1≤sz) (h3:sz≤1048576) (w:World):Calls Tryz.prog 133 #[.agg #[.int .i64 b.used,.int .i64 b.live,.int .u64 b.age,.int .u64 b.wear],.int .i64 sz,.int .u64 now] w fun e w'=>e= .returned (.tuple #[.int .u64 (numN b sz now),.int .u64 (denN b sz)])∧Below w.heap.size w w':=by
 obtain ⟨a1,a2⟩:=hb
 obtain ⟨b1,b2⟩:=hn
 have hag:=ageN_bound b now
 have HM:=Lib.hid (mul_bound (a:=sz - b.live) (b:=ageN b now+1) (A:=1048576) (B:=1099511627777) (by omega) (by omega) (by omega) (by omega))
 clear hag
 have fin:∀ g:Int,ageN b now=g→Hid (IntKind.u64.wrap ((sz - b.live) * (g+1))=numN b sz now):=fun g hg=>by
  have h:=HM.out
  unfold Hid numN
  rw [hg] at h ⊢
  exact u64_self h.1 (by omega)
 have HF:=Lib.hid fin
 clear fin
 by_cases hlt:b.age < now
 ·by_cases hl2:now - b.age < 1099511627776
  ·have HN:=HF.out (now - b.age) (by unfold ageN; rw [if_pos hlt,if_pos hl2])
   go_enter Tryz.func133,Tryz.ntmps133
   go_wp2
   go_quiet (fail)
   go_wp2
   go_ret2
   exact ⟨two_num HN.out rfl,below_drewN' ((Below.refl _ _).alloc (Nat.le_refl _) _) _⟩
  ·have HN:=HF.out 1099511627776 (by unfold ageN; rw [if_pos hlt,if_neg hl2])
   go_enter Tryz.func133,Tryz.ntmps133
   go_wp2
   all_goals
    go_quiet (fail)
    go_wp2
    go_ret2
    exact ⟨two_num (by first | exact HN.out | (have h:=HN.out; rw [← h,u64_self (by omega) (by omega)]; omega) | exact (HF.out (now - b.age) (by unfold ageN; rw [if_pos hlt]; split <;> omega)).out) rfl,below_drewN' ((Below.refl _ _).alloc (Nat.le_refl _) _) _⟩
 ·have HN:=HF.out 0 (by unfold ageN; rw [if_neg hlt])
  go_enter Tryz.func133,Tryz.ntmps133
  go_wp2
  go_quiet (fail)
  go_wp2
  go_ret2
  exact ⟨two_num (by first | exact HN.out | (have h:=HN.out; rw [← h,u64_self (by omega) (by omega)]; omega)) rfl,below_drewN' ((Below.refl _ _).alloc (Nat.le_refl _) _) _⟩
theorem loss_num {b:BI} {sz now:Int} (h2:1≤sz) (h3:sz≤1048576) (h1:sz < b.live) (h4:b.live≤1048576):
  IntKind.u64.wrap (IntKind.u64.wrap ((sz * (ageN b now+1)).tdiv sz) * (b.live - sz))= - numN b sz now:=by
 have hag:=ageN_bound b now
 rw [Int.tdiv_eq_ediv_of_nonneg (Int.mul_nonneg (by omega) (by omega)),Int.mul_comm sz,Int.mul_ediv_cancel _ (by omega),u64_self (x:=ageN b now+1) (by omega) (by omega)]
 obtain ⟨m1,m2⟩:=mul_bound (a:=ageN b now+1) (b:=b.live - sz) (A:=1099511627777) (B:=1048576) (by omega) (by omega) (by omega) (by omega)
 rw [u64_self m1 (by omega)]
 unfold numN
 rw [← Int.neg_mul,Int.mul_comm]
 congr 1; omega
set_option maxHeartbeats 400000 in
theorem loss_any (b:BI) (hb:U64 b.age) (now sz:Int) (hn:U64 now) (h1:sz < b.live) (h4:b.live≤1048576) (h2:1≤sz) (h3:sz≤1048576) (w:World):Calls Tryz.prog 164 #[.agg #[.int .i64 b.used,.int .i64 b.live,.int .u64 b.age,.int .u64 b.wear],.int .i64 sz,.int .u64 now] w fun e w'=>e= .returned (.tuple #[.int .u64 (- numN b sz now),.int .u64 (denN b sz)])∧Below w.heap.size w w':=by
 have HN:=Lib.hid (loss_num (now:=now) h2 h3 h1 h4)
 have hy:=fun W=>yield_any ⟨b.used,0,b.age,b.wear⟩ hb now sz hn (Int.le_refl 0) (by show (0:Int)≤sz; omega) h2 h3 W
 have e1:numN ⟨b.used,0,b.age,b.wear⟩ sz now=sz * (ageN b now+1):=by
  show (sz - 0) * (ageN b now+1)=_
  rw [Int.sub_zero]
 simp only [e1] at hy
 have hq:0≤sz * (ageN b now+1):=Int.mul_nonneg (by omega) (by have:=(ageN_bound b now).1; omega)
 have HY:=Lib.hid hy
 clear hy e1
 go_enter Tryz.func164,Tryz.ntmps164
 go_wp2_with fail
 refine (HY.out _).mono ?_
 rintro e w1 ⟨rfl,hb1⟩
 have hc:w1.cell? ⟨w.heap.size,1,none⟩=some (.int .i64 b.live):=(hb1.cell (p:=⟨w.heap.size,1,none⟩) (by simp; omega)).trans (by rw [World.cell?_alloc_past _ _ _ (by simp)]; simp)
 have hbl:Below w.heap.size w w1:=((((Below.refl _ _).alloc (Nat.le_refl _) _)).alloc (by simp) _).trans (hb1.mono (by simp; omega))
 generalize sz * (ageN b now+1)=q at *
 go_wp2
 go_quiet (fail)
 go_wp2
 go_ret2
 exact ⟨two_num HN.out rfl,below_drewN' hbl _⟩
end Go.Proofs.YtggkengmlkhdiaaGreat.V
