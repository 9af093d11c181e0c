/-
  WHAT IS SHOWN: what Decode of entry returns. Conditions: the bytes can be read.
-/
import Derived.Test.YtggkengmlkhdiaaGreatM22
import Derived.Deep.RegionHeld3
import Derived.Deep.DeepCutAuto
import Derived.Test.YtggkengmlkhdiaaGreatM16
import Derived.Laws.Cover3
namespace Go.Proofs.YtggkengmlkhdiaaGreat
set_option linter.unusedVariables false
open Go.RowKit
theorem cells11 {w:World} {b:Nat} {v0 v1 v2 v3 v4 v5 v6 v7 v8 v9 v10:Value} {t:TypeId} (h:w.heap[b]?=some (.cells #[v0,v1,v2,v3,v4,v5,v6,v7,v8,v9,v10] t (0,0))):(w.cell? ⟨b,0,none⟩=some v0∧w.cell? ⟨b,1,none⟩=some v1∧w.cell? ⟨b,2,none⟩=some v2∧w.cell? ⟨b,3,none⟩=some v3∧w.cell? ⟨b,4,none⟩=some v4∧w.cell? ⟨b,5,none⟩=some v5∧w.cell? ⟨b,6,none⟩=some v6∧w.cell? ⟨b,7,none⟩=some v7∧w.cell? ⟨b,8,none⟩=some v8∧w.cell? ⟨b,9,none⟩=some v9∧w.cell? ⟨b,10,none⟩=some v10)∧(w.frozen? ⟨b,0,none⟩=false∧w.frozen? ⟨b,1,none⟩=false∧w.frozen? ⟨b,2,none⟩=false∧w.frozen? ⟨b,3,none⟩=false∧w.frozen? ⟨b,4,none⟩=false∧w.frozen? ⟨b,5,none⟩=false∧w.frozen? ⟨b,6,none⟩=false∧w.frozen? ⟨b,7,none⟩=false∧w.frozen? ⟨b,8,none⟩=false∧w.frozen? ⟨b,9,none⟩=false∧w.frozen? ⟨b,10,none⟩=false):=by
 refine ⟨⟨?_,?_,?_,?_,?_,?_,?_,?_,?_,?_,?_⟩,⟨?_,?_,?_,?_,?_,?_,?_,?_,?_,?_,?_⟩⟩ <;> first | (simp [World.cell?,h]; done) | simp [World.frozen?,h]
theorem heap_setQ {w:World} {q:Nat} {l:List Value} {ty:TypeId} (h:w.heap[q]?=some (.cells l.toArray ty (0,0))) (i:Nat) (u:Value):(w.setCell ⟨q,i,none⟩ u).heap[q]?=some (.cells (l.set i u).toArray ty (0,0)):=by
 simp [World.setCell,Array.getElem?_modify,h]
theorem set11 {w:World} {b:Nat} {l:List Value} {t:TypeId} (h:w.heap[b]?=some (.cells l.toArray t (0,0))) (hl:l.length=11) (v0 v1 v2 v3 v4 v5 v6 v7 v8 v9 v10:Value):
  (((((((((((w.setCell ⟨b,0,none⟩ v0).setCell ⟨b,1,none⟩ v1).setCell ⟨b,2,none⟩ v2).setCell ⟨b,3,none⟩ v3).setCell ⟨b,4,none⟩ v4).setCell ⟨b,5,none⟩ v5).setCell ⟨b,6,none⟩ v6).setCell ⟨b,7,none⟩ v7).setCell ⟨b,8,none⟩ v8).setCell ⟨b,9,none⟩ v9).setCell ⟨b,10,none⟩ v10).heap[b]?=some (.cells #[v0,v1,v2,v3,v4,v5,v6,v7,v8,v9,v10] t (0,0))∧Kept (fun k=>k=b) w (((((((((((w.setCell ⟨b,0,none⟩ v0).setCell ⟨b,1,none⟩ v1).setCell ⟨b,2,none⟩ v2).setCell ⟨b,3,none⟩ v3).setCell ⟨b,4,none⟩ v4).setCell ⟨b,5,none⟩ v5).setCell ⟨b,6,none⟩ v6).setCell ⟨b,7,none⟩ v7).setCell ⟨b,8,none⟩ v8).setCell ⟨b,9,none⟩ v9).setCell ⟨b,10,none⟩ v10):=by
 refine ⟨?_,?_⟩
 ·match l,hl with
  | [_,_,_,_,_,_,_,_,_,_,_],_=>
    exact heap_setQ (heap_setQ (heap_setQ (heap_setQ (heap_setQ (heap_setQ (heap_setQ (heap_setQ (heap_setQ (heap_setQ (heap_setQ h 0 v0) 1 v1) 2 v2) 3 v3) 4 v4) 5 v5) 6 v6) 7 v7) 8 v8) 9 v9) 10 v10
 ·repeat' apply Kept.setCell
  all_goals first | exact Kept.refl _ _ | exact fun _=>rfl
theorem Held.bel {B:Nat} {w:World} (s:Held (Below B w)):Below B w s.w:=s.h
theorem Rd.sub {w:World} {B g o:Nat} {xs:List Value} (h:Rd w B (some ⟨g,o,none⟩) xs) (k n:Nat):Rd w B (some ⟨g,o+k,none⟩) ((xs.drop k).take n):=fun j u hu=>by
 rw [List.getElem?_take] at hu
 split at hu
 ·rw [List.getElem?_drop] at hu
  obtain ⟨g',o',e,hg,hc⟩:=h _ u hu
  injection e with e; injection e with e1 e2; subst e1; subst e2
  exact ⟨g,o+k,rfl,hg,by rw [Nat.add_assoc]; exact hc⟩
 ·cases hu
theorem get_sub {xs:List Int} (hu:U8s xs) {g o:Nat} {W:World} (hr:Rd W W.heap.size (some ⟨g,o,none⟩) (xs.map (Value.int .u8))) (k n:Nat) (hn:n≤8) (hk:k+n≤xs.length) (cc:Nat):
  Calls Tryz.prog 100 #[.slice (some ⟨g,o+k,none⟩) n cc] W fun e w'=>e= .returned (.int .u64 (getN ((xs.drop k).take n)))∧w'=W:=by
 have hl:((xs.drop k).take n).length=n:=by simp; omega
 have h:=get_any ((xs.drop k).take n) ((hu.qdrop k).qtake n) (by omega) (some ⟨g,o+k,none⟩) cc W (by rw [List.map_take,List.map_drop]; exact hr.sub k n)
 rw [hl] at h
 exact h
theorem sum_sub {xs:List Int} {g o:Nat} {W:World} (hr:Rd W W.heap.size (some ⟨g,o,none⟩) (xs.map (Value.int .u8))) (n:Nat) (hn:n≤1000) (hk:n≤xs.length) (cc:Nat):
  Calls Tryz.prog 101 #[.slice (some ⟨g,o,none⟩) n cc] W fun e w'=>e= .returned (.int .u64 (sumC (xs.take n)))∧Below W.heap.size W w':=by
 have hl:(xs.take n).length=n:=by simp; omega
 have h:=sum_any (xs.take n) (some ⟨g,o,none⟩) cc W (by rw [List.map_take]; have:=hr.sub 0 n; simpa using this) (by omega)
 rw [hl] at h
 exact h
set_option maxRecDepth 100000 in
set_option maxHeartbeats 8000000 in
theorem decode_any (xs:List Int) (hu:U8s xs) (A:Option Addr) (c:Nat) (w:World) (hr:Rd w w.heap.size A (xs.map (Value.int .u8))) (hl:xs.length≤100000) (hc:xs.length≤c) (hc2:c≤9223372036854775807):
  Calls Tryz.prog 69 #[.slice A xs.length c] w fun e w'=>e= .returned (.tuple #[entV (decX xs),.int .u64 (decT xs),.int .i64 (decE xs)])∧Below w.heap.size w w':=by
 by_cases h37:xs.length=37
 ·obtain ⟨g,o,rfl,hg,hc0⟩:=hr 0 _ (by rw [List.getElem?_map,List.getElem?_eq_getElem (by omega)]; rfl)
  have hds0:((xs.drop 13).take 8).length=8:=by simp; omega
  obtain ⟨d0,d1,d2,d3,d4,d5,d6,d7,hds⟩:=len8 hds0
  have hx0:=hu (xs.getD 0 0) (by rw [List.getD_eq_getElem?_getD,List.getElem?_eq_getElem (by omega)]; exact List.getElem_mem _)
  have h4n:=getN_nn ((hu.qdrop 1).qtake 4)
  have h4l:=getN_lt ((hu.qdrop 1).qtake 4)
  rw [show ((xs.drop 1).take 4).length=4 by simp; omega] at h4l
  have HEO:Hid (entOf xs=⟨xs.getD 0 0,getN ((xs.drop 1).take 4),getN ((xs.drop 5).take 8),[d0,d1,d2,d3,d4,d5,d6,d7]⟩):=by unfold Hid entOf; rw [hds]
  have HDE:Hid (∀ a b,getN ((xs.drop 29).take 8)=a→sumC (xs.take 29)=b→decE xs=if a=b then (if validE (entOf xs) then 0 else 5) else 6):=by
   intro a b ha hb
   unfold decE
   rw [if_pos h37,← ha,← hb,List.take_of_length_le (l:=xs.drop 29) (by simp; omega)]
  have hcell:∀ W,Below w.heap.size w W→W.cell? ⟨g,o,none⟩=some (.int .u8 (xs.getD 0 0))∧W.cell? ⟨g,o+13,none⟩=some (.int .u8 d0)∧W.cell? ⟨g,o+13+1,none⟩=some (.int .u8 d1)∧W.cell? ⟨g,o+13+2,none⟩=some (.int .u8 d2)∧W.cell? ⟨g,o+13+3,none⟩=some (.int .u8 d3)∧W.cell? ⟨g,o+13+4,none⟩=some (.int .u8 d4)∧W.cell? ⟨g,o+13+5,none⟩=some (.int .u8 d5)∧W.cell? ⟨g,o+13+6,none⟩=some (.int .u8 d6)∧W.cell? ⟨g,o+13+7,none⟩=some (.int .u8 d7):=fun W hW=>by
   have hrW:=hr.below hW (Nat.le_refl _)
   have h8:=hrW.sub 13 8
   rw [← List.map_drop,← List.map_take,hds] at h8
   have f:∀ (j:Nat) (u:Value),([d0,d1,d2,d3,d4,d5,d6,d7].map (Value.int .u8))[j]?=some u→W.cell? ⟨g,o+13+j,none⟩=some u:=fun j u hj=>by
    obtain ⟨g',o',e,_,hc⟩:=h8 j u hj
    injection e with e; injection e with e1 e2; subst e1; subst e2
    exact hc
   refine ⟨?_,f 0 _ rfl,f 1 _ rfl,f 2 _ rfl,f 3 _ rfl,f 4 _ rfl,f 5 _ rfl,f 6 _ rfl,f 7 _ rfl⟩
   obtain ⟨g',o',e,_,hc⟩:=hrW 0 (.int .u8 (xs.getD 0 0)) (by rw [List.getElem?_map,List.getElem?_eq_getElem (by omega),List.getD_eq_getElem?_getD,List.getElem?_eq_getElem (by omega)]; rfl)
   injection e with e; injection e with e1 e2; subst e1; subst e2
   exact hc
  have HG:Hid (∀ (k n cc:Nat) (W:World),Below w.heap.size w W→n≤8→k+n≤37→Calls Tryz.prog 100 #[.slice (some ⟨g,o+k,none⟩) n cc] W fun e w'=>e= .returned (.int .u64 (getN ((xs.drop k).take n)))∧w'=W):=
   fun k n cc W hW hn hk=>get_sub hu ((hr.below hW (Nat.le_refl _)).more hW.size) k n hn (by omega) cc
  have HS:Hid (∀ (cc:Nat) (W:World),Below w.heap.size w W→Calls Tryz.prog 101 #[.slice (some ⟨g,o,none⟩) 29 cc] W fun e w'=>e= .returned (.int .u64 (sumC (xs.take 29)))∧Below W.heap.size W w'):=
   fun cc W hW=>sum_sub ((hr.below hW (Nat.le_refl _)).more hW.size) 29 (by omega) (by omega) cc
  have HCL:=Lib.hid hcell
  rw [h37]
  rw [h37] at hc
  have HVD:Hid (∀ W,Calls Tryz.prog 102 #[.agg #[.int .i64 (xs.getD 0 0),.int .i64 (getN ((xs.drop 1).take 4)),.int .u64 (getN ((xs.drop 5).take 8)),.int .u8 d0,.int .u8 d1,.int .u8 d2,.int .u8 d3,.int .u8 d4,.int .u8 d5,.int .u8 d6,.int .u8 d7]] W fun e w'=>e= .returned (.bool (validE (entOf xs)))∧Below W.heap.size W w'):=by
   intro W
   rw [HEO.out]
   exact evalid_any ⟨_,_,_,[d0,d1,d2,d3,d4,d5,d6,d7]⟩ rfl W
  have HG29:=Lib.hid (fun cc W hW=>HG.out 29 8 cc W hW (by omega) (by omega))
  have HG1:=Lib.hid (fun cc W hW=>HG.out 1 4 cc W hW (by omega) (by omega))
  have HG5:=Lib.hid (fun cc W hW=>HG.out 5 8 cc W hW (by omega) (by omega))
  have HG21:=Lib.hid (fun cc W hW=>HG.out 21 8 cc W hW (by omega) (by omega))
  have HX:Hid (∀ z,decE xs=z→decX xs=(if z=0 then entOf xs else noEnt)∧decT xs=(if z=0 then getN ((xs.drop 21).take 8) else 0)):=by
   intro z hz; subst hz; exact ⟨rfl,rfl⟩
  clear hr hu hl hc0 h37 hds0 hds hcell HG
  generalize getN ((xs.drop 29).take 8)=a at *
  generalize sumC (xs.take 29)=b at *
  have HDE2:=Lib.hid (HDE.out a b rfl rfl)
  clear HDE
  generalize xs.getD 0 0=x0 at *
  generalize getN ((xs.drop 1).take 4)=b4 at *
  generalize getN ((xs.drop 5).take 8)=b8 at *
  generalize getN ((xs.drop 21).take 8)=tt at *
  generalize entOf xs=en at *
  obtain ⟨x00,x01⟩:=hx0
  have hbl0:Below w.heap.size w (w.alloc (.cells #[.int .i64 0,.int .i64 0,.int .u64 0,.int .u8 0,.int .u8 0,.int .u8 0,.int .u8 0,.int .u8 0,.int .u8 0,.int .u8 0,.int .u8 0] 89)):=((Below.refl _ _).alloc (Nat.le_refl _) _)
  have hO:(w.alloc (.cells #[.int .i64 0,.int .i64 0,.int .u64 0,.int .u8 0,.int .u8 0,.int .u8 0,.int .u8 0,.int .u8 0,.int .u8 0,.int .u8 0,.int .u8 0] 89)).heap[w.heap.size]?=some (.cells #[.int .i64 0,.int .i64 0,.int .u64 0,.int .u8 0,.int .u8 0,.int .u8 0,.int .u8 0,.int .u8 0,.int .u8 0,.int .u8 0,.int .u8 0] 89 (0,0)):=heap_alloc_new _ _
  have hz0:(w.alloc (.cells #[.int .i64 0,.int .i64 0,.int .u64 0,.int .u8 0,.int .u8 0,.int .u8 0,.int .u8 0,.int .u8 0,.int .u8 0,.int .u8 0,.int .u8 0] 89)).heap.size=w.heap.size+1:=by simp
  go_enter Tryz.func69,Tryz.ntmps69
  go_wp2_with fail
  generalize (w.alloc (.cells #[.int .i64 0,.int .i64 0,.int .u64 0,.int .u8 0,.int .u8 0,.int .u8 0,.int .u8 0,.int .u8 0,.int .u8 0,.int .u8 0,.int .u8 0] 89))=w0 at *
  have HZ0:=Lib.hid hz0
  have HO0:=Lib.hid hO
  clear hz0 hO
  by_cases hab:a=b
  ·subst hab
   have hne:Nonempty (Held (Below w0.heap.size w0)):=⟨⟨_,(Held.drew_below (Nat.le_refl _))⟩⟩
   refine wp_region_heldq (S:=(Below w0.heap.size w0)) (by kernel_rfl) (by kernel_rfl) (Held.drew_below (Nat.le_refl _)) ?_
   repeat (go_big_quiet_step ((first | (go_at_call 100; exact Calls.held_same (HG29.out _ _ (hbl0.trans ((Held.bel _).mono hbl0.size)))) | (go_at_call 101; exact Calls.held_below (Nat.le_refl _) (HS.out _ _ (hbl0.trans ((Held.bel _).mono hbl0.size)))))))
   refine wpQuiet_nil ?_
   intro _ hw'
   obtain ⟨sq,hw''⟩:=hw'
   subst hw''
   clear hne
   go_wp2_with fail
   generalize hsq:sq.w=w2 at *
   have hb2:Below w0.heap.size w0 w2:=hsq ▸ sq.h
   clear hsq sq
   have hO2:=belObj hb2 HO0.out (by rw [HZ0.out]; omega)
   have hbl2:=hbl0.trans (hb2.mono hbl0.size)
   obtain ⟨e0,e1,e2,e3,e4,e5,e6,e7,e8⟩:=HCL.out w2 hbl2
   obtain ⟨⟨p0,p1,p2,p3,p4,p5,p6,p7,p8,p9,p10⟩,⟨q0,q1,q2,q3,q4,q5,q6,q7,q8,q9,q10⟩⟩:=cells11 hO2
   have hS:=set11 (l:=[_,_,_,_,_,_,_,_,_,_,_]) (w:=w2.drew) hO2 rfl (.int .i64 x0) (.int .i64 b4) (.int .u64 b8) (.int .u8 d0) (.int .u8 d1) (.int .u8 d2) (.int .u8 d3) (.int .u8 d4) (.int .u8 d5) (.int .u8 d6) (.int .u8 d7)
   have HB3:=Lib.hid (hbl2.trans (((Kept.refl (fun k=>k=w.heap.size) w2).drew.trans hS.2 (fun _ _ h=>h)).below (fun i h=>by have h':i=w.heap.size:=h; omega) hbl2.size))
   have HO3:=Lib.hid hS.1
   have HBL2:=Lib.hid hbl2
   clear hS hO2 hb2 hbl0
   have hw4:IntKind.i64.wrap b4=b4:=by rw [IntKind.wrap_i64]; omega
   obtain ⟨C,hC⟩:∃ C:List Value→World→Prop,C=fun h W=>match h with
    | []=>W=w2.drew
    | [v]=>v= .int .u64 b4∧W=w2.drew
    | [v,u]=>v= .int .u64 b4∧u= .int .u64 b8∧W=w2.drew
    | [_,_,_]=>W=(((((((((((w2.drew.setCell ⟨w.heap.size,0,none⟩ (.int .i64 x0)).setCell ⟨w.heap.size,1,none⟩ (.int .i64 b4)).setCell ⟨w.heap.size,2,none⟩ (.int .u64 b8)).setCell ⟨w.heap.size,3,none⟩ (.int .u8 d0)).setCell ⟨w.heap.size,4,none⟩ (.int .u8 d1)).setCell ⟨w.heap.size,5,none⟩ (.int .u8 d2)).setCell ⟨w.heap.size,6,none⟩ (.int .u8 d3)).setCell ⟨w.heap.size,7,none⟩ (.int .u8 d4)).setCell ⟨w.heap.size,8,none⟩ (.int .u8 d5)).setCell ⟨w.heap.size,9,none⟩ (.int .u8 d6)).setCell ⟨w.heap.size,10,none⟩ (.int .u8 d7))
    | _=>False:=⟨_,rfl⟩
   have hall:∀ t:HeldC C,Below w.heap.size w t.w:=fun t=>by
    obtain ⟨s,W,h⟩:=t
    simp only
    subst hC
    match s,h with
    | [],h=>have h':W=w2.drew:=h; rw [h']; exact HBL2.out.drew
    | [v],h=>have h':W=w2.drew:=h.2; rw [h']; exact HBL2.out.drew
    | [v,u],h=>have h':W=w2.drew:=h.2.2; rw [h']; exact HBL2.out.drew
    | [_,_,_],h=>rw [show W=_ from h]; exact HB3.out
   have HC0:Hid (C [] w2.drew):=by subst hC; exact rfl
   have HK1:Hid (∀ W,C [] W→Calls Tryz.prog 100 #[.slice (some ⟨g,o+1,none⟩) 4 (c - 1)] W fun e w'=>∃ x,e= .returned x∧C ([]++[x]) w'):=by
    subst hC
    intro W hW
    have hW':W=w2.drew:=hW
    subst hW'
    exact (HG1.out _ _ HBL2.out.drew).mono fun e w' h=>⟨_,h.1,rfl,h.2⟩
   have HK2:Hid (∀ v W,C [v] W→Calls Tryz.prog 100 #[.slice (some ⟨g,o+5,none⟩) 8 (c - 5)] W fun e w'=>∃ x,e= .returned x∧C ([v]++[x]) w'):=by
    subst hC
    intro v W hW
    obtain ⟨hv,hW'⟩:=hW
    subst hW'
    exact (HG5.out _ _ HBL2.out.drew).mono fun e w' h=>⟨_,h.1,hv,rfl,h.2⟩
   have HV1:Hid (∀ v W,C [v] W→v= .int .u64 b4):=by subst hC; exact fun _ _ h=>h.1
   have HV2:Hid (∀ v u W,C [v,u] W→u= .int .u64 b8):=by subst hC; exact fun _ _ _ h=>h.2.1
   have HV3:Hid (∀ v u W,C [v,u] W→W=w2.drew):=by subst hC; exact fun _ _ _ h=>h.2.2
   have HV4:Hid (∀ v u x W,C [v,u,x] W→W=(((((((((((w2.drew.setCell ⟨w.heap.size,0,none⟩ (.int .i64 x0)).setCell ⟨w.heap.size,1,none⟩ (.int .i64 b4)).setCell ⟨w.heap.size,2,none⟩ (.int .u64 b8)).setCell ⟨w.heap.size,3,none⟩ (.int .u8 d0)).setCell ⟨w.heap.size,4,none⟩ (.int .u8 d1)).setCell ⟨w.heap.size,5,none⟩ (.int .u8 d2)).setCell ⟨w.heap.size,6,none⟩ (.int .u8 d3)).setCell ⟨w.heap.size,7,none⟩ (.int .u8 d4)).setCell ⟨w.heap.size,8,none⟩ (.int .u8 d5)).setCell ⟨w.heap.size,9,none⟩ (.int .u8 d6)).setCell ⟨w.heap.size,10,none⟩ (.int .u8 d7))):=by subst hC; exact fun _ _ _ _ h=>h
   have HV5:Hid (∀ v u W,C [v,u] W→C ([v,u]++[undef]) (((((((((((w2.drew.setCell ⟨w.heap.size,0,none⟩ (.int .i64 x0)).setCell ⟨w.heap.size,1,none⟩ (.int .i64 b4)).setCell ⟨w.heap.size,2,none⟩ (.int .u64 b8)).setCell ⟨w.heap.size,3,none⟩ (.int .u8 d0)).setCell ⟨w.heap.size,4,none⟩ (.int .u8 d1)).setCell ⟨w.heap.size,5,none⟩ (.int .u8 d2)).setCell ⟨w.heap.size,6,none⟩ (.int .u8 d3)).setCell ⟨w.heap.size,7,none⟩ (.int .u8 d4)).setCell ⟨w.heap.size,8,none⟩ (.int .u8 d5)).setCell ⟨w.heap.size,9,none⟩ (.int .u8 d6)).setCell ⟨w.heap.size,10,none⟩ (.int .u8 d7))):=by subst hC; exact fun _ _ _ _=>rfl
   have f0:∀ t:HeldC C,t.w.cell? ⟨g,o,none⟩=some (.int .u8 x0):=fun t=>(HCL.out _ (hall t)).1
   have f1:∀ t:HeldC C,t.w.cell? ⟨g,o+13,none⟩=some (.int .u8 d0):=fun t=>(HCL.out _ (hall t)).2.1
   have f2:∀ t:HeldC C,t.w.cell? ⟨g,o+13+1,none⟩=some (.int .u8 d1):=fun t=>(HCL.out _ (hall t)).2.2.1
   have f3:∀ t:HeldC C,t.w.cell? ⟨g,o+13+2,none⟩=some (.int .u8 d2):=fun t=>(HCL.out _ (hall t)).2.2.2.1
   have f4:∀ t:HeldC C,t.w.cell? ⟨g,o+13+3,none⟩=some (.int .u8 d3):=fun t=>(HCL.out _ (hall t)).2.2.2.2.1
   have f5:∀ t:HeldC C,t.w.cell? ⟨g,o+13+4,none⟩=some (.int .u8 d4):=fun t=>(HCL.out _ (hall t)).2.2.2.2.2.1
   have f6:∀ t:HeldC C,t.w.cell? ⟨g,o+13+5,none⟩=some (.int .u8 d5):=fun t=>(HCL.out _ (hall t)).2.2.2.2.2.2.1
   have f7:∀ t:HeldC C,t.w.cell? ⟨g,o+13+6,none⟩=some (.int .u8 d6):=fun t=>(HCL.out _ (hall t)).2.2.2.2.2.2.2.1
   have f8:∀ t:HeldC C,t.w.cell? ⟨g,o+13+7,none⟩=some (.int .u8 d7):=fun t=>(HCL.out _ (hall t)).2.2.2.2.2.2.2.2
   have hne:Nonempty (HeldC C):=⟨⟨[],_,HC0.out⟩⟩
   clear hC hall e0 e1 e2 e3 e4 e5 e6 e7 e8
   have HST:Hid (∀ t:HeldC C,True):=fun _=>trivial
   have hat:=fun W:World=>run_arrayAt (P:=Tryz.prog) (w:=W) 27 5 8 (some ⟨g,o+13,none⟩) 8 (c - 13) Tryz.underlying27 (by decide)
   refine wp_region_chain C [6,10,16] [16,10,6] (by kernel_rfl) (by kernel_rfl) (by kernel_rfl) (by kernel_rfl) HC0.out ?_
   repeat (refine wpCh_n (by rfl) (by rfl) ?_; go_big_quiet_step (fail); refine wpQuiet_nil ?_)
   refine wpCh_l (f:=100) (args:=#[.slice (some ⟨g,o+1,none⟩) 4 (c - 1)]) (by rfl) (by rfl) (fun W=>by simp [go_sem]) (fun W hW=>HK1.out W hW) (fun v W hW=>?_)
   obtain rfl:=HV1.out v W hW
   go_big_quiet_step (fail)
   refine wpQuiet_nil ?_
   repeat (refine wpCh_n (by rfl) (by rfl) ?_; go_big_quiet_step (fail); refine wpQuiet_nil ?_)
   refine wpCh_l (f:=100) (args:=#[.slice (some ⟨g,o+5,none⟩) 8 (c - 5)]) (by rfl) (by rfl) (fun W=>by simp [go_sem]) (fun W hW=>HK2.out _ W hW) (fun v W hW=>?_)
   obtain rfl:=HV2.out _ v W hW
   go_big_quiet_step (fail)
   refine wpQuiet_nil ?_
   repeat (refine wpCh_n (by rfl) (by rfl) ?_; go_big_quiet_step (fail); refine wpQuiet_nil ?_)
   refine wpCh_s (by rfl) (by rfl) rfl (fun W hW=>⟨(((((((((((w2.drew.setCell ⟨w.heap.size,0,none⟩ (.int .i64 x0)).setCell ⟨w.heap.size,1,none⟩ (.int .i64 b4)).setCell ⟨w.heap.size,2,none⟩ (.int .u64 b8)).setCell ⟨w.heap.size,3,none⟩ (.int .u8 d0)).setCell ⟨w.heap.size,4,none⟩ (.int .u8 d1)).setCell ⟨w.heap.size,5,none⟩ (.int .u8 d2)).setCell ⟨w.heap.size,6,none⟩ (.int .u8 d3)).setCell ⟨w.heap.size,7,none⟩ (.int .u8 d4)).setCell ⟨w.heap.size,8,none⟩ (.int .u8 d5)).setCell ⟨w.heap.size,9,none⟩ (.int .u8 d6)).setCell ⟨w.heap.size,10,none⟩ (.int .u8 d7)),?_,HV5.out _ _ W hW⟩) (fun v W hW=>?_)
   ·obtain rfl:=HV3.out _ _ W hW
    simp [go_sem, *]
   refine wpCh_nil ?_
   intro wc hcw
   obtain rfl:=HV4.out _ _ _ wc hcw
   generalize (((((((((((w2.drew.setCell ⟨w.heap.size,0,none⟩ (.int .i64 x0)).setCell ⟨w.heap.size,1,none⟩ (.int .i64 b4)).setCell ⟨w.heap.size,2,none⟩ (.int .u64 b8)).setCell ⟨w.heap.size,3,none⟩ (.int .u8 d0)).setCell ⟨w.heap.size,4,none⟩ (.int .u8 d1)).setCell ⟨w.heap.size,5,none⟩ (.int .u8 d2)).setCell ⟨w.heap.size,6,none⟩ (.int .u8 d3)).setCell ⟨w.heap.size,7,none⟩ (.int .u8 d4)).setCell ⟨w.heap.size,8,none⟩ (.int .u8 d5)).setCell ⟨w.heap.size,9,none⟩ (.int .u8 d6)).setCell ⟨w.heap.size,10,none⟩ (.int .u8 d7))=w3 at *
   clear hcw HV1 HV2 HV3 HV4 HV5 HK1 HK2 HC0 hne f0 f1 f2 f3 f4 f5 f6 f7 f8 HST p0 p1 p2 p3 p4 p5 p6 p7 p8 p9 p10 q0 q1 q2 q3 q4 q5 q6 q7 q8 q9 q10
   have hO3:=HO3.out
   obtain ⟨⟨p0,p1,p2,p3,p4,p5,p6,p7,p8,p9,p10⟩,_⟩:=cells11 hO3
   go_wp2_with fail
   refine (HVD.out w3).mono ?_
   rintro e w4 ⟨rfl,hb4⟩
   have hO4:=belObj hb4 hO3 (lt_of_block hO3)
   have HB4:=Lib.hid (HB3.out.trans (hb4.mono HB3.out.size))
   have HLT:Hid (w.heap.size < w4.heap.size):=lt_of_block hO4
   clear hb4 hO3 p0 p1 p2 p3 p4 p5 p6 p7 p8 p9 p10
   obtain ⟨⟨p0,p1,p2,p3,p4,p5,p6,p7,p8,p9,p10⟩,⟨q0,q1,q2,q3,q4,q5,q6,q7,q8,q9,q10⟩⟩:=cells11 hO4
   cases hv:validE en
   ·have HD:Hid (decE xs=5∧decX xs=noEnt∧decT xs=0):=by
     have h:decE xs=5:=by rw [HDE2.out]; simp [hv]
     have h2:=HX.out 5 h
     exact ⟨h,by rw [h2.1]; rfl,by rw [h2.2]; rfl⟩
    clear hv
    have hS:=set11 (l:=[.int .i64 x0,.int .i64 b4,.int .u64 b8,.int .u8 d0,.int .u8 d1,.int .u8 d2,.int .u8 d3,.int .u8 d4,.int .u8 d5,.int .u8 d6,.int .u8 d7]) hO4 rfl (.int .i64 0) (.int .i64 0) (.int .u64 0) (.int .u8 0) (.int .u8 0) (.int .u8 0) (.int .u8 0) (.int .u8 0) (.int .u8 0) (.int .u8 0) (.int .u8 0)
    have HB5:=Lib.hid (HB4.out.trans (hS.2.below (fun i h=>by have h':i=w.heap.size:=h; omega) HB4.out.size))
    have HO5:=Lib.hid hS.1
    clear hS hO4
    go_wp2
    obtain ⟨⟨r0,r1,r2,r3,r4,r5,r6,r7,r8,r9,r10⟩,_⟩:=cells11 HO5.out
    generalize (((((((((((w4.setCell ⟨w.heap.size,0,none⟩ (.int .i64 0)).setCell ⟨w.heap.size,1,none⟩ (.int .i64 0)).setCell ⟨w.heap.size,2,none⟩ (.int .u64 0)).setCell ⟨w.heap.size,3,none⟩ (.int .u8 0)).setCell ⟨w.heap.size,4,none⟩ (.int .u8 0)).setCell ⟨w.heap.size,5,none⟩ (.int .u8 0)).setCell ⟨w.heap.size,6,none⟩ (.int .u8 0)).setCell ⟨w.heap.size,7,none⟩ (.int .u8 0)).setCell ⟨w.heap.size,8,none⟩ (.int .u8 0)).setCell ⟨w.heap.size,9,none⟩ (.int .u8 0)).setCell ⟨w.heap.size,10,none⟩ (.int .u8 0))=w5 at *
    refine bodyPost_ret (by simp [results,Tryz.results69,go_sem, *]; rfl) rfl ?_
    rw [HD.out.1,HD.out.2.1,HD.out.2.2]
    exact ⟨rfl,HB5.out⟩
   ·have HD:Hid (decE xs=0∧decX xs=en∧decT xs=tt):=by
     have h:decE xs=0:=by rw [HDE2.out]; simp [hv]
     have h2:=HX.out 0 h
     exact ⟨h,by rw [h2.1]; rfl,by rw [h2.2]; rfl⟩
    clear hv
    have hS:=set11 (l:=[.int .i64 x0,.int .i64 b4,.int .u64 b8,.int .u8 d0,.int .u8 d1,.int .u8 d2,.int .u8 d3,.int .u8 d4,.int .u8 d5,.int .u8 d6,.int .u8 d7]) (w:=w4.drew) hO4 rfl (.int .i64 x0) (.int .i64 b4) (.int .u64 b8) (.int .u8 d0) (.int .u8 d1) (.int .u8 d2) (.int .u8 d3) (.int .u8 d4) (.int .u8 d5) (.int .u8 d6) (.int .u8 d7)
    have HB5:=Lib.hid (HB4.out.trans (((Kept.refl (fun k=>k=w.heap.size) w4).drew.trans hS.2 (fun _ _ h=>h)).below (fun i h=>by have h':i=w.heap.size:=h; omega) HB4.out.size))
    have HO5:=Lib.hid hS.1
    have HO4:=Lib.hid hO4
    clear hS hO4
    obtain ⟨C,hC⟩:∃ C:List Value→World→Prop,C=fun h W=>match h with
     | []=>W=w4.drew
     | [v]=>v= .int .u64 tt∧W=w4.drew
     | [_,_]=>W=(((((((((((w4.drew.setCell ⟨w.heap.size,0,none⟩ (.int .i64 x0)).setCell ⟨w.heap.size,1,none⟩ (.int .i64 b4)).setCell ⟨w.heap.size,2,none⟩ (.int .u64 b8)).setCell ⟨w.heap.size,3,none⟩ (.int .u8 d0)).setCell ⟨w.heap.size,4,none⟩ (.int .u8 d1)).setCell ⟨w.heap.size,5,none⟩ (.int .u8 d2)).setCell ⟨w.heap.size,6,none⟩ (.int .u8 d3)).setCell ⟨w.heap.size,7,none⟩ (.int .u8 d4)).setCell ⟨w.heap.size,8,none⟩ (.int .u8 d5)).setCell ⟨w.heap.size,9,none⟩ (.int .u8 d6)).setCell ⟨w.heap.size,10,none⟩ (.int .u8 d7))
     | _=>False:=⟨_,rfl⟩
    have hall:∀ t:HeldC C,t.w.heap[w.heap.size]?=some (.cells #[.int .i64 x0,.int .i64 b4,.int .u64 b8,.int .u8 d0,.int .u8 d1,.int .u8 d2,.int .u8 d3,.int .u8 d4,.int .u8 d5,.int .u8 d6,.int .u8 d7] 89 (0,0)):=fun t=>by
     obtain ⟨s,W,h⟩:=t
     simp only
     subst hC
     match s,h with
     | [],h=>have h':W=w4.drew:=h; rw [h']; exact HO4.out
     | [v],h=>have h':W=w4.drew:=h.2; rw [h']; exact HO4.out
     | [_,_],h=>rw [show W=_ from h]; exact HO5.out
    have HC0:Hid (C [] w4.drew):=by subst hC; exact rfl
    have HK1:Hid (∀ W,C [] W→Calls Tryz.prog 100 #[.slice (some ⟨g,o+21,none⟩) 8 (c - 21)] W fun e w'=>∃ x,e= .returned x∧C ([]++[x]) w'):=by
     subst hC
     intro W hW
     have hW':W=w4.drew:=hW
     subst hW'
     exact (HG21.out _ _ HB4.out.drew).mono fun e w' h=>⟨_,h.1,rfl,h.2⟩
    have HV1:Hid (∀ v W,C [v] W→v= .int .u64 tt):=by subst hC; exact fun _ _ h=>h.1
    have HV3:Hid (∀ v W,C [v] W→W=w4.drew):=by subst hC; exact fun _ _ h=>h.2
    have HV4:Hid (∀ v x W,C [v,x] W→W=(((((((((((w4.drew.setCell ⟨w.heap.size,0,none⟩ (.int .i64 x0)).setCell ⟨w.heap.size,1,none⟩ (.int .i64 b4)).setCell ⟨w.heap.size,2,none⟩ (.int .u64 b8)).setCell ⟨w.heap.size,3,none⟩ (.int .u8 d0)).setCell ⟨w.heap.size,4,none⟩ (.int .u8 d1)).setCell ⟨w.heap.size,5,none⟩ (.int .u8 d2)).setCell ⟨w.heap.size,6,none⟩ (.int .u8 d3)).setCell ⟨w.heap.size,7,none⟩ (.int .u8 d4)).setCell ⟨w.heap.size,8,none⟩ (.int .u8 d5)).setCell ⟨w.heap.size,9,none⟩ (.int .u8 d6)).setCell ⟨w.heap.size,10,none⟩ (.int .u8 d7))):=by subst hC; exact fun _ _ _ h=>h
    have HV5:Hid (∀ v W,C [v] W→C ([v]++[undef]) (((((((((((w4.drew.setCell ⟨w.heap.size,0,none⟩ (.int .i64 x0)).setCell ⟨w.heap.size,1,none⟩ (.int .i64 b4)).setCell ⟨w.heap.size,2,none⟩ (.int .u64 b8)).setCell ⟨w.heap.size,3,none⟩ (.int .u8 d0)).setCell ⟨w.heap.size,4,none⟩ (.int .u8 d1)).setCell ⟨w.heap.size,5,none⟩ (.int .u8 d2)).setCell ⟨w.heap.size,6,none⟩ (.int .u8 d3)).setCell ⟨w.heap.size,7,none⟩ (.int .u8 d4)).setCell ⟨w.heap.size,8,none⟩ (.int .u8 d5)).setCell ⟨w.heap.size,9,none⟩ (.int .u8 d6)).setCell ⟨w.heap.size,10,none⟩ (.int .u8 d7))):=by subst hC; exact fun _ _ _=>rfl
    have f0:=fun t=>(cells11 (hall t)).1.1
    have f1:=fun t=>(cells11 (hall t)).1.2.1
    have f2:=fun t=>(cells11 (hall t)).1.2.2.1
    have f3:=fun t=>(cells11 (hall t)).1.2.2.2.1
    have f4:=fun t=>(cells11 (hall t)).1.2.2.2.2.1
    have f5:=fun t=>(cells11 (hall t)).1.2.2.2.2.2.1
    have f6:=fun t=>(cells11 (hall t)).1.2.2.2.2.2.2.1
    have f7:=fun t=>(cells11 (hall t)).1.2.2.2.2.2.2.2.1
    have f8:=fun t=>(cells11 (hall t)).1.2.2.2.2.2.2.2.2.1
    have f9:=fun t=>(cells11 (hall t)).1.2.2.2.2.2.2.2.2.2.1
    have f10:=fun t=>(cells11 (hall t)).1.2.2.2.2.2.2.2.2.2.2
    have hne:Nonempty (HeldC C):=⟨⟨[],_,HC0.out⟩⟩
    clear hC hall
    go_wp2_with fail
    refine wp_region_chain C [3,4] [4,3] (by kernel_rfl) (by kernel_rfl) (by kernel_rfl) (by kernel_rfl) HC0.out ?_
    repeat (refine wpCh_n (by rfl) (by rfl) ?_; go_big_quiet_step (fail); refine wpQuiet_nil ?_)
    refine wpCh_l (f:=100) (args:=#[.slice (some ⟨g,o+21,none⟩) 8 (c - 21)]) (by rfl) (by rfl) (fun W=>by simp [go_sem]) (fun W hW=>HK1.out W hW) (fun v W hW=>?_)
    obtain rfl:=HV1.out v W hW
    go_big_quiet_step (fail)
    refine wpQuiet_nil ?_
    repeat (refine wpCh_n (by rfl) (by rfl) ?_; go_big_quiet_step (fail); refine wpQuiet_nil ?_)
    refine wpCh_s (by rfl) (by rfl) rfl (fun W hW=>⟨(((((((((((w4.drew.setCell ⟨w.heap.size,0,none⟩ (.int .i64 x0)).setCell ⟨w.heap.size,1,none⟩ (.int .i64 b4)).setCell ⟨w.heap.size,2,none⟩ (.int .u64 b8)).setCell ⟨w.heap.size,3,none⟩ (.int .u8 d0)).setCell ⟨w.heap.size,4,none⟩ (.int .u8 d1)).setCell ⟨w.heap.size,5,none⟩ (.int .u8 d2)).setCell ⟨w.heap.size,6,none⟩ (.int .u8 d3)).setCell ⟨w.heap.size,7,none⟩ (.int .u8 d4)).setCell ⟨w.heap.size,8,none⟩ (.int .u8 d5)).setCell ⟨w.heap.size,9,none⟩ (.int .u8 d6)).setCell ⟨w.heap.size,10,none⟩ (.int .u8 d7)),?_,HV5.out _ W hW⟩) (fun v W hW=>?_)
    ·obtain rfl:=HV3.out _ W hW
     simp [go_sem, *]
    repeat (refine wpCh_n (by rfl) (by rfl) ?_; go_big_quiet_step (fail); refine wpQuiet_nil ?_)
    refine wpCh_nil ?_
    intro wc hcw
    obtain rfl:=HV4.out _ _ wc hcw
    generalize (((((((((((w4.drew.setCell ⟨w.heap.size,0,none⟩ (.int .i64 x0)).setCell ⟨w.heap.size,1,none⟩ (.int .i64 b4)).setCell ⟨w.heap.size,2,none⟩ (.int .u64 b8)).setCell ⟨w.heap.size,3,none⟩ (.int .u8 d0)).setCell ⟨w.heap.size,4,none⟩ (.int .u8 d1)).setCell ⟨w.heap.size,5,none⟩ (.int .u8 d2)).setCell ⟨w.heap.size,6,none⟩ (.int .u8 d3)).setCell ⟨w.heap.size,7,none⟩ (.int .u8 d4)).setCell ⟨w.heap.size,8,none⟩ (.int .u8 d5)).setCell ⟨w.heap.size,9,none⟩ (.int .u8 d6)).setCell ⟨w.heap.size,10,none⟩ (.int .u8 d7))=w5 at *
    obtain ⟨⟨r0,r1,r2,r3,r4,r5,r6,r7,r8,r9,r10⟩,_⟩:=cells11 HO5.out
    clear f0 f1 f2 f3 f4 f5 f6 f7 f8 f9 f10 hcw HV1 HV3 HV4 HV5 HK1 HC0 hne p0 p1 p2 p3 p4 p5 p6 p7 p8 p9 p10 q0 q1 q2 q3 q4 q5 q6 q7 q8 q9 q10
    go_wp2
    refine bodyPost_ret (by simp [results,Tryz.results69,go_sem, *]; rfl) rfl ?_
    rw [HD.out.1,HD.out.2.1,HD.out.2.2,HEO.out]
    exact ⟨rfl,HB5.out⟩
  ·have hne:(a !=b)=true:=by simpa using hab
   have HD:Hid (decE xs=6∧decX xs=noEnt∧decT xs=0):=by
    have h:decE xs=6:=by rw [HDE2.out,if_neg hab]
    have h2:=HX.out 6 h
    exact ⟨h,by rw [h2.1]; rfl,by rw [h2.2]; rfl⟩
   clear hab
   have hne:Nonempty (Held (Below w0.heap.size w0)):=⟨⟨_,(Held.drew_below (Nat.le_refl _))⟩⟩
   refine wp_region_heldq (S:=(Below w0.heap.size w0)) (by kernel_rfl) (by kernel_rfl) (Held.drew_below (Nat.le_refl _)) ?_
   repeat (go_big_quiet_step ((first | (go_at_call 100; exact Calls.held_same (HG29.out _ _ (hbl0.trans ((Held.bel _).mono hbl0.size)))) | (go_at_call 101; exact Calls.held_below (Nat.le_refl _) (HS.out _ _ (hbl0.trans ((Held.bel _).mono hbl0.size)))))))
   refine wpQuiet_nil ?_
   intro _ hw'
   obtain ⟨sq,hw''⟩:=hw'
   subst hw''
   clear hne
   generalize hsq:sq.w=w2 at *
   have hb2:Below w0.heap.size w0 w2:=hsq ▸ sq.h
   clear hsq sq
   have hO2:=belObj hb2 HO0.out (by rw [HZ0.out]; omega)
   have hbl2:=hbl0.trans (hb2.mono hbl0.size)
   obtain ⟨⟨p0,p1,p2,p3,p4,p5,p6,p7,p8,p9,p10⟩,⟨q0,q1,q2,q3,q4,q5,q6,q7,q8,q9,q10⟩⟩:=cells11 hO2
   have hS:=set11 (l:=[_,_,_,_,_,_,_,_,_,_,_]) hO2 rfl (.int .i64 0) (.int .i64 0) (.int .u64 0) (.int .u8 0) (.int .u8 0) (.int .u8 0) (.int .u8 0) (.int .u8 0) (.int .u8 0) (.int .u8 0) (.int .u8 0)
   have HB3:=Lib.hid (hbl2.trans (hS.2.below (fun i h=>by have h':i=w.heap.size:=h; omega) hbl2.size))
   have HO3:=Lib.hid hS.1
   clear hS hO2 hb2
   go_wp2
   obtain ⟨⟨r0,r1,r2,r3,r4,r5,r6,r7,r8,r9,r10⟩,_⟩:=cells11 HO3.out
   generalize (((((((((((w2.setCell ⟨w.heap.size,0,none⟩ (.int .i64 0)).setCell ⟨w.heap.size,1,none⟩ (.int .i64 0)).setCell ⟨w.heap.size,2,none⟩ (.int .u64 0)).setCell ⟨w.heap.size,3,none⟩ (.int .u8 0)).setCell ⟨w.heap.size,4,none⟩ (.int .u8 0)).setCell ⟨w.heap.size,5,none⟩ (.int .u8 0)).setCell ⟨w.heap.size,6,none⟩ (.int .u8 0)).setCell ⟨w.heap.size,7,none⟩ (.int .u8 0)).setCell ⟨w.heap.size,8,none⟩ (.int .u8 0)).setCell ⟨w.heap.size,9,none⟩ (.int .u8 0)).setCell ⟨w.heap.size,10,none⟩ (.int .u8 0))=w3 at *
   refine bodyPost_ret (by simp [results,Tryz.results69,go_sem, *]; rfl) rfl ?_
   rw [HD.out.1,HD.out.2.1,HD.out.2.2]
   exact ⟨rfl,HB3.out⟩
 ·have HD:Hid (decE xs=5∧decX xs=noEnt∧decT xs=0):=by
   have h:decE xs=5:=by unfold decE; rw [if_neg h37]
   refine ⟨h,?_,?_⟩
   ·unfold decX; rw [if_neg (by omega)]
   ·unfold decT; rw [if_neg (by omega)]
  have hne:((xs.length:Int) !=37)=true:=by simp; omega
  generalize xs.length=n at *
  clear h37
  go_enter Tryz.func69,Tryz.ntmps69
  go_wp2
  refine bodyPost_ret (by simp [results,Tryz.results69,go_sem, *]; rfl) rfl ?_
  rw [HD.out.1,HD.out.2.1,HD.out.2.2]
  exact ⟨rfl,by first | exact ((Below.refl _ _).alloc (Nat.le_refl _) _) | (refine Below.setCells ?_)⟩
end Go.Proofs.YtggkengmlkhdiaaGreat
