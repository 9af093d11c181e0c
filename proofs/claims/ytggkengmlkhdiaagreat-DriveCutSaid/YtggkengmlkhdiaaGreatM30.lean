/-
  WHAT IS SHOWN: what the inner function clean of drive returns and leaves. Conditions: the drive lies in memory; its account of the bands holds; few operations are pending.
-/
import Derived.Test.YtggkengmlkhdiaaGreatM29
namespace Go.Proofs.YtggkengmlkhdiaaGreat
set_option linter.unusedVariables false
open Go.RowKit
theorem appN_u8 {g:Geo} {F:List Flt} {key:Int} {S:ST} {x:Ent} {except:Int} (h:S.d.U8) (hx:U8s x.dt):(appN g F key S x except).1.d.U8:=by
 have h1:(wrX g F key S x (openN g S.v.bs except).1).1.U8:=tryD_u8 (fun d hd=>wOne_u8 hd (encB_u8 hx)) h
 unfold appN
 generalize wrX g F key S x (openN g S.v.bs except).1=W at *
 by_cases h0:(openN g S.v.bs except).2=0
 ·rw [if_pos h0]
  by_cases hv:validE x=true
  ·rw [if_pos hv]
   by_cases hw:W.2.er=0
   ·rw [if_pos hw]; exact h1
   ·rw [if_neg hw]; exact h1
  ·rw [if_neg hv]; exact h
 ·rw [if_neg h0]; exact h
theorem eOne_u8 {g:Geo} {F:List Flt} {key a:Int} {d:DC} (h:d.U8):(eOne g F key a d).1.U8:=by
 obtain ⟨h1,h2⟩:=h
 refine ⟨h1,?_⟩
 intro o ho
 have e:(eOne g F key a d).1.O=dErO g F d.s d.P d.L d.O key a:=rfl
 rw [e] at ho
 unfold dErO erO at ho
 split at ho
 ·split at ho
  ·rcases List.mem_append.1 ho with ho | ho
   ·exact h2 o ho
   ·simp at ho; subst ho; exact U8s.nil
  ·exact h2 o ho
 ·exact h2 o ho
theorem mvOne_u8 {g:Geo} {F:List Flt} {key k:Int} {b:Nat} {r:ST × Int × Int} (h:r.1.d.U8):(mvOne g F key k b r).1.d.U8:=by
 have hr:(rdX g F key r.1 b).1.U8:=(rdX_u8 h).2
 have hx:ftE g F key r.1 b=0→U8s (ftX g F key r.1 b).dt:=fun h0=>(ftX_ok h0 h).u8
 rcases mvOne_cases g F key k b r with ⟨_,e⟩ | ⟨h0,_,e⟩ | ⟨h0,_,e⟩ | ⟨_,_,e⟩
 ·rw [e]; exact hr
 ·rw [e]; exact appN_u8 (S:=⟨r.1.v,(rdX g F key r.1 b).1⟩) hr (hx h0)
 ·rw [e]; exact appN_u8 (S:=⟨r.1.v,(rdX g F key r.1 b).1⟩) hr (hx h0)
 ·rw [e]; exact hr
theorem mvK_u8 {g:Geo} {F:List Flt} {key k:Int} {l:List Nat} {S:ST} (h:S.d.U8):∀ j,(mvK g F key k l S j).1.d.U8
 | 0=>h
 | j+1=>by
   have ih:=mvK_u8 (g:=g) (F:=F) (key:=key) (k:=k) (l:=l) h j
   unfold mvK
   split
   ·exact mvOne_u8 ih
   ·exact ih
theorem flushS_u8 {g:Geo} {F:List Flt} {key:Int} {S:ST} (h:S.d.U8):(flushS g F key S).1.d.U8:=tryD_u8 (fun _ hd=>fOne_u8 hd) h
theorem eraseS_u8 {g:Geo} {F:List Flt} {key k:Int} {S:ST} (h:S.d.U8):(eraseS g F key k S).1.d.U8:=tryD_u8 (fun _ hd=>eOne_u8 hd) h
def blk0 (g:Geo) (v:DV) (k:Int) (j:Nat):List Nat:=(List.range j).filter (inBand g v k)
theorem blk0_yes {g:Geo} {v:DV} {k:Int} {j:Nat} (h:inBand g v k j=true):blk0 g v k (j+1)=blk0 g v k j++[j]:=by
 unfold blk0; rw [List.range_succ,List.filter_append]; simp [h]
theorem blk0_no {g:Geo} {v:DV} {k:Int} {j:Nat} (h:inBand g v k j=false):blk0 g v k (j+1)=blk0 g v k j:=by
 unfold blk0; rw [List.range_succ,List.filter_append]; simp [h]
theorem blk0_len (g:Geo) (v:DV) (k:Int) (j:Nat):(blk0 g v k j).length≤j:=by
 unfold blk0
 have:=List.length_filter_le (inBand g v k) (List.range j)
 rw [List.length_range] at this
 exact this
theorem intsN_push (l:List Nat) (j:Nat):intsN (l++[j])=intsN l++[.int .i64 (j:Int)]:=by simp [intsN]
theorem clean_at {g:Geo} {F:List Flt} {key k:Int} {l:List Nat} {S:ST} {x:ST × Int × Int} (h:mvK g F key k l S l.length=x):cleanS g F key k l S=if x.2.2=0 then wipeS g F key k x.1 x.2.1 else x:=by
 unfold cleanS; rw [h]
theorem clean_stop {g:Geo} {F:List Flt} {key k:Int} {l:List Nat} {S:ST} {j:Nat} {x:ST × Int × Int} (hj:j≤l.length) (h:mvK g F key k l S j=x) (hx:x.2.2≠0):cleanS g F key k l S=x:=by
 obtain ⟨i,hi⟩:∃ i,l.length=j+i:=⟨l.length - j,by omega⟩
 have:=mvK_stay (g:=g) (F:=F) (key:=key) (k:=k) (l:=l) (S:=S) (j:=j) (by rw [h]; exact hx) i
 rw [← hi,h] at this
 rw [clean_at this,if_neg hx]
theorem wipe_flush {g:Geo} {F:List Flt} {key k:Int} {S A:ST} {m er:Int} (h:flushS g F key S=(A,er)) (hne:er≠0):wipeS g F key k S m=(A,0,er):=by
 unfold wipeS; rw [h]; simp only; rw [if_neg hne]
theorem wipe_erase {g:Geo} {F:List Flt} {key k:Int} {S A C:ST} {m er:Int} (h:flushS g F key S=(A,0)) (h2:eraseS g F key k A=(C,er)) (hne:er≠0):wipeS g F key k S m=(C,0,er):=by
 unfold wipeS; rw [h]; simp only [if_true]; rw [h2]; simp only; rw [if_neg hne]
theorem wipe_done {g:Geo} {F:List Flt} {key k:Int} {S A C:ST} {m:Int} (h:flushS g F key S=(A,0)) (h2:eraseS g F key k A=(C,0)):wipeS g F key k S m=(⟨{ C.v with bs:=V.resL C.v.bs k },C.d⟩,m,0):=by
 unfold wipeS; rw [h]; simp only [if_true]; rw [h2]; simp only [if_true]
section
variable {w w':World} {B:Bd} {p q pw:Nat} {g:Geo} {F:List Flt} {key:Int} {S:ST} {ea ec:Nat} {BA:Option Addr} {bc:Nat}
def CleanPost (w:World) (B:Bd) (p q pw:Nat) (g:Geo) (F:List Flt) (key:Int) (S:ST) (ea ec:Nat) (k:Int) (e:Ending) (w':World):Prop:=
 ∃ r:ST × Int × Int,CleanR g F key k S r∧e= .returned (.tuple #[.int .i64 r.2.1,.int .i64 r.2.2])∧DrvTo w B p q pw g F key r.1 ea ec w'
theorem DrvTo.trans {w1:World} {S1 S2:ST} (h:DrvTo w B p q pw g F key S1 ea ec w1) (h2:DrvTo w1 B p q pw g F key S2 ea ec w'):DrvTo w B p q pw g F key S2 ea ec w':=by
 obtain ⟨_,_,_,k1⟩:=h
 obtain ⟨A,c,d2,k2⟩:=h2
 exact ⟨A,c,d2,k1.trans k2⟩
set_option maxRecDepth 100000
set_option maxHeartbeats 16000000
theorem clean20_any (k:Nat) (hk:k < S.v.bs.length) (hv:VOk g S.v) (hu8:S.d.U8) (hF:∀ f∈F,I64 f.to_) (hn:F.length≤9223372036854775807) (hon:S.d.O.length+1100≤99000) (h:Drv w B p q pw g F key S ea ec BA bc):
  Calls Tryz.prog 42 #[.pointer (some ⟨p,0,none⟩),.int .i64 (k:Int)] w (CleanPost w B p q pw g F key S ea ec k):=by
 have HH:=Lib.hid h
 have HV:=Lib.hid hv
 have hl64:=hv.len64
 have hz:=hv.bz1
 have HL2:Hid (S.v.es.length≤65536):=hv.e1
 obtain ⟨i0,hi,hz0,hz1,hz2⟩:=info_parts info_int
 have hb0:Below w.heap.size w ((w.alloc (.cells #[.pointer (some ⟨p,0,none⟩)] 22)).alloc (.cells #[.int .i64 (k:Int)] 3)):=((Below.refl _ _).alloc (Nat.le_refl _) _).alloc (by simp) _
 have HX0:Hid (((w.alloc (.cells #[.pointer (some ⟨p,0,none⟩)] 22)).alloc (.cells #[.int .i64 (k:Int)] 3)).heap[w.heap.size]?=some (.cells #[.pointer (some ⟨p,0,none⟩)] 22 (0,0))):=belObj ((Below.refl (w.heap.size+1) _).alloc (by simp) _) (heap_alloc_new _ _) (by omega)
 have HX1:Hid (((w.alloc (.cells #[.pointer (some ⟨p,0,none⟩)] 22)).alloc (.cells #[.int .i64 (k:Int)] 3)).heap[w.heap.size+1]?=some (.cells #[.int .i64 (k:Int)] 3 (0,0))):=by
  have:=heap_alloc_new (w.alloc (.cells #[.pointer (some ⟨p,0,none⟩)] 22)) (.cells #[.int .i64 (k:Int)] 3)
  unfold Hid
  simpa using this
 have H0:=Lib.hid (h.below0 hb0)
 have HB0:=Lib.hid hb0
 have HPOST:Hid (∀ e W r,CleanR g F key k S r→e= .returned (.tuple #[.int .i64 r.2.1,.int .i64 r.2.2])→DrvTo w B p q pw g F key r.1 ea ec W→CleanPost w B p q pw g F key S ea ec k e W):=fun e W r h1 h2 h3=>⟨r,h1,h2,h3⟩
 have HF:=Lib.hid hF
 have HON:=Lib.hid hon
 have HK:=Lib.hid hk
 have HU8:=Lib.hid hu8
 clear h hv hb0 hF hon hu8
 generalize CleanPost w B p q pw g F key S ea ec k=CP at *
 go_enter Tryz.func42,Tryz.ntmps42
 go_upto_region 2 with fail
 generalize ((w.alloc (.cells #[.pointer (some ⟨p,0,none⟩)] 22)).alloc (.cells #[.int .i64 (k:Int)] 3))=w0 at *
 have a0:=dcell_one HX0.out
 have a1:=dcell_one HX1.out
 have c2:=H0.out.cells.2.2.1
 have HLB:Hid (w.heap.size < w0.heap.size∧w.heap.size+1 < w0.heap.size∧p < w0.heap.size∧w.heap.size≤w0.heap.size):=⟨lt_of_block HX0.out,lt_of_block HX1.out,by have:=block_lt_of_cell c2; exact this,HB0.out.size⟩
 go_wp2
 go_loopw [6,21] (fun b i wr=>∃ (j:Nat) (A:Option Addr) (c:Nat),j≤S.v.es.length∧i= .int .i64 j∧b= .slice A (blk0 g S.v k j).length c∧Hid (wr.ownsRow w0.heap.size 3 1 (.slice A (blk0 g S.v k j).length c) (blk0 g S.v k j).length (intsN (blk0 g S.v k j)))∧Hid (Below w0.heap.size w0 wr)) (fun _ i _=>S.v.es.length - (intOf i).toNat)
 case atStart=>exact ⟨0,none,0,Nat.zero_le _,rfl,rfl,World.ownsRow_nil _ _ _ _,Below.refl _ _⟩
 case round=>
  obtain ⟨j,A,c,hj,rfl,rfl,HO,HBR⟩:=hrel
  clear a0 a1 c2
  have hr0:=HH.out.below0 (HB0.out.trans (HBR.out.mono HLB.out.2.2.2))
  by_cases hlt:j < S.v.es.length
  ·have hne:=List.getElem?_eq_getElem hlt
   generalize S.v.es[j]=n at hne
   obtain ⟨e0,e1,e2⟩:=hr0.entry hne
   have HAD:=Lib.hid (fun h0=>HV.out.adr_le hne h0)
   have HIN:Hid (∀ x,n=x→inBand g S.v k j=(decide (0≤x.adr) && decide (bandN g x.adr=k))):=by
    intro x hx; subst hx; rw [inBand_live,getD_of hne]; rfl
   have HIB:=Lib.hid (HIN.out n rfl)
   have hj1:(j:Int) < S.v.es.length:=by omega
   have hzz:=HBR.out.size
   have HB3:Hid (Below w0.heap.size w0 (wr.alloc (.cells #[.int .i64 n.kind,.int .u64 n.ver,.int .i64 n.adr] 84))):=HBR.out.alloc hzz _
   have HLW:Hid (wr.heap.size < (wr.alloc (.cells #[.int .i64 n.kind,.int .u64 n.ver,.int .i64 n.adr] 84)).heap.size):=by unfold Hid; simp
   have HOB:=heap_alloc_new wr (.cells #[.int .i64 n.kind,.int .u64 n.ver,.int .i64 n.adr] 84)
   have p2:(wr.alloc (.cells #[.int .i64 n.kind,.int .u64 n.ver,.int .i64 n.adr] 84)).cell? ⟨wr.heap.size,2,none⟩=some (.int .i64 n.adr):=by rw [cell_of_row _ _ _ _ _ _ HOB]; rfl
   have HO3:Hid ((wr.alloc (.cells #[.int .i64 n.kind,.int .u64 n.ver,.int .i64 n.adr] 84)).ownsRow w0.heap.size 3 1 (.slice A (blk0 g S.v k j).length c) (blk0 g S.v k j).length (intsN (blk0 g S.v k j))):=HO.out.alloc _
   have HNX:Hid (inBand g S.v k j=true→blk0 g S.v k (j+1)=blk0 g S.v k j++[j]):=blk0_yes
   have HNN:Hid (inBand g S.v k j=false→blk0 g S.v k (j+1)=blk0 g S.v k j):=blk0_no
   have HLE:=Lib.hid (blk0_len g S.v k j)
   clear hne HIN hr0 HOB
   go_upto_region 5 with fail
   generalize (wr.alloc (.cells #[.int .i64 n.kind,.int .u64 n.ver,.int .i64 n.adr] 84))=w3 at *
   clear e0 e1 e2
   generalize hbl:blk0 g S.v k j=bl at *
   clear hbl
   have HWX:Hid (∀ W,Below w3.heap.size w3 W→Below w0.heap.size w0 W):=fun W hW=>HB3.out.trans (hW.mono HB3.out.size)
   have s2:=Held.cell p2 HLW.out
   have s0:∀ s:Held (Below w3.heap.size w3),s.w.cell? ⟨w.heap.size,0,none⟩=some (.pointer (some ⟨p,0,none⟩)):=fun s=>((HWX.out _ s.h).cell (p:=⟨w.heap.size,0,none⟩) HLB.out.1).trans (dcell_one HX0.out)
   have s1:∀ s:Held (Below w3.heap.size w3),s.w.cell? ⟨w.heap.size+1,0,none⟩=some (.int .i64 (k:Int)):=fun s=>((HWX.out _ s.h).cell (p:=⟨w.heap.size+1,0,none⟩) HLB.out.2.1).trans (dcell_one HX1.out)
   by_cases h0:0≤n.adr
   ·have d0:decide (0≤n.adr)=true:=decide_eq_true h0
    have HBA:Hid (∀ W,Below w0.heap.size w0 W→Calls Tryz.prog 75 #[.pointer (some ⟨p,0,none⟩),.int .i64 n.adr] W fun e w'=>e= .returned (.int .i64 (bandN g n.adr))∧Below W.heap.size W w'):=fun W hW=>band20_any HV.out.gv n.adr (HAD.out h0).1 (HAD.out h0).2 (HH.out.below0 (HB0.out.trans (hW.mono HLB.out.2.2.2)))
    generalize bandN g n.adr=bn at *
    by_cases hb:bn=(k:Int)
    ·have d1:(bn==(k:Int))=true:=by simpa using hb
     have HE:=Lib.hid (HNX.out (by rw [HIB.out,d0,Bool.true_and]; exact decide_eq_true hb))
     clear HNX HNN HIB hb HAD
     have hne:Nonempty (Held (Below w3.heap.size w3)):=⟨⟨_,(Held.drew_below (Nat.le_refl _))⟩⟩
     refine wp_region_heldq (S:=(Below w3.heap.size w3)) (by kernel_rfl) (by kernel_rfl) (Held.drew_below (Nat.le_refl _)) ?_
     repeat (go_big_quiet_step ((go_at_call 75; exact Calls.held_below (Nat.le_refl _) (HBA.out _ (HWX.out _ (Held.h _))))))
     refine wpQuiet_nil ?_
     intro _ hw'
     obtain ⟨sq,hw''⟩:=hw'
     subst hw''
     clear hne
     have HB4:=Lib.hid (HWX.out _ sq.h)
     have HO4:Hid (sq.w.ownsRow w0.heap.size 3 1 (.slice A bl.length c) bl.length (intsN bl)):=own_kept HO3.out (belKept0 (S:=fun _=>False) sq.h) (fun _ _ h=>h)
     generalize sq.w=w4 at *
     have hll:=HLE.out
     have hl2:=HL2.out
     have hlo:=HB4.out.size
     clear s0 s1 s2 p2
     go_wp2_with (at_builtin; refine wpList_append_own _ rfl _ _ 56 rfl w0.heap.size 3 i0 _ 1 8 Tryz.underlying56 hi hz0 hz1 hz2 rfl (by decide) _ bl.length (intsN bl) rfl (HO4.out.alloc _) ⟨w4.heap.size,0,none⟩ 1 1 [.int .i64 (j:Int)] rfl rfl (World.news_of_block (heap_alloc_new _ _)) (by intro u hu; simp at hu; subst hu; rfl) ?c1 ?c2 ?c3 ?_)
     case c1=>unfold maxLen; omega
     case c2=>omega
     case c3=>first | omega | (simp; omega)
     intro v' w5 hown hgrow hiff
     obtain ⟨DA',dc',hv⟩:=own_form hown
     subst hv
     have HB5:Hid (Below w0.heap.size w0 w5):=(HB4.out.alloc hlo _).grown hgrow (by simp; omega) (fun k hk=>own_low HO4.out hk)
     have HO5:Hid (w5.ownsRow w0.heap.size 3 1 (.slice DA' (blk0 g S.v k (j+1)).length dc') (blk0 g S.v k (j+1)).length (intsN (blk0 g S.v k (j+1)))):=by
      unfold Hid; rw [HE.out,List.length_append,intsN_push]; exact hown
     have HLN:Hid (bl.length+1=(blk0 g S.v k (j+1)).length):=by unfold Hid; rw [HE.out]; simp
     clear hown hgrow hiff
     go_wp2
     go_roundw
     case rel=>exact ⟨j+1,DA',dc',by omega,by go_num,by rw [← HLN.out],HO5,HB5⟩
     case measure=>simp [intOf]; omega
    ·have d1:(bn==(k:Int))=false:=by simpa using hb
     have HE:=Lib.hid (HNN.out (by rw [HIB.out,d0,Bool.true_and]; exact decide_eq_false hb))
     clear HNX HNN HIB hb HAD
     have hne:Nonempty (Held (Below w3.heap.size w3)):=⟨⟨_,(Held.drew_below (Nat.le_refl _))⟩⟩
     refine wp_region_heldq (S:=(Below w3.heap.size w3)) (by kernel_rfl) (by kernel_rfl) (Held.drew_below (Nat.le_refl _)) ?_
     repeat (go_big_quiet_step ((go_at_call 75; exact Calls.held_below (Nat.le_refl _) (HBA.out _ (HWX.out _ (Held.h _))))))
     refine wpQuiet_nil ?_
     intro _ hw'
     obtain ⟨sq,hw''⟩:=hw'
     subst hw''
     clear hne
     have HB4:=Lib.hid (HWX.out _ sq.h)
     have HO4:Hid (sq.w.ownsRow w0.heap.size 3 1 (.slice A bl.length c) bl.length (intsN bl)):=own_kept HO3.out (belKept0 (S:=fun _=>False) sq.h) (fun _ _ h=>h)
     generalize sq.w=w4 at *
     have hl2:=HL2.out
     clear s0 s1 s2 p2
     go_wp2
     go_roundw
     case rel=>exact ⟨j+1,A,c,by omega,by go_num,by rw [HE.out],by rw [HE.out]; exact HO4,HB4⟩
     case measure=>simp [intOf]; omega
   ·have d0:decide (0≤n.adr)=false:=decide_eq_false h0
    have HE:=Lib.hid (HNN.out (by rw [HIB.out,d0,Bool.false_and]))
    clear HNX HNN HIB HAD h0
    have hne:Nonempty (Held (Below w3.heap.size w3)):=⟨⟨_,(Held.drew_below (Nat.le_refl _))⟩⟩
    refine wp_region_heldq (S:=(Below w3.heap.size w3)) (by kernel_rfl) (by kernel_rfl) (Held.drew_below (Nat.le_refl _)) ?_
    repeat (go_big_quiet_step (fail))
    refine wpQuiet_nil ?_
    intro _ hw'
    obtain ⟨sq,hw''⟩:=hw'
    subst hw''
    clear hne
    have HB4:=Lib.hid (HWX.out _ sq.h)
    have HO4:Hid (sq.w.ownsRow w0.heap.size 3 1 (.slice A bl.length c) bl.length (intsN bl)):=own_kept HO3.out (belKept0 (S:=fun _=>False) sq.h) (fun _ _ h=>h)
    generalize sq.w=w4 at *
    have hl2:=HL2.out
    clear s0 s1 s2 p2
    go_wp2
    go_roundw
    case rel=>exact ⟨j+1,A,c,by omega,by go_num,by rw [HE.out],by rw [HE.out]; exact HO4,HB4⟩
    case measure=>simp [intOf]; omega
  ·obtain rfl:j=S.v.es.length:=by omega
   have hl2:=HL2.out
   have e1:blk0 g S.v k S.v.es.length=blocksIn g S.v k:=rfl
   have HLL:=Lib.hid (blk0_len g S.v k S.v.es.length)
   rw [e1] at HO HLL ⊢
   have HSO:=Lib.hid (blsort_any (blocksIn g S.v k) (fun b hb=>(mem_blocksIn.1 hb).1) (by have:=HLL.out; omega) HV.out hr0 (belObj HBR.out HX0.out HLB.out.1) HO.out)
   clear e1 HLL
   generalize hB0:blocksIn g S.v k=bl0 at *
   have HBE:=Lib.hid hB0
   clear hB0
   go_wp2_with fail
   refine HSO.out.mono ?_
   rintro e w2 ⟨rfl,l,hp,hs,ho2,hk2⟩
   have hlen:bl0.length=l.length:=hp.length_eq.symm
   rw [hlen]
   clear hlen
   have HB2:Hid (Below w0.heap.size w0 w2):=HBR.out.trans (hk2.below (by have:=HBR.out.size; exact this))
   have HD2:=Lib.hid (HH.out.below0 (HB0.out.trans (HB2.out.mono HLB.out.2.2.2)))
   have HSRT:Hid (Sorted g S.v k l):=⟨by rw [HBE.out]; exact hp,hs⟩
   have HSOK:=Lib.hid (HSRT.out.ok HV.out)
   have HOL:=Lib.hid ho2
   have hll:l.length≤1024:=by
    have h1:=HSOK.out.len HK.out
    have h2:=HV.out.each HK.out
    omega
   have HX02:Hid (w2.heap[w.heap.size]?=some (.cells #[.pointer (some ⟨p,0,none⟩)] 22 (0,0))):=belObj HB2.out HX0.out HLB.out.1
   have HX12:Hid (w2.heap[w.heap.size+1]?=some (.cells #[.int .i64 (k:Int)] 3 (0,0))):=belObj HB2.out HX1.out HLB.out.2.1
   have HKW:Hid (KeptT DRT B w w2):=KeptT.bel (HB0.out.trans (HB2.out.mono HLB.out.2.2.2))
   obtain ⟨M,hM⟩:∃ M:Nat→ST × Int × Int,∀ j,M j=mvK g F key k l S j:=⟨_,fun _=>rfl⟩
   have HM0:Hid (M 0=(S,0,0)):=by unfold Hid; rw [hM]; rfl
   have HMS:Hid (∀ j,(M j).2.2=0→M (j+1)=mvOne g F key k (l.getD j 0) (M j)):=by intro j h0; rw [hM] at h0 ⊢; rw [mvK_yes h0,hM]
   have HMC:Hid (∀ j x,j≤l.length→M j=x→x.2.2≠0→CleanR g F key k S x):=fun j x hj hx h0=>⟨l,HSRT.out,(clean_stop hj ((hM j).symm.trans hx) h0).symm⟩
   have HME:Hid (∀ x r,M l.length=x→x.2.2=0→wipeS g F key k x.1 x.2.1=r→CleanR g F key k S r):=fun x r hx h0 hr=>⟨l,HSRT.out,by rw [clean_at ((hM _).symm.trans hx),if_pos h0,hr]⟩
   have HMV:Hid (∀ j,j≤l.length→VOk g (M j).1.v∧(M j).1.v.es.length=S.v.es.length∧(M j).1.v.bs.length=S.v.bs.length):=by intro j hj; rw [hM]; exact mvK_vok HV.out HK.out HSOK.out.lt j hj
   have HMU:Hid (∀ j,(M j).1.d.U8):=by intro j; rw [hM]; exact mvK_u8 HU8.out j
   have HMO:Hid (∀ j,(M j).1.d.O.length≤S.d.O.length+j):=by intro j; rw [hM]; exact mvK_len g F key k l S j
   have HMB:Hid (∀ j,j≤l.length→(M j).2.2=0→0≤(M j).2.1∧(M j).2.1≤(j:Int)):=by
    intro j hj h0; rw [hM] at h0 ⊢
    have:=(mvK_mvd HV.out HSOK.out j hj h0).1
    exact ⟨this.u0,this.un⟩
   have HSLT:=Lib.hid HSOK.out.lt
   clear hM hp hs ho2 hk2 hr0 HO HSO HBR HSOK HSRT hl2
   have HLL:=Lib.hid hll
   clear hll
   go_wp2
   go_loopw [9,47] (fun m i wr=>∃ j:Nat,j≤l.length∧i= .int .i64 j∧m= .int .i64 (M j).2.1∧Hid ((M j).2.2=0)∧Hid (DrvTo w2 B p q pw g F key (M j).1 ea ec wr)) (fun _ i _=>l.length - (intOf i).toNat)
   case atStart=>exact ⟨0,Nat.zero_le _,rfl,by rw [HM0.out],by rw [HM0.out]; rfl,by rw [HM0.out]; exact DrvTo.refl HD2.out (Below.refl _ _)⟩
   case round=>
    obtain ⟨j,hj,rfl,rfl,HE0,HDT⟩:=hrel
    by_cases hlt:j < l.length
    ·have hgd:l.getD j 0=l[j]:=by simp [List.getD,hlt]
     have hbl:=HSLT.out l[j] (List.getElem_mem hlt)
     have HST:=Lib.hid (HMS.out j HE0.out)
     unfold Hid at HST
     rw [hgd] at HST
     have hcell:(intsN l)[j]?=some (.int .i64 (l[j]:Int)):=by unfold intsN; rw [List.getElem?_map,List.getElem?_eq_getElem hlt]; rfl
     generalize l[j]=b at *
     obtain ⟨BA2,bc2,hd,hkT⟩:=HDT.out
     have hol:=own_ty HOL.out hkT (by unfold DRT; decide)
     obtain ⟨gl,rfl,_,_⟩:=own_at hol (by omega)
     have b0:=(World.ownsRow.cellAt hol j (by omega)).trans hcell
     have HXR:Hid (wr.heap[w.heap.size]?=some (.cells #[.pointer (some ⟨p,0,none⟩)] 22 (0,0))):=Kept.obj hkT HX02.out (KeptT.no (IsT.of HX02.out) (by unfold DRT; decide))
     have b1:=dcell_one HXR.out
     obtain ⟨v1,v2,v3⟩:=HMV.out j hj
     have hub:=HMU.out j
     have HOB:=Lib.hid (HMO.out j)
     have HMB1:=Lib.hid (HMB.out j hj HE0.out)
     have HVR:=Lib.hid v1
     have HBL:Hid (b < (M j).1.v.es.length):=by unfold Hid; rw [v2]; exact hbl
     have HKL:Hid (k < (M j).1.v.bs.length):=by unfold Hid; rw [v3]; exact HK.out
     have hft:=fetch20_any b HBL.out hub hn hd
     obtain ⟨S',x,fe,hS',hx,hfe,hv',hO',_,hxv,hcs⟩:=mvOne_parts g F key k b (M j)
     rw [← hx,← hfe,← hS'] at hft
     have hx8:x.dt.length=8:=by rw [hx]; exact ftX_len b
     have hxo:fe=0→x.Ok:=fun h0=>by rw [hx]; exact ftX_ok (by rw [← hfe]; exact h0) hub
     have hu':S'.d.U8:=by rw [hS']; exact (rdX_u8 hub).2
     rw [← HST] at hcs
     generalize HMJ:M j=R at *
     have HMJ':=Lib.hid HMJ
     clear HMJ
     generalize hQ:M (j+1)=Q at *
     have HQ:=Lib.hid hQ
     clear hQ HST hgd hcell hol hbl v1 v2 v3 hub hd hkT hS' hx hfe
     have hj1:(j:Int) < l.length:=by omega
     have HFT:=Lib.hid hft
     have HCS:=Lib.hid hcs
     have HXV:=Lib.hid hxv
     have HXO:=Lib.hid hxo
     have HV':=Lib.hid hv'
     have HO':=Lib.hid hO'
     clear hft hcs hxv hxo hv' hO' hlt hj
     obtain ⟨kd,bk,ver,dt⟩:=x
     obtain ⟨d0,d1,d2,d3,d4,d5,d6,d7,rfl⟩:=len8 hx8
     clear hx8
     have HFT2:Hid (Calls Tryz.prog 39 #[.pointer (some ⟨p,0,none⟩),.int .i64 b] wr fun e w'=>e= .returned (.tuple #[.agg #[.int .i64 kd,.int .i64 bk,.int .u64 ver,.int .u8 d0,.int .u8 d1,.int .u8 d2,.int .u8 d3,.int .u8 d4,.int .u8 d5,.int .u8 d6,.int .u8 d7],.int .i64 fe])∧Drv w' B p q pw g F key S' ea ec BA2 bc2∧KeptT DAT B wr w'):=HFT.out
     clear HFT
     go_wp2_with fail
     refine HFT2.out.mono ?_
     rintro e w3 ⟨rfl,hd3,hk3⟩
     have HD3:=Lib.hid hd3
     have HDT3:Hid (KeptT DRT B wr w3):=hk3.sub dat_drt
     have HX3:Hid (w3.heap[w.heap.size]?=some (.cells #[.pointer (some ⟨p,0,none⟩)] 22 (0,0))):=Kept.obj hk3 HXR.out (KeptT.no (IsT.of HXR.out) (by unfold DAT; decide))
     have HX13:Hid (w3.heap[w.heap.size+1]?=some (.cells #[.int .i64 (k:Int)] 3 (0,0))):=by
      obtain ⟨_,_,_,hkT⟩:=HDT.out
      have h1:=Kept.obj hkT HX12.out (KeptT.no (IsT.of HX12.out) (by unfold DRT; decide))
      exact Kept.obj hk3 h1 (KeptT.no (IsT.of h1) (by unfold DAT; decide))
     clear hd3 hk3 b0 b1 HFT2
     have hb3:Below w3.heap.size w3 (w3.alloc (.cells #[.int .i64 kd,.int .i64 bk,.int .u64 ver,.int .u8 d0,.int .u8 d1,.int .u8 d2,.int .u8 d3,.int .u8 d4,.int .u8 d5,.int .u8 d6,.int .u8 d7] 89)):=(Below.refl _ _).alloc (Nat.le_refl _) _
     have HO4:Hid ((w3.alloc (.cells #[.int .i64 kd,.int .i64 bk,.int .u64 ver,.int .u8 d0,.int .u8 d1,.int .u8 d2,.int .u8 d3,.int .u8 d4,.int .u8 d5,.int .u8 d6,.int .u8 d7] 89)).heap[w3.heap.size]?=some (.cells #[.int .i64 kd,.int .i64 bk,.int .u64 ver,.int .u8 d0,.int .u8 d1,.int .u8 d2,.int .u8 d3,.int .u8 d4,.int .u8 d5,.int .u8 d6,.int .u8 d7] 89 (0,0))):=heap_alloc_new _ _
     have HD4:=Lib.hid (HD3.out.below0 hb3)
     have HK4:Hid (KeptT DRT B wr (w3.alloc (.cells #[.int .i64 kd,.int .i64 bk,.int .u64 ver,.int .u8 d0,.int .u8 d1,.int .u8 d2,.int .u8 d3,.int .u8 d4,.int .u8 d5,.int .u8 d6,.int .u8 d7] 89))):=HDT3.out.thenBelow hb3
     have HX4:=Lib.hid (belObj hb3 HX3.out (lt_of_block HX3.out))
     have HX14:=Lib.hid (belObj hb3 HX13.out (lt_of_block HX13.out))
     clear hb3 HD3 HDT3 HX3 HX13
     go_upto_region 14 with fail
     generalize (w3.alloc (.cells #[.int .i64 kd,.int .i64 bk,.int .u64 ver,.int .u8 d0,.int .u8 d1,.int .u8 d2,.int .u8 d3,.int .u8 d4,.int .u8 d5,.int .u8 d6,.int .u8 d7] 89))=w4 at *
     generalize w3.heap.size=xb at *
     obtain ⟨⟨o0,o1,o2,o3,o4,o5,o6,o7,o8,o9,o10⟩,_⟩:=cells11 HO4.out
     have b1:=dcell_one HX4.out
     have b2:=dcell_one HX14.out
     have HBAD:Hid (∀ (W:World) (T:ST) (er:Int) (A:Option Addr) (c:Nat),Drv W B p q pw g F key T ea ec A c→KeptT DRT B wr W→Q=(⟨T.v.fail er,T.d⟩,0,er)→er≠0→∀ e W',e= .returned (.tuple #[.int .i64 0,.int .i64 er])→Drv W' B p q pw g F key ⟨T.v.fail er,T.d⟩ ea ec A c→KeptT DRT B W W'→CP e W'):=by
      intro W T er A c h1 h2 h3 h4 e W' h5 h6 h7
      refine HPOST.out e W' _ (HMC.out (j+1) _ (by have:=hj1; omega) (HQ.out.trans h3) h4) h5 ?_
      obtain ⟨_,_,_,k1⟩:=HDT.out
      exact ⟨A,c,h6,((HKW.out.trans k1).trans h2).trans h7⟩
     have HGO:Hid (∀ W T,DrvTo wr B p q pw g F key T ea ec W→Q.1=T→DrvTo w2 B p q pw g F key (M (j+1)).1 ea ec W):=by
      intro W T h1 h2
      rw [HQ.out,h2]
      exact HDT.out.trans h1
     have HE1:Hid (Q.2.2=0→(M (j+1)).2.2=0):=by intro h; rw [HQ.out]; exact h
     have HM1:Hid (∀ m,Q.2.1=m→(M (j+1)).2.1=m):=by intro m h; rw [HQ.out]; exact h
     by_cases h15:fe=15
     ·have d15:(fe==15)=true:=by simpa using h15
      have HQ1:Hid (Q=(⟨unlinkV g R.1.v b,S'.d⟩,R.2.1,0)):=by
       rcases HCS.out with ⟨_,h⟩ | ⟨h,_⟩ | ⟨h,_⟩ | ⟨_,h,_⟩
       ·exact h
       ·omega
       ·omega
       ·exact absurd h15 h
      have hun:=unlink20_any b (S:=S') (by rw [HV'.out]; exact HVR.out) (by rw [HV'.out]; exact HBL.out) HD4.out
      rw [HV'.out] at hun
      have HUN:=Lib.hid hun
      clear hun h15 HCS
      go_wp2_with fail
      refine HUN.out.mono ?_
      rintro e w5 ⟨rfl,hto⟩
      have HTO:=Lib.hid (HGO.out w5 _ (by obtain ⟨A5,c5,h1,h2⟩:=hto; exact ⟨A5,c5,h1,HK4.out.trans h2⟩) (by rw [HQ1.out]))
      have HE2:=Lib.hid (HE1.out (by rw [HQ1.out]))
      have HM2:=Lib.hid (HM1.out _ (by rw [HQ1.out]))
      have hll:=HLL.out
      clear hto b1 b2 o0 o1 o2 o3 o4 o5 o6 o7 o8 o9 o10
      go_wp2
      go_roundw
      case rel=>exact ⟨j+1,by omega,by go_num,by rw [HM2.out],HE2,HTO⟩
      case measure=>simp [intOf]; omega
     ·have d15:(fe==15)=false:=by simpa using h15
      by_cases hf0:fe=0
      ·have d16:(fe==0)=true:=by simpa using hf0
       obtain ⟨x1,x2,x3,x4⟩:=HXV.out hf0
       have hxo:=HXO.out hf0
       have hob:=HOB.out
       have hbl2:=HBL.out
       have hap:=append20_any ⟨kd,bk,ver,[d0,d1,d2,d3,d4,d5,d6,d7]⟩ (k:Int) (S:=S') (by rw [HV'.out]; have:=HKL.out; omega) hxo (show (0:Int)≤bk by have x2':bk=(b:Int):=x2; omega) (show bk < S'.v.es.length by have x2':bk=(b:Int):=x2; rw [HV'.out]; omega) x1 (by rw [HV'.out]; exact HVR.out) HF.out hn (by rw [HO'.out]; have:=HON.out; have:=HLL.out; omega) HD4.out
       obtain ⟨AP,hAP⟩:∃ AP,AP=appN g F key S' ⟨kd,bk,ver,[d0,d1,d2,d3,d4,d5,d6,d7]⟩ k:=⟨_,rfl⟩
       have HQ1:Hid ((AP.2=0∧Q=(AP.1,R.2.1+1,0))∨(AP.2≠0∧Q=(⟨AP.1.v.fail AP.2,AP.1.d⟩,0,AP.2))):=by
        rw [hAP]
        rcases HCS.out with ⟨h,_⟩ | ⟨_,h1,h2⟩ | ⟨_,h1,h2⟩ | ⟨h,_⟩
        ·exact absurd h h15
        ·exact .inl ⟨h1,h2⟩
        ·exact .inr ⟨h1,h2⟩
        ·exact absurd hf0 h
       rw [← hAP] at hap
       have HAP:Hid (Calls Tryz.prog 79 #[.pointer (some ⟨p,0,none⟩),.agg #[.int .i64 kd,.int .i64 bk,.int .u64 ver,.int .u8 d0,.int .u8 d1,.int .u8 d2,.int .u8 d3,.int .u8 d4,.int .u8 d5,.int .u8 d6,.int .u8 d7],.int .i64 (k:Int)] w4 fun e w'=>e= .returned (.int .i64 AP.2)∧DrvTo w4 B p q pw g F key AP.1 ea ec w'):=hap
       clear hap hAP HCS x1 x2 x3 x4 hxo hob hbl2 h15 hf0
       obtain ⟨AT,ae⟩:=AP
       simp only at HQ1 HAP
       go_wp2_with fail
       refine HAP.out.mono ?_
       rintro e w5 ⟨rfl,hto⟩
       have HTO:=Lib.hid hto
       have hmb:=HMB1.out
       have hll:=HLL.out
       clear hto b2 o0 o1 o2 o3 o4 o5 o6 o7 o8 o9 o10 HAP b1
       by_cases hae:ae=0
       ·have d17:(ae !=0)=false:=by simpa using hae
        have HQ2:Hid (Q=(AT,R.2.1+1,0)):=by
         rcases HQ1.out with ⟨_,h⟩ | ⟨h,_⟩
         ·exact h
         ·exact absurd hae h
        have HTG:=Lib.hid (HGO.out w5 _ (by obtain ⟨A5,c5,h1,h2⟩:=HTO.out; exact ⟨A5,c5,h1,HK4.out.trans h2⟩) (by rw [HQ2.out]))
        have HE2:=Lib.hid (HE1.out (by rw [HQ2.out]))
        have HM2:=Lib.hid (HM1.out _ (by rw [HQ2.out]))
        have hwm:IntKind.i64.wrap (R.2.1+1)=R.2.1+1:=by rw [IntKind.wrap_i64]; omega
        clear HQ1 hae
        go_wp2
        go_roundw
        case rel=>exact ⟨j+1,by omega,by go_num,by rw [HM2.out],HE2,HTG⟩
        case measure=>simp [intOf]; omega
       ·have d17:(ae !=0)=true:=by simpa using hae
        have HQ2:Hid (Q=(⟨AT.v.fail ae,AT.d⟩,0,ae)):=by
         rcases HQ1.out with ⟨h,_⟩ | ⟨_,h⟩
         ·exact absurd h hae
         ·exact h
        obtain ⟨A5,c5,hd5,hk5⟩:=HTO.out
        have HFL:=Lib.hid (fail_any ae hd5)
        have HB2:=Lib.hid (HBAD.out w5 AT ae A5 c5 hd5 (HK4.out.trans hk5) HQ2.out hae)
        have hb5:=dcell_one (Kept.obj hk5 HX4.out (KeptT.no (IsT.of HX4.out) (by unfold DRT; decide)))
        clear HQ1 hae hd5 hk5
        go_wp2_with fail
        refine HFL.out.mono ?_
        rintro e w6 ⟨rfl,hd6,hk6⟩
        have HG6:=Lib.hid (HB2.out _ w6 rfl hd6 hk6)
        clear hd6 hk6
        go_wp2
        exact HG6.out
      ·have d16:(fe==0)=false:=by simpa using hf0
       have d17:(fe !=0)=true:=by simpa using hf0
       have HQ2:Hid (Q=(⟨S'.v.fail fe,S'.d⟩,0,fe)):=by
        rcases HCS.out with ⟨h,_⟩ | ⟨h,_⟩ | ⟨h,_⟩ | ⟨_,_,h⟩
        ·exact absurd h h15
        ·exact absurd h hf0
        ·exact absurd h hf0
        ·rw [HV'.out]; exact h
       have HFL:=Lib.hid (fail_any fe HD4.out)
       have HB2:=Lib.hid (HBAD.out w4 S' fe BA2 bc2 HD4.out HK4.out HQ2.out hf0)
       clear h15 hf0 HCS
       go_wp2_with fail
       refine HFL.out.mono ?_
       rintro e w6 ⟨rfl,hd6,hk6⟩
       have HG6:=Lib.hid (HB2.out _ w6 rfl hd6 hk6)
       clear hd6 hk6
       go_wp2
       exact HG6.out
    ·obtain rfl:j=l.length:=by omega
     obtain ⟨BA2,bc2,hd,hkT⟩:=HDT.out
     have HXR:Hid (wr.heap[w.heap.size]?=some (.cells #[.pointer (some ⟨p,0,none⟩)] 22 (0,0))):=Kept.obj hkT HX02.out (KeptT.no (IsT.of HX02.out) (by unfold DRT; decide))
     have HX1R:Hid (wr.heap[w.heap.size+1]?=some (.cells #[.int .i64 (k:Int)] 3 (0,0))):=Kept.obj hkT HX12.out (KeptT.no (IsT.of HX12.out) (by unfold DRT; decide))
     have HKR:Hid (KeptT DRT B w wr):=HKW.out.trans hkT
     have hob:=HMO.out l.length
     have hll:=HLL.out
     obtain ⟨v1,v2,v3⟩:=HMV.out l.length (Nat.le_refl _)
     have HME1:=Lib.hid (fun r=>HME.out (M l.length) r rfl HE0.out)
     generalize M l.length=R at *
     have HVR:=Lib.hid v1
     have HV3:=Lib.hid v3
     have htf:=trycfl_any hd.dsk hn (by have:=HON.out; omega) HXR.out hd.dkey
     obtain ⟨T,hT,hT2⟩:=flushS_form g F key R.1
     have hTO:T.2.er=0→T.1.O=[]:=fun h0=>by rw [hT] at h0 ⊢; exact tryF_done h0
     rw [← hT] at htf
     have HTF:=Lib.hid htf
     have HT2:=Lib.hid hT2
     have HTO:=Lib.hid hTO
     have HDR:=Lib.hid hd
     have b1:=dcell_one HXR.out
     clear htf hT hT2 hTO hd hkT hob v1 v2 v3 HME HMO HMV HMU HMB HMC HMS HM0
     obtain ⟨TD,⟨te,tb⟩⟩:=T
     have HT3:Hid (flushS g F key R.1=(⟨R.1.v.fail te,TD⟩,te)):=HT2.out
     have HTF2:Hid (Calls Tryz.prog 47 #[.func (.func 80) #[] #[.pointer (some ⟨w.heap.size,0,none⟩)]] wr fun e w'=>e= .returned (.int .i64 te)∧DM w' B q pw g F TD∧KeptT DAT B wr w'):=HTF.out
     have HTO2:Hid (te=0→TD.O=[]):=HTO.out
     clear HT2 HTF HTO
     go_wp2_with fail
     refine HTF2.out.mono ?_
     rintro e w3 ⟨rfl,hd3,hk3⟩
     have HD3:=Lib.hid (HDR.out.disk hd3 hk3)
     have HK3:Hid (KeptT DRT B w w3):=HKR.out.trans (hk3.sub dat_drt)
     have HX3:Hid (w3.heap[w.heap.size]?=some (.cells #[.pointer (some ⟨p,0,none⟩)] 22 (0,0))):=Kept.obj hk3 HXR.out (KeptT.no (IsT.of HXR.out) (by unfold DAT; decide))
     have HX13:Hid (w3.heap[w.heap.size+1]?=some (.cells #[.int .i64 (k:Int)] 3 (0,0))):=Kept.obj hk3 HX1R.out (KeptT.no (IsT.of HX1R.out) (by unfold DAT; decide))
     have b3:=dcell_one HX3.out
     clear hd3 hk3 b1 HTF2
     by_cases h0:te=0
     ·have d0:(te !=0)=false:=by simpa using h0
      subst h0
      have HO3:Hid (TD.O=[]):=HTO2.out rfl
      have HF3:Hid (flushS g F key R.1=(⟨R.1.v,TD⟩,0)):=by unfold Hid; rw [HT3.out,DV.fail_zero]
      have hte:=trycer_any (k:=(k:Int)) (by unfold I64; have:=HK.out; omega) HD3.out.dsk hn (by have h3:=HO3.out; simp only; rw [h3]; simp) HX3.out HX13.out HD3.out.dkey
      obtain ⟨U,hU,hU2⟩:=eraseS_form g F key k ⟨R.1.v,TD⟩
      simp only at hU hte
      rw [← hU] at hte
      obtain ⟨UD,⟨ue,ub⟩⟩:=U
      have HU2:Hid (eraseS g F key k ⟨R.1.v,TD⟩=(⟨R.1.v.fail ue,UD⟩,ue)):=hU2
      have HTE:Hid (Calls Tryz.prog 47 #[.func (.func 81) #[] #[.pointer (some ⟨w.heap.size,0,none⟩),.pointer (some ⟨w.heap.size+1,0,none⟩)]] w3 fun e w'=>e= .returned (.int .i64 ue)∧DM w' B q pw g F UD∧KeptT DAT B w3 w'):=hte
      clear hte hU hU2 HT3 HTO2
      go_wp2_with fail
      refine HTE.out.mono ?_
      rintro e w4 ⟨rfl,hd4,hk4⟩
      have HD4:=Lib.hid (HD3.out.disk hd4 hk4)
      have HK4:Hid (KeptT DRT B w w4):=HK3.out.trans (hk4.sub dat_drt)
      have HX4:Hid (w4.heap[w.heap.size]?=some (.cells #[.pointer (some ⟨p,0,none⟩)] 22 (0,0))):=Kept.obj hk4 HX3.out (KeptT.no (IsT.of HX3.out) (by unfold DAT; decide))
      have HX14:Hid (w4.heap[w.heap.size+1]?=some (.cells #[.int .i64 (k:Int)] 3 (0,0))):=Kept.obj hk4 HX13.out (KeptT.no (IsT.of HX13.out) (by unfold DAT; decide))
      have b4:=dcell_one HX4.out
      clear hd4 hk4 b3 HTE
      by_cases h1:ue=0
      ·have d1:(ue !=0)=false:=by simpa using h1
       subst h1
       have HE3:Hid (eraseS g F key k ⟨R.1.v,TD⟩=(⟨R.1.v,UD⟩,0)):=by unfold Hid; rw [HU2.out,DV.fail_zero]
       have HCR:=Lib.hid (HME1.out _ (wipe_done HF3.out HE3.out))
       have HFIN:Hid (∀ W A c,Drv W B p q pw g F key ⟨{ R.1.v with bs:=V.resL R.1.v.bs k },UD⟩ ea ec A c→KeptT DRT B w4 W→∀ e,e= .returned (.tuple #[.int .i64 R.2.1,.int .i64 0])→CP e W):=fun W A c h2 h3 e h4=>HPOST.out e W _ HCR.out h4 ⟨A,c,h2,HK4.out.trans h3⟩
       have hr64:=HVR.out.len64
       have HRS:=Lib.hid (fun W (hW:Below w4.heap.size w4 W)=>V.reset_any R.1.v.bs k HVR.out.oks BA2 bc2 W ((HD4.out.below0 hW).bs.rd) (by have:(R.1.v.bs).length≤64:=hr64.2; omega))
       have HFB:Hid (∀ W A c bs,Below w4.heap.size w4 W→W.ownsRow w4.heap.size 76 4 (.slice A bs.length c) bs.length (V.flat bs)→
         Drv (W.setCell ⟨p,3,none⟩ (.slice A bs.length c)) B p q pw g F key ⟨{ R.1.v with bs:=bs },UD⟩ ea ec A c∧KeptT DRT B w4 (W.setCell ⟨p,3,none⟩ (.slice A bs.length c))):=by
        intro W A c bs hW ho
        have h':=(HD4.out.below0 hW).setBands (c:=c) (RdT.of_own ho)
        exact ⟨h'.1,(KeptT.bel hW).trans h'.2⟩
       have HCB:Hid (∀ W,Below w4.heap.size w4 W→(W.cell? ⟨p,3,none⟩=some (.slice BA2 R.1.v.bs.length bc2)∧W.frozen? ⟨p,3,none⟩=false)):=fun W hW=>⟨(HD4.out.below0 hW).cells.2.2.2.1,(HD4.out.below0 hW).free 3⟩
       have HBX:Hid (∀ W,Below w4.heap.size w4 W→W.cell? ⟨w.heap.size,0,none⟩=some (.pointer (some ⟨p,0,none⟩))∧W.cell? ⟨w.heap.size+1,0,none⟩=some (.int .i64 (k:Int))):=fun W hW=>⟨dcell_one (belObj hW HX4.out (lt_of_block HX4.out)),dcell_one (belObj hW HX14.out (lt_of_block HX14.out))⟩
       have HBP:Hid (∀ W,(∃ W0 u,Below w4.heap.size w4 W0∧W=W0.setCell ⟨p,3,none⟩ u)→W.cell? ⟨w.heap.size,0,none⟩=some (.pointer (some ⟨p,0,none⟩))∧W.cell? ⟨w.heap.size+1,0,none⟩=some (.int .i64 (k:Int))):=by
        rintro W ⟨W0,u,hW,rfl⟩
        have hne1:w.heap.size≠p:=(IsT.of (belObj hW HX4.out (lt_of_block HX4.out))).ne (IsT.own (HD4.out.below0 hW).obj) (by decide)
        have hne2:w.heap.size+1≠p:=(IsT.of (belObj hW HX14.out (lt_of_block HX14.out))).ne (IsT.own (HD4.out.below0 hW).obj) (by decide)
        obtain ⟨q1,q2⟩:=HBX.out W0 hW
        exact ⟨by rw [World.cell?_setCell_other _ _ _ _ (by intro e; simp only [Addr.mk.injEq] at e; omega)]; exact q1,by rw [World.cell?_setCell_other _ _ _ _ (by intro e; simp only [Addr.mk.injEq] at e; omega)]; exact q2⟩
       obtain ⟨C,hC⟩:∃ C:List Value→World→Prop,C=fun h W=>match h with
        | []=>W=w4.drew
        | [u]=>∃ A c,u= .tuple #[.slice A (V.resL R.1.v.bs k).length c,.int .i64 (V.resE R.1.v.bs k)]∧W.ownsRow w4.heap.size 76 4 (.slice A (V.resL R.1.v.bs k).length c) (V.resL R.1.v.bs k).length (V.flat (V.resL R.1.v.bs k))∧Below w4.heap.size w4 W
        | [_,_]=>∃ A c W0,Below w4.heap.size w4 W0∧W=W0.setCell ⟨p,3,none⟩ (.slice A (V.resL R.1.v.bs k).length c)∧Drv W B p q pw g F key ⟨{ R.1.v with bs:=V.resL R.1.v.bs k },UD⟩ ea ec A c∧KeptT DRT B w4 W
        | _=>False:=⟨_,rfl⟩
       have hbq:Below w4.heap.size w4 w4.drew:=(Below.refl _ _).drew
       have hall:∀ t:HeldL C 1,Below w4.heap.size w4 t.w:=fun t=>by
        obtain ⟨s,W,h,l⟩:=t
        simp only
        subst hC
        match s,h,l with
        | [],h,_=>have h':W=w4.drew:=h; rw [h']; exact hbq
        | [u],h,_=>obtain ⟨_,_,_,_,h⟩:=h; exact h
       have hal2:∀ t:HeldC C,t.w.cell? ⟨w.heap.size,0,none⟩=some (.pointer (some ⟨p,0,none⟩))∧t.w.cell? ⟨w.heap.size+1,0,none⟩=some (.int .i64 (k:Int)):=fun t=>by
        obtain ⟨s,W,h⟩:=t
        simp only
        subst hC
        match s,h with
        | [],h=>have h':W=w4.drew:=h; rw [h']; exact HBX.out _ hbq
        | [u],h=>obtain ⟨_,_,_,_,h⟩:=h; exact HBX.out _ h
        | [_,_],h=>obtain ⟨A,c,W0,h1,h2,_⟩:=h; exact HBP.out _ ⟨W0,_,h1,h2⟩
       have HC0:Hid (C [] w4.drew):=by subst hC; exact rfl
       have HK1:Hid (∀ W,C [] W→Calls Tryz.prog 82 #[.slice BA2 R.1.v.bs.length bc2,.int .i64 (k:Int)] W fun e w'=>∃ x,e= .returned x∧C ([]++[x]) w'):=by
        subst hC
        intro W hW
        have hW':W=w4.drew:=hW
        subst hW'
        refine (HRS.out _ hbq).mono ?_
        rintro e w' ⟨A,c,he,ho,hb'⟩
        exact ⟨_,he,A,c,rfl,own_mono ho hbq.size,hbq.trans (hb'.mono hbq.size)⟩
       have HV2:Hid (∀ u W,C [u] W→∃ A c,u= .tuple #[.slice A (V.resL R.1.v.bs k).length c,.int .i64 (V.resE R.1.v.bs k)]∧Below w4.heap.size w4 W):=by
        subst hC; intro u W h; obtain ⟨A,c,h1,_,h2⟩:=h; exact ⟨A,c,h1,h2⟩
       have HV3:Hid (∀ A c W,C [.tuple #[.slice A (V.resL R.1.v.bs k).length c,.int .i64 (V.resE R.1.v.bs k)]] W→C ([.tuple #[.slice A (V.resL R.1.v.bs k).length c,.int .i64 (V.resE R.1.v.bs k)]]++[undef]) (W.setCell ⟨p,3,none⟩ (.slice A (V.resL R.1.v.bs k).length c))):=by
        subst hC
        intro A c W h
        obtain ⟨A',c',h1,h2,h3⟩:=h
        injection h1 with h1
        have h1':=congrArg (fun a=>a[0]?) h1
        simp only [List.getElem?_toArray,List.getElem?_cons_zero,Option.some.injEq] at h1'
        injection h1' with e1 e2 e3
        subst e1; subst e3
        have h4:=HFB.out W A c _ h3 h2
        exact ⟨A,c,W,h3,rfl,h4.1,h4.2⟩
       have HV4:Hid (∀ u x W,C [u,x] W→∃ A c,Drv W B p q pw g F key ⟨{ R.1.v with bs:=V.resL R.1.v.bs k },UD⟩ ea ec A c∧KeptT DRT B w4 W):=by subst hC; intro u x W h; obtain ⟨A,c,_,_,_,h1,h2⟩:=h; exact ⟨A,c,h1,h2⟩
       have f3:∀ t:HeldL C 1,t.w.cell? ⟨p,3,none⟩=some (.slice BA2 R.1.v.bs.length bc2):=fun t=>(HCB.out _ (hall t)).1
       have g0:∀ t:HeldC C,t.w.cell? ⟨w.heap.size,0,none⟩=some (.pointer (some ⟨p,0,none⟩)):=fun t=>(hal2 t).1
       have g1:∀ t:HeldC C,t.w.cell? ⟨w.heap.size+1,0,none⟩=some (.int .i64 (k:Int)):=fun t=>(hal2 t).2
       have f0:∀ t:HeldL C 1,t.w.cell? ⟨w.heap.size,0,none⟩=some (.pointer (some ⟨p,0,none⟩)):=fun t=>(HBX.out _ (hall t)).1
       have f1:∀ t:HeldL C 1,t.w.cell? ⟨w.heap.size+1,0,none⟩=some (.int .i64 (k:Int)):=fun t=>(HBX.out _ (hall t)).2
       have hne:Nonempty (HeldL C 1):=⟨⟨[],_,HC0.out,by simp⟩⟩
       have hne':Nonempty (HeldC C):=⟨⟨[],_,HC0.out⟩⟩
       generalize V.resL R.1.v.bs k=bs' at *
       generalize V.resE R.1.v.bs k=ub' at *
       clear hC hall hal2 hbq HRS HFB HBX HBP b4 hr64
       go_wp2_with fail
       refine wp_region_chainL C 12 [6] [12,8,7,6] [4] (by kernel_rfl) (by kernel_rfl) (by kernel_rfl) (by kernel_rfl) (by kernel_rfl) HC0.out ?_
       repeat (first | (refine wpCh_nl 1 (by rfl) (by rfl) (by rfl) ?_; go_big_quiet_step (fail); refine wpQuiet_nil ?_) | (refine wpCh_n (by rfl) (by rfl) ?_; go_big_quiet_step (fail); refine wpQuiet_nil ?_))
       refine wpCh_l (f:=82) (args:=#[.slice BA2 R.1.v.bs.length bc2,.int .i64 (k:Int)]) (by rfl) (by rfl) (fun W=>by simp [go_sem]) (fun W hW=>HK1.out W hW) (fun v W hW=>?_)
       obtain ⟨A,c,rfl,_⟩:=HV2.out v W hW
       go_big_quiet_step (fail)
       refine wpQuiet_nil ?_
       repeat (first | (refine wpCh_nl 1 (by rfl) (by rfl) (by rfl) ?_; go_big_quiet_step (fail); refine wpQuiet_nil ?_) | (refine wpCh_n (by rfl) (by rfl) ?_; go_big_quiet_step (fail); refine wpQuiet_nil ?_))
       refine wpCh_s (by rfl) (by rfl) rfl (fun W hW=>⟨W.setCell ⟨p,3,none⟩ (.slice A bs'.length c),?_,HV3.out _ _ W hW⟩) (fun v W hW=>?_)
       ·obtain ⟨_,_,_,hbW⟩:=HV2.out _ W hW
        obtain ⟨b3,b4⟩:=HCB.out W hbW
        simp [go_sem, *]
       refine wpCh_nil ?_
       intro wc hcw
       obtain ⟨A2,c2,hdc,hkc⟩:=HV4.out _ _ wc hcw
       have HFI:=Lib.hid (HFIN.out wc A2 c2 hdc hkc _ rfl)
       clear hdc hkc hcw HV2 HV3 HV4 HK1 HC0 HCB hne hne' f3 g0 g1 f0 f1
       go_wp2
       exact HFI.out
      ·have d1:(ue !=0)=true:=by simpa using h1
       have HCR:=Lib.hid (HME1.out _ (wipe_erase HF3.out HU2.out h1))
       have HFL:=Lib.hid (fail_any ue HD4.out)
       clear h1
       go_wp2_with fail
       refine HFL.out.mono ?_
       rintro e w5 ⟨rfl,hd5,hk5⟩
       have HFI:=Lib.hid (HPOST.out _ w5 _ HCR.out rfl ⟨BA2,bc2,hd5,HK4.out.trans hk5⟩)
       clear hd5 hk5
       go_wp2
       exact HFI.out
     ·have d0:(te !=0)=true:=by simpa using h0
      have HCR:=Lib.hid (HME1.out _ (wipe_flush HT3.out h0))
      have HFL:=Lib.hid (fail_any te HD3.out)
      clear h0
      go_wp2_with fail
      refine HFL.out.mono ?_
      rintro e w5 ⟨rfl,hd5,hk5⟩
      have HFI:=Lib.hid (HPOST.out _ w5 _ HCR.out rfl ⟨BA2,bc2,hd5,HK3.out.trans hk5⟩)
      clear hd5 hk5
      go_wp2
      exact HFI.out
end
end Go.Proofs.YtggkengmlkhdiaaGreat
