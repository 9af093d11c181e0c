/-
  WHAT IS SHOWN: what Bytes and Left of the reader of tegularef09, Count and Block of the reader of codec return. what Count and Block of the reader of codec and Block of the reader of tegularef09 return. what Block of the reader of tegularef09 returns. plain facts on records, their payload, their sectors, and where they lie in memory. what Valid of record and of tegularef27 return. what Valid of record returns. Conditions: as each theorem names them.
-/
import Derived.Test.YtaggiceejcegdaaGreatNc01
import Derived.Laws.Cover3
namespace Go.Proofs.YtaggiceejcegdaaGreat
set_option linter.unusedVariables false
open Go.RowKit
theorem uint_len {ty : TypeId} {w : World} {q : Nat} {r : Rdr} (h : RdrM ty w q r) : r.uint.2.2.rest.length ≤ r.rest.length:=by
 obtain ⟨_,_,_,_,hu,_⟩:=h
 unfold Rdr.uint
 split
 ·rename_i n l h
  obtain ⟨_,p,hp⟩:=uintD_lt hu h
  rw [hp]; simp
 ·exact Nat.zero_le _
theorem left_any {w : World} {q : Nat} {r : Rdr} (h : RdrM 239 w q r) : Calls Tryz.prog 159 #[.pointer (some ⟨q,0,none⟩)] w (fun e w'=>e = .returned (.int .i64 r.rest.length) ∧ w' = w):=by
 obtain ⟨A,c,hq,hr,hu,hok,hc,hcm,hnn⟩:=h
 obtain ⟨c0,c1,f0,f1⟩:=heap_cells hq
 clear hq hr hu
 go_enter Tryz.func159,Tryz.ntmps159
 go_wp2
 go_ret
 exact ⟨rfl,rfl⟩
set_option maxRecDepth 100000 in
set_option maxHeartbeats 1000000 in
theorem rbytes_any {w : World} {q : Nat} {r : Rdr} (hlen : r.rest.length ≤ 1000000) (h : RdrM 239 w q r) : Calls Tryz.prog 157 #[.pointer (some ⟨q,0,none⟩)] w (TakePost 239 w q r.bytes):=by
 obtain ⟨i0,hi,hz0,hz1,hz2⟩:=info_parts qinfo_u8
 have hc:=ruint_any hlen h
 unfold UintPost at hc
 obtain ⟨hn64,he⟩:=uint_fst h
 have hbad:=uint_bad h
 have hl2:=uint_len h
 have HB : Hid (r.bytes = if r.uint.2.1 = 0 then r.uint.2.2.take r.uint.1 else ([],r.uint.2.1,r.uint.2.2)):=rfl
 clear h
 unfold Hid at HB
 generalize r.uint.2.2 = r2 at *
 generalize r.uint.1 = n at *
 generalize r.uint.2.1 = er at *
 have HC:=Lib.hid hc
 clear hc
 rcases he with rfl | ⟨rfl,rfl⟩
 ·have hbf:=hbad rfl
  rw [if_pos rfl] at HB
  by_cases hn : r2.rest.length < n
  ·have HBB : Hid (r.bytes = ([],5,Rdr.fail)):=by unfold Hid; rw [HB]; unfold Rdr.take; rw [if_pos (.inr hn)]
   clear HB
   go_enter Tryz.func157,Tryz.ntmps157
   go_wp2_with fail
   refine HC.out.mono ?_
   rintro e w1 ⟨rfl,hp⟩
   obtain ⟨A,c,hq,hr,hu,hok,hcc,hcm,hnn⟩:=hp.1
   obtain ⟨c0,c1,f0,f1⟩:=heap_cells hq
   clear hq hr hu hok hnn
   have HP:=Lib.hid hp
   clear hp
   go_wp2_with fail
   refine (rfail_any HP.out.1).mono ?_
   rintro e w2 ⟨rfl,hp2⟩
   have HP2:=Lib.hid (HP.out.trans hp2)
   clear hp2
   go_wp2
   go_ret2
   unfold TakePost
   rw [HBB.out]
   exact ⟨none,0,rfl,RdT.nil _ _ _,(by intro x hx; cases hx),fun _=>rfl,Nat.le_refl _,HP2.out⟩
  ·have HBB : Hid (r.bytes = (r2.rest.take n,0,⟨r2.rest.drop n,r2.bad⟩)):=by unfold Hid; rw [HB]; unfold Rdr.take; rw [if_neg (by rintro (h | h); rw [hbf] at h; cases h; exact hn h)]
   clear HB
   have hle : n ≤ r2.rest.length:=by omega
   go_enter Tryz.func157,Tryz.ntmps157
   go_wp2_with fail
   refine HC.out.mono ?_
   rintro e w1 ⟨rfl,hp⟩
   obtain ⟨A,c,hq,hr,hu,hok,hcc,hcm,hnn⟩:=hp.1
   obtain ⟨c0,c1,f0,f1⟩:=heap_cells hq
   have HK:=Lib.hid hp.2
   have hql:=lt_of_block hq
   have HQ:=Lib.hid hq
   have HR:=Lib.hid hr
   have HU:=Lib.hid hu
   have HNN:=Lib.hid hnn
   have HW : Hid (∀ W,Below w1.heap.size w1 W → ∀ D d,(c = n ∧ D = A ∧ d = 0) ∨ (c ≠ n ∧ D = A.map (fun x=>x.add n) ∧ d = c - n) → RdrPost 239 W q ⟨r2.rest.drop n,r2.bad⟩ (W.setCell ⟨q,0,none⟩ (.slice D (r2.rest.length - n) d))):=
    fun W hb D d hD=>RdrM.went (by decide) (belObj hb hq hql) (hr.below0 hb) hu hok hcc hcm hnn n hle D d hD
   have HLT : Hid ((r2.rest.take n).length = n):=by unfold Hid; simp; omega
   cases A with
   | none=>
     have hx:=hr.rd.qat_none
     have hl0 : r2.rest = []:=by
      cases h : r2.rest with
      | nil=>rfl
      | cons a b=>rw [h] at hx; simp at hx
     have hl0' : r2.rest.length = 0:=by rw [hl0]; rfl
     obtain rfl : n = 0:=by omega
     obtain rfl : c = 0:=hnn rfl
     have HB1 : Hid (Below w1.heap.size w1 (w1.alloc (.cells #[] 5))):=(Below.refl _ _).alloc (Nat.le_refl _) _
     have hww:=HW.out w1 (Below.refl _ _) none 0 (.inl ⟨rfl,rfl,rfl⟩)
     rw [show r2.rest.length - 0 = 0 by omega] at hww
     have HWW : Hid (RdrPost 239 w q ⟨r2.rest.drop 0,r2.bad⟩ ((w1.setCell ⟨q,0,none⟩ (.slice none 0 0)).alloc (.cells #[] 5))):=
      ⟨hww.1.below ((Below.refl _ _).alloc (Nat.le_refl _) _),(HK.out.trans hww.2 (fun _ _ h=>h)).alloc _⟩
     have HE : Hid (r2.rest.take 0 = []):=rfl
     clear hq hr hu hok hnn hp hl0 hx HW hww
     go_wp2
     go_ret2
     unfold TakePost
     rw [HBB.out]
     exact ⟨some ⟨w1.heap.size,0,none⟩,0,rfl,RdT.nil _ _ _,(by intro x hx; cases hx),(fun h=>by cases h),Nat.le_refl _,HWW.out⟩
   | some a=>
     have HAT:=Lib.hid (((take_mem hr n).rd.alloc (Nat.le_refl _) (.cells #[] 5)).qat_add)
     have hro:=World.ownsRow_lit (base:=w1.heap.size) (e:=5) (size:=1) w1 #[] 0 (Nat.le_refl _) (by decide) rfl
     clear hq hr hu hok hnn hp
     rw [← List.map_take] at HAT
     go_wp2_with (at_builtin; refine wpList_append_own _ rfl _ _ 26 rfl w1.heap.size 5 i0 _ 1 1 Tryz.underlying26 hi hz0 hz1 hz2 rfl (by decide) _ 0 [] rfl hro a n c ((r2.rest.take n).map (Value.int .u8)) rfl (by simp; omega) HAT.out (qbytes_one _) ?c1 ?c2 ?c3 ?_)
     case c1=>unfold maxLen; omega
     case c2=>omega
     case c3=>simp
     intro v' w' hown hgrow hiff
     try simp only [Nat.zero_add,List.nil_append] at hown
     obtain ⟨A',c',hv⟩:=own_form hown
     subst hv
     have HBL : Hid (Below w1.heap.size w1 w'):=((Below.refl _ _).alloc (Nat.le_refl _) _).grown hgrow (by simp) (fun k hk=>by simp [Value.ownBlock] at hk; omega)
     have g0:=(HBL.out.cell (p:=⟨q,0,none⟩) hql).trans c0
     have g1:=(bcell HBL.out).2 q 0 hql
     rw [f0] at g1
     have HCAP:=Lib.hid (own_cap0 hown)
     have HOT : Hid (RdT w' 5 A' ((r2.rest.take n).map (Value.int .u8))):=by unfold Hid; simp only [List.map_take] at hown ⊢; exact RdT.of_own hown
     have HFR : Hid (Free w' 5 (fun k=>k = q)):=Free.one (belObj HBL.out HQ.out hql) (by decide)
     clear hro hown hgrow hiff c0 c1 f0 f1
     by_cases hcn : c = n
     ·have HWW:=Lib.hid (HW.out w' HBL.out (some a) 0 (.inl ⟨hcn,rfl,rfl⟩))
      clear HW
      have hcn' : (c : Int) = n:=by omega
      go_wp2
      go_ret2
      unfold TakePost
      rw [HBB.out]
      refine ⟨A',c',?_,HOT.out.kept HWW.out.2 HFR.out,HU.out.take n,HCAP.out.2.2,?_,HWW.out.1,(HK.out.trans (belKept0 (S:=fun _=>False) HBL.out) (fun _ _ h=>h.elim)).trans HWW.out.2 (fun _ _ h=>h)⟩
      ·show _ = Ending.returned (.tuple #[.slice A' (r2.rest.take n).length c',.int .i64 0]); rw [HLT.out]; rfl
      ·have h:=HCAP.out.1; rw [HLT.out]; exact h
     ·have HWW:=Lib.hid (HW.out w' HBL.out (some (a.add n)) (c - n) (.inr ⟨hcn,rfl,rfl⟩))
      clear HW
      go_wp2
      go_ret2
      unfold TakePost
      rw [HBB.out]
      refine ⟨A',c',?_,HOT.out.kept HWW.out.2 HFR.out,HU.out.take n,HCAP.out.2.2,?_,HWW.out.1,(HK.out.trans (belKept0 (S:=fun _=>False) HBL.out) (fun _ _ h=>h.elim)).trans HWW.out.2 (fun _ _ h=>h)⟩
      ·show _ = Ending.returned (.tuple #[.slice A' (r2.rest.take n).length c',.int .i64 0]); rw [HLT.out]; rfl
      ·have h:=HCAP.out.1; rw [HLT.out]; exact h
 ·rw [if_neg (by decide)] at HB
  have HBB:=Lib.hid HB
  clear HB
  go_enter Tryz.func157,Tryz.ntmps157
  go_wp2_with fail
  refine HC.out.mono ?_
  rintro e w1 ⟨rfl,hp⟩
  have HP:=Lib.hid hp
  clear hp
  go_wp2
  go_ret2
  unfold TakePost
  rw [HBB.out]
  exact ⟨none,0,rfl,RdT.nil _ _ _,(by intro x hx; cases hx),fun _=>rfl,Nat.le_refl _,HP.out⟩
end Go.Proofs.YtaggiceejcegdaaGreat
namespace Go.Proofs.YtaggiceejcegdaaGreat
set_option linter.unusedVariables false
open Go.RowKit
theorem cells8 {w : World} {b : Nat} {v0 v1 v2 v3 v4 v5 v6 v7 : Value} {t : TypeId} (h : w.heap[b]? = some (.cells #[v0,v1,v2,v3,v4,v5,v6,v7] t (0,0))) : (w.cell? ⟨b,0,none⟩ = some v0 ∧ w.cell? ⟨b,1,none⟩ = some v1 ∧ w.cell? ⟨b,2,none⟩ = some v2 ∧ w.cell? ⟨b,3,none⟩ = some v3 ∧ w.cell? ⟨b,4,none⟩ = some v4 ∧ w.cell? ⟨b,5,none⟩ = some v5 ∧ w.cell? ⟨b,6,none⟩ = some v6 ∧ w.cell? ⟨b,7,none⟩ = some v7) ∧ (w.frozen? ⟨b,0,none⟩ = false ∧ w.frozen? ⟨b,1,none⟩ = false ∧ w.frozen? ⟨b,2,none⟩ = false ∧ w.frozen? ⟨b,3,none⟩ = false ∧ w.frozen? ⟨b,4,none⟩ = false ∧ w.frozen? ⟨b,5,none⟩ = false ∧ w.frozen? ⟨b,6,none⟩ = false ∧ w.frozen? ⟨b,7,none⟩ = false):=by
 refine ⟨⟨?_,?_,?_,?_,?_,?_,?_,?_⟩,⟨?_,?_,?_,?_,?_,?_,?_,?_⟩⟩ <;> first | (simp [World.cell?,h]; done) | simp [World.frozen?,h]
theorem RdrM.kept {ty : TypeId} {S : Nat → Prop} {w w' : World} {q : Nat} {r : Rdr} (h : RdrM ty w q r) (hk : Kept S w w') (hS : ¬ S q) (hf : Free w 5 S) : RdrM ty w' q r:=by
 obtain ⟨A,c,hq,hr,h2⟩:=h
 exact ⟨A,c,hk.obj hq hS,hr.kept hk hf,h2⟩
theorem kept8 (w : World) (b : Nat) (v0 v1 v2 v3 v4 v5 v6 v7 : Value) : Kept (fun k=>k = b) w ((((((((w.setCell ⟨b,0,none⟩ v0).setCell ⟨b,1,none⟩ v1).setCell ⟨b,2,none⟩ v2).setCell ⟨b,3,none⟩ v3).setCell ⟨b,4,none⟩ v4).setCell ⟨b,5,none⟩ v5).setCell ⟨b,6,none⟩ v6).setCell ⟨b,7,none⟩ v7):=by
 repeat' apply Kept.setCell
 all_goals first | exact Kept.refl _ _ | exact fun _=>rfl
def blkV (l : List Int) : Value:=.agg (l.map (Value.int .u8)).toArray
theorem list8 {l : List Int} (h : l.length = 8) : ∃ b0 b1 b2 b3 b4 b5 b6 b7,l = [b0,b1,b2,b3,b4,b5,b6,b7]:=by
 match l,h with
 | [b0,b1,b2,b3,b4,b5,b6,b7],_=>exact ⟨b0,b1,b2,b3,b4,b5,b6,b7,rfl⟩
def BlkPost (ty : TypeId) (w : World) (q : Nat) (r : Rdr) (e : Ending) (w' : World) : Prop:=e = .returned (.tuple #[blkV r.blk.1,.int .i64 r.blk.2.1]) ∧ RdrPost ty w q r.blk.2.2 w'
end Go.Proofs.YtaggiceejcegdaaGreat
namespace Go.Proofs.YtaggiceejcegdaaGreat
set_option linter.unusedVariables false
open Go.RowKit
theorem heap_setL {w : World} {q : Nat} {l : List Value} {ty : TypeId} (h : w.heap[q]? = some (.cells l.toArray ty (0,0))) (i : Nat) (u : Value) : (w.setCell ⟨q,i,none⟩ u).heap[q]? = some (.cells (l.set i u).toArray ty (0,0)):=by
 simp [World.setCell,Array.getElem?_modify,h]
theorem heap_atL {w : World} {q : Nat} {l : List Value} {ty : TypeId} (h : w.heap[q]? = some (.cells l.toArray ty (0,0))) {i : Nat} {u : Value} (hi : l[i]? = some u) : w.cell? ⟨q,i,none⟩ = some u ∧ w.frozen? ⟨q,i,none⟩ = false:=by
 refine ⟨by simp [World.cell?,h,hi],by simp [World.frozen?,h]⟩
def fill8 (l : List Int) (i : Nat) : List Value:=(l.take i ++ List.replicate (8 - i) 0).map (Value.int .u8)
theorem fill8_at {l : List Int} {i : Nat} (hl : 8 ≤ l.length) (hi : i < 8) : (fill8 l i)[i]? = some (.int .u8 0):=by
 unfold fill8
 rw [List.getElem?_map,List.getElem?_append_right (by rw [List.length_take]; omega),List.length_take,Nat.min_eq_left (by omega),Nat.sub_self,List.getElem?_replicate,if_pos (by omega)]
 rfl
theorem fill8_set {l : List Int} {i : Nat} (hl : 8 ≤ l.length) (hi : i < 8) : (fill8 l i).set i (.int .u8 l[i]) = fill8 l (i + 1):=by
 unfold fill8
 rw [← List.map_set,List.take_succ_eq_append_getElem (by omega),List.set_append_right _ _ (by rw [List.length_take]; omega),List.append_assoc]
 have : i - (l.take i).length = 0:=by rw [List.length_take]; omega
 rw [this]
 obtain ⟨k,hk⟩ : ∃ k,8 - i = k + 1:=⟨7 - i,by omega⟩
 rw [hk,List.replicate_succ,show 8 - (i + 1) = k by omega]
 rfl
set_option maxRecDepth 100000 in
set_option maxHeartbeats 1000000 in
theorem rblock_no {w : World} {q : Nat} {r : Rdr} (hlt : r.rest.length < 8) (h : RdrM 239 w q r) : Calls Tryz.prog 160 #[.pointer (some ⟨q,0,none⟩)] w (BlkPost 239 w q r):=by
 have hb0 : Below w.heap.size w ((w.alloc (.cells #[.int .u8 0,.int .u8 0,.int .u8 0,.int .u8 0,.int .u8 0,.int .u8 0,.int .u8 0,.int .u8 0] 149)).alloc (.cells #[.int .u8 0,.int .u8 0,.int .u8 0,.int .u8 0,.int .u8 0,.int .u8 0,.int .u8 0,.int .u8 0] 149)):=((Below.refl _ _).alloc (Nat.le_refl _) _).alloc (by simp) _
 have hql:=h.lt
 have hbk : r.blk = ([0,0,0,0,0,0,0,0],5,Rdr.fail):=by
  unfold Rdr.blk
  have : r.take 8 = ([],5,Rdr.fail):=by unfold Rdr.take; rw [if_pos (.inr hlt)]
  rw [this]; rfl
 have HBK:=Lib.hid hbk
 have HF:=Lib.hid (rfail_any (h.below hb0.drew))
 obtain ⟨A,c,hq,hr,hu,hok,hc,hcm,hnn⟩:=h
 obtain ⟨c0,c1,f0,f1⟩:=heap_cells hq
 clear hq hr hu hok hnn hbk
 go_enter Tryz.func160,Tryz.ntmps160
 go_wp2_with fail
 have HB0:=Lib.hid hb0
 have hO0 : Hid (((w.alloc (.cells #[.int .u8 0,.int .u8 0,.int .u8 0,.int .u8 0,.int .u8 0,.int .u8 0,.int .u8 0,.int .u8 0] 149)).alloc (.cells #[.int .u8 0,.int .u8 0,.int .u8 0,.int .u8 0,.int .u8 0,.int .u8 0,.int .u8 0,.int .u8 0] 149)).drew.heap[w.heap.size]? = some (.cells #[.int .u8 0,.int .u8 0,.int .u8 0,.int .u8 0,.int .u8 0,.int .u8 0,.int .u8 0,.int .u8 0] 149 (0,0))):=belObj ((Below.refl (w.heap.size + 1) _).alloc (by simp) _) (heap_alloc_new w (.cells #[.int .u8 0,.int .u8 0,.int .u8 0,.int .u8 0,.int .u8 0,.int .u8 0,.int .u8 0,.int .u8 0] 149)) (by simp)
 have hX0 : Hid (((w.alloc (.cells #[.int .u8 0,.int .u8 0,.int .u8 0,.int .u8 0,.int .u8 0,.int .u8 0,.int .u8 0,.int .u8 0] 149)).alloc (.cells #[.int .u8 0,.int .u8 0,.int .u8 0,.int .u8 0,.int .u8 0,.int .u8 0,.int .u8 0,.int .u8 0] 149)).drew.heap[w.heap.size + 1]? = some (.cells #[.int .u8 0,.int .u8 0,.int .u8 0,.int .u8 0,.int .u8 0,.int .u8 0,.int .u8 0,.int .u8 0] 149 (0,0))):=by
  have h:=heap_alloc_new (w.alloc (.cells #[.int .u8 0,.int .u8 0,.int .u8 0,.int .u8 0,.int .u8 0,.int .u8 0,.int .u8 0,.int .u8 0] 149)) (.cells #[.int .u8 0,.int .u8 0,.int .u8 0,.int .u8 0,.int .u8 0,.int .u8 0,.int .u8 0,.int .u8 0] 149)
  rw [World.size_alloc] at h; exact h
 clear hb0
 go_region_with (
  go_at_call 174
  refine HF.out.mono ?_
  rintro e w1 ⟨rfl,hp⟩
  have hgt : ¬ (w.heap.size = q):=by omega
  have hO:=hp.2.obj hO0.out hgt
  obtain ⟨⟨x0,x1,x2,x3,x4,x5,x6,x7⟩,⟨y0,y1,y2,y3,y4,y5,y6,y7⟩⟩:=cells8 hO
  have hX:=hp.2.obj hX0.out (show ¬ (w.heap.size + 1 = q) by omega)
  obtain ⟨⟨z0,z1,z2,z3,z4,z5,z6,z7⟩,_⟩:=cells8 hX
  have HK8:=Lib.hid (kept8 w1 w.heap.size (.int .u8 0) (.int .u8 0) (.int .u8 0) (.int .u8 0) (.int .u8 0) (.int .u8 0) (.int .u8 0) (.int .u8 0))
  have HP:=Lib.hid hp
  have HFR : Hid (Free w1 5 (fun k=>k = w.heap.size)):=Free.one hO (by decide)
  clear hp hO hX)
 all_goals (
  have hgt : ¬ (w.heap.size = q):=by omega
  have HF2 : Hid (RdrPost 239 w q r.blk.2.2 ((((((((w1.setCell ⟨w.heap.size,0,none⟩ (.int .u8 0)).setCell ⟨w.heap.size,1,none⟩ (.int .u8 0)).setCell ⟨w.heap.size,2,none⟩ (.int .u8 0)).setCell ⟨w.heap.size,3,none⟩ (.int .u8 0)).setCell ⟨w.heap.size,4,none⟩ (.int .u8 0)).setCell ⟨w.heap.size,5,none⟩ (.int .u8 0)).setCell ⟨w.heap.size,6,none⟩ (.int .u8 0)).setCell ⟨w.heap.size,7,none⟩ (.int .u8 0))):=by
   unfold Hid; rw [HBK.out]
   exact ⟨HP.out.1.kept HK8.out (fun h=>hgt h.symm) HFR.out,((belKept0 (S:=fun k=>k = q) HB0.out).drew.trans HP.out.2 (fun _ _ h=>h)).trans HK8.out (fun i hi h=>by have h' : i = w.heap.size:=h; omega)⟩
  go_wp2
  exact bodyPost_ret (by simp [results,Tryz.results160,go_sem, *]; rfl) rfl ⟨by rw [HBK.out]; rfl,HF2.out⟩)
set_option maxRecDepth 100000 in
set_option maxHeartbeats 1000000 in
theorem rblock_yes {w : World} {q : Nat} {r : Rdr} (hge : 8 ≤ r.rest.length) (h : RdrM 239 w q r) : Calls Tryz.prog 160 #[.pointer (some ⟨q,0,none⟩)] w (BlkPost 239 w q r):=by
 have hbad : r.bad = false:=by
  obtain ⟨_,_,_,_,_,hok,_⟩:=h
  cases hb : r.bad with
  | false=>rfl
  | true=>have:=hok hb; rw [this] at hge; simp at hge
 have hbk : r.blk = (r.rest.take 8,0,⟨r.rest.drop 8,r.bad⟩):=by
  unfold Rdr.blk
  have : r.take 8 = (r.rest.take 8,0,⟨r.rest.drop 8,r.bad⟩):=by unfold Rdr.take; rw [if_neg (by rw [hbad]; simp; omega)]
  rw [this]; rfl
 have HBK:=Lib.hid hbk
 have hql:=h.lt
 have HB0 : Hid (Below w.heap.size w ((w.alloc (.cells #[.int .u8 0,.int .u8 0,.int .u8 0,.int .u8 0,.int .u8 0,.int .u8 0,.int .u8 0,.int .u8 0] 149)).alloc (.cells #[.int .u8 0,.int .u8 0,.int .u8 0,.int .u8 0,.int .u8 0,.int .u8 0,.int .u8 0,.int .u8 0] 149))):=((Below.refl _ _).alloc (Nat.le_refl _) _).alloc (by simp) _
 have h0:=h.below HB0.out
 obtain ⟨A,c,hq,hr,hu,hok,hc,hcm,hnn⟩:=h0
 obtain ⟨c0,c1,f0,f1⟩:=heap_cells hq
 have HX0 : Hid (((w.alloc (.cells #[.int .u8 0,.int .u8 0,.int .u8 0,.int .u8 0,.int .u8 0,.int .u8 0,.int .u8 0,.int .u8 0] 149)).alloc (.cells #[.int .u8 0,.int .u8 0,.int .u8 0,.int .u8 0,.int .u8 0,.int .u8 0,.int .u8 0,.int .u8 0] 149)).heap[w.heap.size + 1]? = some (.cells #[.int .u8 0,.int .u8 0,.int .u8 0,.int .u8 0,.int .u8 0,.int .u8 0,.int .u8 0,.int .u8 0] 149 (0,0))):=by
  have h:=heap_alloc_new (w.alloc (.cells #[.int .u8 0,.int .u8 0,.int .u8 0,.int .u8 0,.int .u8 0,.int .u8 0,.int .u8 0,.int .u8 0] 149)) (.cells #[.int .u8 0,.int .u8 0,.int .u8 0,.int .u8 0,.int .u8 0,.int .u8 0,.int .u8 0,.int .u8 0] 149)
  rw [World.size_alloc] at h; exact h
 have HH:=Lib.hid h
 clear hr hu hok hnn hbk h
 go_enter Tryz.func160,Tryz.ntmps160
 go_wp2
 go_loopw [5] (fun s5 wr=>∃ i : Nat,i ≤ 8 ∧ s5 = .int .i64 i ∧ Hid (wr.heap[w.heap.size + 1]? = some (.cells (fill8 r.rest i).toArray 149 (0,0))) ∧ Hid (Below (w.heap.size + 1) ((w.alloc (.cells #[.int .u8 0,.int .u8 0,.int .u8 0,.int .u8 0,.int .u8 0,.int .u8 0,.int .u8 0,.int .u8 0] 149)).alloc (.cells #[.int .u8 0,.int .u8 0,.int .u8 0,.int .u8 0,.int .u8 0,.int .u8 0,.int .u8 0,.int .u8 0] 149)) wr)) (fun v _=>8 - (intOf v).toNat)
 case atStart=>exact ⟨0,by omega,rfl,HX0,Below.refl _ _⟩
 case round=>
  obtain ⟨i,hi,rfl,HX,HBR⟩:=hrel
  have d0:=(HBR.out.cell (p:=⟨q,0,none⟩) (by show q < _; omega)).trans c0
  have d1:=(HBR.out.cell (p:=⟨q,1,none⟩) (by show q < _; omega)).trans c1
  have g0:=(bcell HBR.out).2 q 0 (by omega)
  rw [f0] at g0
  have HRW : Hid (RdrM 239 wr q r):=by
   have hk : Kept (fun k=>k = w.heap.size + 1) ((w.alloc (.cells #[.int .u8 0,.int .u8 0,.int .u8 0,.int .u8 0,.int .u8 0,.int .u8 0,.int .u8 0,.int .u8 0] 149)).alloc (.cells #[.int .u8 0,.int .u8 0,.int .u8 0,.int .u8 0,.int .u8 0,.int .u8 0,.int .u8 0,.int .u8 0] 149)) wr:=(belKept HBR.out).more (fun i hi h=>by simp at hi; omega)
   exact (HH.out.below HB0.out).kept hk (show ¬ q = _ by omega) (Free.one HX0.out (by decide))
  by_cases h8 : i < 8
  ·obtain ⟨e0,e1⟩:=heap_atL HX.out (fill8_at hge h8)
   obtain ⟨A',c',hq',hr',_⟩:=HRW.out
   have hAA : A' = A ∧ c' = c:=by
    have:=(heap_cells hq').1.symm.trans d0
    simpa using this
   obtain ⟨rfl,rfl⟩:=hAA
   obtain ⟨g,o,rfl,_,hcell⟩:=byte_at hr'.rd (show i < r.rest.length by omega)
   have HX2 : Hid ((wr.setCell ⟨w.heap.size + 1,i,none⟩ (.int .u8 r.rest[i])).heap[w.heap.size + 1]? = some (.cells (fill8 r.rest (i + 1)).toArray 149 (0,0))):=by
    unfold Hid; rw [← fill8_set hge h8]; exact heap_setL HX.out _ _
   have HB2 : Hid (Below (w.heap.size + 1) ((w.alloc (.cells #[.int .u8 0,.int .u8 0,.int .u8 0,.int .u8 0,.int .u8 0,.int .u8 0,.int .u8 0,.int .u8 0] 149)).alloc (.cells #[.int .u8 0,.int .u8 0,.int .u8 0,.int .u8 0,.int .u8 0,.int .u8 0,.int .u8 0,.int .u8 0] 149)) (wr.setCell ⟨w.heap.size + 1,i,none⟩ (.int .u8 r.rest[i]))):=HBR.out.setCell (Nat.le_refl _) _
   clear hq' hr'
   generalize r.rest[i] = b at *
   go_wp2
   go_roundw
   case rel=>exact ⟨i + 1,by omega,by go_num,HX2,HB2⟩
   case measure=>simp [intOf]; omega
  ·obtain rfl : i = 8:=by omega
   have hfl : fill8 r.rest 8 = (r.rest.take 8).map (Value.int .u8):=by unfold fill8; simp
   have hl8 : (r.rest.take 8).length = 8:=by simp; omega
   have HX' : Hid (wr.heap[w.heap.size + 1]? = some (.cells ((r.rest.take 8).map (Value.int .u8)).toArray 149 (0,0))):=by unfold Hid; rw [← hfl]; exact HX.out
   obtain ⟨b0,b1,b2,b3,b4,b5,b6,b7,hb8⟩:=list8 hl8
   rw [hb8] at HX' HBK
   obtain ⟨⟨x0,x1,x2,x3,x4,x5,x6,x7⟩,_⟩:=cells8 HX'.out
   have hO : wr.heap[w.heap.size]? = some (.cells #[.int .u8 0,.int .u8 0,.int .u8 0,.int .u8 0,.int .u8 0,.int .u8 0,.int .u8 0,.int .u8 0] 149 (0,0)):=belObj HBR.out (by
    have h1:=heap_alloc_new w (.cells #[.int .u8 0,.int .u8 0,.int .u8 0,.int .u8 0,.int .u8 0,.int .u8 0,.int .u8 0,.int .u8 0] 149)
    have h2 : Below (w.heap.size + 1) (w.alloc (.cells #[.int .u8 0,.int .u8 0,.int .u8 0,.int .u8 0,.int .u8 0,.int .u8 0,.int .u8 0,.int .u8 0] 149)) ((w.alloc (.cells #[.int .u8 0,.int .u8 0,.int .u8 0,.int .u8 0,.int .u8 0,.int .u8 0,.int .u8 0,.int .u8 0] 149)).alloc (.cells #[.int .u8 0,.int .u8 0,.int .u8 0,.int .u8 0,.int .u8 0,.int .u8 0,.int .u8 0,.int .u8 0] 149)):=(Below.refl _ _).alloc (by simp) _
    exact belObj h2 h1 (by simp)) (by simp)
   obtain ⟨_,⟨y0,y1,y2,y3,y4,y5,y6,y7⟩⟩:=cells8 hO
   have hgt : ¬ (w.heap.size = q):=by omega
   have hgt1 : ¬ (w.heap.size + 1 = q):=by omega
   have hgt2 : ¬ (w.heap.size + 1 = w.heap.size):=by omega
   have HOO:=Lib.hid hO
   obtain ⟨A',c',hq',hr',hu',hok',hc',hcm',hnn'⟩:=HRW.out
   have hAA : A' = A ∧ c' = c:=by
    have:=(heap_cells hq').1.symm.trans d0
    simpa using this
   obtain ⟨rfl,rfl⟩:=hAA
   obtain ⟨g,o,rfl,_,_⟩:=byte_at hr'.rd (show 0 < r.rest.length by omega)
   have HW:=Lib.hid (fun D d hD=>RdrM.went (D:=D) (d:=d) (by decide) hq' hr' hu' hok' hc' hcm' hnn' 8 hge hD)
   clear hq' hr' hu' hok' hnn' hO hfl
   have HF : Hid (∀ D d,RdrPost 239 wr q ⟨r.rest.drop 8,r.bad⟩ (wr.setCell ⟨q,0,none⟩ (.slice D (r.rest.length - 8) d)) → RdrPost 239 w q r.blk.2.2 (((((((((wr.setCell ⟨q,0,none⟩ (.slice D (r.rest.length - 8) d)).setCell ⟨w.heap.size,0,none⟩ (.int .u8 b0)).setCell ⟨w.heap.size,1,none⟩ (.int .u8 b1)).setCell ⟨w.heap.size,2,none⟩ (.int .u8 b2)).setCell ⟨w.heap.size,3,none⟩ (.int .u8 b3)).setCell ⟨w.heap.size,4,none⟩ (.int .u8 b4)).setCell ⟨w.heap.size,5,none⟩ (.int .u8 b5)).setCell ⟨w.heap.size,6,none⟩ (.int .u8 b6)).setCell ⟨w.heap.size,7,none⟩ (.int .u8 b7))):=by
    unfold Hid
    intro D d h1
    rw [HBK.out]
    have hk8:=kept8 (wr.setCell ⟨q,0,none⟩ (.slice D (r.rest.length - 8) d)) w.heap.size (.int .u8 b0) (.int .u8 b1) (.int .u8 b2) (.int .u8 b3) (.int .u8 b4) (.int .u8 b5) (.int .u8 b6) (.int .u8 b7)
    have hO2:=h1.2.obj HOO.out hgt
    refine ⟨h1.1.kept hk8 (fun h=>hgt h.symm) (Free.one hO2 (by decide)),?_⟩
    have hb:=HB0.out.trans (HBR.out.mono (Nat.le_succ _))
    exact ((belKept0 (S:=fun k=>k = q) hb).trans h1.2 (fun _ _ h=>h)).trans hk8 (fun i hi h=>by have h' : i = w.heap.size:=h; omega)
   by_cases hcn : c' = 8
   ·have hww:=HW.out (some ⟨g,o,none⟩) 0 (.inl ⟨hcn,rfl,rfl⟩)
    have HF2:=Lib.hid (HF.out _ _ hww)
    have hl0 : r.rest.length - 8 = 0:=by omega
    rw [hl0] at HF2
    subst hcn
    clear HW hww HF
    go_wp2
    exact bodyPost_ret (by simp [results,Tryz.results160,go_sem, *]; rfl) rfl ⟨by rw [HBK.out]; rfl,HF2.out⟩
   ·have HF2:=Lib.hid (HF.out _ _ (HW.out (some ⟨g,o + 8,none⟩) (c' - 8) (.inr ⟨hcn,by rw [Option.map_some,add_off],rfl⟩)))
    clear HW HF
    go_wp2
    exact bodyPost_ret (by simp [results,Tryz.results160,go_sem, *]; rfl) rfl ⟨by rw [HBK.out]; rfl,HF2.out⟩
end Go.Proofs.YtaggiceejcegdaaGreat
namespace Go.Proofs.YtaggiceejcegdaaGreat
set_option linter.unusedVariables false
open Go.RowKit
structure PW where
 g : Int
 p : Int
 v : Nat
 d0 : Int
 d1 : Int
 d2 : Int
 d3 : Int
 d4 : Int
 d5 : Int
 d6 : Int
 d7 : Int
def PW.data (x : PW) : List Int:=[x.d0,x.d1,x.d2,x.d3,x.d4,x.d5,x.d6,x.d7]
def PW.cells (x : PW) : List Value:=[.int .i64 x.g,.int .i64 x.p,.int .u64 x.v,.int .u8 x.d0,.int .u8 x.d1,.int .u8 x.d2,.int .u8 x.d3,.int .u8 x.d4,.int .u8 x.d5,.int .u8 x.d6,.int .u8 x.d7]
structure Mv where
 g : Int
 p : Int
 k : Int
 b : Int
def Mv.cells (x : Mv) : List Value:=[.int .i64 x.g,.int .i64 x.p,.int .i64 x.k,.int .i64 x.b]
structure Rec where
 gen : Nat
 seq : Nat
 ws : List PW
 ms : List Mv
 note : List Int
structure PW.Ok (x : PW) : Prop where
 g : I64 x.g
 p : I64 x.p
 v : x.v < 2 ^ 64
 d : U8s x.data
structure Mv.Ok (x : Mv) : Prop where
 g : I64 x.g
 p : I64 x.p
 k : I64 x.k
 b : I64 x.b
structure Rec.Ok (r : Rec) : Prop where
 gen : r.gen < 2 ^ 64
 seq : r.seq < 2 ^ 64
 ws : ∀ x ∈ r.ws,x.Ok
 ms : ∀ x ∈ r.ms,x.Ok
 note : U8s r.note
def flatW (l : List PW) : List Value:=l.flatMap PW.cells
def flatM (l : List Mv) : List Value:=l.flatMap Mv.cells
theorem flatW_len (l : List PW) : (flatW l).length = l.length * 11:=flat_len _ 11 (fun _=>rfl) l
theorem flatM_len (l : List Mv) : (flatM l).length = l.length * 4:=flat_len _ 4 (fun _=>rfl) l
theorem Rd.flat {α : Type} {f : α → List Value} {n : Nat} (hf : ∀ a,(f a).length = n) (hn : 0 < n) {w : World} {B : Nat} {A : Option Addr} {l : List α} (h : Rd w B A (l.flatMap f)) {i : Nat} (hi : i < l.length) :
  ∃ g o,A = some ⟨g,o,none⟩ ∧ g < B ∧ ∀ t u,(f l[i])[t]? = some u → w.cell? ⟨g,o + i * n + t,none⟩ = some u:=by
 have e : ∀ t,t < n → (l.flatMap f)[i * n + t]? = (f l[i])[t]?:=fun t ht=>by
  rw [flat_get _ n hf l i t ht,List.getElem?_eq_getElem hi]; rfl
 obtain ⟨g,o,rfl,hg,_⟩:=h (i * n + 0) ((f l[i])[0]'(by rw [hf]; exact hn)) (by rw [e 0 hn]; exact List.getElem?_eq_getElem (by rw [hf]; exact hn))
 refine ⟨g,o,rfl,hg,fun t u hu=>?_⟩
 have ht : t < n:=by have:=(List.getElem?_eq_some_iff.1 hu).1; rw [hf] at this; exact this
 obtain ⟨g1,o1,e1,_,h1⟩:=h (i * n + t) u (by rw [e t ht]; exact hu)
 injection e1 with e1; injection e1 with e1 e2; subst e1; subst e2
 rw [Nat.add_assoc]; exact h1
theorem Rd.pw {w : World} {B : Nat} {A : Option Addr} {l : List PW} (h : Rd w B A (flatW l)) {i : Nat} (hi : i < l.length) :
  ∃ g o,A = some ⟨g,o,none⟩ ∧ g < B ∧ w.cell? ⟨g,o + i * 11,none⟩ = some (.int .i64 (l[i]).g) ∧ w.cell? ⟨g,o + i * 11 + 1,none⟩ = some (.int .i64 (l[i]).p) ∧ w.cell? ⟨g,o + i * 11 + 2,none⟩ = some (.int .u64 (l[i]).v) ∧ w.cell? ⟨g,o + i * 11 + 3,none⟩ = some (.int .u8 (l[i]).d0) ∧ w.cell? ⟨g,o + i * 11 + 4,none⟩ = some (.int .u8 (l[i]).d1) ∧ w.cell? ⟨g,o + i * 11 + 5,none⟩ = some (.int .u8 (l[i]).d2) ∧ w.cell? ⟨g,o + i * 11 + 6,none⟩ = some (.int .u8 (l[i]).d3) ∧ w.cell? ⟨g,o + i * 11 + 7,none⟩ = some (.int .u8 (l[i]).d4) ∧ w.cell? ⟨g,o + i * 11 + 8,none⟩ = some (.int .u8 (l[i]).d5) ∧ w.cell? ⟨g,o + i * 11 + 9,none⟩ = some (.int .u8 (l[i]).d6) ∧ w.cell? ⟨g,o + i * 11 + 10,none⟩ = some (.int .u8 (l[i]).d7):=by
 obtain ⟨g,o,e,hg,hc⟩:=Rd.flat (n:=11) (fun _=>rfl) (by decide) h hi
 exact ⟨g,o,e,hg,hc 0 _ rfl,hc 1 _ rfl,hc 2 _ rfl,hc 3 _ rfl,hc 4 _ rfl,hc 5 _ rfl,hc 6 _ rfl,hc 7 _ rfl,hc 8 _ rfl,hc 9 _ rfl,hc 10 _ rfl⟩
theorem Rd.mv {w : World} {B : Nat} {A : Option Addr} {l : List Mv} (h : Rd w B A (flatM l)) {i : Nat} (hi : i < l.length) :
  ∃ g o,A = some ⟨g,o,none⟩ ∧ g < B ∧ w.cell? ⟨g,o + i * 4,none⟩ = some (.int .i64 (l[i]).g) ∧ w.cell? ⟨g,o + i * 4 + 1,none⟩ = some (.int .i64 (l[i]).p) ∧ w.cell? ⟨g,o + i * 4 + 2,none⟩ = some (.int .i64 (l[i]).k) ∧ w.cell? ⟨g,o + i * 4 + 3,none⟩ = some (.int .i64 (l[i]).b):=by
 obtain ⟨g,o,e,hg,hc⟩:=Rd.flat (n:=4) (fun _=>rfl) (by decide) h hi
 exact ⟨g,o,e,hg,hc 0 _ rfl,hc 1 _ rfl,hc 2 _ rfl,hc 3 _ rfl⟩
def pieceB (g p : Int) : Bool:=decide (0 ≤ g) && decide (g < 4096) && decide (0 ≤ p) && decide (p < 16)
def placeB (k b : Int) : Bool:=if k = -1 then b == 0 else decide (0 ≤ k) && decide (k < 60) && decide (0 ≤ b) && decide (b < 65536)
def PW.ok (x : PW) : Bool:=pieceB x.g x.p
def Mv.ok (x : Mv) : Bool:=pieceB x.g x.p && placeB x.k x.b
def wsB (l : List PW) : Bool:=l.all PW.ok
def msB (l : List Mv) : Bool:=l.all Mv.ok
def validR (r : Rec) : Bool:=decide (1 ≤ r.seq) && decide (r.ws.length ≤ 64) && decide (r.ms.length ≤ 64) && decide (r.note.length ≤ 256) && wsB r.ws && msB r.ms
theorem all_take {α : Type} {f : α → Bool} {l : List α} {k : Nat} (h : k < l.length) : (l.take (k + 1)).all f = ((l.take k).all f && f l[k]):=by
 rw [List.take_succ_eq_append_getElem h,List.all_append]; simp
theorem all_bad {α : Type} {f : α → Bool} {l : List α} {k : Nat} (h : k < l.length) (hb : f l[k] = false) : l.all f = false:=by
 rw [List.all_eq_false]
 exact ⟨_,List.getElem_mem h,by simp [hb]⟩
def PW.enc (x : PW) : List Int:=uintB x.g.toNat ++ uintB x.p.toNat ++ uintB x.v ++ x.data
def Mv.enc (x : Mv) : List Int:=uintB x.g.toNat ++ uintB x.p.toNat ++ uintB (zigN x.k) ++ uintB x.b.toNat
def wsE (l : List PW) : List Int:=l.flatMap PW.enc
def msE (l : List Mv) : List Int:=l.flatMap Mv.enc
def payR (r : Rec) : List Int:=uintB r.gen ++ uintB r.seq ++ uintB r.ws.length ++ wsE r.ws ++ uintB r.ms.length ++ msE r.ms ++ uintB r.note.length ++ r.note
theorem wsE_take {l : List PW} {k : Nat} (h : k < l.length) : wsE (l.take (k + 1)) = wsE (l.take k) ++ (l[k]).enc:=by
 unfold wsE; rw [List.take_succ_eq_append_getElem h,List.flatMap_append]; simp
theorem msE_take {l : List Mv} {k : Nat} (h : k < l.length) : msE (l.take (k + 1)) = msE (l.take k) ++ (l[k]).enc:=by
 unfold msE; rw [List.take_succ_eq_append_getElem h,List.flatMap_append]; simp
theorem flatMap_le {α : Type} (f : α → List Int) (n : Nat) (h : ∀ a,(f a).length ≤ n) (l : List α) : (l.flatMap f).length ≤ l.length * n:=by
 induction l with
 | nil=>simp
 | cons a l ih=>
   rw [List.flatMap_cons,List.length_append,List.length_cons,Nat.add_mul]
   have:=h a
   omega
theorem PW.enc_len (x : PW) : x.enc.length ≤ 38:=by
 unfold PW.enc PW.data
 have h1:=uintB_len x.g.toNat; have h2:=uintB_len x.p.toNat; have h3:=uintB_len x.v
 simp; omega
theorem Mv.enc_len (x : Mv) : x.enc.length ≤ 40:=by
 unfold Mv.enc
 have h1:=uintB_len x.g.toNat; have h2:=uintB_len x.p.toNat; have h3:=uintB_len (zigN x.k); have h4:=uintB_len x.b.toNat
 simp; omega
theorem wsE_len (l : List PW) : (wsE l).length ≤ l.length * 38:=flatMap_le _ _ PW.enc_len l
theorem msE_len (l : List Mv) : (msE l).length ≤ l.length * 40:=flatMap_le _ _ Mv.enc_len l
theorem u8_append {xs ys : List Int} (h : U8s xs) (k : U8s ys) : U8s (xs ++ ys):=fun x hx=>by
 rcases List.mem_append.1 hx with hx | hx
 ·exact h x hx
 ·exact k x hx
theorem u8_uintB (n : Nat) : U8s (uintB n):=uintB_u8 n
theorem u8_flat {α : Type} {f : α → List Int} {l : List α} (h : ∀ a ∈ l,U8s (f a)) : U8s (l.flatMap f):=fun x hx=>by
 obtain ⟨a,ha,hx⟩:=List.mem_flatMap.1 hx
 exact h a ha x hx
theorem PW.enc_u8 {x : PW} (h : x.Ok) : U8s x.enc:=u8_append (u8_append (u8_append (u8_uintB _) (u8_uintB _)) (u8_uintB _)) h.d
theorem Mv.enc_u8 (x : Mv) : U8s x.enc:=u8_append (u8_append (u8_append (u8_uintB _) (u8_uintB _)) (u8_uintB _)) (u8_uintB _)
theorem payR_u8 {r : Rec} (h : r.Ok) : U8s (payR r):=
 u8_append (u8_append (u8_append (u8_append (u8_append (u8_append (u8_append (u8_uintB _) (u8_uintB _)) (u8_uintB _)) (u8_flat fun a ha=>PW.enc_u8 (h.ws a ha))) (u8_uintB _)) (u8_flat fun a _=>Mv.enc_u8 a)) (u8_uintB _)) h.note
structure Vld (r : Rec) : Prop where
 seq : 1 ≤ r.seq
 nw : r.ws.length ≤ 64
 nm : r.ms.length ≤ 64
 nn : r.note.length ≤ 256
 ws : ∀ x ∈ r.ws,0 ≤ x.g ∧ x.g < 4096 ∧ 0 ≤ x.p ∧ x.p < 16
 ms : ∀ x ∈ r.ms,(0 ≤ x.g ∧ x.g < 4096 ∧ 0 ≤ x.p ∧ x.p < 16) ∧ -1 ≤ x.k ∧ x.k < 60 ∧ 0 ≤ x.b ∧ x.b < 65536
theorem validR_vld {r : Rec} (h : validR r = true) : Vld r:=by
 unfold validR wsB msB at h
 simp only [Bool.and_eq_true,decide_eq_true_eq,List.all_eq_true] at h
 obtain ⟨⟨⟨⟨⟨h1,h2⟩,h3⟩,h4⟩,h5⟩,h6⟩:=h
 refine ⟨h1,h2,h3,h4,fun x hx=>?_,fun x hx=>?_⟩
 ·have:=h5 x hx
  unfold PW.ok pieceB at this
  simp only [Bool.and_eq_true,decide_eq_true_eq] at this
  omega
 ·have:=h6 x hx
  unfold Mv.ok pieceB placeB at this
  simp only [Bool.and_eq_true,decide_eq_true_eq] at this
  obtain ⟨⟨⟨⟨a1,a2⟩,a3⟩,a4⟩,a5⟩:=this
  refine ⟨⟨a1,a2,a3,a4⟩,?_⟩
  split at a5
  ·simp at a5; omega
  ·simp only [Bool.and_eq_true,decide_eq_true_eq] at a5; omega
theorem payR_len {r : Rec} (h : Vld r) : (payR r).length ≤ 6000:=by
 unfold payR
 have h1:=wsE_len r.ws; have h2:=msE_len r.ms
 have u1:=uintB_len r.gen; have u2:=uintB_len r.seq; have u3:=uintB_len r.ws.length; have u4:=uintB_len r.ms.length; have u5:=uintB_len r.note.length
 have:=h.nw; have:=h.nm; have:=h.nn
 simp only [List.length_append]
 omega
structure RecR (w : World) (B : Nat) (r : Rec) (A : Option Addr) (c : Nat) (D : Option Addr) (d : Nat) (N : Option Addr) (n : Nat) : Prop where
 ws : Rd w B A (flatW r.ws)
 ms : Rd w B D (flatM r.ms)
 note : Rd w B N (r.note.map (Value.int .u8))
theorem RecR.below {w w' : World} {B C : Nat} {r : Rec} {A D N : Option Addr} {c d n : Nat} (h : RecR w B r A c D d N n) (hb : Below C w w') (hC : B ≤ C) : RecR w' B r A c D d N n:=⟨h.ws.below hb hC,h.ms.below hb hC,h.note.below hb hC⟩
theorem RecR.more {w : World} {B B' : Nat} {r : Rec} {A D N : Option Addr} {c d n : Nat} (h : RecR w B r A c D d N n) (hB : B ≤ B') : RecR w B' r A c D d N n:=⟨h.ws.more hB,h.ms.more hB,h.note.more hB⟩
theorem RecR.up {w w' : World} {r : Rec} {A D N : Option Addr} {c d n : Nat} (h : RecR w w.heap.size r A c D d N n) (hb : Below w.heap.size w w') : RecR w' w'.heap.size r A c D d N n:=(h.below hb (Nat.le_refl _)).more hb.size
end Go.Proofs.YtaggiceejcegdaaGreat
namespace Go.Proofs.YtaggiceejcegdaaGreat
set_option linter.unusedVariables false
open Go.RowKit
set_option maxHeartbeats 400000 in
theorem piece_any (g p : Int) (w : World) : Calls Tryz.prog 124 #[.int .i64 g,.int .i64 p] w fun e w'=>e = .returned (.bool (pieceB g p)) ∧ w = w':=by
 cases hb : pieceB g p
 ·unfold pieceB at hb
  simp only [Bool.and_eq_false_iff,decide_eq_false_iff_not] at hb
  by_cases h0 : 0 ≤ g
  ·by_cases h1 : g < 4096
   ·by_cases h2 : 0 ≤ p
    ·have h3 : ¬ (p < 16):=by omega
     clear hb
     go_enter Tryz.func124,Tryz.ntmps124
     go_wp2
     go_ret
     exact ⟨rfl,rfl⟩
    ·clear hb
     go_enter Tryz.func124,Tryz.ntmps124
     go_wp2
     go_ret
     exact ⟨rfl,rfl⟩
   ·clear hb
    go_enter Tryz.func124,Tryz.ntmps124
    go_wp2
    go_ret
    exact ⟨rfl,rfl⟩
  ·clear hb
   go_enter Tryz.func124,Tryz.ntmps124
   go_wp2
   go_ret
   exact ⟨rfl,rfl⟩
 ·unfold pieceB at hb
  simp only [Bool.and_eq_true,decide_eq_true_eq] at hb
  obtain ⟨⟨⟨h0,h1⟩,h2⟩,h3⟩:=hb
  go_enter Tryz.func124,Tryz.ntmps124
  go_wp2
  go_ret
  exact ⟨rfl,rfl⟩
set_option maxHeartbeats 400000 in
theorem place_any (k b : Int) (w : World) : Calls Tryz.prog 125 #[.agg #[.int .i64 k,.int .i64 b]] w fun e w'=>e = .returned (.bool (placeB k b)) ∧ Below w.heap.size w w':=by
 have hbl : Below w.heap.size w (w.alloc (.cells #[.int .i64 k,.int .i64 b] 154)):=(Below.refl _ _).alloc (Nat.le_refl _) _
 have HB:=Lib.hid hbl
 clear hbl
 by_cases hk : k = -1
 ·subst hk
  by_cases h : b = 0
  ·subst h
   have HP : Hid (placeB (-1) 0 = true):=by unfold Hid placeB; first | (simp; omega) | (simp [*]; done) | (simp [*]; omega)
   go_enter Tryz.func125,Tryz.ntmps125
   go_wp2
   go_ret
   exact ⟨by rw [HP.out]; rfl,HB.out⟩
  ·have h' : (b == 0) = false:=by simpa using h
   have HP : Hid (placeB (-1) b = false):=by unfold Hid placeB; first | (simp; omega) | (simp [*]; done) | (simp [*]; omega)
   go_enter Tryz.func125,Tryz.ntmps125
   go_wp2
   go_ret
   exact ⟨by rw [HP.out]; rfl,HB.out⟩
 ·have hk' : (k == -1) = false:=by simpa using hk
  by_cases h0 : 0 ≤ k
  ·by_cases h1 : k < 60
   ·by_cases h2 : 0 ≤ b
    ·by_cases h3 : b < 65536
     ·have HP : Hid (placeB k b = true):=by unfold Hid placeB; first | (simp; omega) | (simp [*]; done) | (simp [*]; omega)
      go_enter Tryz.func125,Tryz.ntmps125
      go_wp2
      go_ret
      exact ⟨by rw [HP.out]; rfl,HB.out⟩
     ·have HP : Hid (placeB k b = false):=by unfold Hid placeB; first | (simp; omega) | (simp [*]; done) | (simp [*]; omega)
      go_enter Tryz.func125,Tryz.ntmps125
      go_wp2
      go_ret
      exact ⟨by rw [HP.out]; rfl,HB.out⟩
    ·have HP : Hid (placeB k b = false):=by unfold Hid placeB; first | (simp; omega) | (simp [*]; done) | (simp [*]; omega)
     go_enter Tryz.func125,Tryz.ntmps125
     go_wp2
     go_ret
     exact ⟨by rw [HP.out]; rfl,HB.out⟩
   ·have HP : Hid (placeB k b = false):=by unfold Hid placeB; first | (simp; omega) | (simp [*]; done) | (simp [*]; omega)
    go_enter Tryz.func125,Tryz.ntmps125
    go_wp2
    go_ret
    exact ⟨by rw [HP.out]; rfl,HB.out⟩
  ·have HP : Hid (placeB k b = false):=by unfold Hid placeB; first | (simp; omega) | (simp [*]; done) | (simp [*]; omega)
   go_enter Tryz.func125,Tryz.ntmps125
   go_wp2
   go_ret
   exact ⟨by rw [HP.out]; rfl,HB.out⟩
def withinB (n lo hi : Int) : Bool:=decide (lo ≤ n) && decide (n ≤ hi)
set_option maxHeartbeats 400000 in
theorem qwithin_any (n lo hi : Int) (w : World) : Calls Tryz.prog 104 #[.int .i64 n,.int .i64 lo,.int .i64 hi] w fun e w'=>e = .returned (.bool (withinB n lo hi)) ∧ w = w':=by
 by_cases h0 : lo ≤ n
 ·by_cases h1 : n ≤ hi
  ·have HP : Hid (withinB n lo hi = true):=by unfold Hid withinB; first | (simp [*]; done) | (simp; omega)
   go_enter Tryz.func104,Tryz.ntmps104
   go_wp2
   go_ret
   exact ⟨by rw [HP.out]; rfl,rfl⟩
  ·have HP : Hid (withinB n lo hi = false):=by unfold Hid withinB; first | (simp [*]; done) | (simp; omega)
   go_enter Tryz.func104,Tryz.ntmps104
   go_wp2
   go_ret
   exact ⟨by rw [HP.out]; rfl,rfl⟩
 ·have HP : Hid (withinB n lo hi = false):=by unfold Hid withinB; first | (simp [*]; done) | (simp; omega)
  go_enter Tryz.func104,Tryz.ntmps104
  go_wp2
  go_ret
  exact ⟨by rw [HP.out]; rfl,rfl⟩
end Go.Proofs.YtaggiceejcegdaaGreat
namespace Go.Proofs.YtaggiceejcegdaaGreat
set_option linter.unusedVariables false
open Go.RowKit
def validHead (r : Rec) : Bool:=decide (1 ≤ r.seq) && decide (r.ws.length ≤ 64) && decide (r.ms.length ≤ 64) && decide (r.note.length ≤ 256)
theorem validR_head (r : Rec) : validR r = (validHead r && wsB r.ws && msB r.ms):=rfl
set_option maxRecDepth 100000 in
set_option maxHeartbeats 1000000 in
theorem rvalid_any (r : Rec) (A D N : Option Addr) (c d n : Nat) (w : World) (h : RecR w w.heap.size r A c D d N n) (hw : r.ws.length ≤ 9223372036854775807) (hm : r.ms.length ≤ 9223372036854775807) (hn : r.note.length ≤ 9223372036854775807) :
  Calls Tryz.prog 83 #[.agg #[.int .u64 r.gen,.int .u64 r.seq,.slice A r.ws.length c,.slice D r.ms.length d,.slice N r.note.length n]] w fun e w'=>e = .returned (.bool (validR r)) ∧ Below w.heap.size w w':=by
 have HB : Hid (∀ W,Below (w.heap.size + 1) (w.alloc (.cells #[.int .u64 r.gen,.int .u64 r.seq,.slice A r.ws.length c,.slice D r.ms.length d,.slice N r.note.length n] 28)) W → Below w.heap.size w W):=fun W hW=>((Below.refl w.heap.size w).alloc (Nat.le_refl _) _).trans (hW.mono (by omega))
 have HP0 : Hid (∀ W,Below (w.heap.size + 1) (w.alloc (.cells #[.int .u64 r.gen,.int .u64 r.seq,.slice A r.ws.length c,.slice D r.ms.length d,.slice N r.note.length n] 28)) W → Cells5 W w.heap.size (.int .u64 r.gen) (.int .u64 r.seq) (.slice A r.ws.length c) (.slice D r.ms.length d) (.slice N r.note.length n)):=fun W hW=>(Cells5.new w 28 _ _ _ _ _).below hW (by simp)
 have HH:=Lib.hid h
 clear h
 have HV0:=Lib.hid (validR_head r)
 by_cases h1 : 1 ≤ r.seq
 ·by_cases h2 : r.ws.length ≤ 64
  ·by_cases h3 : r.ms.length ≤ 64
   ·by_cases h4 : r.note.length ≤ 256
    ·have HV : Hid (validR r = (wsB r.ws && msB r.ms)):=by unfold Hid; rw [HV0.out]; unfold validHead; simp [h1,h2,h3,h4]
     have b1 : decide ((r.seq : Int) < 1) = false:=by simp; omega
     have b2 : decide ((64 : Int) < r.ws.length) = false:=by simp; omega
     have b3 : decide ((64 : Int) < r.ms.length) = false:=by simp; omega
     have b4 : decide ((256 : Int) < r.note.length) = false:=by simp; omega
     clear HV0 hw hm hn
     go_enter Tryz.func83,Tryz.ntmps83
     go_wp2
     go_loopw [31] (fun v wr=>∃ k : Nat,k ≤ r.ws.length ∧ v = .int .i64 k ∧ Hid (wsB (r.ws.take k) = true) ∧ Hid (Below (w.heap.size + 1) (w.alloc (.cells #[.int .u64 r.gen,.int .u64 r.seq,.slice A r.ws.length c,.slice D r.ms.length d,.slice N r.note.length n] 28)) wr)) (fun v _=>r.ws.length - (intOf v).toNat)
     case atStart=>exact ⟨0,Nat.zero_le _,rfl,rfl,Below.refl _ _⟩
     case round=>
      obtain ⟨k,hk,rfl,HK,HBR⟩:=hrel
      have HB2 : Hid (∀ o,Below (w.heap.size + 1) (w.alloc (.cells #[.int .u64 r.gen,.int .u64 r.seq,.slice A r.ws.length c,.slice D r.ms.length d,.slice N r.note.length n] 28)) (wr.alloc o)):=fun o=>HBR.out.alloc (by have:=HBR.out.size; simp at this; omega) o
      by_cases hlt : k < r.ws.length
      ·obtain ⟨ga,oa,rfl,hga,j0,j1,j2,j3,j4,j5,j6,j7,j8,j9,j10⟩:=(HH.out.below (HB.out _ HBR.out) (Nat.le_refl _)).ws.pw hlt
       have HT:=Lib.hid (all_take (f:=PW.ok) hlt)
       cases hp : pieceB r.ws[k].g r.ws[k].p
       ·have HF : Hid (validR r = false):=by
         unfold Hid; rw [HV.out]; unfold wsB; rw [all_bad (f:=PW.ok) hlt hp]; rfl
        go_wp2_with fail
        refine (piece_any _ _ _).mono ?_
        rintro e w' ⟨rfl,rfl⟩
        rw [hp]
        clear hp
        go_wp2
        go_ret
        exact ⟨by rw [HF.out]; rfl,HB.out _ (HBR.out.alloc (by have:=HBR.out.size; simp at this; omega) _)⟩
       ·have HK2 : Hid (wsB (r.ws.take (k + 1)) = true):=by
         unfold Hid wsB; rw [HT.out]; have h1:=HK.out; unfold wsB at h1; rw [h1]; exact hp
        go_wp2_with fail
        refine (piece_any _ _ _).mono ?_
        rintro e w' ⟨rfl,rfl⟩
        rw [hp]
        clear hp
        go_wp2
        go_roundw
        case rel=>exact ⟨k + 1,by omega,by go_num,HK2,HB2.out _⟩
        case measure=>simp [intOf]; omega
      ·obtain rfl : k = r.ws.length:=by omega
       have HW : Hid (validR r = msB r.ms):=by
        unfold Hid; rw [HV.out]; have h1:=HK.out; rw [List.take_length] at h1; rw [h1]; rfl
       have PB:=HP0.out _ HBR.out
       have q2:=PB.c3
       clear PB
       go_wp2
       clear q2
       rename World=>w1
       go_loopw [45] (fun v wr=>∃ k : Nat,k ≤ r.ms.length ∧ v = .int .i64 k ∧ Hid (msB (r.ms.take k) = true) ∧ Hid (Below (w.heap.size + 1) (w.alloc (.cells #[.int .u64 r.gen,.int .u64 r.seq,.slice A r.ws.length c,.slice D r.ms.length d,.slice N r.note.length n] 28)) wr)) (fun v _=>r.ms.length - (intOf v).toNat)
       case atStart=>exact ⟨0,Nat.zero_le _,rfl,rfl,HBR⟩
       case round=>
        obtain ⟨k,hk,rfl,HK,HBS⟩:=hrel
        have HB3 : Hid (∀ o W,Below (w.heap.size + 1) (wr.alloc o) W → Below (w.heap.size + 1) (w.alloc (.cells #[.int .u64 r.gen,.int .u64 r.seq,.slice A r.ws.length c,.slice D r.ms.length d,.slice N r.note.length n] 28)) W):=fun o W hW=>(HBS.out.alloc (by have:=HBS.out.size; simp at this; omega) o).trans hW
        have HSZ : Hid (w.heap.size + 1 ≤ wr.heap.size):=by have:=HBS.out.size; simp at this; unfold Hid; omega
        by_cases hlt : k < r.ms.length
        ·obtain ⟨ga,oa,rfl,hga,j0,j1,j2,j3⟩:=(HH.out.below (HB.out _ HBS.out) (Nat.le_refl _)).ms.mv hlt
         have HT:=Lib.hid (all_take (f:=Mv.ok) hlt)
         cases hp : pieceB r.ms[k].g r.ms[k].p
         ·have HF : Hid (validR r = false):=by
           unfold Hid; rw [HW.out]; unfold msB; rw [all_bad (f:=Mv.ok) hlt (by unfold Mv.ok; rw [hp]; rfl)]
          go_wp2_with fail
          refine (piece_any _ _ _).mono ?_
          rintro e w' ⟨rfl,rfl⟩
          rw [hp]
          clear hp
          go_wp2
          go_ret
          exact ⟨by rw [HF.out]; rfl,HB.out _ (HB3.out _ _ (Below.refl _ _))⟩
         ·cases hq : placeB r.ms[k].k r.ms[k].b
          ·have HF : Hid (validR r = false):=by
            unfold Hid; rw [HW.out]; unfold msB; rw [all_bad (f:=Mv.ok) hlt (by unfold Mv.ok; rw [hp,hq]; rfl)]
           go_wp2_with fail
           refine (piece_any _ _ _).mono ?_
           rintro e w' ⟨rfl,rfl⟩
           rw [hp]
           clear hp
           go_wp2_with fail
           refine (place_any _ _ _).mono ?_
           rintro e w' ⟨rfl,hb⟩
           rw [hq]
           clear hq
           have HF2:=Lib.hid (HB.out _ (HB3.out _ _ (hb.mono (by simp; have:=HSZ.out; omega))))
           clear hb
           go_wp2
           go_ret
           exact ⟨by rw [HF.out]; rfl,HF2.out⟩
          ·have HK2 : Hid (msB (r.ms.take (k + 1)) = true):=by
            unfold Hid msB; rw [HT.out]; have h1:=HK.out; unfold msB at h1; rw [h1]; unfold Mv.ok; rw [hp,hq]; rfl
           go_wp2_with fail
           refine (piece_any _ _ _).mono ?_
           rintro e w' ⟨rfl,rfl⟩
           rw [hp]
           clear hp
           go_wp2_with fail
           refine (place_any _ _ _).mono ?_
           rintro e w' ⟨rfl,hb⟩
           rw [hq]
           clear hq
           have HF2:=Lib.hid (HB3.out _ _ (hb.mono (by simp; have:=HSZ.out; omega)))
           clear hb
           go_wp2
           go_roundw
           case rel=>exact ⟨k + 1,by omega,by go_num,HK2,HF2⟩
           case measure=>simp [intOf]; omega
        ·obtain rfl : k = r.ms.length:=by omega
         have HF : Hid (validR r = true):=by
          unfold Hid; rw [HW.out]; have h1:=HK.out; rw [List.take_length] at h1; exact h1
         go_wp2
         go_ret
         exact ⟨by rw [HF.out]; rfl,HB.out _ HBS.out⟩
    ·have HV : Hid (validR r = false):=by unfold Hid; rw [HV0.out]; unfold validHead; simp [h4]
     clear HV0
     go_enter Tryz.func83,Tryz.ntmps83
     go_wp2
     go_ret
     exact ⟨by rw [HV.out]; rfl,HB.out _ (Below.refl _ _)⟩
   ·have HV : Hid (validR r = false):=by unfold Hid; rw [HV0.out]; unfold validHead; simp [h3]
    clear HV0
    go_enter Tryz.func83,Tryz.ntmps83
    go_wp2
    go_ret
    exact ⟨by rw [HV.out]; rfl,HB.out _ (Below.refl _ _)⟩
  ·have HV : Hid (validR r = false):=by unfold Hid; rw [HV0.out]; unfold validHead; simp [h2]
   clear HV0
   go_enter Tryz.func83,Tryz.ntmps83
   go_wp2
   go_ret
   exact ⟨by rw [HV.out]; rfl,HB.out _ (Below.refl _ _)⟩
 ·have HV : Hid (validR r = false):=by unfold Hid; rw [HV0.out]; unfold validHead; simp [h1]
  clear HV0
  go_enter Tryz.func83,Tryz.ntmps83
  go_wp2
  go_ret
  exact ⟨by rw [HV.out]; rfl,HB.out _ (Below.refl _ _)⟩
end Go.Proofs.YtaggiceejcegdaaGreat
