/-
  WHAT IS SHOWN: more: what parse of record returns. Conditions: as each theorem names them.
-/
import Derived.Test.YtaggiceejcegdaaGreatNc35
import Derived.BigQuiet
import Derived.ChangeKeysEq
import Derived.ChangeOld
import Derived.Deep.AppendLies
import Derived.Deep.DeepCutAuto
import Derived.Deep.Draws
import Derived.Deep.Fields
import Derived.Deep.QuietTactic
import Derived.Deep.RegionHeld3
import Derived.Deep.RegionLaw
import Derived.Deep.Slices
import Derived.Handy
import Derived.Laws.AppendOwnNone
import Derived.Laws.BytesArg
import Derived.Laws.Cover3
import Derived.Laws.MakeOwn
import Derived.Laws.OwnMore
import Derived.Laws.Rows
import Derived.Lib.ConvBytes
import Derived.Lib.Hide
import Derived.Lib.SmallJoins
import Derived.Lib.VarintBits
import Derived.Lib.Zigzag
import Derived.LoopIn
import Derived.LoopNIn
import Derived.Maps.AppendAt
import Derived.OpenShut
import Derived.OwnWalkIn
import Derived.ProofKit
import Derived.RangeFuncBox
import Derived.RangeFuncLeaves
import Derived.Shelf.Abstract
import Derived.Sort.QuietIn
import Derived.TacticsInMore
import Derived.WalkKit
import Derived.WalkLawsBesides
import Derived.WalkMore
import Derived.WalkSpells
import Derived.Test.YtaggiceejcegdaaGreatOe04
namespace Go.Proofs.YtaggiceejcegdaaGreat
set_option linter.unusedVariables false
open Go.RowKit
set_option maxRecDepth 100000 in
set_option maxHeartbeats 4000000 in
theorem parse_any (b : List Int) (hu : U8s b) (A0 : Option Addr) (c0 : Nat) (w : World) (h : Rd w w.heap.size A0 (b.map (Value.int .u8))) (hl : b.length ≤ 900000) :
  Calls Tryz.prog 112 #[.slice A0 b.length c0] w (ParPost w b):=by
 obtain ⟨i0,hi0,hz0,hz1,hz2⟩:=info_parts info_pw
 obtain ⟨i1,hi1,hy0,hy1,hy2⟩:=info_parts info_mv
 have HN:=Lib.hid (new_any b hu A0 c0 (w.alloc (.cells #[.int .u64 0,.int .u64 0,.slice none 0 0,.slice none 0 0,.slice none 0 0] 28)) ((h.below ((Below.refl _ _).alloc (Nat.le_refl _) _) (Nat.le_refl _)).more (by simp)) hl)
 have HPB : Hid (∀ W,Below (w.heap.size + 1) (w.alloc (.cells #[.int .u64 0,.int .u64 0,.slice none 0 0,.slice none 0 0,.slice none 0 0] 28)) W → W.heap[w.heap.size]? = some (.cells #[.int .u64 0,.int .u64 0,.slice none 0 0,.slice none 0 0,.slice none 0 0] 28 (0,0))):=fun W hW=>belObj hW (World.alloc_heap_new w _) (by omega)
 obtain ⟨W0,hW0⟩ : ∃ W0,(w.alloc (.cells #[.int .u64 0,.int .u64 0,.slice none 0 0,.slice none 0 0,.slice none 0 0] 28)) = W0:=⟨_,rfl⟩
 rw [hW0] at HN HPB
 have hzW0 : w.heap.size + 1 = W0.heap.size:=by rw [← hW0]; simp
 have HBW : Hid (∀ W,Below W0.heap.size W0 W → Below w.heap.size w W):=fun W hW=>by
  rw [← hW0] at hW
  exact ((Below.refl _ _).alloc (Nat.le_refl _) _).trans (hW.mono (by simp))
 have HW0:=Lib.hid hW0
 clear hW0 h
 go_enter Tryz.func112,Tryz.ntmps112
 go_wp2_with fail
 rw [HW0.out]
 refine HN.out.mono ?_
 rintro e w1 ⟨q,rfl,hq,hM,hb1⟩
 have HP1 : Hid (ParM W0 (w1.alloc (.cells #[.int .u64 0,.int .u64 0,.slice none 0 0,.slice none 0 0,.slice none 0 0] 28)) 236 q w1.heap.size ⟨b,false⟩ ⟨0,0,[],[],[]⟩ none 0 none 0 none 0):=
  ⟨hM.below ((Below.refl _ _).alloc (Nat.le_refl _) _),World.alloc_heap_new w1 _,World.ownsRow_nil _ _ _ _,World.ownsRow_nil _ _ _ _,RdT.nil _ _ _,(hb1.alloc hb1.size _),hq,hb1.size⟩
 have HU1:=Lib.hid (uint_any HP1.out.rdr)
 clear hM hb1
 go_wp2_with fail
 refine HU1.out.mono ?_
 rintro e w2 ⟨rfl,hp2⟩
 rw [show (⟨b,false⟩ : Rdr).uint = c1 b from rfl] at hp2 ⊢
 have HP2:=Lib.hid (HP1.out.call (by decide) (by decide) (by decide) (by decide) hp2)
 clear HU1 HP1 hp2
 obtain ⟨q0,q1,q2,q3,q4,f0,f1,f2,f3,f4⟩:=cells5 HP2.out.out
 have HP3:=Lib.hid (HP2.out.set0 (by decide) (c1 b).1)
 have HU2:=Lib.hid (uint_any HP3.out.rdr)
 generalize hko : w1.heap.size = ko at *
 have hkz:=hzW0
 clear HP2 hko
 go_wp2_with fail
 refine HU2.out.mono ?_
 rintro e w4 ⟨rfl,hp4⟩
 rw [show (c1 b).2.2.uint = c2 b from rfl] at hp4 ⊢
 have HP4:=Lib.hid (HP3.out.call (by decide) (by decide) (by decide) (by decide) hp4)
 clear HU2 HP3 hp4
 clear q0 q1 q2 q3 q4 f0 f1 f2 f3 f4
 obtain ⟨q0,q1,q2,q3,q4,f0,f1,f2,f3,f4⟩:=cells5 HP4.out.out
 have HP5:=Lib.hid (HP4.out.set1 (by decide) (c2 b).1)
 have HU3:=Lib.hid (count_any 64 (by omega) HP5.out.rdr)
 clear HP4
 go_wp2_with fail
 have HC3 : Hid ((c3 b).1 ≤ 64):=count_le HP5.out.rdr 64
 refine HU3.out.mono ?_
 rintro e w6 ⟨rfl,hp6⟩
 rw [show (c2 b).2.2.count 64 = c3 b from rfl] at hp6 ⊢
 have HP6:=Lib.hid (HP5.out.call (by decide) (by decide) (by decide) (by decide) hp6)
 clear HU3 HP5 hp6
 clear q0 q1 q2 q3 q4 f0 f1 f2 f3 f4
 go_wp2
 have hn64 : (c3 b).1 ≤ 64:=HC3.out
 have HE4 : Hid (c4 b = cN cW (c3 b).1 (c3 b).2.2):=rfl
 have hqk : ¬ q = ko:=fun e=>by
  obtain ⟨cur,hb⟩:=HP6.out.rdr.blk
  exact blk_ne hb HP6.out.out (by decide) e
 go_loopw [30] (fun i wr=>∃ (k : Nat) (A : Option Addr) (c : Nat),k ≤ (c3 b).1 ∧ i = .int .i64 k ∧ Hid (ParM W0 wr 236 q ko (cN cW k (c3 b).2.2).2 ⟨(c1 b).1,(c2 b).1,(cN cW k (c3 b).2.2).1,[],[]⟩ A c none 0 none 0)) (fun i _=>(c3 b).1 - (intOf i).toNat)
 case atStart=>exact ⟨0,none,0,Nat.zero_le _,rfl,HP6⟩
 case round=>
  obtain ⟨k,A,c,hk,rfl,HPr⟩:=hrel
  by_cases hlt : k < (c3 b).1
  ·have HS : Hid (cN cW (k + 1) (c3 b).2.2 = ((cN cW k (c3 b).2.2).1 ++ [(cW (cN cW k (c3 b).2.2).2).1],(cW (cN cW k (c3 b).2.2).2).2)):=rfl
   have hwl:=cN_len cW k (c3 b).2.2
   generalize (cN cW k (c3 b).2.2).1 = ws at *
   generalize (cN cW k (c3 b).2.2).2 = R0 at *
   have HCW : Hid (cW R0 = (⟨(R0.count 4096).1,((R0.count 4096).2.2.count 16).1,((R0.count 4096).2.2.count 16).2.2.uint.1,((R0.count 4096).2.2.count 16).2.2.uint.2.2.blk.1.getD 0 0,((R0.count 4096).2.2.count 16).2.2.uint.2.2.blk.1.getD 1 0,((R0.count 4096).2.2.count 16).2.2.uint.2.2.blk.1.getD 2 0,((R0.count 4096).2.2.count 16).2.2.uint.2.2.blk.1.getD 3 0,((R0.count 4096).2.2.count 16).2.2.uint.2.2.blk.1.getD 4 0,((R0.count 4096).2.2.count 16).2.2.uint.2.2.blk.1.getD 5 0,((R0.count 4096).2.2.count 16).2.2.uint.2.2.blk.1.getD 6 0,((R0.count 4096).2.2.count 16).2.2.uint.2.2.blk.1.getD 7 0⟩,((R0.count 4096).2.2.count 16).2.2.uint.2.2.blk.2.2)):=rfl
   have hqz:=HPr.out.rdr.lt
   have hkoz:=lt_of_block HPr.out.out
   have hW0z:=HPr.out.bel.size
   have hrow : ∀ j,(Value.slice A ws.length c).ownBlock = some j → ¬ j = wr.heap.size:=fun j hj=>by have:=own_lt HPr.out.ws hj; omega
   have HROW:=Lib.hid hrow
   have hbel : Below wr.heap.size wr (wr.alloc (.cells #[.int .i64 0,.int .i64 0,.int .u64 0,.int .u8 0,.int .u8 0,.int .u8 0,.int .u8 0,.int .u8 0,.int .u8 0,.int .u8 0,.int .u8 0] 151)):=(Below.refl _ _).alloc (Nat.le_refl _) _
   have HQ0:=Lib.hid (HPr.out.below0 hbel)
   have HK0:=Lib.hid (World.alloc_heap_new wr (.cells #[.int .i64 0,.int .i64 0,.int .u64 0,.int .u8 0,.int .u8 0,.int .u8 0,.int .u8 0,.int .u8 0,.int .u8 0,.int .u8 0,.int .u8 0] 151))
   have HU1:=Lib.hid (count_any 4096 (by omega) HQ0.out.rdr)
   have hz1 : wr.heap.size + 1 = (wr.alloc (.cells #[.int .i64 0,.int .i64 0,.int .u64 0,.int .u8 0,.int .u8 0,.int .u8 0,.int .u8 0,.int .u8 0,.int .u8 0,.int .u8 0,.int .u8 0] 151)).heap.size:=by simp
   clear hrow hbel HPr
   go_wp2_with fail
   generalize (wr.alloc (.cells #[.int .i64 0,.int .i64 0,.int .u64 0,.int .u8 0,.int .u8 0,.int .u8 0,.int .u8 0,.int .u8 0,.int .u8 0,.int .u8 0,.int .u8 0] 151)) = w7 at *
   generalize hkw : wr.heap.size = kw at *
   clear hkw hz1
   refine HU1.out.mono ?_
   rintro e w8 ⟨rfl,hp8⟩
   have hK1:=hp8.2.obj HK0.out (by omega : ¬ kw = q)
   have HQ1:=Lib.hid (HQ0.out.call (by decide) (by decide) (by decide) (by decide) hp8)
   clear HU1 HQ0 hp8 HK0
   generalize R0.count 4096 = G at *
   obtain ⟨x0,x1,x2,x3,x4,x5,x6,x7,x8,x9,x10,y0,y1,y2,y3,y4,y5,y6,y7,y8,y9,y10⟩:=cells11 hK1
   have HK2 : Hid ((w8.setCell ⟨kw,0,none⟩ (.int .i64 (G.1 : Nat))).heap[kw]? = some (.cells #[.int .i64 (G.1 : Nat),.int .i64 0,.int .u64 0,.int .u8 0,.int .u8 0,.int .u8 0,.int .u8 0,.int .u8 0,.int .u8 0,.int .u8 0,.int .u8 0] 151 (0,0))):=heap_setL hK1 0 _
   have HQ2:=Lib.hid (HQ1.out.side (kept_one w8 kw 0 (.int .i64 (G.1 : Nat))) hK1 (by decide) (by omega) (by omega) HROW.out (fun j hj=>by cases hj) (by omega))
   have HU2:=Lib.hid (count_any 16 (by omega) HQ2.out.rdr)
   clear HQ1 hK1
   go_wp2_with fail
   clear x0 x1 x2 x3 x4 x5 x6 x7 x8 x9 x10 y0 y1 y2 y3 y4 y5 y6 y7 y8 y9 y10
   refine HU2.out.mono ?_
   rintro e w9 ⟨rfl,hp9⟩
   have hK3:=hp9.2.obj HK2.out (by omega : ¬ kw = q)
   have HQ3:=Lib.hid (HQ2.out.call (by decide) (by decide) (by decide) (by decide) hp9)
   clear HU2 HQ2 hp9 HK2
   generalize G.2.2.count 16 = P at *
   obtain ⟨x0,x1,x2,x3,x4,x5,x6,x7,x8,x9,x10,y0,y1,y2,y3,y4,y5,y6,y7,y8,y9,y10⟩:=cells11 hK3
   have HK4 : Hid ((w9.setCell ⟨kw,1,none⟩ (.int .i64 (P.1 : Nat))).heap[kw]? = some (.cells #[.int .i64 (G.1 : Nat),.int .i64 (P.1 : Nat),.int .u64 0,.int .u8 0,.int .u8 0,.int .u8 0,.int .u8 0,.int .u8 0,.int .u8 0,.int .u8 0,.int .u8 0] 151 (0,0))):=heap_setL hK3 1 _
   have HQ4:=Lib.hid (HQ3.out.side (kept_one w9 kw 1 (.int .i64 (P.1 : Nat))) hK3 (by decide) (by omega) (by omega) HROW.out (fun j hj=>by cases hj) (by omega))
   have HU3:=Lib.hid (uint_any HQ4.out.rdr)
   clear HQ3 hK3
   go_wp2_with fail
   clear x0 x1 x2 x3 x4 x5 x6 x7 x8 x9 x10 y0 y1 y2 y3 y4 y5 y6 y7 y8 y9 y10
   refine HU3.out.mono ?_
   rintro e w10 ⟨rfl,hp10⟩
   have hK5:=hp10.2.obj HK4.out (by omega : ¬ kw = q)
   have HQ5:=Lib.hid (HQ4.out.call (by decide) (by decide) (by decide) (by decide) hp10)
   clear HU3 HQ4 hp10 HK4
   generalize P.2.2.uint = V at *
   obtain ⟨x0,x1,x2,x3,x4,x5,x6,x7,x8,x9,x10,y0,y1,y2,y3,y4,y5,y6,y7,y8,y9,y10⟩:=cells11 hK5
   have HK6 : Hid ((w10.setCell ⟨kw,2,none⟩ (.int .u64 (V.1 : Nat))).heap[kw]? = some (.cells #[.int .i64 (G.1 : Nat),.int .i64 (P.1 : Nat),.int .u64 (V.1 : Nat),.int .u8 0,.int .u8 0,.int .u8 0,.int .u8 0,.int .u8 0,.int .u8 0,.int .u8 0,.int .u8 0] 151 (0,0))):=heap_setL hK5 2 _
   have HQ6:=Lib.hid (HQ5.out.side (kept_one w10 kw 2 (.int .u64 (V.1 : Nat))) hK5 (by decide) (by omega) (by omega) HROW.out (fun j hj=>by cases hj) (by omega))
   have HU4:=Lib.hid (block_any HQ6.out.rdr)
   clear HQ5 hK5
   go_wp2_with fail
   clear x0 x1 x2 x3 x4 x5 x6 x7 x8 x9 x10 y0 y1 y2 y3 y4 y5 y6 y7 y8 y9 y10
   refine HU4.out.mono ?_
   rintro e w11 ⟨rfl,hp11⟩
   have hK7:=hp11.2.obj HK6.out (by omega : ¬ kw = q)
   have HQ7:=Lib.hid (HQ6.out.call (by decide) (by decide) (by decide) (by decide) hp11)
   clear HU4 HQ6 hp11 HK6
   obtain ⟨d0,d1,d2,d3,d4,d5,d6,d7,hD⟩:=list8 (blk_len V.2.2)
   have hBV : blkV V.2.2.blk.1 = .agg #[.int .u8 d0,.int .u8 d1,.int .u8 d2,.int .u8 d3,.int .u8 d4,.int .u8 d5,.int .u8 d6,.int .u8 d7]:=by rw [hD]; rfl
   rw [hBV]
   rw [hD] at HCW
   generalize V.2.2.blk.2 = ER at *
   clear hBV hD
   obtain ⟨x0,x1,x2,x3,x4,x5,x6,x7,x8,x9,x10,y0,y1,y2,y3,y4,y5,y6,y7,y8,y9,y10⟩:=cells11 hK7
   have hK8 : (((((((((w11.setCell ⟨kw,3,none⟩ (.int .u8 d0)).setCell ⟨kw,4,none⟩ (.int .u8 d1)).setCell ⟨kw,5,none⟩ (.int .u8 d2)).setCell ⟨kw,6,none⟩ (.int .u8 d3)).setCell ⟨kw,7,none⟩ (.int .u8 d4)).setCell ⟨kw,8,none⟩ (.int .u8 d5)).setCell ⟨kw,9,none⟩ (.int .u8 d6)).setCell ⟨kw,10,none⟩ (.int .u8 d7))).heap[kw]? = some (.cells #[.int .i64 (G.1 : Nat),.int .i64 (P.1 : Nat),.int .u64 (V.1 : Nat),.int .u8 d0,.int .u8 d1,.int .u8 d2,.int .u8 d3,.int .u8 d4,.int .u8 d5,.int .u8 d6,.int .u8 d7] 151 (0,0)):=heap_setL (heap_setL (heap_setL (heap_setL (heap_setL (heap_setL (heap_setL (heap_setL hK7 3 _) 4 _) 5 _) 6 _) 7 _) 8 _) 9 _) 10 _
   have HQ8:=Lib.hid (HQ7.out.side (kept8d w11 kw d0 d1 d2 d3 d4 d5 d6 d7) hK7 (by decide) (by omega) (by omega) HROW.out (fun j hj=>by cases hj) (by omega))
   have HK8:=Lib.hid hK8
   clear HQ7 hK7 hK8
   go_upto_region 13 with fail
   clear x0 x1 x2 x3 x4 x5 x6 x7 x8 x9 x10 y0 y1 y2 y3 y4 y5 y6 y7 y8 y9 y10
   obtain ⟨x0,x1,x2,x3,x4,x5,x6,x7,x8,x9,x10,y0,y1,y2,y3,y4,y5,y6,y7,y8,y9,y10⟩:=cells11 HK8.out
   obtain ⟨q0,q1,q2,q3,q4,f0,f1,f2,f3,f4⟩:=cells5 HQ8.out.out
   generalize hw12 : ((((((((w11.setCell ⟨kw,3,none⟩ (.int .u8 d0)).setCell ⟨kw,4,none⟩ (.int .u8 d1)).setCell ⟨kw,5,none⟩ (.int .u8 d2)).setCell ⟨kw,6,none⟩ (.int .u8 d3)).setCell ⟨kw,7,none⟩ (.int .u8 d4)).setCell ⟨kw,8,none⟩ (.int .u8 d5)).setCell ⟨kw,9,none⟩ (.int .u8 d6)).setCell ⟨kw,10,none⟩ (.int .u8 d7)) = w12 at *
   clear hw12
   have HO8:=Lib.hid HQ8.out.ws
   have hz12:=HQ8.out.bel.size
   have hwl2 : ws.length ≤ 64:=by omega
   have HWL:=Lib.hid hwl
   clear hwl
   go_wp2_with (at_builtin; refine wpList_append_own _ rfl _ _ 24 rfl W0.heap.size 151 i0 _ 11 32 Tryz.underlying24 hi0 hz0 hz1 hz2 rfl (by decide) _ ws.length (flatW ws) rfl (HO8.out.alloc _) ⟨w12.heap.size,0,none⟩ 1 1 [.int .i64 (G.1 : Nat),.int .i64 (P.1 : Nat),.int .u64 (V.1 : Nat),.int .u8 d0,.int .u8 d1,.int .u8 d2,.int .u8 d3,.int .u8 d4,.int .u8 d5,.int .u8 d6,.int .u8 d7] rfl rfl (World.news_of_block (heap_alloc_new _ _)) (by intro u hu; simp at hu; rcases hu with h | h | h | h | h | h | h | h | h | h | h <;> (subst h; rfl)) ?c1 ?c2 ?c3 ?_)
   case c1=>unfold maxLen; omega
   case c2=>omega
   case c3=>first | omega | (simp; omega)
   intro v' w13 hown hgrow hiff
   obtain ⟨A',c',hv⟩:=own_form hown
   subst hv
   obtain ⟨hO13,hP13⟩:=HQ8.out.pushW (x:=⟨G.1,P.1,V.1,d0,d1,d2,d3,d4,d5,d6,d7⟩) (by decide) (by decide) hown hgrow
   have HP13 : Hid (ParM W0 (w13.setCell ⟨ko,2,none⟩ (.slice A' (ws.length + 1) c')) 236 q ko (cN cW (k + 1) (c3 b).2.2).2 ⟨(c1 b).1,(c2 b).1,(cN cW (k + 1) (c3 b).2.2).1,[],[]⟩ A' c' none 0 none 0):=by
    unfold Hid; rw [HS.out,HCW.out]; exact hP13
   clear q0 q1 q2 q3 q4 f0 f1 f2 f3 f4
   clear x0 x1 x2 x3 x4 x5 x6 x7 x8 x9 x10 y0 y1 y2 y3 y4 y5 y6 y7 y8 y9 y10
   obtain ⟨q0,q1,q2,q3,q4,f0,f1,f2,f3,f4⟩:=cells5 hO13
   clear hown hgrow hiff hP13 hO13 HQ8 HO8 HK8
   go_wp2
   go_roundw
   case rel=>exact ⟨k + 1,A',c',hlt,by go_num,HP13⟩
   case measure=>simp [intOf]; omega
  ·obtain rfl : k = (c3 b).1:=by omega
   have HP7 : Hid (ParM W0 wr 236 q ko (c4 b).2 ⟨(c1 b).1,(c2 b).1,(c4 b).1,[],[]⟩ A c none 0 none 0):=HPr
   have hw64 : (c4 b).1.length ≤ 64:=by rw [HE4.out,cN_len]; exact hn64
   clear HPr HP6
   have HU5:=Lib.hid (count_any 64 (by omega) HP7.out.rdr)
   go_wp2_with fail
   have HC5 : Hid ((c5 b).1 ≤ 64):=count_le HP7.out.rdr 64
   refine HU5.out.mono ?_
   rintro e w14 ⟨rfl,hp14⟩
   rw [show (c4 b).2.count 64 = c5 b from rfl] at hp14 ⊢
   have HP8:=Lib.hid (HP7.out.call (by decide) (by decide) (by decide) (by decide) hp14)
   clear HU5 HP7 hp14
   have hm64 : (c5 b).1 ≤ 64:=HC5.out
   have HE6 : Hid (c6 b = cN cM (c5 b).1 (c5 b).2.2):=rfl
   go_wp2
   go_loopw [69] (fun i wr=>∃ (k : Nat) (D : Option Addr) (d : Nat),k ≤ (c5 b).1 ∧ i = .int .i64 k ∧ Hid (ParM W0 wr 236 q ko (cN cM k (c5 b).2.2).2 ⟨(c1 b).1,(c2 b).1,(c4 b).1,(cN cM k (c5 b).2.2).1,[]⟩ A c D d none 0)) (fun i _=>(c5 b).1 - (intOf i).toNat)
   case atStart=>exact ⟨0,none,0,Nat.zero_le _,rfl,HP8⟩
   case round=>
    obtain ⟨k,D,d,hk,rfl,HPr⟩:=hrel
    by_cases hlt : k < (c5 b).1
    ·have HS : Hid (cN cM (k + 1) (c5 b).2.2 = ((cN cM k (c5 b).2.2).1 ++ [(cM (cN cM k (c5 b).2.2).2).1],(cM (cN cM k (c5 b).2.2).2).2)):=rfl
     have hwl:=cN_len cM k (c5 b).2.2
     generalize (cN cM k (c5 b).2.2).1 = ms at *
     generalize (cN cM k (c5 b).2.2).2 = R0 at *
     have HCM : Hid (cM R0 = (⟨(R0.count 4096).1,((R0.count 4096).2.2.count 16).1,zagN ((R0.count 4096).2.2.count 16).2.2.uint.1,(((R0.count 4096).2.2.count 16).2.2.uint.2.2.count 65536).1⟩,(((R0.count 4096).2.2.count 16).2.2.uint.2.2.count 65536).2.2)):=rfl
     have hqz:=HPr.out.rdr.lt
     have hkoz:=lt_of_block HPr.out.out
     have hW0z:=HPr.out.bel.size
     have HROW : Hid (∀ j,(Value.slice A (c4 b).1.length c).ownBlock = some j → ¬ j = wr.heap.size):=fun j hj=>by have:=own_lt HPr.out.ws hj; omega
     have HROM : Hid (∀ j,(Value.slice D ms.length d).ownBlock = some j → ¬ j = wr.heap.size):=fun j hj=>by have:=own_lt HPr.out.ms hj; omega
     have hbel : Below wr.heap.size wr (wr.alloc (.cells #[.int .i64 0,.int .i64 0,.int .i64 0,.int .i64 0] 156)):=(Below.refl _ _).alloc (Nat.le_refl _) _
     have HQ0:=Lib.hid (HPr.out.below0 hbel)
     have HK0:=Lib.hid (World.alloc_heap_new wr (.cells #[.int .i64 0,.int .i64 0,.int .i64 0,.int .i64 0] 156))
     have HU1:=Lib.hid (count_any 4096 (by omega) HQ0.out.rdr)
     have hz1 : wr.heap.size + 1 = (wr.alloc (.cells #[.int .i64 0,.int .i64 0,.int .i64 0,.int .i64 0] 156)).heap.size:=by simp
     clear hbel HPr
     go_wp2_with fail
     generalize (wr.alloc (.cells #[.int .i64 0,.int .i64 0,.int .i64 0,.int .i64 0] 156)) = w7 at *
     generalize hkw : wr.heap.size = kw at *
     clear hkw hz1
     refine HU1.out.mono ?_
     rintro e w8 ⟨rfl,hp8⟩
     have hK1:=hp8.2.obj HK0.out (by omega : ¬ kw = q)
     have HQ1:=Lib.hid (HQ0.out.call (by decide) (by decide) (by decide) (by decide) hp8)
     clear HU1 HQ0 hp8 HK0
     generalize R0.count 4096 = G at *
     obtain ⟨x0,x1,x2,x3,y0,y1,y2,y3⟩:=cells4 hK1
     have HK2 : Hid ((w8.setCell ⟨kw,0,none⟩ (.int .i64 (G.1 : Nat))).heap[kw]? = some (.cells #[.int .i64 (G.1 : Nat),.int .i64 0,.int .i64 0,.int .i64 0] 156 (0,0))):=heap_setL hK1 0 _
     have HQ2:=Lib.hid (HQ1.out.side (kept_one w8 kw 0 (.int .i64 (G.1 : Nat))) hK1 (by decide) (by omega) (by omega) HROW.out HROM.out (by omega))
     have HU2:=Lib.hid (count_any 16 (by omega) HQ2.out.rdr)
     clear HQ1 hK1
     go_wp2_with fail
     clear x0 x1 x2 x3 y0 y1 y2 y3
     refine HU2.out.mono ?_
     rintro e w9 ⟨rfl,hp9⟩
     have hK3:=hp9.2.obj HK2.out (by omega : ¬ kw = q)
     have HQ3:=Lib.hid (HQ2.out.call (by decide) (by decide) (by decide) (by decide) hp9)
     clear HU2 HQ2 hp9 HK2
     generalize G.2.2.count 16 = P at *
     obtain ⟨x0,x1,x2,x3,y0,y1,y2,y3⟩:=cells4 hK3
     have HK4 : Hid ((w9.setCell ⟨kw,1,none⟩ (.int .i64 (P.1 : Nat))).heap[kw]? = some (.cells #[.int .i64 (G.1 : Nat),.int .i64 (P.1 : Nat),.int .i64 0,.int .i64 0] 156 (0,0))):=heap_setL hK3 1 _
     have HQ4:=Lib.hid (HQ3.out.side (kept_one w9 kw 1 (.int .i64 (P.1 : Nat))) hK3 (by decide) (by omega) (by omega) HROW.out HROM.out (by omega))
     have HU3:=Lib.hid (int_any HQ4.out.rdr)
     clear HQ3 hK3
     go_wp2_with fail
     clear x0 x1 x2 x3 y0 y1 y2 y3
     refine HU3.out.mono ?_
     rintro e w10 ⟨rfl,hp10⟩
     have hK5:=hp10.2.obj HK4.out (by omega : ¬ kw = q)
     have HQ5:=Lib.hid (HQ4.out.call (by decide) (by decide) (by decide) (by decide) hp10)
     clear HU3 HQ4 hp10 HK4
     generalize P.2.2.uint = V at *
     generalize zagN V.1 = zv at *
     obtain ⟨x0,x1,x2,x3,y0,y1,y2,y3⟩:=cells4 hK5
     have HK6 : Hid ((w10.setCell ⟨kw,2,none⟩ (.int .i64 zv)).heap[kw]? = some (.cells #[.int .i64 (G.1 : Nat),.int .i64 (P.1 : Nat),.int .i64 zv,.int .i64 0] 156 (0,0))):=heap_setL hK5 2 _
     have HQ6:=Lib.hid (HQ5.out.side (kept_one w10 kw 2 (.int .i64 zv)) hK5 (by decide) (by omega) (by omega) HROW.out HROM.out (by omega))
     have HU4:=Lib.hid (count_any 65536 (by omega) HQ6.out.rdr)
     clear HQ5 hK5
     go_wp2_with fail
     clear x0 x1 x2 x3 y0 y1 y2 y3
     refine HU4.out.mono ?_
     rintro e w11 ⟨rfl,hp11⟩
     have hK7:=hp11.2.obj HK6.out (by omega : ¬ kw = q)
     have HQ7:=Lib.hid (HQ6.out.call (by decide) (by decide) (by decide) (by decide) hp11)
     clear HU4 HQ6 hp11 HK6
     generalize V.2.2.count 65536 = B4 at *
     obtain ⟨x0,x1,x2,x3,y0,y1,y2,y3⟩:=cells4 hK7
     have HK8 : Hid ((w11.setCell ⟨kw,3,none⟩ (.int .i64 (B4.1 : Nat))).heap[kw]? = some (.cells #[.int .i64 (G.1 : Nat),.int .i64 (P.1 : Nat),.int .i64 zv,.int .i64 (B4.1 : Nat)] 156 (0,0))):=heap_setL hK7 3 _
     have HQ8:=Lib.hid (HQ7.out.side (kept_one w11 kw 3 (.int .i64 (B4.1 : Nat))) hK7 (by decide) (by omega) (by omega) HROW.out HROM.out (by omega))
     clear HQ7 hK7
     go_upto_region 23 with fail
     clear x0 x1 x2 x3 y0 y1 y2 y3
     obtain ⟨x0,x1,x2,x3,y0,y1,y2,y3⟩:=cells4 HK8.out
     obtain ⟨q0,q1,q2,q3,q4,f0,f1,f2,f3,f4⟩:=cells5 HQ8.out.out
     generalize (w11.setCell ⟨kw,3,none⟩ (.int .i64 (B4.1 : Nat))) = w12 at *
     have HO8:=Lib.hid HQ8.out.ms
     have hz12:=HQ8.out.bel.size
     have hwl2 : ms.length ≤ 64:=by omega
     have HWL:=Lib.hid hwl
     clear hwl
     go_wp2_with (at_builtin; refine wpList_append_own _ rfl _ _ 25 rfl W0.heap.size 156 i1 _ 4 32 Tryz.underlying25 hi1 hy0 hy1 hy2 rfl (by decide) _ ms.length (flatM ms) rfl (HO8.out.alloc _) ⟨w12.heap.size,0,none⟩ 1 1 [.int .i64 (G.1 : Nat),.int .i64 (P.1 : Nat),.int .i64 zv,.int .i64 (B4.1 : Nat)] rfl rfl (World.news_of_block (heap_alloc_new _ _)) (by intro u hu; simp at hu; rcases hu with h | h | h | h <;> (subst h; rfl)) ?c1 ?c2 ?c3 ?_)
     case c1=>unfold maxLen; omega
     case c2=>omega
     case c3=>first | omega | (simp; omega)
     intro v' w13 hown hgrow hiff
     obtain ⟨A',c',hv⟩:=own_form hown
     subst hv
     obtain ⟨hO13,hP13⟩:=HQ8.out.pushM (x:=⟨G.1,P.1,zv,B4.1⟩) (by decide) (by decide) hown hgrow
     have HP13 : Hid (ParM W0 (w13.setCell ⟨ko,3,none⟩ (.slice A' (ms.length + 1) c')) 236 q ko (cN cM (k + 1) (c5 b).2.2).2 ⟨(c1 b).1,(c2 b).1,(c4 b).1,(cN cM (k + 1) (c5 b).2.2).1,[]⟩ A c A' c' none 0):=by
      unfold Hid; rw [HS.out,HCM.out]; exact hP13
     clear q0 q1 q2 q3 q4 f0 f1 f2 f3 f4
     clear x0 x1 x2 x3 y0 y1 y2 y3
     obtain ⟨q0,q1,q2,q3,q4,f0,f1,f2,f3,f4⟩:=cells5 hO13
     clear hown hgrow hiff hP13 hO13 HQ8 HO8 HK8
     go_wp2
     go_roundw
     case rel=>exact ⟨k + 1,A',c',hlt,by go_num,HP13⟩
     case measure=>simp [intOf]; omega
    ·obtain rfl : k = (c5 b).1:=by omega
     have HP9 : Hid (ParM W0 wr 236 q ko (c6 b).2 ⟨(c1 b).1,(c2 b).1,(c4 b).1,(c6 b).1,[]⟩ A c D d none 0):=HPr
     have hl64 : (c6 b).1.length ≤ 64:=by rw [HE6.out,cN_len]; exact hm64
     clear HPr HP8
     have HU6:=Lib.hid (bytes_any HP9.out.rdr)
     go_wp2_with fail
     refine HU6.out.mono ?_
     rintro e w15 ⟨N7,n7,rfl,hT7,hU7,_,hcap7,hp15⟩
     rw [show (c6 b).2.bytes = c7 b from rfl] at hp15 hT7 hU7 hcap7 ⊢
     have HP10:=Lib.hid (HP9.out.call (by decide) (by decide) (by decide) (by decide) hp15)
     obtain ⟨q0,q1,q2,q3,q4,f0,f1,f2,f3,f4⟩:=cells5 HP10.out.out
     have HP11:=Lib.hid (HP10.out.set4 (by decide) (n':=n7) hT7)
     clear HU6 HP9 hp15
     have hc7:=c7_rest b
     have HD:=Lib.hid (done_any (by omega) HP11.out.rdr)
     have HCR:=Lib.hid (c_rec b)
     have HREC : Hid (cRec b = ⟨(c1 b).1,(c2 b).1,(c4 b).1,(c6 b).1,(c7 b).1⟩):=rfl
     have HCO : Hid (cOk b = ((c7 b).2.2.done == 0 && validR (cRec b))):=rfl
     have HVA:=Lib.hid (rvalid_any ⟨(c1 b).1,(c2 b).1,(c4 b).1,(c6 b).1,(c7 b).1⟩ A D N7 c d n7 _ HP11.out.rec_ (by show (c4 b).1.length ≤ _; omega) (by show (c6 b).1.length ≤ _; omega) (by show (c7 b).1.length ≤ _; omega))
     rw [← HREC.out] at HVA
     have hout:=HP11.out.out
     obtain ⟨dn,hdn⟩ : ∃ dn,(c7 b).2.2.done = dn:=⟨_,rfl⟩
     have HDN:=Lib.hid hdn
     rw [hdn] at HCO
     clear hdn HD HVA
     clear HP10
     go_wp2_with fail
     clear q0 q1 q2 q3 q4 f0 f1 f2 f3 f4
     obtain ⟨q0,q1,q2,q3,q4,f0,f1,f2,f3,f4⟩:=cells5 hout
     generalize (w15.setCell ⟨ko,4,none⟩ (.slice N7 (c7 b).1.length n7)) = w16 at *
     have HD' : Hid (Calls Tryz.prog 151 #[.pointer (some ⟨q,0,none⟩)] w16.drew (fun e w'=>e = .returned (.int .i64 dn) ∧ w' = w16.drew)):=by
      unfold Hid; rw [← HDN.out]; exact done_any (by omega) (show RdrM 236 w16.drew q _ from HP11.out.rdr)
     have HPD : Hid (ParM W0 w16.drew 236 q ko (c7 b).2.2 ⟨(c1 b).1,(c2 b).1,(c4 b).1,(c6 b).1,(c7 b).1⟩ A c D d N7 n7):=HP11.out.below0 ((Below.refl _ _).drew)
     have HVA' : Hid (Calls Tryz.prog 83 #[.agg #[.int .u64 (c1 b).1,.int .u64 (c2 b).1,.slice A (c4 b).1.length c,.slice D (c6 b).1.length d,.slice N7 (c7 b).1.length n7]] w16.drew (fun e w'=>e = .returned (.bool (validR (cRec b))) ∧ Below w16.drew.heap.size w16.drew w')):=rvalid_any ⟨(c1 b).1,(c2 b).1,(c4 b).1,(c6 b).1,(c7 b).1⟩ A D N7 c d n7 w16.drew HPD.out.rec_ (by show (c4 b).1.length ≤ _; omega) (by show (c6 b).1.length ≤ _; omega) (by show (c7 b).1.length ≤ _; omega)
     have hkz:=lt_of_block hout
     have hW16:=HPD.out.bel
     by_cases hd : dn = 0
     ·subst hd
      have HB1 : Hid ((recD b).isSome = validR (cRec b)):=by unfold Hid; rw [← HCR.out.1,HCO.out]; rfl
      go_region_law (first
       | (go_simp
          go_at_call 151
          refine HD'.out.mono ?_
          rintro e w17 ⟨rfl,rfl⟩)
       | (go_simp
          go_at_call 83
          refine HVA'.out.mono ?_
          rintro e w18 ⟨rfl,hb18⟩
          have t0:=(hb18.cell (p:=⟨ko,0,none⟩) hkz).trans q0
          have t1:=(hb18.cell (p:=⟨ko,1,none⟩) hkz).trans q1
          have t2:=(hb18.cell (p:=⟨ko,2,none⟩) hkz).trans q2
          have t3:=(hb18.cell (p:=⟨ko,3,none⟩) hkz).trans q3
          have t4:=(hb18.cell (p:=⟨ko,4,none⟩) hkz).trans q4
          have HPX:=Lib.hid (HPD.out.below0 hb18)
          have hb0 : Below (w.heap.size + 1) W0 w18:=(hW16.trans (hb18.mono hW16.size)).mono (by omega)
          have HB18:=Lib.hid hb0
          obtain ⟨r0,r1,r2,r3,r4,s0,s1,s2,s3,s4⟩:=cells5 (HPB.out w18 hb0)))
      all_goals go_wp2
      all_goals exact bodyPost_ret (by first | (simp [results,Tryz.results112,go_sem, *]; done) | (simp [results,Tryz.results112,go_sem, *]; rfl)) rfl ⟨⟨(c1 b).1,(c2 b).1,(c4 b).1,(c6 b).1,(c7 b).1⟩,A,c,D,d,N7,n7,by rw [HB1.out],fun r' h=>by rw [← HREC.out]; exact HCR.out.2 r' h,HPX.out.final (kept5 _ _ _ _ _ _ _) (HPB.out w18 HB18.out),below5 (HBW.out _ HPX.out.bel) (Nat.le_refl _) _ _ _ _ _⟩
     ·have hd2 : (dn == 0) = false:=by simpa using hd
      have HB1 : Hid ((recD b).isSome = false):=by unfold Hid; rw [← HCR.out.1,HCO.out,hd2]; rfl
      obtain ⟨r0,r1,r2,r3,r4,s0,s1,s2,s3,s4⟩:=cells5 (HPB.out w16 (HP11.out.bel.mono (by omega)))
      go_region_law (first
       | (go_simp
          go_at_call 151
          refine HD'.out.mono ?_
          rintro e w17 ⟨rfl,rfl⟩))
      all_goals go_wp2
      all_goals exact bodyPost_ret (by first | (simp [results,Tryz.results112,go_sem, *]; done) | (simp [results,Tryz.results112,go_sem, *]; rfl)) rfl ⟨⟨(c1 b).1,(c2 b).1,(c4 b).1,(c6 b).1,(c7 b).1⟩,A,c,D,d,N7,n7,by rw [HB1.out],fun r' h=>by rw [← HREC.out]; exact HCR.out.2 r' h,HP11.out.final (kept5d _ _ _ _ _ _ _) (HPB.out w16 (HP11.out.bel.mono (by omega))),below5d (HBW.out _ HP11.out.bel) (Nat.le_refl _) _ _ _ _ _⟩
end Go.Proofs.YtaggiceejcegdaaGreat
