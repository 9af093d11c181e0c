/-
  WHAT IS SHOWN: what payload of tegularef27 returns. Conditions: the bytes can be read.
-/
import Derived.Deep.DeepCutAuto
import Derived.Test.YtaggiceejcegdaaGreatNc07
import Derived.Test.YtaggiceejcegdaaGreatNc09
namespace Go.Proofs.YtaggiceejcegdaaGreat
set_option linter.unusedVariables false
open Go.RowKit
theorem uint_lt {r : Rdr} (h : ¬ r.rest = []) : r.uint.2.2.rest.length < r.rest.length:=by
 have hp : 0 < r.rest.length:=List.length_pos_iff.2 h
 unfold Rdr.uint
 split
 ·rename_i h; exact uintD_len h
 ·exact hp
theorem rW_lt {r : Rdr} (h : ¬ r.rest = []) : (rW r).2.rest.length < r.rest.length:=
 Nat.lt_of_le_of_lt (Nat.le_trans (blk_len' _) (Nat.le_trans (uint_len' _) (uint_len' _))) (uint_lt h)
theorem rM_lt {r : Rdr} (h : ¬ r.rest = []) : (rM r).2.rest.length < r.rest.length:=
 Nat.lt_of_le_of_lt (Nat.le_trans (uint_len' _) (Nat.le_trans (uint_len' _) (uint_len' _))) (uint_lt h)
theorem wr64_eq (n : Int) : wr64 n = wrap64 n:=by unfold wr64 wrap64; rw [IntKind.wrap_i64]
theorem rblock_any {w : World} {q : Nat} {r : Rdr} (h : RdrM 239 w q r) : Calls Tryz.prog 160 #[.pointer (some ⟨q,0,none⟩)] w (BlkPost 239 w q r):=by
 by_cases hl : r.rest.length < 8
 ·exact rblock_no hl h
 ·exact rblock_yes (by omega) h
set_option maxRecDepth 100000 in
set_option maxHeartbeats 8000000 in
theorem rpay_any (b : List Int) (hu : U8s b) (A0 : Option Addr) (c0 : Nat) (w : World) (h : Rd w w.heap.size A0 (b.map (Value.int .u8))) (hl : b.length ≤ 900000) :
  Calls Tryz.prog 117 #[.slice A0 b.length c0] w (ParPost w b):=by
 obtain ⟨i0,hi0,hz0,hz1,hz2⟩:=info_parts info_pw
 obtain ⟨i1,hi1,hy0,hy1,hy2⟩:=info_parts info_mv
 have HN:=Lib.hid (rnew_any b hu A0 c0 (w.alloc (.cells #[.int .u64 0,.int .u64 0,.slice none 0 0,.slice none 0 0,.slice none 0 0] 28)) ((h.below ((Below.refl _ _).alloc (Nat.le_refl _) _) (Nat.le_refl _)).more (by simp)) hl)
 have HPB : Hid (∀ W,Below (w.heap.size + 1) (w.alloc (.cells #[.int .u64 0,.int .u64 0,.slice none 0 0,.slice none 0 0,.slice none 0 0] 28)) W → W.heap[w.heap.size]? = some (.cells #[.int .u64 0,.int .u64 0,.slice none 0 0,.slice none 0 0,.slice none 0 0] 28 (0,0))):=fun W hW=>belObj hW (World.alloc_heap_new w _) (by omega)
 obtain ⟨W0,hW0⟩ : ∃ W0,(w.alloc (.cells #[.int .u64 0,.int .u64 0,.slice none 0 0,.slice none 0 0,.slice none 0 0] 28)) = W0:=⟨_,rfl⟩
 rw [hW0] at HN HPB
 have hzW0 : w.heap.size + 1 = W0.heap.size:=by rw [← hW0]; simp
 have HBW : Hid (∀ W,Below W0.heap.size W0 W → Below w.heap.size w W):=fun W hW=>by
  rw [← hW0] at hW
  exact ((Below.refl _ _).alloc (Nat.le_refl _) _).trans (hW.mono (by simp))
 have HW0:=Lib.hid hW0
 clear hW0 h
 have HR3:=Lib.hid (r3_rest b)
 have HU:=Lib.hid hu
 clear hu
 go_enter Tryz.func117,Tryz.ntmps117
 go_wp2_with fail
 rw [HW0.out]
 refine HN.out.mono ?_
 rintro e w1 ⟨q,rfl,hq,hM,hb1⟩
 have HP1 : Hid (ParM W0 (w1.alloc (.cells #[.int .u64 0,.int .u64 0,.slice none 0 0,.slice none 0 0,.slice none 0 0] 28)) 239 q w1.heap.size ⟨b,false⟩ ⟨0,0,[],[],[]⟩ none 0 none 0 none 0):=
  ⟨hM.below ((Below.refl _ _).alloc (Nat.le_refl _) _),World.alloc_heap_new w1 _,World.ownsRow_nil _ _ _ _,World.ownsRow_nil _ _ _ _,RdT.nil _ _ _,(hb1.alloc hb1.size _),hq,hb1.size⟩
 have HU1:=Lib.hid (ruint_any (by show b.length ≤ _; omega) HP1.out.rdr)
 clear hM hb1
 go_wp2_with fail
 refine HU1.out.mono ?_
 rintro e w2 ⟨rfl,hp2⟩
 rw [show (⟨b,false⟩ : Rdr).uint = c1 b from rfl] at hp2 ⊢
 have HP2:=Lib.hid (HP1.out.call (by decide) (by decide) (by decide) (by decide) hp2)
 clear HU1 HP1 hp2
 obtain ⟨q0,q1,q2,q3,q4,f0,f1,f2,f3,f4⟩:=cells5 HP2.out.out
 have HP3:=Lib.hid (HP2.out.set0 (by decide) (c1 b).1)
 have HU2:=Lib.hid (ruint_any (by have:=uint_len' (⟨b,false⟩ : Rdr); have h2 : (c1 b).2.2.rest.length ≤ b.length:=this; omega) HP3.out.rdr)
 generalize hko : w1.heap.size = ko at *
 clear HP2 hko
 go_wp2_with fail
 refine HU2.out.mono ?_
 rintro e w4 ⟨rfl,hp4⟩
 rw [show (c1 b).2.2.uint = c2 b from rfl] at hp4 ⊢
 have HP4:=Lib.hid (HP3.out.call (by decide) (by decide) (by decide) (by decide) hp4)
 clear HU2 HP3 hp4
 clear q0 q1 q2 q3 q4 f0 f1 f2 f3 f4
 obtain ⟨q0,q1,q2,q3,q4,f0,f1,f2,f3,f4⟩:=cells5 HP4.out.out
 have HP5:=Lib.hid (HP4.out.set1 (by decide) (c2 b).1)
 have HU3:=Lib.hid (ruint_any (by have:=uint_len' (⟨b,false⟩ : Rdr); have h2 : (c2 b).2.2.rest.length ≤ b.length:=Nat.le_trans (uint_len' _) this; omega) HP5.out.rdr)
 clear HP4
 go_wp2_with fail
 have HP5R:=Lib.hid HP5.out.rdr
 refine HU3.out.mono ?_
 rintro e w6 ⟨rfl,hp6⟩
 rw [show (c2 b).2.2.uint = r3 b from rfl] at hp6 ⊢
 have HP6:=Lib.hid (HP5.out.call (by decide) (by decide) (by decide) (by decide) hp6)
 clear HU3 HP5 hp6
 clear q0 q1 q2 q3 q4 f0 f1 f2 f3 f4
 have hn3 : (r3 b).1 < 2 ^ 64:=(uint_fst HP5R.out).1
 have HE4 : Hid (r4 b = cN rW (r3 b).1 (r3 b).2.2):=rfl
 have hqk : ¬ q = ko:=fun e=>by
  obtain ⟨cur,hb⟩:=HP6.out.rdr.blk
  exact blk_ne hb HP6.out.out (by decide) e
 go_wp2
 go_loopw [8] (fun i wr=>∃ (k : Nat) (A : Option Addr) (c : Nat),k ≤ (r3 b).1 ∧ i = .int .u64 k ∧ Hid (k + (cN rW k (r3 b).2.2).2.rest.length ≤ b.length) ∧ Hid (ParM W0 wr 239 q ko (cN rW k (r3 b).2.2).2 ⟨(c1 b).1,(c2 b).1,(cN rW k (r3 b).2.2).1,[],[]⟩ A c none 0 none 0)) (fun i _=>b.length + 1 - (intOf i).toNat)
 case atStart=>exact ⟨0,none,0,Nat.zero_le _,rfl,by unfold Hid; have:=HR3.out; show 0 + (r3 b).2.2.rest.length ≤ _; omega,HP6⟩
 case round=>
  obtain ⟨k,A,c,hk,rfl,HLK,HPr⟩:=hrel
  have hkl : k ≤ 900000:=by have:=HLK.out; omega
  by_cases hlt : k < (r3 b).1
  ·by_cases hnil : (cN rW k (r3 b).2.2).2.rest = []
   ·have HNO:=Lib.hid (r_stop1 HU.out hlt hnil)
    have hwl:=cN_len rW k (r3 b).2.2
    have HLE : Hid (Calls Tryz.prog 159 #[.pointer (some ⟨q,0,none⟩)] wr (fun e w'=>e = .returned (.int .i64 0) ∧ w' = wr)):=by
     unfold Hid; have:=left_any HPr.out.rdr; rw [hnil] at this; exact this
    clear hnil
    generalize (cN rW k (r3 b).2.2).1 = ws at *
    generalize (cN rW k (r3 b).2.2).2 = R0 at *
    have hW16:=HPr.out.bel
    have hne : ¬ k = (r3 b).1:=by omega
    obtain ⟨rr0,rr1,rr2,rr3,rr4,sr0,sr1,sr2,sr3,sr4⟩:=cells5 (HPB.out wr (hW16.mono (by omega)))
    obtain ⟨q0,q1,q2,q3,q4,f0,f1,f2,f3,f4⟩:=cells5 HPr.out.out
    rw [hwl] at q2
    have HWL:=Lib.hid hwl
    clear hwl
    go_wp2_with fail
    refine HLE.out.mono ?_
    rintro e w7 ⟨rfl,rfl⟩
    go_wp2
    have HFI:=Lib.hid (HPr.out.final (kept5 w7 w.heap.size (.int .u64 (c1 b).1) (.int .u64 (c2 b).1) (.slice A ws.length c) (.slice none 0 0) (.slice none 0 0)) (HPB.out w7 (hW16.mono (by omega))))
    rw [HWL.out] at HFI
    exact bodyPost_ret (by first | (simp [results,Tryz.results117,go_sem, *]; done) | (simp [results,Tryz.results117,go_sem, *]; rfl)) rfl ⟨⟨(c1 b).1,(c2 b).1,ws,[],[]⟩,A,c,none,0,none,0,by rw [HNO.out,HWL.out]; rfl,by rw [HNO.out]; simp,HFI.out,below5 (HBW.out _ hW16) (Nat.le_refl _) _ _ _ _ _⟩
   ·have HLK2 : Hid (k + 1 + (cN rW (k + 1) (r3 b).2.2).2.rest.length ≤ b.length):=by
     have h1:=rW_lt hnil
     have h2:=HLK.out
     show k + 1 + (rW (cN rW k (r3 b).2.2).2).2.rest.length ≤ _
     omega
    have HS : Hid (cN rW (k + 1) (r3 b).2.2 = ((cN rW k (r3 b).2.2).1 ++ [(rW (cN rW k (r3 b).2.2).2).1],(rW (cN rW k (r3 b).2.2).2).2)):=rfl
    have hwl:=cN_len rW k (r3 b).2.2
    have hrl:=HLK.out
    generalize (cN rW k (r3 b).2.2).1 = ws at *
    generalize (cN rW k (r3 b).2.2).2 = R0 at *
    have HCW : Hid (rW R0 = (⟨wr64 R0.uint.1,wr64 R0.uint.2.2.uint.1,R0.uint.2.2.uint.2.2.uint.1,R0.uint.2.2.uint.2.2.uint.2.2.blk.1.getD 0 0,R0.uint.2.2.uint.2.2.uint.2.2.blk.1.getD 1 0,R0.uint.2.2.uint.2.2.uint.2.2.blk.1.getD 2 0,R0.uint.2.2.uint.2.2.uint.2.2.blk.1.getD 3 0,R0.uint.2.2.uint.2.2.uint.2.2.blk.1.getD 4 0,R0.uint.2.2.uint.2.2.uint.2.2.blk.1.getD 5 0,R0.uint.2.2.uint.2.2.uint.2.2.blk.1.getD 6 0,R0.uint.2.2.uint.2.2.uint.2.2.blk.1.getD 7 0⟩,R0.uint.2.2.uint.2.2.uint.2.2.blk.2.2)):=rfl
    have hrp : 0 < R0.rest.length:=List.length_pos_iff.2 hnil
    have HLE:=Lib.hid (left_any HPr.out.rdr)
    have hu1:=uint_len' R0
    have hu2:=uint_len' R0.uint.2.2
    have hu3:=uint_len' R0.uint.2.2.uint.2.2
    go_wp2_with fail
    refine HLE.out.mono ?_
    rintro e w7 ⟨rfl,rfl⟩
    have HU1:=Lib.hid (ruint_any (by omega) HPr.out.rdr)
    clear HLE
    go_wp2_with fail
    refine HU1.out.mono ?_
    rintro e w8 ⟨rfl,hp8⟩
    have HQ1:=Lib.hid (HPr.out.call (by decide) (by decide) (by decide) (by decide) hp8)
    clear HU1 HPr hp8
    have HU2:=Lib.hid (ruint_any (by omega) HQ1.out.rdr)
    generalize R0.uint = G at *
    go_wp2_with fail
    refine HU2.out.mono ?_
    rintro e w9 ⟨rfl,hp9⟩
    have HQ2:=Lib.hid (HQ1.out.call (by decide) (by decide) (by decide) (by decide) hp9)
    clear HU2 HQ1 hp9
    have HU3:=Lib.hid (ruint_any (by omega) HQ2.out.rdr)
    generalize G.2.2.uint = P at *
    go_wp2_with fail
    refine HU3.out.mono ?_
    rintro e w10 ⟨rfl,hp10⟩
    have HQ3:=Lib.hid (HQ2.out.call (by decide) (by decide) (by decide) (by decide) hp10)
    clear HU3 HQ2 hp10
    have HU4:=Lib.hid (rblock_any HQ3.out.rdr)
    generalize P.2.2.uint = V at *
    go_wp2_with fail
    refine HU4.out.mono ?_
    rintro e w11 ⟨rfl,hp11⟩
    have HQ8:=Lib.hid (HQ3.out.call (by decide) (by decide) (by decide) (by decide) hp11)
    clear HU4 HQ3 hp11
    obtain ⟨d0,d1,d2,d3,d4,d5,d6,d7,hD⟩:=list8 (blk_len V.2.2)
    have hBV : blkV V.2.2.blk.1 = .agg #[.int .u8 d0,.int .u8 d1,.int .u8 d2,.int .u8 d3,.int .u8 d4,.int .u8 d5,.int .u8 d6,.int .u8 d7]:=by rw [hD]; rfl
    rw [hBV]
    rw [hD] at HCW
    generalize V.2.2.blk.2 = ER at *
    clear hBV hD
    go_upto_region 13 with fail
    have hb12 : Below w11.heap.size w11 (w11.alloc (.cells #[.int .u8 d0,.int .u8 d1,.int .u8 d2,.int .u8 d3,.int .u8 d4,.int .u8 d5,.int .u8 d6,.int .u8 d7] 149)):=(Below.refl _ _).alloc (Nat.le_refl _) _
    have HQ9:=Lib.hid (HQ8.out.below0 hb12)
    obtain ⟨⟨x0,x1,x2,x3,x4,x5,x6,x7⟩,_⟩:=cells8 (World.alloc_heap_new w11 (.cells #[.int .u8 d0,.int .u8 d1,.int .u8 d2,.int .u8 d3,.int .u8 d4,.int .u8 d5,.int .u8 d6,.int .u8 d7] 149))
    generalize (w11.alloc (.cells #[.int .u8 d0,.int .u8 d1,.int .u8 d2,.int .u8 d3,.int .u8 d4,.int .u8 d5,.int .u8 d6,.int .u8 d7] 149)) = w12 at *
    obtain ⟨q0,q1,q2,q3,q4,f0,f1,f2,f3,f4⟩:=cells5 HQ9.out.out
    have HO8:=Lib.hid HQ9.out.ws
    have hz12:=HQ9.out.bel.size
    have hwl2 : ws.length ≤ 900000:=by omega
    have HWL:=Lib.hid hwl
    clear hwl HQ8 hb12
    go_wp2_with (at_builtin; refine wpList_append_own _ rfl _ _ 24 rfl W0.heap.size 151 i0 _ 11 32 Tryz.underlying24 hi0 hz0 hz1 hz2 rfl (by decide) _ ws.length (flatW ws) rfl (HO8.out.alloc _) ⟨w12.heap.size,0,none⟩ 1 1 [.int .i64 (wrap64 (G.1 : Nat)),.int .i64 (wrap64 (P.1 : Nat)),.int .u64 (V.1 : Nat),.int .u8 d0,.int .u8 d1,.int .u8 d2,.int .u8 d3,.int .u8 d4,.int .u8 d5,.int .u8 d6,.int .u8 d7] rfl rfl (World.news_of_block (heap_alloc_new _ _)) (by intro u hu; simp at hu; rcases hu with h | h | h | h | h | h | h | h | h | h | h <;> (subst h; rfl)) ?c1 ?c2 ?c3 ?_)
    case c1=>unfold maxLen; omega
    case c2=>omega
    case c3=>first | omega | (simp; omega)
    intro v' w13 hown hgrow hiff
    obtain ⟨A',c',hv⟩:=own_form hown
    subst hv
    obtain ⟨hO13,hP13⟩:=HQ9.out.pushW (x:=⟨wrap64 G.1,wrap64 P.1,V.1,d0,d1,d2,d3,d4,d5,d6,d7⟩) (by decide) (by decide) hown hgrow
    have HP13 : Hid (ParM W0 (w13.setCell ⟨ko,2,none⟩ (.slice A' (ws.length + 1) c')) 239 q ko (cN rW (k + 1) (r3 b).2.2).2 ⟨(c1 b).1,(c2 b).1,(cN rW (k + 1) (r3 b).2.2).1,[],[]⟩ A' c' none 0 none 0):=by
     unfold Hid; rw [HS.out,HCW.out,wr64_eq,wr64_eq]; exact hP13
    clear q0 q1 q2 q3 q4 f0 f1 f2 f3 f4
    clear x0 x1 x2 x3 x4 x5 x6 x7
    obtain ⟨q0,q1,q2,q3,q4,f0,f1,f2,f3,f4⟩:=cells5 hO13
    clear hown hgrow hiff hP13 hO13 HQ9 HO8
    go_wp2
    go_roundw
    case rel=>exact ⟨k + 1,A',c',hlt,by go_num,HLK2,HP13⟩
    case measure=>simp [intOf]; omega
  ·obtain rfl : k = (r3 b).1:=by omega
   have hkl3:=Lib.hid hkl
   have HP7 : Hid (ParM W0 wr 239 q ko (r4 b).2 ⟨(c1 b).1,(c2 b).1,(r4 b).1,[],[]⟩ A c none 0 none 0):=HPr
   have hwl : (r4 b).1.length = (r3 b).1:=by rw [HE4.out,cN_len]
   have hr4:=r4_rest b
   have HU5:=Lib.hid (ruint_any (by omega) HP7.out.rdr)
   clear HPr HP6
   obtain ⟨q0,q1,q2,q3,q4,f0,f1,f2,f3,f4⟩:=cells5 HP7.out.out
   have HWL:=Lib.hid hwl
   rw [hwl] at q2
   clear hwl
   go_wp2_with fail
   clear q0 q1 q2 q3 q4 f0 f1 f2 f3 f4
   have HP7R:=Lib.hid HP7.out.rdr
   refine HU5.out.mono ?_
   rintro e w14 ⟨rfl,hp14⟩
   rw [show (r4 b).2.uint = r5 b from rfl] at hp14 ⊢
   have HP8:=Lib.hid (HP7.out.call (by decide) (by decide) (by decide) (by decide) hp14)
   clear HU5 HP7 hp14
   have hn5 : (r5 b).1 < 2 ^ 64:=(uint_fst HP7R.out).1
   have HE6 : Hid (r6 b = cN rM (r5 b).1 (r5 b).2.2):=rfl
   have HR5:=Lib.hid (r5_rest b)
   have HWL3:=HWL
   clear HWL
   go_wp2
   go_loopw [17] (fun i wr=>∃ (k : Nat) (D : Option Addr) (d : Nat),k ≤ (r5 b).1 ∧ i = .int .u64 k ∧ Hid (k + (cN rM k (r5 b).2.2).2.rest.length ≤ b.length) ∧ Hid (ParM W0 wr 239 q ko (cN rM k (r5 b).2.2).2 ⟨(c1 b).1,(c2 b).1,(r4 b).1,(cN rM k (r5 b).2.2).1,[]⟩ A c D d none 0)) (fun i _=>b.length + 1 - (intOf i).toNat)
   case atStart=>exact ⟨0,none,0,Nat.zero_le _,rfl,by unfold Hid; have:=HR5.out; show 0 + (r5 b).2.2.rest.length ≤ _; omega,HP8⟩
   case round=>
    obtain ⟨k,D,d,hk,rfl,HLK,HPr⟩:=hrel
    have hkl : k ≤ 900000:=by have:=HLK.out; omega
    by_cases hlt : k < (r5 b).1
    ·by_cases hnil : (cN rM k (r5 b).2.2).2.rest = []
     ·have HNO:=Lib.hid (r_stop2 HU.out hlt hnil)
      have hwl:=cN_len rM k (r5 b).2.2
      have HLE : Hid (Calls Tryz.prog 159 #[.pointer (some ⟨q,0,none⟩)] wr (fun e w'=>e = .returned (.int .i64 0) ∧ w' = wr)):=by
       unfold Hid; have:=left_any HPr.out.rdr; rw [hnil] at this; exact this
      clear hnil
      generalize (cN rM k (r5 b).2.2).1 = ms at *
      generalize (cN rM k (r5 b).2.2).2 = R0 at *
      have hW16:=HPr.out.bel
      have hne : ¬ k = (r5 b).1:=by omega
      obtain ⟨rr0,rr1,rr2,rr3,rr4,sr0,sr1,sr2,sr3,sr4⟩:=cells5 (HPB.out wr (hW16.mono (by omega)))
      obtain ⟨q0,q1,q2,q3,q4,f0,f1,f2,f3,f4⟩:=cells5 HPr.out.out
      rw [hwl] at q3
      have HWL:=Lib.hid hwl
      clear hwl
      go_wp2_with fail
      refine HLE.out.mono ?_
      rintro e w7 ⟨rfl,rfl⟩
      go_wp2
      have HFI:=Lib.hid (HPr.out.final (kept5 w7 w.heap.size (.int .u64 (c1 b).1) (.int .u64 (c2 b).1) (.slice A (r4 b).1.length c) (.slice D ms.length d) (.slice none 0 0)) (HPB.out w7 (hW16.mono (by omega))))
      rw [HWL.out] at HFI
      exact bodyPost_ret (by first | (simp [results,Tryz.results117,go_sem, *]; done) | (simp [results,Tryz.results117,go_sem, *]; rfl)) rfl ⟨⟨(c1 b).1,(c2 b).1,(r4 b).1,ms,[]⟩,A,c,D,d,none,0,by rw [HNO.out,HWL.out]; rfl,by rw [HNO.out]; simp,HFI.out,below5 (HBW.out _ hW16) (Nat.le_refl _) _ _ _ _ _⟩
     ·have HLK2 : Hid (k + 1 + (cN rM (k + 1) (r5 b).2.2).2.rest.length ≤ b.length):=by
       have h1:=rM_lt hnil
       have h2:=HLK.out
       show k + 1 + (rM (cN rM k (r5 b).2.2).2).2.rest.length ≤ _
       omega
      have HS : Hid (cN rM (k + 1) (r5 b).2.2 = ((cN rM k (r5 b).2.2).1 ++ [(rM (cN rM k (r5 b).2.2).2).1],(rM (cN rM k (r5 b).2.2).2).2)):=rfl
      have hwl:=cN_len rM k (r5 b).2.2
      have hrl:=HLK.out
      generalize (cN rM k (r5 b).2.2).1 = ms at *
      generalize (cN rM k (r5 b).2.2).2 = R0 at *
      have HCM : Hid (rM R0 = (⟨wr64 R0.uint.1,wr64 R0.uint.2.2.uint.1,zagN R0.uint.2.2.uint.2.2.uint.1,wr64 R0.uint.2.2.uint.2.2.uint.2.2.uint.1⟩,R0.uint.2.2.uint.2.2.uint.2.2.uint.2.2)):=rfl
      have hrp : 0 < R0.rest.length:=List.length_pos_iff.2 hnil
      have HLE:=Lib.hid (left_any HPr.out.rdr)
      have hu1:=uint_len' R0
      have hu2:=uint_len' R0.uint.2.2
      have hu3:=uint_len' R0.uint.2.2.uint.2.2
      go_wp2_with fail
      refine HLE.out.mono ?_
      rintro e w7 ⟨rfl,rfl⟩
      have HU1:=Lib.hid (ruint_any (by omega) HPr.out.rdr)
      clear HLE
      go_wp2_with fail
      refine HU1.out.mono ?_
      rintro e w8 ⟨rfl,hp8⟩
      have HQ1:=Lib.hid (HPr.out.call (by decide) (by decide) (by decide) (by decide) hp8)
      clear HU1 HPr hp8
      have HU2:=Lib.hid (ruint_any (by omega) HQ1.out.rdr)
      generalize R0.uint = G at *
      go_wp2_with fail
      refine HU2.out.mono ?_
      rintro e w9 ⟨rfl,hp9⟩
      have HQ2:=Lib.hid (HQ1.out.call (by decide) (by decide) (by decide) (by decide) hp9)
      clear HU2 HQ1 hp9
      have HU3:=Lib.hid (rint_any (by omega) HQ2.out.rdr)
      generalize G.2.2.uint = P at *
      go_wp2_with fail
      refine HU3.out.mono ?_
      rintro e w10 ⟨rfl,hp10⟩
      have HQ3:=Lib.hid (HQ2.out.call (by decide) (by decide) (by decide) (by decide) hp10)
      clear HU3 HQ2 hp10
      have HU4:=Lib.hid (ruint_any (by omega) HQ3.out.rdr)
      generalize P.2.2.uint = V at *
      generalize zagN V.1 = zv at *
      go_wp2_with fail
      refine HU4.out.mono ?_
      rintro e w12 ⟨rfl,hp12⟩
      have HQ9:=Lib.hid (HQ3.out.call (by decide) (by decide) (by decide) (by decide) hp12)
      clear HU4 HQ3 hp12
      generalize V.2.2.uint = B4 at *
      go_upto_region 24 with fail
      obtain ⟨q0,q1,q2,q3,q4,f0,f1,f2,f3,f4⟩:=cells5 HQ9.out.out
      have HO8:=Lib.hid HQ9.out.ms
      have hz12:=HQ9.out.bel.size
      have hwl2 : ms.length ≤ 900000:=by omega
      have HWL:=Lib.hid hwl
      clear hwl
      go_wp2_with (at_builtin; refine wpList_append_own _ rfl _ _ 25 rfl W0.heap.size 156 i1 _ 4 32 Tryz.underlying25 hi1 hy0 hy1 hy2 rfl (by decide) _ ms.length (flatM ms) rfl (HO8.out.alloc _) ⟨w12.heap.size,0,none⟩ 1 1 [.int .i64 (wrap64 (G.1 : Nat)),.int .i64 (wrap64 (P.1 : Nat)),.int .i64 zv,.int .i64 (wrap64 (B4.1 : Nat))] rfl rfl (World.news_of_block (heap_alloc_new _ _)) (by intro u hu; simp at hu; rcases hu with h | h | h | h <;> (subst h; rfl)) ?c1 ?c2 ?c3 ?_)
      case c1=>unfold maxLen; omega
      case c2=>omega
      case c3=>first | omega | (simp; omega)
      intro v' w13 hown hgrow hiff
      obtain ⟨A',c',hv⟩:=own_form hown
      subst hv
      obtain ⟨hO13,hP13⟩:=HQ9.out.pushM (x:=⟨wrap64 G.1,wrap64 P.1,zv,wrap64 B4.1⟩) (by decide) (by decide) hown hgrow
      have HP13 : Hid (ParM W0 (w13.setCell ⟨ko,3,none⟩ (.slice A' (ms.length + 1) c')) 239 q ko (cN rM (k + 1) (r5 b).2.2).2 ⟨(c1 b).1,(c2 b).1,(r4 b).1,(cN rM (k + 1) (r5 b).2.2).1,[]⟩ A c A' c' none 0):=by
       unfold Hid; rw [HS.out,HCM.out,wr64_eq,wr64_eq,wr64_eq]; exact hP13
      clear q0 q1 q2 q3 q4 f0 f1 f2 f3 f4
      obtain ⟨q0,q1,q2,q3,q4,f0,f1,f2,f3,f4⟩:=cells5 hO13
      clear hown hgrow hiff hP13 hO13 HQ9 HO8
      go_wp2
      go_roundw
      case rel=>exact ⟨k + 1,A',c',hlt,by go_num,HLK2,HP13⟩
      case measure=>simp [intOf]; omega
    ·obtain rfl : k = (r5 b).1:=by omega
     have HP9 : Hid (ParM W0 wr 239 q ko (r6 b).2 ⟨(c1 b).1,(c2 b).1,(r4 b).1,(r6 b).1,[]⟩ A c D d none 0):=HPr
     have hml : (r6 b).1.length = (r5 b).1:=by rw [HE6.out,cN_len]
     have hr6:=r6_rest b
     have hr7:=r7_rest b
     clear HPr HP8
     have HU6:=Lib.hid (rbytes_any (by omega) HP9.out.rdr)
     obtain ⟨q0,q1,q2,q3,q4,f0,f1,f2,f3,f4⟩:=cells5 HP9.out.out
     rw [hml] at q3
     have HML:=Lib.hid hml
     clear hml
     go_wp2_with fail
     clear q0 q1 q2 q3 q4 f0 f1 f2 f3 f4
     refine HU6.out.mono ?_
     rintro e w15 ⟨N7,n7,rfl,hT7,hU7,_,hcap7,hp15⟩
     rw [show (r6 b).2.bytes = r7 b from rfl] at hp15 hT7 hU7 hcap7 ⊢
     have HP10:=Lib.hid (HP9.out.call (by decide) (by decide) (by decide) (by decide) hp15)
     obtain ⟨q0,q1,q2,q3,q4,f0,f1,f2,f3,f4⟩:=cells5 HP10.out.out
     have HP11:=Lib.hid (HP10.out.set4 (by decide) (n':=n7) hT7)
     clear HU6 HP9 hp15
     have HRC:=Lib.hid (r_rec HU.out)
     have HREC : Hid (rRec b = ⟨(c1 b).1,(c2 b).1,(r4 b).1,(r6 b).1,(r7 b).1⟩):=rfl
     have HRO : Hid (rOk b = ((r7 b).2.2.done == 0 && validR (rRec b))):=rfl
     have hout:=HP11.out.out
     obtain ⟨dn,hdn⟩ : ∃ dn,(r7 b).2.2.done = dn:=⟨_,rfl⟩
     have HDN:=Lib.hid hdn
     rw [hdn] at HRO
     clear hdn HP10
     have hlw : (r4 b).1.length ≤ 900000:=by rw [HWL3.out]; exact hkl3.out
     have hlm : (r6 b).1.length ≤ 900000:=by rw [HML.out]; exact hkl
     go_wp2_with fail
     clear q0 q1 q2 q3 q4 f0 f1 f2 f3 f4
     obtain ⟨q0,q1,q2,q3,q4,f0,f1,f2,f3,f4⟩:=cells5 hout
     generalize (w15.setCell ⟨ko,4,none⟩ (.slice N7 (r7 b).1.length n7)) = w16 at *
     have HD' : Hid (Calls Tryz.prog 158 #[.pointer (some ⟨q,0,none⟩)] w16.drew (fun e w'=>e = .returned (.int .i64 dn) ∧ w' = w16.drew)):=by
      unfold Hid; rw [← HDN.out]; exact rdone_any (by omega) (show RdrM 239 w16.drew q _ from HP11.out.rdr)
     have HPD : Hid (ParM W0 w16.drew 239 q ko (r7 b).2.2 ⟨(c1 b).1,(c2 b).1,(r4 b).1,(r6 b).1,(r7 b).1⟩ A c D d N7 n7):=HP11.out.below0 ((Below.refl _ _).drew)
     have HVA' : Hid (Calls Tryz.prog 67 #[.agg #[.int .u64 (c1 b).1,.int .u64 (c2 b).1,.slice A (r4 b).1.length c,.slice D (r6 b).1.length d,.slice N7 (r7 b).1.length n7]] w16.drew (fun e w'=>e = .returned (.bool (validR (rRec b))) ∧ Below w16.drew.heap.size w16.drew w')):=qvalid_any ⟨(c1 b).1,(c2 b).1,(r4 b).1,(r6 b).1,(r7 b).1⟩ A D N7 c d n7 w16.drew HPD.out.rec_ (by show (r4 b).1.length ≤ _; omega) (by show (r6 b).1.length ≤ _; omega) (by show (r7 b).1.length ≤ _; omega)
     have hkz:=lt_of_block hout
     have hW16:=HPD.out.bel
     clear hcap7
     by_cases hd : dn = 0
     ·subst hd
      have HB1 : Hid ((recD b).isSome = validR (rRec b)):=by unfold Hid; rw [← HRC.out.1,HRO.out]; rfl
      go_region_law (first
       | (go_simp
          go_at_call 158
          refine HD'.out.mono ?_
          rintro e w17 ⟨rfl,rfl⟩)
       | (go_simp
          go_at_call 67
          refine HVA'.out.mono ?_
          rintro e w18 ⟨rfl,hb18⟩
          have t0:=(hb18.cell (p:=⟨ko,0,none⟩) hkz).trans q0
          have t1:=(hb18.cell (p:=⟨ko,1,none⟩) hkz).trans q1
          have t2:=(hb18.cell (p:=⟨ko,2,none⟩) hkz).trans q2
          have t3:=(hb18.cell (p:=⟨ko,3,none⟩) hkz).trans q3
          have t4:=(hb18.cell (p:=⟨ko,4,none⟩) hkz).trans q4
          have HPX:=Lib.hid (HPD.out.below0 hb18)
          have hb0 : Below (w.heap.size + 1) W0 w18:=(hW16.trans (hb18.mono hW16.size)).mono (by omega)
          have HB18:=Lib.hid hb0
          obtain ⟨rr0,rr1,rr2,rr3,rr4,sr0,sr1,sr2,sr3,sr4⟩:=cells5 (HPB.out w18 hb0)))
      all_goals go_wp2
      all_goals exact bodyPost_ret (by first | (simp [results,Tryz.results117,go_sem, *]; done) | (simp [results,Tryz.results117,go_sem, *]; rfl)) rfl ⟨⟨(c1 b).1,(c2 b).1,(r4 b).1,(r6 b).1,(r7 b).1⟩,A,c,D,d,N7,n7,by rw [HB1.out],fun r' h=>by rw [← HREC.out]; exact HRC.out.2 r' h,HPX.out.final (kept5 _ _ _ _ _ _ _) (HPB.out w18 HB18.out),below5 (HBW.out _ HPX.out.bel) (Nat.le_refl _) _ _ _ _ _⟩
     ·have hd2 : (dn == 0) = false:=by simpa using hd
      have HB1 : Hid ((recD b).isSome = false):=by unfold Hid; rw [← HRC.out.1,HRO.out,hd2]; rfl
      obtain ⟨rr0,rr1,rr2,rr3,rr4,sr0,sr1,sr2,sr3,sr4⟩:=cells5 (HPB.out w16 (HP11.out.bel.mono (by omega)))
      go_region_law (first
       | (go_simp
          go_at_call 158
          refine HD'.out.mono ?_
          rintro e w17 ⟨rfl,rfl⟩))
      all_goals go_wp2
      all_goals exact bodyPost_ret (by first | (simp [results,Tryz.results117,go_sem, *]; done) | (simp [results,Tryz.results117,go_sem, *]; rfl)) rfl ⟨⟨(c1 b).1,(c2 b).1,(r4 b).1,(r6 b).1,(r7 b).1⟩,A,c,D,d,N7,n7,by rw [HB1.out],fun r' h=>by rw [← HREC.out]; exact HRC.out.2 r' h,HP11.out.final (kept5d _ _ _ _ _ _ _) (HPB.out w16 (HP11.out.bel.mono (by omega))),below5d (HBW.out _ HP11.out.bel) (Nat.le_refl _) _ _ _ _ _⟩
end Go.Proofs.YtaggiceejcegdaaGreat
