/-
  WHAT IS SHOWN: more: what Inspect of record returns. Conditions: as each theorem names them.
-/
import Derived.Test.YtaggiceejcegdaaGreatNc35
import Derived.BigQuiet
import Derived.ChangeKeysEq
import Derived.ChangeOld
import Derived.Deep.AppendLies
import Derived.Deep.DeepCutAuto
import Derived.Deep.Draws
import Derived.Deep.Fields
import Derived.Deep.QuietTactic
import Derived.Deep.RegionHeld3
import Derived.Deep.RegionLaw
import Derived.Deep.Slices
import Derived.Handy
import Derived.Laws.AppendOwnNone
import Derived.Laws.BytesArg
import Derived.Laws.Cover3
import Derived.Laws.MakeOwn
import Derived.Laws.OwnMore
import Derived.Laws.Rows
import Derived.Lib.ConvBytes
import Derived.Lib.Hide
import Derived.Lib.SmallJoins
import Derived.Lib.VarintBits
import Derived.Lib.Zigzag
import Derived.LoopIn
import Derived.LoopNIn
import Derived.Maps.AppendAt
import Derived.OpenShut
import Derived.OwnWalkIn
import Derived.ProofKit
import Derived.RangeFuncBox
import Derived.RangeFuncLeaves
import Derived.Shelf.Abstract
import Derived.Sort.QuietIn
import Derived.TacticsInMore
import Derived.WalkKit
import Derived.WalkLawsBesides
import Derived.WalkMore
import Derived.WalkSpells
import Derived.Test.YtaggiceejcegdaaGreatOe01
namespace Go.Proofs.YtaggiceejcegdaaGreat
set_option linter.unusedVariables false
open Go.RowKit
theorem arrL_at {b : List Int} {k : Nat} (hk : k < 4) : (arrL b k)[k]? = some (.int .u64 0):=by
 rcases (by omega : k = 0 ∨ k = 1 ∨ k = 2 ∨ k = 3) with rfl | rfl | rfl | rfl <;> simp [arrL]
theorem arrL_set {b : List Int} {k : Nat} (hk : k < 4) : (arrL b k).set k (.int .u64 (numK b k : Nat)) = arrL b (k + 1):=by
 rcases (by omega : k = 0 ∨ k = 1 ∨ k = 2 ∨ k = 3) with rfl | rfl | rfl | rfl <;> simp [arrL]
theorem bytes_len (r : Rdr) : r.bytes.2.2.rest.length ≤ r.uint.2.2.rest.length:=by
 unfold Rdr.bytes Rdr.take
 split
 ·split
  ·exact Nat.zero_le _
  ·show (List.drop _ _).length ≤ _; rw [List.length_drop]; omega
 ·exact Nat.le_refl _
set_option maxRecDepth 100000 in
set_option maxHeartbeats 8000000 in
theorem inspect_any (b : List Int) (hu : U8s b) (A : Option Addr) (c : Nat) (w : World) (h : Rd w w.heap.size A (b.map (Value.int .u8))) (hl : b.length ≤ 100000) (hc : b.length ≤ c) (hcm : c ≤ 9223372036854775807) :
  Calls Tryz.prog 111 #[.slice A b.length c] w (InsPost w b):=by
 have HH:=Lib.hid h
 clear h
 have HPB : Hid (∀ W,Below (w.heap.size + 1) (w.alloc (.cells #[.int .u64 0,.int .u64 0,.int .i64 0,.int .i64 0] 184)) W → W.heap[w.heap.size]? = some (.cells #[.int .u64 0,.int .u64 0,.int .i64 0,.int .i64 0] 184 (0,0))):=fun W hW=>belObj hW (World.alloc_heap_new w _) (by omega)
 by_cases h8 : b.length < 8
 ·have HI:=Lib.hid (insD_short h8)
  go_enter Tryz.func111,Tryz.ntmps111
  go_wp2
  exact bodyPost_ret (by first | (simp [results,Tryz.results111,go_sem, *]; done) | (simp [results,Tryz.results111,go_sem, *]; rfl)) rfl (InsPost.bad HI.out rfl ((Below.refl _ _).alloc (Nat.le_refl _) _))
 ·obtain ⟨n,hn⟩ : ∃ n,b.length = n + 8:=⟨b.length - 8,by omega⟩
  have h0 : 0 < b.length:=by omega
  obtain ⟨g0,o0,rfl,hg0,j0⟩:=byte_at HH.out h0
  rw [Nat.add_zero] at j0
  have hh : b.head? = some b[0]:=by cases b with | nil=>simp at h0 | cons x l=>rfl
  by_cases hm : b[0] = 82
  ·have hh2 : b.head? = some 82:=by rw [hh,hm]
   have hbl : (b.take n).length = n:=by rw [List.length_take]; omega
   have hn2 : b.length - 8 = n:=by omega
   have hRB : Rd w w.heap.size (some ⟨g0,o0,none⟩) ((b.take n).map (Value.int .u8)):=by rw [List.map_take]; exact HH.out.take n
   have HCL:=Lib.hid (fun W (hW : Below w.heap.size w W)=>cloneo_any (b.take n) (some ⟨g0,o0,none⟩) c W ((hRB.below hW (Nat.le_refl _)).more hW.size) (by omega))
   rw [hbl] at HCL
   rw [hm] at j0
   by_cases hs : sealB (b.take (b.length - 8)) = b
   ·have hs0:=hs
    rw [hn2] at hs
    have HD : Hid (decide (sealB (b.take n) = b) = true):=decide_eq_true hs
    have hls : (sealB (b.take n)).length = n + 8:=by unfold sealB; rw [List.length_append,hbl]; rfl
    have HSE:=Lib.hid (fun (w1 : World) (A1 : Option Addr) (c1 : Nat) (ho : w1.ownsRow (w.heap.size + 1) 5 1 (.slice A1 (b.take n).length c1) (b.take n).length ((b.take n).map (Value.int .u8))) (hz : w.heap.size + 1 ≤ w1.heap.size)=>sealed_any (w.heap.size + 1) (b.take n) A1 c1 w1 ho hz (by omega))
    have HLB:=Lib.hid hbl
    rw [hbl] at HSE
    have HI5 : Hid (n = 0 → insD b = .bad 5):=fun h=>insD_eight (by omega) hh2 hs0
    have HI9 : Hid (0 < n → (insOk b = false → insD b = .bad 5) ∧ (insOk b = true → insD b = ⟨numK b 0,numK b 1,numK b 2,numK b 3,(rdK b 4).bytes.1,0⟩)):=fun h=>⟨insD_no (by omega) hh2 hs0,insD_yes (by omega) hh2 hs0⟩
    have HR1 : Hid (0 < n → ∀ W,Below w.heap.size w W → Rd W W.heap.size (some ⟨g0,o0 + 1,none⟩) (((b.take n).drop 1).map (Value.int .u8))):=fun _ W hW=>by
     have:=(((hRB.below hW (Nat.le_refl _)).more hW.size).dropk 1)
     rw [List.map_drop]; exact this
    have HK0 : Hid (rdK b 0 = ⟨(b.take n).drop 1,false⟩):=by unfold Hid rdK; rw [hn2]
    have HL1 : Hid (((b.take n).drop 1).length = n - 1):=by unfold Hid; rw [List.length_drop,hbl]
    have HU1 : Hid (U8s ((b.take n).drop 1)):=(hu.take n).drop 1
    generalize sealB (b.take n) = sb at *
    have HLS:=Lib.hid hls
    clear hls hm hh hh2 hs hs0 hbl hn2 hRB
    have hN:=Lib.hid hn
    rw [hn] at hl hc ⊢
    clear hn h8 h0
    go_enter Tryz.func111,Tryz.ntmps111
    go_wp2_with fail
    refine (HCL.out _ ((Below.refl _ _).alloc (Nat.le_refl _) _)).mono ?_
    rintro e w1 ⟨A1,c1,rfl,ho1,hb1⟩
    rw [HLB.out] at ho1 ⊢
    have HB1b : Hid (Below (w.heap.size + 1) (w.alloc (.cells #[.int .u64 0,.int .u64 0,.int .i64 0,.int .i64 0] 184)) w1):=hb1.mono (by simp)
    have hb1' : Below w.heap.size w w1:=((Below.refl _ _).alloc (Nat.le_refl _) _).trans (hb1.mono (by simp))
    have HS1:=Lib.hid (HSE.out w1 A1 c1 (own_mono ho1 (by simp)) (by have:=HB1b.out.size; simp at this; omega))
    have HB1:=Lib.hid hb1'
    clear hb1 ho1 hb1'
    go_wp2_with fail
    refine HS1.out.mono ?_
    rintro e w2 ⟨A2,c2,rfl,ho2,hb2⟩
    have hb2':=HB1.out.trans (hb2.mono (by omega))
    have HB2b:=Lib.hid (HB1b.out.trans hb2)
    have HQ:=Lib.hid (equal_any sb b A2 (some ⟨g0,o0,none⟩) c2 c w2 (Rd.of_own ho2) ((HH.out.below hb2' (Nat.le_refl _)).more hb2'.size) (by rw [HLS.out]; omega) (by rw [hN.out]; omega))
    rw [HD.out,hN.out] at HQ
    have HB2:=Lib.hid hb2'
    clear ho2 hb2 hb2'
    go_wp2_with fail
    refine HQ.out.mono ?_
    rintro e w3 ⟨rfl,hb3⟩
    have HB3:=Lib.hid (HB2.out.trans (hb3.mono HB2.out.size))
    have HB3b:=Lib.hid (HB2b.out.trans (hb3.mono (by have:=HB2b.out.size; simp at this; omega)))
    clear hb3 HB1 HB1b HB2 HB2b HQ HS1 HSE HCL HLS HLB HD
    by_cases hn0 : n = 0
    ·have HI:=Lib.hid (HI5.out hn0)
     have PB:=HPB.out w3 HB3b.out
     obtain ⟨q0,q1,q2,q3,f0,f1,f2,f3⟩:=cells4 PB
     clear PB
     go_wp2
     exact bodyPost_ret (by first | (simp [results,Tryz.results111,go_sem, *]; done) | (simp [results,Tryz.results111,go_sem, *]; rfl)) rfl (InsPost.bad HI.out rfl (below4 HB3.out (Nat.le_refl _) _ _ _ _))
    ·have HI:=Lib.hid (HI9.out (by omega))
     have HNW:=Lib.hid (new_any ((b.take n).drop 1) HU1.out (some ⟨g0,o0 + 1,none⟩) (c - 1) w3 (HR1.out (by omega) w3 HB3.out) (by rw [HL1.out]; omega))
     rw [HL1.out] at HNW
     have hc1 : ¬ c = 1:=by omega
     have hn1 : (1 : Int) ≤ (n : Int):=by omega
     clear HR1 HU1 HI9 HI5
     go_wp2_with fail
     refine HNW.out.mono ?_
     rintro e w4 ⟨q,rfl,hq,hM,hb4⟩
     rw [← HK0.out] at hM
     have HB4b:=Lib.hid (HB3b.out.trans (hb4.mono (by have:=HB3b.out.size; simp at this; omega)))
     have hqlt:=hM.lt
     have hWz : ((w.alloc (.cells #[.int .u64 0,.int .u64 0,.int .i64 0,.int .i64 0] 184))).heap.size = w.heap.size + 1:=by simp
     have h3z:=HB3b.out.size
     have hqw : w.heap.size + 1 ≤ q:=by omega
     clear hWz h3z
     have HM:=Lib.hid hM
     clear hM hb4
     go_wp2
     have hblk:=World.alloc_heap_new w4 (.cells #[.int .u64 0,.int .u64 0,.int .u64 0,.int .u64 0] 219)
     have hbel : Below w4.heap.size w4 (w4.alloc (.cells #[.int .u64 0,.int .u64 0,.int .u64 0,.int .u64 0] 219)):=(Below.refl _ _).alloc (Nat.le_refl _) _
     have HM5:=Lib.hid (HM.out.below hbel)
     have hz5 : w4.heap.size + 1 = (w4.alloc (.cells #[.int .u64 0,.int .u64 0,.int .u64 0,.int .u64 0] 219)).heap.size:=by simp
     have h4z:=HB4b.out.size
     have HB5b:=Lib.hid (HB4b.out.trans (hbel.mono (by simp at h4z; omega)))
     generalize (w4.alloc (.cells #[.int .u64 0,.int .u64 0,.int .u64 0,.int .u64 0] 219)) = w5 at *
     generalize hk4 : w4.heap.size = k4 at *
     clear hbel hk4 HM HB4b
     go_loopw [40] (fun i wr=>∃ k : Nat,k ≤ 4 ∧ i = .int .i64 k ∧ Hid (RdrM 236 wr q (rdK b k)) ∧ Hid ((rdK b k).rest.length ≤ 100000) ∧ Hid (wr.heap[k4]? = some (.cells (arrL b k).toArray 219 (0,0))) ∧ Hid (Below (w.heap.size + 1) (w.alloc (.cells #[.int .u64 0,.int .u64 0,.int .i64 0,.int .i64 0] 184)) wr)) (fun i _=>4 - (intOf i).toNat)
     case atStart=>exact ⟨0,by omega,rfl,HM5,by unfold Hid; rw [HK0.out]; show ((b.take n).drop 1).length ≤ _; rw [HL1.out]; omega,hblk,HB5b⟩
     case round=>
      obtain ⟨k,hk,rfl,HMr,HLr,HAr,HBr⟩:=hrel
      by_cases hlt : k < 4
      ·obtain ⟨y0,y1⟩:=heap_atL HAr.out (arrL_at hlt)
       have HU : Hid (Calls Tryz.prog 149 #[.pointer (some ⟨q,0,none⟩)] wr (UintPost 236 wr q (rdK b k))):=uint_any HMr.out
       have HS1:=Lib.hid (arrL_set (b:=b) hlt)
       have hqz:=HMr.out.lt
       have HLr2 : Hid ((rdK b (k + 1)).rest.length ≤ 100000):=Nat.le_trans (uint_len HMr.out) HLr.out
       go_wp2_with fail
       refine HU.out.mono ?_
       rintro e w6 ⟨rfl,hM6,hk6⟩
       have hA6:=hk6.obj HAr.out (by omega : ¬ k4 = q)
       obtain ⟨z0,z1⟩:=heap_atL hA6 (arrL_at hlt)
       have hb6 : Below (w.heap.size + 1) (w.alloc (.cells #[.int .u64 0,.int .u64 0,.int .i64 0,.int .i64 0] 184)) w6:=HBr.out.trans (hk6.below (fun i hi=>by have hi' : i = q:=hi; have:=HB5b.out.size; omega) (by have:=HBr.out.size; simp at this; omega))
       have hA7:=heap_setL hA6 k (.int .u64 (numK b k : Nat))
       rw [HS1.out] at hA7
       have HA7:=Lib.hid hA7
       have HM7 : Hid (RdrM 236 (w6.setCell ⟨k4,k,none⟩ (.int .u64 (numK b k : Nat))) q (rdK b (k + 1))):=hM6.kept ((Kept.refl (fun i=>i = k4) w6).setCell (p:=⟨k4,k,none⟩) (fun _=>rfl) _) (by omega) (free4 hA6 (by decide))
       have HB7 : Hid (Below (w.heap.size + 1) (w.alloc (.cells #[.int .u64 0,.int .u64 0,.int .i64 0,.int .i64 0] 184)) (w6.setCell ⟨k4,k,none⟩ (.int .u64 (numK b k : Nat)))):=hb6.setCell (p:=⟨k4,k,none⟩) (by show _ ≤ k4; omega) _
       have hnk : (rdK b k).uint.1 = numK b k:=rfl
       rw [hnk]
       clear hA6 hA7 hM6 hk6 hb6 y0 y1 hnk
       go_wp2
       go_roundw
       case rel=>exact ⟨k + 1,hlt,by go_num,HM7,HLr2,HA7,HB7⟩
       case measure=>simp [intOf]; omega
      ·obtain rfl : k = 4:=by omega
       have HBY:=Lib.hid (bytes_any HMr.out)
       go_wp2_with fail
       refine HBY.out.mono ?_
       rintro e w6 ⟨A6,d6,rfl,hD6,hU6,_,_,hM6,hk6⟩
       have hL5 : (rdK b 4).bytes.2.2.rest.length ≤ 1000000:=by
        have h1:=bytes_len (rdK b 4)
        have h2:=uint_len HMr.out
        have h3:=HLr.out
        omega
       have HDn:=Lib.hid (done_any hL5 hM6)
       have hA6 : w6.heap[k4]? = some (.cells #[.int .u64 (numK b 0 : Nat),.int .u64 (numK b 1 : Nat),.int .u64 (numK b 2 : Nat),.int .u64 (numK b 3 : Nat)] 219 (0,0)):=hk6.obj HAr.out (by omega : ¬ k4 = q)
       obtain ⟨a0,a1,a2,a3,_,_,_,_⟩:=cells4 hA6
       have HB6 : Hid (Below (w.heap.size + 1) (w.alloc (.cells #[.int .u64 0,.int .u64 0,.int .i64 0,.int .i64 0] 184)) w6):=HBr.out.trans (hk6.below (fun i hi=>by have hi' : i = q:=hi; omega) (by have:=HBr.out.size; simp at this; omega))
       have HBe : Hid (Below w.heap.size w w6):=((Below.refl _ _).alloc (Nat.le_refl _) _).trans (HB6.out.mono (by omega))
       have PB:=HPB.out w6 HB6.out
       have HRd6 : Hid (RdT ((((w6.setCell ⟨w.heap.size,0,none⟩ (.int .u64 (numK b 0 : Nat))).setCell ⟨w.heap.size,1,none⟩ (.int .u64 (numK b 1 : Nat))).setCell ⟨w.heap.size,2,none⟩ (.int .i64 (numK b 2 : Nat))).setCell ⟨w.heap.size,3,none⟩ (.int .i64 (numK b 3 : Nat))) 5 A6 ((rdK b 4).bytes.1.map (Value.int .u8))):=hD6.kept (kept4 w6 w.heap.size _ _ _ _) (free4 PB (by decide))
       obtain ⟨q0,q1,q2,q3,f0,f1,f2,f3⟩:=cells4 PB
       have HIN : Hid ((¬ (rdK b 4).bytes.2.2.done = 0 ∨ numK b 1 < 1 ∨ 4096 < numK b 3 ∨ numK b 3 ≤ numK b 2 ∨ (rdK b 4).bytes.1.length < 1 ∨ 28 < (rdK b 4).bytes.1.length) → insD b = .bad 5):=fun h=>HI.out.1 (insOk_no h)
       have HIY : Hid ((rdK b 4).bytes.2.2.done = 0 → 1 ≤ numK b 1 → numK b 3 ≤ 4096 → numK b 2 < numK b 3 → 1 ≤ (rdK b 4).bytes.1.length → (rdK b 4).bytes.1.length ≤ 28 → insD b = ⟨numK b 0,numK b 1,numK b 2,numK b 3,(rdK b 4).bytes.1,0⟩):=fun h0 h1 h2 h3 h4 h5=>HI.out.2 (insOk_yes h0 h1 h2 h3 h4 h5)
       clear hA6 PB hk6 hD6 hM6 HAr HMr HLr hL5 hU6 HI
       generalize (rdK b 4).bytes.2.2.done = dn at *
       generalize (rdK b 4).bytes.2.1 = be at *
       generalize (rdK b 4).bytes.1 = ch at *
       generalize numK b 0 = n0 at *
       generalize numK b 1 = n1 at *
       generalize numK b 2 = n2 at *
       generalize numK b 3 = n3 at *
       go_wp2_with fail
       refine HDn.out.mono ?_
       rintro e w7 ⟨rfl,rfl⟩
       clear HDn
       by_cases p0 : dn = 0
       ·subst p0
        by_cases p1 : n1 < 1
        ·obtain rfl : n1 = 0:=by omega
         have HI2 : Hid (insD b = .bad 5):=HIN.out (by omega)
         go_wp2
         exact bodyPost_ret (by first | (simp [results,Tryz.results111,go_sem, *]; done) | (simp [results,Tryz.results111,go_sem, *]; rfl)) rfl (InsPost.bad HI2.out rfl (below4 HBe.out (Nat.le_refl _) _ _ _ _))
        ·have p1a : (1 : Int) ≤ (n1 : Int):=by omega
         have p1b : ¬ (n1 : Int) < 1:=by omega
         have p1c : 0 < n1:=by omega
         have p1d : ¬ n1 = 0:=by omega
         by_cases p2 : 4096 < n3
         ·have HI2 : Hid (insD b = .bad 5):=HIN.out (by omega)
          go_wp2
          exact bodyPost_ret (by first | (simp [results,Tryz.results111,go_sem, *]; done) | (simp [results,Tryz.results111,go_sem, *]; rfl)) rfl (InsPost.bad HI2.out rfl (below4 HBe.out (Nat.le_refl _) _ _ _ _))
         ·by_cases p3 : n3 ≤ n2
          ·have HI2 : Hid (insD b = .bad 5):=HIN.out (by omega)
           go_wp2
           exact bodyPost_ret (by first | (simp [results,Tryz.results111,go_sem, *]; done) | (simp [results,Tryz.results111,go_sem, *]; rfl)) rfl (InsPost.bad HI2.out rfl (below4 HBe.out (Nat.le_refl _) _ _ _ _))
          ·by_cases p4 : ch.length < 1
           ·have p4a : ch.length = 0:=by omega
            obtain rfl : ch = []:=List.eq_nil_of_length_eq_zero p4a
            have HI2 : Hid (insD b = .bad 5):=HIN.out (by omega)
            go_wp2
            exact bodyPost_ret (by first | (simp [results,Tryz.results111,go_sem, *]; done) | (simp [results,Tryz.results111,go_sem, *]; rfl)) rfl (InsPost.bad HI2.out rfl (below4 HBe.out (Nat.le_refl _) _ _ _ _))
           ·have p4b : ¬ ch.length = 0:=by omega
            have p4c : 0 < ch.length:=by omega
            by_cases p5 : 28 < ch.length
            ·have HI2 : Hid (insD b = .bad 5):=HIN.out (by omega)
             go_wp2
             exact bodyPost_ret (by first | (simp [results,Tryz.results111,go_sem, *]; done) | (simp [results,Tryz.results111,go_sem, *]; rfl)) rfl (InsPost.bad HI2.out rfl (below4 HBe.out (Nat.le_refl _) _ _ _ _))
            ·have HIY2:=Lib.hid (HIY.out rfl (by omega) (by omega) (by omega) (by omega) (by omega))
             go_wp2
             exact bodyPost_ret (by first | (simp [results,Tryz.results111,go_sem, *]; done) | (simp [results,Tryz.results111,go_sem, *]; rfl)) rfl ⟨A6,d6,by rw [HIY2.out],by rw [HIY2.out]; exact HRd6.out,below4 HBe.out (Nat.le_refl _) _ _ _ _⟩
       ·have p0b : (dn != 0) = true:=by simpa using p0
        have HI2 : Hid (insD b = .bad 5):=HIN.out (.inl p0)
        go_wp2
        exact bodyPost_ret (by first | (simp [results,Tryz.results111,go_sem, *]; done) | (simp [results,Tryz.results111,go_sem, *]; rfl)) rfl (InsPost.bad HI2.out rfl (below4 HBe.out (Nat.le_refl _) _ _ _ _))
   ·have HI:=Lib.hid (insD_sum (by omega) hh2 hs)
    rw [hn2] at hs
    have hd : decide (sealB (b.take n) = b) = false:=decide_eq_false hs
    have HD:=Lib.hid hd
    have hls : (sealB (b.take n)).length = n + 8:=by unfold sealB; rw [List.length_append,hbl]; rfl
    have HSE:=Lib.hid (fun (w1 : World) (A1 : Option Addr) (c1 : Nat) (ho : w1.ownsRow (w.heap.size + 1) 5 1 (.slice A1 (b.take n).length c1) (b.take n).length ((b.take n).map (Value.int .u8))) (hz : w.heap.size + 1 ≤ w1.heap.size)=>sealed_any (w.heap.size + 1) (b.take n) A1 c1 w1 ho hz (by omega))
    have HLB:=Lib.hid hbl
    rw [hbl] at HSE
    generalize sealB (b.take n) = sb at *
    have HLS:=Lib.hid hls
    clear hls hm hh hh2 hs hbl hn2 hd hRB
    have hN:=Lib.hid hn
    rw [hn] at hl hc ⊢
    clear hn h8 h0
    go_enter Tryz.func111,Tryz.ntmps111
    go_wp2_with fail
    refine (HCL.out _ ((Below.refl _ _).alloc (Nat.le_refl _) _)).mono ?_
    rintro e w1 ⟨A1,c1,rfl,ho1,hb1⟩
    rw [HLB.out] at ho1 ⊢
    have HB1b : Hid (Below (w.heap.size + 1) (w.alloc (.cells #[.int .u64 0,.int .u64 0,.int .i64 0,.int .i64 0] 184)) w1):=hb1.mono (by simp)
    have hb1' : Below w.heap.size w w1:=((Below.refl _ _).alloc (Nat.le_refl _) _).trans (hb1.mono (by simp))
    have HS1:=Lib.hid (HSE.out w1 A1 c1 (own_mono ho1 (by simp)) (by have:=HB1b.out.size; simp at this; omega))
    have HB1:=Lib.hid hb1'
    clear hb1 ho1 hb1'
    go_wp2_with fail
    refine HS1.out.mono ?_
    rintro e w2 ⟨A2,c2,rfl,ho2,hb2⟩
    have hb2':=HB1.out.trans (hb2.mono (by omega))
    have HB2b:=Lib.hid (HB1b.out.trans hb2)
    have HQ:=Lib.hid (equal_any sb b A2 (some ⟨g0,o0,none⟩) c2 c w2 (Rd.of_own ho2) ((HH.out.below hb2' (Nat.le_refl _)).more hb2'.size) (by rw [HLS.out]; omega) (by rw [hN.out]; omega))
    rw [HD.out,hN.out] at HQ
    have HB2:=Lib.hid hb2'
    clear ho2 hb2 hb2'
    go_wp2_with fail
    refine HQ.out.mono ?_
    rintro e w3 ⟨rfl,hb3⟩
    have HB3:=Lib.hid (HB2.out.trans (hb3.mono HB2.out.size))
    have PB:=HPB.out w3 (HB2b.out.trans (hb3.mono (by have:=HB2b.out.size; simp at this; omega)))
    obtain ⟨q0,q1,q2,q3,f0,f1,f2,f3⟩:=cells4 PB
    clear hb3 PB
    go_wp2
    exact bodyPost_ret (by first | (simp [results,Tryz.results111,go_sem, *]; done) | (simp [results,Tryz.results111,go_sem, *]; rfl)) rfl (InsPost.bad HI.out rfl (below4 HB3.out (Nat.le_refl _) _ _ _ _))
  ·have HI:=Lib.hid (insD_mark (b:=b) (by rw [hh]; simpa using hm))
   generalize b[0] = v at *
   have hv : (v == 82) = false:=by simpa using hm
   have hv2 : (v != 82) = true:=by simpa using hm
   clear hh hm
   go_enter Tryz.func111,Tryz.ntmps111
   go_wp2
   exact bodyPost_ret (by first | (simp [results,Tryz.results111,go_sem, *]; done) | (simp [results,Tryz.results111,go_sem, *]; rfl)) rfl (InsPost.bad HI.out rfl ((Below.refl _ _).alloc (Nat.le_refl _) _))
end Go.Proofs.YtaggiceejcegdaaGreat
