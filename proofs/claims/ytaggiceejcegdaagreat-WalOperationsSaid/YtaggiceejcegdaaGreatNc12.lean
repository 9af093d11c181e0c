/-
  WHAT IS SHOWN: what Inspect of tegularef27 returns. Conditions: the bytes can be read.
-/
import Derived.Test.YtaggiceejcegdaaGreatNc11
namespace Go.Proofs.YtaggiceejcegdaaGreat
set_option linter.unusedVariables false
open Go.RowKit
set_option maxRecDepth 100000 in
set_option maxHeartbeats 30000000 in
theorem rins_eq (b : List Int) (hu : U8s b) (A : Option Addr) (c : Nat) (w : World) (h : Rd w w.heap.size A (b.map (Value.int .u8))) (hl : b.length ≤ 100000) (hc : b.length ≤ c) (hcm : c ≤ 9223372036854775807) (h8 : ¬ b.length < 8) (hm0 : b.head? = some 82) (hs : sealB (b.take (b.length - 8)) = b) :
  Calls Tryz.prog 116 #[.slice A b.length c] w (InsPost w b):=by
 have HH:=Lib.hid h
 clear h
 have HPB : Hid (∀ W,Below (w.heap.size + 1) (w.alloc (.cells #[.int .u64 0,.int .u64 0,.int .i64 0,.int .i64 0] 118)) W → W.heap[w.heap.size]? = some (.cells #[.int .u64 0,.int .u64 0,.int .i64 0,.int .i64 0] 118 (0,0))):=fun W hW=>belObj hW (World.alloc_heap_new w _) (by omega)
 obtain ⟨n,hn⟩ : ∃ n,b.length = n + 8:=⟨b.length - 8,by omega⟩
 have h0 : 0 < b.length:=by omega
 obtain ⟨g0,o0,rfl,hg0,j0⟩:=byte_at HH.out h0
 rw [Nat.add_zero] at j0
 have hh : b.head? = some b[0]:=by cases b with | nil=>simp at h0 | cons x l=>rfl
 have hm : b[0] = 82:=by rw [hh] at hm0; injection hm0
 have hh2 : b.head? = some 82:=by rw [hh,hm]
 have hbl : (b.take n).length = n:=by rw [List.length_take]; omega
 have hn2 : b.length - 8 = n:=by omega
 have hRB : Rd w w.heap.size (some ⟨g0,o0,none⟩) ((b.take n).map (Value.int .u8)):=by rw [List.map_take]; exact HH.out.take n
 have HSE:=Lib.hid (fun W (hW : Below w.heap.size w W)=>rsealed_any (b.take n) (some ⟨g0,o0,none⟩) c W ((hRB.below hW (Nat.le_refl _)).more hW.size) (by omega))
 rw [hbl] at HSE
 rw [hm] at j0
 have hls : (sealB (b.take n)).length = n + 8:=by unfold sealB; rw [List.length_append,hbl]; rfl
 have hus : U8s (sealB (b.take n)):=by
  unfold sealB
  refine u8_append (hu.take n) ?_
  intro x hx
  unfold be8 at hx
  simp only [List.mem_cons,List.not_mem_nil,or_false] at hx
  have hw : ∀ y : Int,0 ≤ IntKind.u8.wrap y ∧ IntKind.u8.wrap y ≤ 255:=fun y=>by rw [IntKind.wrap_u8]; omega
  rcases hx with rfl | rfl | rfl | rfl | rfl | rfl | rfl | rfl <;> exact hw _
 have hs0:=hs
 rw [hn2] at hs
 have HI5 : Hid (n = 0 → insD b = .bad 5):=fun h=>insD_eight (by omega) hh2 hs0
 have HI9 : Hid (0 < n → (insOk b = false → insD b = .bad 5) ∧ (insOk b = true → insD b = ⟨numK b 0,numK b 1,numK b 2,numK b 3,(rdK b 4).bytes.1,0⟩)):=fun h=>⟨insD_no (by omega) hh2 hs0,insD_yes (by omega) hh2 hs0⟩
 have HR1 : Hid (0 < n → ∀ W,Below w.heap.size w W → Rd W W.heap.size (some ⟨g0,o0 + 1,none⟩) (((b.take n).drop 1).map (Value.int .u8))):=fun _ W hW=>by
  have:=(((hRB.below hW (Nat.le_refl _)).more hW.size).dropk 1)
  rw [List.map_drop]; exact this
 have HK0 : Hid (rdK b 0 = ⟨(b.take n).drop 1,false⟩):=by unfold Hid rdK; rw [hn2]
 have HL1 : Hid (((b.take n).drop 1).length = n - 1):=by unfold Hid; rw [List.length_drop,hbl]
 have HU1 : Hid (U8s ((b.take n).drop 1)):=(hu.take n).drop 1
 have hss : strOfNums (sealB (b.take n)) = strOfNums b:=by rw [hs]
 have HSS:=Lib.hid hss
 have HV1:=Lib.hid (fun (W : World) (A1 : Option Addr) (c1 : Nat) (hR : Rd W W.heap.size A1 ((sealB (b.take n)).map (Value.int .u8))) =>qconv_bytes c1 hR)
 have HV2:=Lib.hid (fun (W : World) (hW : Below w.heap.size w W)=>qconv_bytes c (HH.out.below hW (Nat.le_refl _)))
 rw [hss] at HV1
 rw [hn] at HV2
 generalize sealB (b.take n) = sb at *
 generalize strOfNums b = S1 at *
 have HLS:=Lib.hid hls
 clear hls hm hh hh2 hs hs0 hbl hn2 hRB hss hus
 have hN:=Lib.hid hn
 rw [hn] at hl hc ⊢
 clear hn h8 h0
 go_enter Tryz.func116,Tryz.ntmps116
 go_upto_region 3 with fail
 go_cut [35] (fun v wx=>v = .bool false ∧ Hid (Below w.heap.size w wx) ∧ Hid (Below (w.heap.size + 1) (w.alloc (.cells #[.int .u64 0,.int .u64 0,.int .i64 0,.int .i64 0] 118)) wx))
 case first=>
  have eW : IntKind.i64.wrap (n : Int) = (n : Int):=by rw [IntKind.wrap_i64]; omega
  have k1 : (n : Int) ≤ (c : Int):=by omega
  have hbW : Below w.heap.size w ((w.alloc (.cells #[.int .u64 0,.int .u64 0,.int .i64 0,.int .i64 0] 118))).drew:=((Below.refl _ _).alloc (Nat.le_refl _) _).drew
  have hvb0:=HV2.out _ hbW
  go_region_law (first
   | (go_simp
      go_at_call 109
      refine (HSE.out _ hbW).mono ?_
      rintro e w1 ⟨A1,c1,rfl,ho1,hb1⟩
      have hb1':=hbW.trans (hb1.mono hbW.size)
      have hvb1:=HV2.out _ hb1'
      have hv1:=HV1.out w1 A1 c1 (Rd.of_own ho1)
      have HB3:=Lib.hid hb1'
      have hsz0 : (((w.alloc (.cells #[.int .u64 0,.int .u64 0,.int .i64 0,.int .i64 0] 118))).drew).heap.size = w.heap.size + 1:=by simp
      have HB3b : Hid (Below (w.heap.size + 1) (w.alloc (.cells #[.int .u64 0,.int .u64 0,.int .i64 0,.int .i64 0] 118)) w1):=((Below.refl _ _).drew).trans (hb1.mono (by omega))
      have PB:=HPB.out w1 HB3b.out
      obtain ⟨q0,q1,q2,q3,f0,f1,f2,f3⟩:=cells4 PB
      clear ho1 hb1 hb1' PB))
  all_goals
   go_wp2_with fail
   go_meet
   exact ⟨rfl,HB3,HB3b⟩
 case rest=>
  obtain ⟨rfl,HB3,HB3b⟩:=hcut
  clear HV1 HV2 HSE HLS HSS
  by_cases hn0 : n = 0
  ·have HI:=Lib.hid (HI5.out hn0)
   have PB:=HPB.out wc HB3b.out
   obtain ⟨q0,q1,q2,q3,f0,f1,f2,f3⟩:=cells4 PB
   clear PB
   go_wp2
   exact bodyPost_ret (by first | (simp [results,Tryz.results116,go_sem, *]; done) | (simp [results,Tryz.results116,go_sem, *]; rfl)) rfl (InsPost.bad HI.out rfl (below4 HB3.out (Nat.le_refl _) _ _ _ _))
  ·have HI:=Lib.hid (HI9.out (by omega))
   have HNW:=Lib.hid (rnew_any ((b.take n).drop 1) HU1.out (some ⟨g0,o0 + 1,none⟩) (c - 1) wc (HR1.out (by omega) wc HB3.out) (by rw [HL1.out]; omega))
   rw [HL1.out] at HNW
   have hc1 : ¬ c = 1:=by omega
   have hn1 : (1 : Int) ≤ (n : Int):=by omega
   clear HR1 HU1 HI9 HI5
   go_wp2_with fail
   refine HNW.out.mono ?_
   rintro e w4 ⟨q,rfl,hq,hM,hb4⟩
   have HLK : Hid (∀ k,(rdK b k).rest.length ≤ n + 8):=fun k=>by have:=rdK_len b k; rw [hN.out] at this; exact this
   have HLB : Hid ((rdK b 4).bytes.2.2.rest.length ≤ n + 8):=Nat.le_trans (bytes_len' (rdK b 4)).1 (HLK.out 4)
   rw [← HK0.out] at hM
   have hWz : ((w.alloc (.cells #[.int .u64 0,.int .u64 0,.int .i64 0,.int .i64 0] 118))).heap.size = w.heap.size + 1:=by simp
   have h3z:=HB3b.out.size
   have hqw : w.heap.size + 1 ≤ q:=by omega
   have HB4b:=Lib.hid (HB3b.out.trans (hb4.mono (by omega)))
   have hb4z:=hb4.size
   clear hb4
   have HU1:=Lib.hid (ruint_any (by have:=HLK.out 0; omega) hM)
   have HM0:=Lib.hid hM
   clear hM
   go_wp2_with fail
   refine HU1.out.mono ?_
   rintro e w5 ⟨rfl,hp5⟩
   rw [show (rdK b 0).uint.1 = numK b 0 from rfl]
   have HP5 : Hid (RdrPost 239 w4 q (rdK b 1) w5):=hp5
   have HU2:=Lib.hid (ruint_any (by have:=HLK.out 1; omega) HP5.out.1)
   clear HU1 hp5
   go_wp2_with fail
   refine HU2.out.mono ?_
   rintro e w6 ⟨rfl,hp6⟩
   rw [show (rdK b 1).uint.1 = numK b 1 from rfl]
   have HP6 : Hid (RdrPost 239 w4 q (rdK b 2) w6):=HP5.out.trans hp6
   have HU3:=Lib.hid (ruint_any (by have:=HLK.out 2; omega) HP6.out.1)
   clear HU2 hp6 HP5
   go_wp2_with fail
   refine HU3.out.mono ?_
   rintro e w7 ⟨rfl,hp7⟩
   rw [show (rdK b 2).uint.1 = numK b 2 from rfl]
   have HP7 : Hid (RdrPost 239 w4 q (rdK b 3) w7):=HP6.out.trans hp7
   have HU4:=Lib.hid (ruint_any (by have:=HLK.out 3; omega) HP7.out.1)
   clear HU3 hp7 HP6
   go_wp2_with fail
   refine HU4.out.mono ?_
   rintro e w8 ⟨rfl,hp8⟩
   rw [show (rdK b 3).uint.1 = numK b 3 from rfl]
   have HP8 : Hid (RdrPost 239 w4 q (rdK b 4) w8):=HP7.out.trans hp8
   have HBY:=Lib.hid (rbytes_any (by have:=HLK.out 4; omega) HP8.out.1)
   clear HU4 hp8 HP7
   go_wp2_with fail
   refine HBY.out.mono ?_
   rintro e w9 ⟨A6,d6,rfl,hD6,hU6,_,_,hp9⟩
   have HP9:=Lib.hid (HP8.out.trans hp9)
   have HDn:=Lib.hid (rdone_any (by have:=HLB.out; omega) HP9.out.1)
   have HB6 : Hid (Below (w.heap.size + 1) (w.alloc (.cells #[.int .u64 0,.int .u64 0,.int .i64 0,.int .i64 0] 118)) w9):=HB4b.out.trans (HP9.out.2.below (fun i hi=>by have hi' : i = q:=hi; omega) (by omega))
   have HBe : Hid (Below w.heap.size w w9):=((Below.refl _ _).alloc (Nat.le_refl _) _).trans (HB6.out.mono (by omega))
   have PB:=HPB.out w9 HB6.out
   have HRd6 : Hid (RdT ((((w9.setCell ⟨w.heap.size,0,none⟩ (.int .u64 (numK b 0 : Nat))).setCell ⟨w.heap.size,1,none⟩ (.int .u64 (numK b 1 : Nat))).setCell ⟨w.heap.size,2,none⟩ (.int .i64 (numK b 2 : Nat))).setCell ⟨w.heap.size,3,none⟩ (.int .i64 (numK b 3 : Nat))) 5 A6 ((rdK b 4).bytes.1.map (Value.int .u8))):=hD6.kept (kept4 w9 w.heap.size _ _ _ _) (free4 PB (by decide))
   obtain ⟨q0,q1,q2,q3,f0,f1,f2,f3⟩:=cells4 PB
   have HNO : Hid ((¬ (rdK b 4).bytes.2.2.done = 0 ∨ numK b 1 < 1 ∨ 4096 < numK b 3 ∨ numK b 3 ≤ numK b 2 ∨ (rdK b 4).bytes.1.length < 1 ∨ 28 < (rdK b 4).bytes.1.length) → insOk b = false):=insOk_no
   have HYE : Hid ((rdK b 4).bytes.2.2.done = 0 → 1 ≤ numK b 1 → numK b 3 ≤ 4096 → numK b 2 < numK b 3 → 1 ≤ (rdK b 4).bytes.1.length → (rdK b 4).bytes.1.length ≤ 28 → insOk b = true):=insOk_yes
   have HER : Hid (¬ (rdK b 4).bytes.2.1 = 0 → (rdK b 4).bytes.2.2.done = 5):=bytes_err
   have HBD : Hid (insOk b = true → numK b 3 ≤ 4096 ∧ numK b 2 < numK b 3):=fun h=>by
    unfold insOk at h
    simp only [Bool.and_eq_true,beq_iff_eq,decide_eq_true_eq] at h
    omega
   clear PB hD6 hU6 hp9 HBY HP8 HM0 HLK HLB
   generalize (rdK b 4).bytes.2.2.done = dn at *
   generalize (rdK b 4).bytes.2.1 = be at *
   generalize (rdK b 4).bytes.1 = ch at *
   generalize numK b 0 = n0 at *
   generalize numK b 1 = n1 at *
   generalize numK b 2 = n2 at *
   generalize numK b 3 = n3 at *
   generalize insOk b = iok at *
   go_upto_region 13 with fail
   go_cut [101] (fun v wx=>v = .bool (!iok) ∧ wx = w9)
   case first=>
    by_cases hbe : be = 0
    ·subst hbe
     clear HER
     go_wp2_with fail
     refine HDn.out.mono ?_
     rintro e w10 ⟨rfl,rfl⟩
     clear HDn
     by_cases p0 : dn = 0
     ·subst p0
      by_cases p1 : n1 < 1
      ·obtain rfl : n1 = 0:=by omega
       have hno:=HNO.out (by omega)
       go_wp2_with fail
       go_meet
       exact ⟨by rw [hno]; first | rfl | (simp; omega),rfl⟩
      ·have p1a : (1 : Int) ≤ (n1 : Int):=by omega
       have p1b : ¬ (n1 : Int) < 1:=by omega
       have p1c : 0 < n1:=by omega
       have p1d : ¬ n1 = 0:=by omega
       by_cases p3 : n3 ≤ n2
       ·have hno:=HNO.out (by omega)
        go_wp2_with fail
        go_meet
        exact ⟨by rw [hno]; first | rfl | (simp; omega),rfl⟩
       ·by_cases p2 : 4096 < n3
        ·have hno:=HNO.out (by omega)
         go_wp2_with fail
         go_meet
         exact ⟨by rw [hno]; first | rfl | (simp; omega),rfl⟩
        ·by_cases p4 : ch.length < 1
         ·have p4a : ch.length = 0:=by omega
          obtain rfl : ch = []:=List.eq_nil_of_length_eq_zero p4a
          have hno:=HNO.out (by omega)
          go_wp2_with fail
          go_meet
          exact ⟨by rw [hno]; first | rfl | (simp; omega),rfl⟩
         ·have p4b : ¬ ch.length = 0:=by omega
          have p4c : 0 < ch.length:=by omega
          by_cases p5 : 28 < ch.length
          ·have hno:=HNO.out (by omega)
           go_wp2_with fail
           go_meet
           exact ⟨by rw [hno]; first | rfl | (simp; omega),rfl⟩
          ·have hy:=HYE.out rfl (by omega) (by omega) (by omega) (by omega) (by omega)
           go_wp2_with fail
           go_meet
           exact ⟨by rw [hy]; first | rfl | (simp; omega),rfl⟩
     ·have p0b : (dn != 0) = true:=by simpa using p0
      have hno:=HNO.out (.inl p0)
      go_wp2_with fail
      go_meet
      exact ⟨by rw [hno]; first | rfl | (simp; omega),rfl⟩
    ·have hbe2 : (be != 0) = true:=by simpa using hbe
     have hd5 : ¬ dn = 0:=by rw [HER.out hbe]; decide
     clear HDn
     have hno:=HNO.out (.inl hd5)
     go_wp2_with fail
     go_meet
     exact ⟨by rw [hno]; first | rfl | (simp; omega),rfl⟩
   case rest=>
    obtain ⟨rfl,rfl⟩:=hcut
    clear HNO HYE HER HDn
    cases iok with
    | false=>
      have HI2 : Hid (insD b = .bad 5):=HI.out.1 rfl
      go_wp2
      exact bodyPost_ret (by first | (simp [results,Tryz.results116,go_sem, *]; done) | (simp [results,Tryz.results116,go_sem, *]; rfl)) rfl (InsPost.bad HI2.out rfl (below4 HBe.out (Nat.le_refl _) _ _ _ _))
    | true=>
      have HI2:=Lib.hid (HI.out.2 rfl)
      obtain ⟨hb3,hb2⟩:=HBD.out rfl
      go_wp2
      exact bodyPost_ret (by first | (simp [results,Tryz.results116,go_sem, *]; done) | (simp [results,Tryz.results116,go_sem, *]; rfl)) rfl ⟨A6,d6,by rw [HI2.out],by rw [HI2.out]; exact HRd6.out,below4 HBe.out (Nat.le_refl _) _ _ _ _⟩
theorem rinspect_any (b : List Int) (hu : U8s b) (A : Option Addr) (c : Nat) (w : World) (h : Rd w w.heap.size A (b.map (Value.int .u8))) (hl : b.length ≤ 100000) (hc : b.length ≤ c) (hcm : c ≤ 9223372036854775807) :
  Calls Tryz.prog 116 #[.slice A b.length c] w (InsPost w b):=by
 by_cases h8 : b.length < 8
 ·exact rins_bad b hu A c w h hl hc hcm (.inl h8)
 ·by_cases hm : b.head? = some 82
  ·by_cases hs : sealB (b.take (b.length - 8)) = b
   ·exact rins_eq b hu A c w h hl hc hcm h8 hm hs
   ·exact rins_ne b hu A c w h hl hc hcm h8 hm hs
  ·exact rins_bad b hu A c w h hl hc hcm (.inr hm)
end Go.Proofs.YtaggiceejcegdaaGreat
