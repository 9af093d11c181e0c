/-
  WHAT IS SHOWN: what Valid of tegularef27 returns. Conditions: the record can be read.
-/
import Derived.Test.YtaggiceejcegdaaGreatNc02
import Derived.Deep.QuietTactic
namespace Go.Proofs.YtaggiceejcegdaaGreat
set_option linter.unusedVariables false
open Go.RowKit
theorem piece_within (g p : Int) : pieceB g p = (withinB g 0 4095 && withinB p 0 15):=by
 unfold pieceB withinB
 rw [Bool.eq_iff_iff]; simp; omega
theorem place_within (k b : Int) : placeB k b = ((k == -1 && b == 0) || (withinB k 0 59 && withinB b 0 65535)):=by
 unfold placeB withinB
 by_cases h : k = -1
 ·subst h; simp
 ·rw [if_neg h,Bool.eq_iff_iff]; simp [h]; omega
set_option maxRecDepth 100000 in
set_option maxHeartbeats 1000000 in
theorem qvalid_any (r : Rec) (A D N : Option Addr) (c d n : Nat) (w : World) (h : RecR w w.heap.size r A c D d N n) (hw : r.ws.length ≤ 9223372036854775807) (hm : r.ms.length ≤ 9223372036854775807) (hn : r.note.length ≤ 9223372036854775807) :
  Calls Tryz.prog 67 #[.agg #[.int .u64 r.gen,.int .u64 r.seq,.slice A r.ws.length c,.slice D r.ms.length d,.slice N r.note.length n]] w fun e w'=>e = .returned (.bool (validR r)) ∧ Below w.heap.size w w':=by
 have HB : Hid (∀ W,Below (w.heap.size + 1) (w.alloc (.cells #[.int .u64 r.gen,.int .u64 r.seq,.slice A r.ws.length c,.slice D r.ms.length d,.slice N r.note.length n] 28)) W → Below w.heap.size w W):=fun W hW=>((Below.refl w.heap.size w).alloc (Nat.le_refl _) _).trans (hW.mono (by omega))
 have HP0 : Hid (∀ W,Below (w.heap.size + 1) (w.alloc (.cells #[.int .u64 r.gen,.int .u64 r.seq,.slice A r.ws.length c,.slice D r.ms.length d,.slice N r.note.length n] 28)) W → Cells5 W w.heap.size (.int .u64 r.gen) (.int .u64 r.seq) (.slice A r.ws.length c) (.slice D r.ms.length d) (.slice N r.note.length n)):=fun W hW=>(Cells5.new w 28 _ _ _ _ _).below hW (by simp)
 have HH:=Lib.hid h
 clear h
 have HV0:=Lib.hid (validR_head r)
 by_cases h1 : 1 ≤ r.seq
 ·by_cases h2 : r.ws.length ≤ 64
  ·by_cases h3 : r.ms.length ≤ 64
   ·by_cases h4 : r.note.length ≤ 256
    ·have HV : Hid (validR r = (wsB r.ws && msB r.ms)):=by unfold Hid; rw [HV0.out]; unfold validHead; simp [h1,h2,h3,h4]
     have b1 : decide ((r.seq : Int) < 1) = false:=by simp; omega
     have b2 : decide ((64 : Int) < r.ws.length) = false:=by simp; omega
     have b3 : decide ((64 : Int) < r.ms.length) = false:=by simp; omega
     have b4 : decide ((256 : Int) < r.note.length) = false:=by simp; omega
     clear HV0 hw hm hn
     go_enter Tryz.func67,Tryz.ntmps67
     go_wp2
     go_loopw [3] (fun v wr=>∃ k : Nat,k ≤ r.ws.length ∧ v = .int .i64 k ∧ Hid (wsB (r.ws.take k) = true) ∧ Hid (Below (w.heap.size + 1) (w.alloc (.cells #[.int .u64 r.gen,.int .u64 r.seq,.slice A r.ws.length c,.slice D r.ms.length d,.slice N r.note.length n] 28)) wr)) (fun v _=>r.ws.length - (intOf v).toNat)
     case atStart=>exact ⟨0,Nat.zero_le _,rfl,rfl,Below.refl _ _⟩
     case round=>
      obtain ⟨k,hk,rfl,HK,HBR⟩:=hrel
      have PB:=HP0.out _ HBR.out
      have q2:=PB.c2
      have q3:=PB.c3
      clear PB
      by_cases hlt : k < r.ws.length
      ·obtain ⟨ga,oa,rfl,hga,j0,j1,j2,j3,j4,j5,j6,j7,j8,j9,j10⟩:=(HH.out.below (HB.out _ HBR.out) (Nat.le_refl _)).ws.pw hlt
       have HT:=Lib.hid (all_take (f:=PW.ok) hlt)
       have HPW:=Lib.hid (piece_within r.ws[k].g r.ws[k].p)
       cases hp : withinB r.ws[k].g 0 4095
       ·have HF : Hid (validR r = false):=by
         unfold Hid; rw [HV.out]; unfold wsB; rw [all_bad (f:=PW.ok) hlt (by unfold PW.ok; rw [HPW.out,hp]; rfl)]; rfl
        go_wp2_with fail
        refine (qwithin_any _ _ _ _).mono ?_
        rintro e w' ⟨rfl,rfl⟩
        rw [hp]
        clear hp
        go_wp2
        go_ret
        exact ⟨by rw [HF.out]; rfl,HB.out _ HBR.out⟩
       ·cases hq : withinB r.ws[k].p 0 15
        ·have HF : Hid (validR r = false):=by
          unfold Hid; rw [HV.out]; unfold wsB; rw [all_bad (f:=PW.ok) hlt (by unfold PW.ok; rw [HPW.out,hp,hq]; rfl)]; rfl
         go_wp2_with fail
         refine (qwithin_any _ _ _ _).mono ?_
         rintro e w' ⟨rfl,rfl⟩
         rw [hp]
         clear hp
         go_wp2_with fail
         refine (qwithin_any _ _ _ _).mono ?_
         rintro e w' ⟨rfl,rfl⟩
         rw [hq]
         clear hq
         go_wp2
         go_ret
         exact ⟨by rw [HF.out]; rfl,HB.out _ HBR.out⟩
        ·have HK2 : Hid (wsB (r.ws.take (k + 1)) = true):=by
          unfold Hid wsB; rw [HT.out]; have h1:=HK.out; unfold wsB at h1; rw [h1]; unfold PW.ok; rw [HPW.out,hp,hq]; rfl
         go_wp2_with fail
         refine (qwithin_any _ _ _ _).mono ?_
         rintro e w' ⟨rfl,rfl⟩
         rw [hp]
         clear hp
         go_wp2_with fail
         refine (qwithin_any _ _ _ _).mono ?_
         rintro e w' ⟨rfl,rfl⟩
         rw [hq]
         clear hq
         go_wp2
         go_roundw
         case rel=>exact ⟨k + 1,by omega,by go_num,HK2,HBR⟩
         case measure=>simp [intOf]; omega
      ·obtain rfl : k = r.ws.length:=by omega
       have HW : Hid (validR r = msB r.ms):=by
        unfold Hid; rw [HV.out]; have h1:=HK.out; rw [List.take_length] at h1; rw [h1]; rfl
       go_wp2
       clear q2 q3
       rename World=>w1
       go_loopw [4] (fun v wr=>∃ k : Nat,k ≤ r.ms.length ∧ v = .int .i64 k ∧ Hid (msB (r.ms.take k) = true) ∧ Hid (Below (w.heap.size + 1) (w.alloc (.cells #[.int .u64 r.gen,.int .u64 r.seq,.slice A r.ws.length c,.slice D r.ms.length d,.slice N r.note.length n] 28)) wr)) (fun v _=>r.ms.length - (intOf v).toNat)
       case atStart=>exact ⟨0,Nat.zero_le _,rfl,rfl,HBR⟩
       case round=>
        obtain ⟨k,hk,rfl,HK,HBS⟩:=hrel
        have HB3 : Hid (∀ o W,Below (w.heap.size + 1) (wr.alloc o) W → Below (w.heap.size + 1) (w.alloc (.cells #[.int .u64 r.gen,.int .u64 r.seq,.slice A r.ws.length c,.slice D r.ms.length d,.slice N r.note.length n] 28)) W):=fun o W hW=>(HBS.out.alloc (by have:=HBS.out.size; simp at this; omega) o).trans hW
        have PB:=HP0.out _ HBS.out
        have q3:=PB.c3
        clear PB
        have hsz : w.heap.size < wr.heap.size:=by have:=HBS.out.size; simp at this; omega
        by_cases hlt : k < r.ms.length
        ·obtain ⟨ga,oa,rfl,hga,j0,j1,j2,j3⟩:=(HH.out.below (HB.out _ HBS.out) (Nat.le_refl _)).ms.mv hlt
         have HT:=Lib.hid (all_take (f:=Mv.ok) hlt)
         have HPW:=Lib.hid (piece_within r.ms[k].g r.ms[k].p)
         have HPL:=Lib.hid (place_within r.ms[k].k r.ms[k].b)
         cases hk1 : (r.ms[k].k == -1)
         ·cases hp : withinB r.ms[k].g 0 4095
          ·have HF : Hid (validR r = false):=by
            unfold Hid; rw [HW.out]; unfold msB; rw [all_bad (f:=Mv.ok) hlt (by unfold Mv.ok; rw [HPW.out,HPL.out,hp]; rfl)]
           go_wp2_with fail
           refine (qwithin_any _ _ _ _).mono ?_
           rintro e w' ⟨rfl,rfl⟩
           rw [hp]
           clear hp
           go_wp2
           go_ret
           exact ⟨by rw [HF.out]; rfl,HB.out _ (HB3.out _ _ (Below.refl _ _))⟩
          ·cases hq : withinB r.ms[k].p 0 15
           ·have HF : Hid (validR r = false):=by
             unfold Hid; rw [HW.out]; unfold msB; rw [all_bad (f:=Mv.ok) hlt (by unfold Mv.ok; rw [HPW.out,HPL.out,hp,hq]; rfl)]
            go_wp2_with fail
            refine (qwithin_any _ _ _ _).mono ?_
            rintro e w' ⟨rfl,rfl⟩
            rw [hp]
            clear hp
            go_wp2_with fail
            refine (qwithin_any _ _ _ _).mono ?_
            rintro e w' ⟨rfl,rfl⟩
            rw [hq]
            clear hq
            go_wp2
            go_ret
            exact ⟨by rw [HF.out]; rfl,HB.out _ (HB3.out _ _ (Below.refl _ _))⟩
           ·cases hx : withinB r.ms[k].k 0 59
            ·have HF : Hid (validR r = false):=by
              unfold Hid; rw [HW.out]; unfold msB; rw [all_bad (f:=Mv.ok) hlt (by unfold Mv.ok; rw [HPW.out,HPL.out,hp,hq,hk1,hx]; rfl)]
             go_wp2_with fail
             refine (qwithin_any _ _ _ _).mono ?_
             rintro e w' ⟨rfl,rfl⟩
             rw [hp]
             clear hp
             go_wp2_with fail
             refine (qwithin_any _ _ _ _).mono ?_
             rintro e w' ⟨rfl,rfl⟩
             rw [hq]
             clear hq
             go_wp2_with fail
             refine (qwithin_any _ _ _ _).mono ?_
             rintro e w' ⟨rfl,rfl⟩
             rw [hx]
             clear hx
             go_wp2
             go_ret
             exact ⟨by rw [HF.out]; rfl,HB.out _ (HB3.out _ _ (Below.refl _ _))⟩
            ·cases hy : withinB r.ms[k].b 0 65535
             ·have HF : Hid (validR r = false):=by
               unfold Hid; rw [HW.out]; unfold msB; rw [all_bad (f:=Mv.ok) hlt (by unfold Mv.ok; rw [HPW.out,HPL.out,hp,hq,hk1,hx,hy]; rfl)]
              go_wp2_with fail
              refine (qwithin_any _ _ _ _).mono ?_
              rintro e w' ⟨rfl,rfl⟩
              rw [hp]
              clear hp
              go_wp2_with fail
              refine (qwithin_any _ _ _ _).mono ?_
              rintro e w' ⟨rfl,rfl⟩
              rw [hq]
              clear hq
              go_wp2_with fail
              refine (qwithin_any _ _ _ _).mono ?_
              rintro e w' ⟨rfl,rfl⟩
              rw [hx]
              clear hx
              go_wp2_with fail
              refine (qwithin_any _ _ _ _).mono ?_
              rintro e w' ⟨rfl,rfl⟩
              rw [hy]
              clear hy
              go_wp2
              go_ret
              exact ⟨by rw [HF.out]; rfl,HB.out _ (HB3.out _ _ (Below.refl _ _))⟩
             ·have HK2 : Hid (msB (r.ms.take (k + 1)) = true):=by
               unfold Hid msB; rw [HT.out]; have h1:=HK.out; unfold msB at h1; rw [h1]; unfold Mv.ok; rw [HPW.out,HPL.out,hp,hq,hk1,hx,hy]; rfl
              go_wp2_with fail
              refine (qwithin_any _ _ _ _).mono ?_
              rintro e w' ⟨rfl,rfl⟩
              rw [hp]
              clear hp
              go_wp2_with fail
              refine (qwithin_any _ _ _ _).mono ?_
              rintro e w' ⟨rfl,rfl⟩
              rw [hq]
              clear hq
              go_wp2_with fail
              refine (qwithin_any _ _ _ _).mono ?_
              rintro e w' ⟨rfl,rfl⟩
              rw [hx]
              clear hx
              go_wp2_with fail
              refine (qwithin_any _ _ _ _).mono ?_
              rintro e w' ⟨rfl,rfl⟩
              rw [hy]
              clear hy
              go_wp2
              go_roundw
              case rel=>exact ⟨k + 1,by omega,by go_num,HK2,HB3.out _ _ (Below.refl _ _)⟩
              case measure=>simp [intOf]; omega
         ·have hxx : withinB r.ms[k].k 0 59 = false:=by
           have : r.ms[k].k = -1:=by simpa using hk1
           rw [this]; decide
          cases hb1 : (r.ms[k].b == 0)
          ·cases hp : withinB r.ms[k].g 0 4095
           ·have HF : Hid (validR r = false):=by
             unfold Hid; rw [HW.out]; unfold msB; rw [all_bad (f:=Mv.ok) hlt (by unfold Mv.ok; rw [HPW.out,HPL.out,hp]; rfl)]
            go_wp2_with fail
            refine (qwithin_any _ _ _ _).mono ?_
            rintro e w' ⟨rfl,rfl⟩
            rw [hp]
            clear hp
            go_wp2
            go_ret
            exact ⟨by rw [HF.out]; rfl,HB.out _ (HB3.out _ _ (Below.refl _ _))⟩
           ·cases hq : withinB r.ms[k].p 0 15
            ·have HF : Hid (validR r = false):=by
              unfold Hid; rw [HW.out]; unfold msB; rw [all_bad (f:=Mv.ok) hlt (by unfold Mv.ok; rw [HPW.out,HPL.out,hp,hq]; rfl)]
             go_wp2_with fail
             refine (qwithin_any _ _ _ _).mono ?_
             rintro e w' ⟨rfl,rfl⟩
             rw [hp]
             clear hp
             go_wp2_with fail
             refine (qwithin_any _ _ _ _).mono ?_
             rintro e w' ⟨rfl,rfl⟩
             rw [hq]
             clear hq
             go_wp2
             go_ret
             exact ⟨by rw [HF.out]; rfl,HB.out _ (HB3.out _ _ (Below.refl _ _))⟩
            ·have HF : Hid (validR r = false):=by
              unfold Hid; rw [HW.out]; unfold msB; rw [all_bad (f:=Mv.ok) hlt (by unfold Mv.ok; rw [HPW.out,HPL.out,hp,hq,hk1,hb1,hxx]; rfl)]
             go_wp2_with fail
             refine (qwithin_any _ _ _ _).mono ?_
             rintro e w' ⟨rfl,rfl⟩
             rw [hp]
             clear hp
             go_wp2_with fail
             refine (qwithin_any _ _ _ _).mono ?_
             rintro e w' ⟨rfl,rfl⟩
             rw [hq]
             clear hq
             go_wp2_with fail
             refine (qwithin_any _ _ _ _).mono ?_
             rintro e w' ⟨rfl,rfl⟩
             rw [hxx]
             clear hxx
             go_wp2
             go_ret
             exact ⟨by rw [HF.out]; rfl,HB.out _ (HB3.out _ _ (Below.refl _ _))⟩
          ·cases hp : withinB r.ms[k].g 0 4095
           ·have HF : Hid (validR r = false):=by
             unfold Hid; rw [HW.out]; unfold msB; rw [all_bad (f:=Mv.ok) hlt (by unfold Mv.ok; rw [HPW.out,HPL.out,hp]; rfl)]
            go_wp2_with fail
            refine (qwithin_any _ _ _ _).mono ?_
            rintro e w' ⟨rfl,rfl⟩
            rw [hp]
            clear hp
            go_wp2
            go_ret
            exact ⟨by rw [HF.out]; rfl,HB.out _ (HB3.out _ _ (Below.refl _ _))⟩
           ·cases hq : withinB r.ms[k].p 0 15
            ·have HF : Hid (validR r = false):=by
              unfold Hid; rw [HW.out]; unfold msB; rw [all_bad (f:=Mv.ok) hlt (by unfold Mv.ok; rw [HPW.out,HPL.out,hp,hq]; rfl)]
             go_wp2_with fail
             refine (qwithin_any _ _ _ _).mono ?_
             rintro e w' ⟨rfl,rfl⟩
             rw [hp]
             clear hp
             go_wp2_with fail
             refine (qwithin_any _ _ _ _).mono ?_
             rintro e w' ⟨rfl,rfl⟩
             rw [hq]
             clear hq
             go_wp2
             go_ret
             exact ⟨by rw [HF.out]; rfl,HB.out _ (HB3.out _ _ (Below.refl _ _))⟩
            ·have HK2 : Hid (msB (r.ms.take (k + 1)) = true):=by
              unfold Hid msB; rw [HT.out]; have h1:=HK.out; unfold msB at h1; rw [h1]; unfold Mv.ok; rw [HPW.out,HPL.out,hp,hq,hk1,hb1]; rfl
             go_wp2_with fail
             refine (qwithin_any _ _ _ _).mono ?_
             rintro e w' ⟨rfl,rfl⟩
             rw [hp]
             clear hp
             go_wp2_with fail
             refine (qwithin_any _ _ _ _).mono ?_
             rintro e w' ⟨rfl,rfl⟩
             rw [hq]
             clear hq
             go_wp2
             go_roundw
             case rel=>exact ⟨k + 1,by omega,by go_num,HK2,HB3.out _ _ (Below.refl _ _)⟩
             case measure=>simp [intOf]; omega
        ·obtain rfl : k = r.ms.length:=by omega
         have HF : Hid (validR r = true):=by
          unfold Hid; rw [HW.out]; have h1:=HK.out; rw [List.take_length] at h1; exact h1
         go_wp2
         go_ret
         exact ⟨by rw [HF.out]; rfl,HB.out _ HBS.out⟩
    ·have HV : Hid (validR r = false):=by unfold Hid; rw [HV0.out]; unfold validHead; simp [h4]
     clear HV0
     go_enter Tryz.func67,Tryz.ntmps67
     go_wp2
     go_ret
     exact ⟨by rw [HV.out]; rfl,HB.out _ (Below.refl _ _)⟩
   ·have HV : Hid (validR r = false):=by unfold Hid; rw [HV0.out]; unfold validHead; simp [h3]
    clear HV0
    go_enter Tryz.func67,Tryz.ntmps67
    go_wp2
    go_ret
    exact ⟨by rw [HV.out]; rfl,HB.out _ (Below.refl _ _)⟩
  ·have HV : Hid (validR r = false):=by unfold Hid; rw [HV0.out]; unfold validHead; simp [h2]
   clear HV0
   go_enter Tryz.func67,Tryz.ntmps67
   go_wp2
   go_ret
   exact ⟨by rw [HV.out]; rfl,HB.out _ (Below.refl _ _)⟩
 ·have HV : Hid (validR r = false):=by unfold Hid; rw [HV0.out]; unfold validHead; simp [h1]
  clear HV0
  go_enter Tryz.func67,Tryz.ntmps67
  go_wp2
  go_ret
  exact ⟨by rw [HV.out]; rfl,HB.out _ (Below.refl _ _)⟩
end Go.Proofs.YtaggiceejcegdaaGreat
