/-
  WHAT IS SHOWN: what victim.Better returns for any bands, size and time; it changes nothing that was there. what victim.Choose returns; it changes nothing that was there. Conditions: as each theorem names them.
-/
import Derived.Test.YtggkengmlkhdiaaGreatM19
import Derived.Test.YtggkengmlkhdiaaGreatM11
import Derived.Test.YtggkengmlkhdiaaGreatM00
namespace Go.Proofs.YtggkengmlkhdiaaGreat.V
set_option linter.unusedVariables false
open Go.RowKit
theorem ret_bool {a b:Bool} (h:a=b):Ending.returned (.bool a)= .returned (.bool b):=by rw [h]
theorem num_range {b:BI} {sz:Int} (now:Int) (h:Fine b sz) (hl:b.live≤sz):0≤numN b sz now∧numN b sz now≤1152921504607895552:=by
 have:=ageN_bound b now
 have h1:=h.live0; have h2:=h.sz1
 unfold numN
 have:=mul_bound (a:=sz - b.live) (b:=ageN b now+1) (A:=1048576) (B:=1099511627777) (by omega) (by omega) (by omega) (by omega)
 omega
theorem num_neg {b:BI} {sz:Int} (now:Int) (h:Fine b sz) (hl:sz < b.live):0 < - numN b sz now∧ - numN b sz now≤1152921504607895552:=by
 have:=ageN_bound b now
 have h1:=h.live1; have h2:=h.sz0
 unfold numN
 rw [← Int.neg_mul]
 have:=mul_bound (a:=-(sz - b.live)) (b:=ageN b now+1) (A:=1048576) (B:=1099511627777) (by omega) (by omega) (by omega) (by omega)
 have hp:0 < -(sz - b.live) * (ageN b now+1):=Int.mul_pos (by omega) (by omega)
 omega
theorem den_range {b:BI} {sz:Int} (h:Fine b sz):1≤denN b sz∧denN b sz≤2097152:=by
 have:=h.live0; have:=h.live1; have:=h.sz0; have:=h.sz1; unfold denN; omega
set_option maxHeartbeats 1000000 in
theorem over_any (a b:BI) (ha:a.Ok) (hb:b.Ok) (sz now:Int) (hn:U64 now) (fa:Fine a sz) (fb:Fine b sz) (hor:sz < a.live∨sz < b.live) (w:World):
  Calls Tryz.prog 132 #[.agg #[.int .i64 a.used,.int .i64 a.live,.int .u64 a.age,.int .u64 a.wear],.agg #[.int .i64 b.used,.int .i64 b.live,.int .u64 b.age,.int .u64 b.wear],.int .i64 sz,.int .u64 now] w fun e w'=>e= .returned (.bool (betterB a b sz now))∧Below w.heap.size w w':=by
 have HB:=Lib.hid (betterB_fine now fa fb)
 obtain ⟨da0,da1⟩:=den_range fa
 obtain ⟨db0,db1⟩:=den_range fb
 have A0:Cells4 ((w.alloc (.cells #[.int .i64 a.used,.int .i64 a.live,.int .u64 a.age,.int .u64 a.wear] 76)).alloc (.cells #[.int .i64 b.used,.int .i64 b.live,.int .u64 b.age,.int .u64 b.wear] 76)) w.heap.size (.int .i64 a.used) (.int .i64 a.live) (.int .u64 a.age) (.int .u64 a.wear):=(Cells4.new w 76 _ _ _ _).below ((Below.refl _ _).alloc (Nat.le_refl _) _) (by simp)
 have B0:Cells4 ((w.alloc (.cells #[.int .i64 a.used,.int .i64 a.live,.int .u64 a.age,.int .u64 a.wear] 76)).alloc (.cells #[.int .i64 b.used,.int .i64 b.live,.int .u64 b.age,.int .u64 b.wear] 76)) (w.heap.size+1) (.int .i64 b.used) (.int .i64 b.live) (.int .u64 b.age) (.int .u64 b.wear):=Cells4.new_at (w.alloc (.cells #[.int .i64 a.used,.int .i64 a.live,.int .u64 a.age,.int .u64 a.wear] 76)) 76 _ _ _ _ _ (by simp)
 have hbl0:Below w.heap.size w ((w.alloc (.cells #[.int .i64 a.used,.int .i64 a.live,.int .u64 a.age,.int .u64 a.wear] 76)).alloc (.cells #[.int .i64 b.used,.int .i64 b.live,.int .u64 b.age,.int .u64 b.wear] 76)):=(((Below.refl _ _).alloc (Nat.le_refl _) _)).alloc (by simp) _
 have hz0:w.heap.size+2≤((w.alloc (.cells #[.int .i64 a.used,.int .i64 a.live,.int .u64 a.age,.int .u64 a.wear] 76)).alloc (.cells #[.int .i64 b.used,.int .i64 b.live,.int .u64 b.age,.int .u64 b.wear] 76)).heap.size:=by simp
 by_cases h1:a.live≤sz
 ·have h2:sz < b.live:=by omega
  obtain ⟨na,_⟩:=num_range now fa h1
  obtain ⟨nb,_⟩:=num_neg now fb h2
  have HT:Hid (betterB a b sz now=true):=by
   unfold Hid; rw [HB.out]; apply decide_eq_true
   have t1:numN b sz now * denN a sz < 0:=by
    have:=Int.mul_pos nb (show 0 < denN a sz by omega)
    rw [Int.neg_mul] at this; omega
   have t2:0≤numN a sz now * denN b sz:=Int.mul_nonneg na (by omega)
   omega
  clear A0 B0 hbl0 hz0
  go_enter Tryz.func132,Tryz.ntmps132
  go_wp2
  go_ret
  exact ⟨ret_bool HT.out.symm,(((Below.refl _ _).alloc (Nat.le_refl _) _)).alloc (by simp) _⟩
 ·have h1':sz < a.live:=by omega
  by_cases h2:b.live≤sz
  ·obtain ⟨na,_⟩:=num_neg now fa h1'
   obtain ⟨nb,_⟩:=num_range now fb h2
   have HT:Hid (betterB a b sz now=false):=by
    unfold Hid; rw [HB.out]; apply decide_eq_false
    have t1:0≤numN b sz now * denN a sz:=Int.mul_nonneg nb (by omega)
    have t2:numN a sz now * denN b sz < 0:=by
     have:=Int.mul_pos na (show 0 < denN b sz by omega)
     rw [Int.neg_mul] at this; omega
    omega
   clear A0 B0 hbl0 hz0
   go_enter Tryz.func132,Tryz.ntmps132
   go_wp2
   go_ret
   exact ⟨ret_bool HT.out.symm,(((Below.refl _ _).alloc (Nat.le_refl _) _)).alloc (by simp) _⟩
  ·have h2':sz < b.live:=by omega
   obtain ⟨na,na1⟩:=num_neg now fa h1'
   obtain ⟨nb,nb1⟩:=num_neg now fb h2'
   obtain ⟨hX0,hX1⟩:=mul_bound (a:=- numN a sz now) (b:=denN b sz) (A:=1152921504607895552) (B:=2097152) (by omega) (by omega) na1 db1
   obtain ⟨hY0,hY1⟩:=mul_bound (a:=- numN b sz now) (b:=denN a sz) (A:=1152921504607895552) (B:=2097152) (by omega) (by omega) nb1 da1
   have HT:Hid (betterB a b sz now=decide (- numN a sz now * denN b sz < - numN b sz now * denN a sz)):=by
    unfold Hid; rw [HB.out,Int.neg_mul,Int.neg_mul]
    congr 1
    apply propext
    omega
   have c1:=Lib.hid (fun W=>loss_any a ha.age now sz hn h1' fa.live1 fa.sz0 fa.sz1 W)
   have c2:=Lib.hid (fun W=>loss_any b hb.age now sz hn h2' fb.live1 fb.sz0 fb.sz1 W)
   have c3:=Lib.hid (fun W=>mul64_any (- numN a sz now) (denN b sz) (by omega) (by omega) (by omega) (by omega) W)
   have c4:=Lib.hid (fun W=>mul64_any (- numN b sz now) (denN a sz) (by omega) (by omega) (by omega) (by omega) W)
   clear da0 da1 db0 db1 na na1 nb nb1
   generalize - numN a sz now * denN b sz=X at *
   generalize - numN b sz now * denN a sz=Y at *
   go_enter Tryz.func132,Tryz.ntmps132
   go_wp2_with fail
   refine (c1.out _).mono ?_
   rintro e w1 ⟨rfl,hb1⟩
   have p0:=A0.c0
   have p1:=A0.c1
   have p2:=A0.c2
   have p3:=A0.c3
   have q0:=B0.c0
   have q1:=B0.c1
   have q2:=B0.c2
   have q3:=B0.c3
   clear p0 p1 p2 p3 q0 q1 q2 q3
   have hz1:=Nat.le_trans hz0 hb1.size
   have A1:=A0.below hb1 (by omega)
   have B1:=B0.below hb1 (by omega)
   have hbl1:=hbl0.trans (hb1.mono (by omega))
   clear hb1 A0 B0
   have p0:=A1.c0
   have p1:=A1.c1
   have p2:=A1.c2
   have p3:=A1.c3
   have q0:=B1.c0
   have q1:=B1.c1
   have q2:=B1.c2
   have q3:=B1.c3
   go_wp2_with fail
   refine (c2.out _).mono ?_
   rintro e w2 ⟨rfl,hb2⟩
   clear p0 p1 p2 p3 q0 q1 q2 q3
   have hz2:=Nat.le_trans hz1 hb2.size
   have A2:=A1.below hb2 (by omega)
   have B2:=B1.below hb2 (by omega)
   have hbl2:=hbl1.trans (hb2.mono (by omega))
   clear hb2 A1 B1
   have p0:=A2.c0
   have p1:=A2.c1
   have p2:=A2.c2
   have p3:=A2.c3
   have q0:=B2.c0
   have q1:=B2.c1
   have q2:=B2.c2
   have q3:=B2.c3
   go_wp2_with fail
   refine (c3.out _).mono ?_
   rintro e w3 ⟨rfl,hb3⟩
   clear p0 p1 p2 p3 q0 q1 q2 q3
   have hz3:=Nat.le_trans hz2 hb3.size
   have A3:=A2.below hb3 (by omega)
   have B3:=B2.below hb3 (by omega)
   have hbl3:=hbl2.trans (hb3.mono (by omega))
   clear hb3 A2 B2
   have p0:=A3.c0
   have p1:=A3.c1
   have p2:=A3.c2
   have p3:=A3.c3
   have q0:=B3.c0
   have q1:=B3.c1
   have q2:=B3.c2
   have q3:=B3.c3
   go_wp2_with fail
   refine (c4.out _).mono ?_
   rintro e w4 ⟨rfl,hb4⟩
   clear p0 p1 p2 p3 q0 q1 q2 q3
   have hz4:=Nat.le_trans hz3 hb4.size
   have A4:=A3.below hb4 (by omega)
   have B4:=B3.below hb4 (by omega)
   have hbl4:=hbl3.trans (hb4.mono (by omega))
   clear hb4 A3 B3
   have p0:=A4.c0
   have p1:=A4.c1
   have p2:=A4.c2
   have p3:=A4.c3
   have q0:=B4.c0
   have q1:=B4.c1
   have q2:=B4.c2
   have q3:=B4.c3
   clear p0 p1 p2 p3 q0 q1 q2 q3
   by_cases hX:X < Y
   ·have HU:Hid (betterB a b sz now=true):=by unfold Hid; rw [HT.out]; exact decide_eq_true hX
    go_wp2
    all_goals (go_ret; refine ⟨ret_bool (Eq.trans ?_ HU.out.symm),hbl4⟩; first | rfl | exact decide_eq_true (by omega) | (exfalso; omega))
   ·have HU:Hid (betterB a b sz now=false):=by unfold Hid; rw [HT.out]; exact decide_eq_false hX
    go_wp2
    all_goals (go_ret; refine ⟨ret_bool (Eq.trans ?_ HU.out.symm),hbl4⟩; first | rfl | exact decide_eq_false (by omega) | (exfalso; omega))
set_option maxHeartbeats 1000000 in
theorem better_any (a b:BI) (ha:a.Ok) (hb:b.Ok) (sz now:Int) (hn:U64 now) (w:World):
  Calls Tryz.prog 104 #[.agg #[.int .i64 a.used,.int .i64 a.live,.int .u64 a.age,.int .u64 a.wear],.agg #[.int .i64 b.used,.int .i64 b.live,.int .u64 b.age,.int .u64 b.wear],.int .i64 sz,.int .u64 now] w fun e w'=>e= .returned (.bool (betterB a b sz now))∧Below w.heap.size w w':=by
 have A0:Cells4 ((w.alloc (.cells #[.int .i64 a.used,.int .i64 a.live,.int .u64 a.age,.int .u64 a.wear] 76)).alloc (.cells #[.int .i64 b.used,.int .i64 b.live,.int .u64 b.age,.int .u64 b.wear] 76)) w.heap.size (.int .i64 a.used) (.int .i64 a.live) (.int .u64 a.age) (.int .u64 a.wear):=(Cells4.new w 76 _ _ _ _).below ((Below.refl _ _).alloc (Nat.le_refl _) _) (by simp)
 have B0:Cells4 ((w.alloc (.cells #[.int .i64 a.used,.int .i64 a.live,.int .u64 a.age,.int .u64 a.wear] 76)).alloc (.cells #[.int .i64 b.used,.int .i64 b.live,.int .u64 b.age,.int .u64 b.wear] 76)) (w.heap.size+1) (.int .i64 b.used) (.int .i64 b.live) (.int .u64 b.age) (.int .u64 b.wear):=Cells4.new_at (w.alloc (.cells #[.int .i64 a.used,.int .i64 a.live,.int .u64 a.age,.int .u64 a.wear] 76)) 76 _ _ _ _ _ (by simp)
 have hbl0:Below w.heap.size w ((w.alloc (.cells #[.int .i64 a.used,.int .i64 a.live,.int .u64 a.age,.int .u64 a.wear] 76)).alloc (.cells #[.int .i64 b.used,.int .i64 b.live,.int .u64 b.age,.int .u64 b.wear] 76)):=(((Below.refl _ _).alloc (Nat.le_refl _) _)).alloc (by simp) _
 have hz0:w.heap.size+2≤((w.alloc (.cells #[.int .i64 a.used,.int .i64 a.live,.int .u64 a.age,.int .u64 a.wear] 76)).alloc (.cells #[.int .i64 b.used,.int .i64 b.live,.int .u64 b.age,.int .u64 b.wear] 76)).heap.size:=by simp
 cases g1:fitB a
 ·have HT:Hid (betterB a b sz now=false):=by unfold Hid betterB; rw [g1]; rfl
  go_enter Tryz.func104,Tryz.ntmps104
  go_wp2_with (go_at_call 131; refine (vfits_any a _).mono ?_; rintro e w1 ⟨rfl,hb1⟩; rw [g1])
  go_ret
  exact ⟨ret_bool HT.out.symm,hbl0.trans (hb1.mono (by omega))⟩
 ·cases g2:fitB b
  ·have HT:Hid (betterB a b sz now=false):=by unfold Hid betterB; rw [g1,g2]; rfl
   go_enter Tryz.func104,Tryz.ntmps104
   go_wp2_with fail
   refine (vfits_any a _).mono ?_
   rintro e w1 ⟨rfl,hb1⟩
   have p0:=A0.c0
   have p1:=A0.c1
   have p2:=A0.c2
   have p3:=A0.c3
   have q0:=B0.c0
   have q1:=B0.c1
   have q2:=B0.c2
   have q3:=B0.c3
   clear p0 p1 p2 p3 q0 q1 q2 q3
   have hz1:=Nat.le_trans hz0 hb1.size
   have A1:=A0.below hb1 (by omega)
   have B1:=B0.below hb1 (by omega)
   have hbl1:=hbl0.trans (hb1.mono (by omega))
   clear hb1 A0 B0
   have p0:=A1.c0
   have p1:=A1.c1
   have p2:=A1.c2
   have p3:=A1.c3
   have q0:=B1.c0
   have q1:=B1.c1
   have q2:=B1.c2
   have q3:=B1.c3
   rw [g1]
   go_wp2_with fail
   refine (vfits_any b _).mono ?_
   rintro e w2 ⟨rfl,hb2⟩
   clear p0 p1 p2 p3 q0 q1 q2 q3
   have hz2:=Nat.le_trans hz1 hb2.size
   have A2:=A1.below hb2 (by omega)
   have B2:=B1.below hb2 (by omega)
   have hbl2:=hbl1.trans (hb2.mono (by omega))
   clear hb2 A1 B1
   have p0:=A2.c0
   have p1:=A2.c1
   have p2:=A2.c2
   have p3:=A2.c3
   have q0:=B2.c0
   have q1:=B2.c1
   have q2:=B2.c2
   have q3:=B2.c3
   rw [g2]
   go_wp2
   go_ret
   exact ⟨ret_bool HT.out.symm,hbl2⟩
  ·by_cases g3:sz < 1∨1048576 < sz
   ·have HT:Hid (betterB a b sz now=false):=by
     unfold Hid betterB szB; rw [g1,g2]
     rcases g3 with g | g
     ·rw [decide_eq_false (show ¬ 1≤sz by omega)]; simp
     ·rw [decide_eq_false (show ¬ sz≤1048576 by omega)]; simp
    go_enter Tryz.func104,Tryz.ntmps104
    go_wp2_with fail
    refine (vfits_any a _).mono ?_
    rintro e w1 ⟨rfl,hb1⟩
    have p0:=A0.c0
    have p1:=A0.c1
    have p2:=A0.c2
    have p3:=A0.c3
    have q0:=B0.c0
    have q1:=B0.c1
    have q2:=B0.c2
    have q3:=B0.c3
    clear p0 p1 p2 p3 q0 q1 q2 q3
    have hz1:=Nat.le_trans hz0 hb1.size
    have A1:=A0.below hb1 (by omega)
    have B1:=B0.below hb1 (by omega)
    have hbl1:=hbl0.trans (hb1.mono (by omega))
    clear hb1 A0 B0
    have p0:=A1.c0
    have p1:=A1.c1
    have p2:=A1.c2
    have p3:=A1.c3
    have q0:=B1.c0
    have q1:=B1.c1
    have q2:=B1.c2
    have q3:=B1.c3
    rw [g1]
    go_wp2_with fail
    refine (vfits_any b _).mono ?_
    rintro e w2 ⟨rfl,hb2⟩
    clear p0 p1 p2 p3 q0 q1 q2 q3
    have hz2:=Nat.le_trans hz1 hb2.size
    have A2:=A1.below hb2 (by omega)
    have B2:=B1.below hb2 (by omega)
    have hbl2:=hbl1.trans (hb2.mono (by omega))
    clear hb2 A1 B1
    have p0:=A2.c0
    have p1:=A2.c1
    have p2:=A2.c2
    have p3:=A2.c3
    have q0:=B2.c0
    have q1:=B2.c1
    have q2:=B2.c2
    have q3:=B2.c3
    rw [g2]
    clear g1 g2
    rcases g3 with g | g
    ·go_wp2
     go_ret
     exact ⟨ret_bool HT.out.symm,hbl2⟩
    ·have g':¬ sz < 1:=by omega
     go_wp2
     go_ret
     exact ⟨ret_bool HT.out.symm,hbl2⟩
   ·have g4:1≤sz:=by omega
    have g5:sz≤1048576:=by omega
    clear g3
    have e1:=g1
    have e2:=g2
    unfold fitB at e1 e2
    simp at e1 e2
    have fa:Fine a sz:=⟨e1.1,e1.2,g4,g5⟩
    have fb:Fine b sz:=⟨e2.1,e2.2,g4,g5⟩
    clear e1 e2
    have HB:=Lib.hid (betterB_fine now fa fb)
    by_cases hor:sz < a.live∨sz < b.live
    ·have c1:=Lib.hid (fun W=>over_any a b ha hb sz now hn fa fb hor W)
     go_enter Tryz.func104,Tryz.ntmps104
     go_wp2_with fail
     refine (vfits_any a _).mono ?_
     rintro e w1 ⟨rfl,hb1⟩
     have p0:=A0.c0
     have p1:=A0.c1
     have p2:=A0.c2
     have p3:=A0.c3
     have q0:=B0.c0
     have q1:=B0.c1
     have q2:=B0.c2
     have q3:=B0.c3
     clear p0 p1 p2 p3 q0 q1 q2 q3
     have hz1:=Nat.le_trans hz0 hb1.size
     have A1:=A0.below hb1 (by omega)
     have B1:=B0.below hb1 (by omega)
     have hbl1:=hbl0.trans (hb1.mono (by omega))
     clear hb1 A0 B0
     have p0:=A1.c0
     have p1:=A1.c1
     have p2:=A1.c2
     have p3:=A1.c3
     have q0:=B1.c0
     have q1:=B1.c1
     have q2:=B1.c2
     have q3:=B1.c3
     rw [g1]
     go_wp2_with fail
     refine (vfits_any b _).mono ?_
     rintro e w2 ⟨rfl,hb2⟩
     clear p0 p1 p2 p3 q0 q1 q2 q3
     have hz2:=Nat.le_trans hz1 hb2.size
     have A2:=A1.below hb2 (by omega)
     have B2:=B1.below hb2 (by omega)
     have hbl2:=hbl1.trans (hb2.mono (by omega))
     clear hb2 A1 B1
     have p0:=A2.c0
     have p1:=A2.c1
     have p2:=A2.c2
     have p3:=A2.c3
     have q0:=B2.c0
     have q1:=B2.c1
     have q2:=B2.c2
     have q3:=B2.c3
     rw [g2]
     clear g1 g2
     by_cases hl:sz < a.live
     ·clear hor
      go_wp2_with fail
      refine (c1.out _).mono ?_
      rintro e w3 ⟨rfl,hb3⟩
      go_wp2
      go_ret
      exact ⟨rfl,hbl2.trans (hb3.mono (by omega))⟩
     ·have hl2:sz < b.live:=by omega
      clear hor
      go_wp2_with fail
      refine (c1.out _).mono ?_
      rintro e w3 ⟨rfl,hb3⟩
      go_wp2
      go_ret
      exact ⟨rfl,hbl2.trans (hb3.mono (by omega))⟩
    ·have h1:a.live≤sz:=by omega
     have h2:b.live≤sz:=by omega
     clear hor
     obtain ⟨da0,da1⟩:=den_range fa
     obtain ⟨db0,db1⟩:=den_range fb
     obtain ⟨na,na1⟩:=num_range now fa h1
     obtain ⟨nb,nb1⟩:=num_range now fb h2
     obtain ⟨hX0,hX1⟩:=mul_bound (a:=numN a sz now) (b:=denN b sz) (A:=1152921504607895552) (B:=2097152) (by omega) (by omega) na1 db1
     obtain ⟨hY0,hY1⟩:=mul_bound (a:=numN b sz now) (b:=denN a sz) (A:=1152921504607895552) (B:=2097152) (by omega) (by omega) nb1 da1
     have c1:=Lib.hid (fun W=>yield_any a ha.age now sz hn fa.live0 h1 fa.sz0 fa.sz1 W)
     have c2:=Lib.hid (fun W=>yield_any b hb.age now sz hn fb.live0 h2 fb.sz0 fb.sz1 W)
     have c3:=Lib.hid (fun W=>mul64_any (numN a sz now) (denN b sz) (by omega) (by omega) (by omega) (by omega) W)
     have c4:=Lib.hid (fun W=>mul64_any (numN b sz now) (denN a sz) (by omega) (by omega) (by omega) (by omega) W)
     clear da0 da1 db0 db1 na na1 nb nb1
     generalize numN a sz now * denN b sz=X at *
     generalize numN b sz now * denN a sz=Y at *
     go_enter Tryz.func104,Tryz.ntmps104
     go_wp2_with fail
     refine (vfits_any a _).mono ?_
     rintro e w1 ⟨rfl,hb1⟩
     have p0:=A0.c0
     have p1:=A0.c1
     have p2:=A0.c2
     have p3:=A0.c3
     have q0:=B0.c0
     have q1:=B0.c1
     have q2:=B0.c2
     have q3:=B0.c3
     clear p0 p1 p2 p3 q0 q1 q2 q3
     have hz1:=Nat.le_trans hz0 hb1.size
     have A1:=A0.below hb1 (by omega)
     have B1:=B0.below hb1 (by omega)
     have hbl1:=hbl0.trans (hb1.mono (by omega))
     clear hb1 A0 B0
     have p0:=A1.c0
     have p1:=A1.c1
     have p2:=A1.c2
     have p3:=A1.c3
     have q0:=B1.c0
     have q1:=B1.c1
     have q2:=B1.c2
     have q3:=B1.c3
     rw [g1]
     go_wp2_with fail
     refine (vfits_any b _).mono ?_
     rintro e w2 ⟨rfl,hb2⟩
     clear p0 p1 p2 p3 q0 q1 q2 q3
     have hz2:=Nat.le_trans hz1 hb2.size
     have A2:=A1.below hb2 (by omega)
     have B2:=B1.below hb2 (by omega)
     have hbl2:=hbl1.trans (hb2.mono (by omega))
     clear hb2 A1 B1
     have p0:=A2.c0
     have p1:=A2.c1
     have p2:=A2.c2
     have p3:=A2.c3
     have q0:=B2.c0
     have q1:=B2.c1
     have q2:=B2.c2
     have q3:=B2.c3
     rw [g2]
     clear g1 g2
     go_wp2_with fail
     refine (c1.out _).mono ?_
     rintro e w3 ⟨rfl,hb3⟩
     clear p0 p1 p2 p3 q0 q1 q2 q3
     have hz3:=Nat.le_trans hz2 hb3.size
     have A3:=A2.below hb3 (by omega)
     have B3:=B2.below hb3 (by omega)
     have hbl3:=hbl2.trans (hb3.mono (by omega))
     clear hb3 A2 B2
     have p0:=A3.c0
     have p1:=A3.c1
     have p2:=A3.c2
     have p3:=A3.c3
     have q0:=B3.c0
     have q1:=B3.c1
     have q2:=B3.c2
     have q3:=B3.c3
     go_wp2_with fail
     refine (c2.out _).mono ?_
     rintro e w4 ⟨rfl,hb4⟩
     clear p0 p1 p2 p3 q0 q1 q2 q3
     have hz4:=Nat.le_trans hz3 hb4.size
     have A4:=A3.below hb4 (by omega)
     have B4:=B3.below hb4 (by omega)
     have hbl4:=hbl3.trans (hb4.mono (by omega))
     clear hb4 A3 B3
     have p0:=A4.c0
     have p1:=A4.c1
     have p2:=A4.c2
     have p3:=A4.c3
     have q0:=B4.c0
     have q1:=B4.c1
     have q2:=B4.c2
     have q3:=B4.c3
     go_wp2_with fail
     refine (c3.out _).mono ?_
     rintro e w5 ⟨rfl,hb5⟩
     clear p0 p1 p2 p3 q0 q1 q2 q3
     have hz5:=Nat.le_trans hz4 hb5.size
     have A5:=A4.below hb5 (by omega)
     have B5:=B4.below hb5 (by omega)
     have hbl5:=hbl4.trans (hb5.mono (by omega))
     clear hb5 A4 B4
     have p0:=A5.c0
     have p1:=A5.c1
     have p2:=A5.c2
     have p3:=A5.c3
     have q0:=B5.c0
     have q1:=B5.c1
     have q2:=B5.c2
     have q3:=B5.c3
     go_wp2_with fail
     refine (c4.out _).mono ?_
     rintro e w6 ⟨rfl,hb6⟩
     clear p0 p1 p2 p3 q0 q1 q2 q3
     have hz6:=Nat.le_trans hz5 hb6.size
     have A6:=A5.below hb6 (by omega)
     have B6:=B5.below hb6 (by omega)
     have hbl6:=hbl5.trans (hb6.mono (by omega))
     clear hb6 A5 B5
     have p0:=A6.c0
     have p1:=A6.c1
     have p2:=A6.c2
     have p3:=A6.c3
     have q0:=B6.c0
     have q1:=B6.c1
     have q2:=B6.c2
     have q3:=B6.c3
     clear p0 p1 p2 p3 q0 q1 q2 q3
     by_cases hX:Y < X
     ·have HU:Hid (betterB a b sz now=true):=by unfold Hid; rw [HB.out]; exact decide_eq_true hX
      go_wp2
      all_goals (go_ret; refine ⟨ret_bool (Eq.trans ?_ HU.out.symm),hbl6⟩; first | rfl | exact decide_eq_true (by omega) | (exfalso; omega))
     ·have HU:Hid (betterB a b sz now=false):=by unfold Hid; rw [HB.out]; exact decide_eq_false hX
      go_wp2
      all_goals (go_ret; refine ⟨ret_bool (Eq.trans ?_ HU.out.symm),hbl6⟩; first | rfl | exact decide_eq_false (by omega) | (exfalso; omega))
end Go.Proofs.YtggkengmlkhdiaaGreat.V
namespace Go.Proofs.YtggkengmlkhdiaaGreat.V
set_option linter.unusedVariables false
open Go.RowKit
def bestI (s:Option (Nat × BI)):Int:=match s with | none=>-1 | some (j,_)=>(j:Int)
def TwoAt (W:World) (g o k j:Nat) (b c:BI) (n:Nat):Prop:=
 (W.cell? ⟨n,0,none⟩=some (.int .i64 b.used)∧W.cell? ⟨n,1,none⟩=some (.int .i64 b.live)∧W.cell? ⟨n,2,none⟩=some (.int .u64 b.age)∧W.cell? ⟨n,3,none⟩=some (.int .u64 b.wear))∧
 W.cell? ⟨g,o+j * 4,none⟩=some (.int .i64 c.used)∧W.cell? ⟨g,o+j * 4+1,none⟩=some (.int .i64 c.live)∧W.cell? ⟨g,o+j * 4+2,none⟩=some (.int .u64 c.age)∧W.cell? ⟨g,o+j * 4+3,none⟩=some (.int .u64 c.wear)
set_option maxHeartbeats 1000000 in
theorem choose_any (l:List BI) (hok:Oks l) (sz now opn:Int) (hn:U64 now) (A:Option Addr) (c:Nat) (w:World) (hl:Rd w w.heap.size A (flat l)) (hbig:l.length≤9223372036854775807):
  Calls Tryz.prog 71 #[.slice A l.length c,.int .i64 sz,.int .u64 now,.int .i64 opn] w fun e w'=>e= .returned (.tuple #[.int .i64 (chooseN l sz now opn).1,.int .i64 (chooseN l sz now opn).2])∧Below w.heap.size w w':=by
 have HC:Hid (∀ (b:Bool),(validB l sz && decide (sz≤1048576))=b→chooseN l sz now opn=if b then chRes (chooseFrom sz now opn none 0 l) else (0,1)):=by
  unfold Hid; intro b hb; unfold chooseN; rw [hb]
 cases hv:validB l sz
 ·have HR:=Lib.hid (HC.out false (by rw [hv]; rfl))
  go_enter Tryz.func71,Tryz.ntmps71
  go_wp2_with (go_at_call 103; refine (valid_any sz l A c _ hl hbig).mono ?_; rintro e w1 ⟨rfl,hb1⟩; rw [hv])
  go_ret2
  exact ⟨by rw [HR.out]; rfl,hb1⟩
 ·by_cases hs:sz≤1048576
  ·have hvd:=(validB_iff l sz).1 hv
   obtain ⟨v1,v2,v3,v4⟩:=hvd
   have HV:=Lib.hid v4
   have HR:=Lib.hid (HC.out true (by rw [hv,decide_eq_true hs]; rfl))
   clear v4 HC
   go_enter Tryz.func71,Tryz.ntmps71
   go_wp2_with fail
   refine (valid_any sz l A c _ hl hbig).mono ?_
   rintro e w1 ⟨rfl,hb1⟩
   rw [hv]
   clear hv
   have hd0:decide (1048576 < sz)=false:=decide_eq_false (by omega)
   go_wp2
   go_loopw [10,23] (fun b i wr=>∃ k:Nat,k≤l.length∧i= .int .i64 k∧b= .int .i64 (bestI (chooseFrom sz now opn none 0 (l.take k)))∧Below w.heap.size w wr) (fun _ i _=>l.length - (intOf i).toNat)
   case atStart=>exact ⟨0,Nat.zero_le _,rfl,rfl,hb1⟩
   case round=>
    obtain ⟨k,hk,rfl,rfl,hbl⟩:=hrel
    by_cases hlt:k < l.length
    ·have HS:=Lib.hid (chooseFrom_take sz now opn l none k hlt)
     have HI:=Lib.hid (choose_inv sz now opn l k hk)
     obtain ⟨u1,u2,u3⟩:=HV.out _ (List.getElem_mem hlt)
     have hbo:=oks_get hok hlt
     have hz:=hbl.size
     obtain ⟨g,o,rfl,hg,h0,h1,h2,h3⟩:=hl.band (get_some hlt)
     have j0:=(hbl.cell (p:=⟨g,_,none⟩) hg).trans h0
     have j1:=(hbl.cell (p:=⟨g,_,none⟩) hg).trans h1
     have j2:=(hbl.cell (p:=⟨g,_,none⟩) hg).trans h2
     have j3:=(hbl.cell (p:=⟨g,_,none⟩) hg).trans h3
     clear h0 h1 h2 h3
     have hal:Below w.heap.size w (wr.alloc (.cells #[.int .i64 l[k].used,.int .i64 l[k].live,.int .u64 l[k].age,.int .u64 l[k].wear] 76)):=hbl.alloc hz _
     cases hcand:candB sz opn k l[k]
     ·have HN:Hid (chooseFrom sz now opn none 0 (l.take (k+1))=chooseFrom sz now opn none 0 (l.take k)):=by
       unfold Hid; rw [HS.out]; unfold chooseStep; rw [hcand]; rfl
      clear HS HI
      generalize chooseFrom sz now opn none 0 (l.take k)=s at *
      unfold candB at hcand
      by_cases e1:(k:Int)=opn
      ·have d1:((k:Int)==opn)=true:=by simpa using e1
       clear e1 hcand
       go_wp2
       go_roundw
       case rel=>exact ⟨k+1,by omega,by go_num,by rw [HN.out],hal⟩
       case measure=>simp [intOf]; omega
      ·have d1:((k:Int)==opn)=false:=by simpa using e1
       by_cases e2:l[k].used=0
       ·have d2:(l[k].used==0)=true:=by simpa using e2
        clear e1 e2 hcand
        go_wp2
        go_roundw
        case rel=>exact ⟨k+1,by omega,by go_num,by rw [HN.out],hal⟩
        case measure=>simp [intOf]; omega
       ·have d2:(l[k].used==0)=false:=by simpa using e2
        have d3:decide (sz≤l[k].live)=true:=by
         apply decide_eq_true
         simp [e1] at hcand
         exact hcand (by omega)
        clear e1 e2 hcand
        go_wp2
        go_roundw
        case rel=>exact ⟨k+1,by omega,by go_num,by rw [HN.out],hal⟩
        case measure=>simp [intOf]; omega
     ·have HX:Hid (∀ s,chooseFrom sz now opn none 0 (l.take k)=s→chooseFrom sz now opn none 0 (l.take (k+1))=(match s with | none=>some (k,l[k]) | some (j,c)=>if takeB sz now c l[k] then some (k,l[k]) else some (j,c))):=by
       unfold Hid; intro s hs; rw [HS.out,hs]; unfold chooseStep; rw [hcand]; rfl
      clear HS
      unfold candB at hcand
      simp at hcand
      obtain ⟨e1,e2,e3⟩:=hcand
      have d1:((k:Int)==opn)=false:=by simpa using e1
      have d2:(l[k].used==0)=false:=by simp; omega
      have d3:decide (sz≤l[k].live)=false:=decide_eq_false (by omega)
      clear e1 e2 e3 u1 u2 u3
      rcases HI.out with hm | ⟨j,hj,hjk,hm,_⟩
      ·have HN:=Lib.hid (HX.out none hm)
       rw [hm]
       clear hm HX HI
       simp only [bestI] at *
       go_wp2
       clear j0 j1 j2 j3
       go_quiet (fail)
       go_wp2
       go_roundw
       case rel=>exact ⟨k+1,by omega,by go_num,by rw [HN.out],below_drewN' hal _⟩
       case measure=>simp [intOf]; omega
      ·have HN:=Lib.hid (HX.out _ hm)
       rw [hm]
       clear hm HX HI
       have hjo:=oks_get hok hj
       obtain ⟨g',o',e,_,i0,i1,i2,i3⟩:=hl.band (get_some hj)
       simp only [Option.some.injEq,Addr.mk.injEq,and_true] at e
       obtain ⟨rfl,rfl⟩:=e
       have KK:∀ W,Below (wr.alloc (.cells #[.int .i64 l[k].used,.int .i64 l[k].live,.int .u64 l[k].age,.int .u64 l[k].wear] 76)).heap.size (wr.alloc (.cells #[.int .i64 l[k].used,.int .i64 l[k].live,.int .u64 l[k].age,.int .u64 l[k].wear] 76)) W→TwoAt W g o k j l[k] l[j] wr.heap.size:=fun W h=>by
        have A1:=(Cells4.new wr 76 (.int .i64 l[k].used) (.int .i64 l[k].live) (.int .u64 l[k].age) (.int .u64 l[k].wear)).below h (by simp)
        have hw:=hal.trans (h.mono hal.size)
        exact ⟨⟨A1.c0,A1.c1,A1.c2,A1.c3⟩,(hw.cell (p:=⟨g,_,none⟩) hg).trans i0,(hw.cell (p:=⟨g,_,none⟩) hg).trans i1,(hw.cell (p:=⟨g,_,none⟩) hg).trans i2,(hw.cell (p:=⟨g,_,none⟩) hg).trans i3⟩
       have C1:=Lib.hid (fun W=>better_any l[k] l[j] hbo hjo sz now hn W)
       have C2:=Lib.hid (fun W=>better_any l[j] l[k] hjo hbo sz now hn W)
       have DK:=Lib.hid KK
       have hzz:=hal.size
       clear KK i0 i1 i2 i3
       have q1:(0:Int)≤j:=by omega
       have q2:(j:Int) < l.length:=by omega
       have q3:decide ((j:Int) < 0)=false:=decide_eq_false (by omega)
       simp only [bestI] at *
       clear hbo hjo
       generalize hX:l[k]=X at *
       generalize hY:l[j]=Y at *
       have HX':=Lib.hid hX
       have HY':=Lib.hid hY
       clear hX hY
       go_wp2
       clear j0 j1 j2 j3 hl
       obtain ⟨⟨z0,z1,z2,z3⟩,y0,y1,y2,y3⟩:=DK.out _ (Below.refl _ _)
       clear DK hzz
       generalize (wr.alloc (.cells #[.int .i64 X.used,.int .i64 X.live,.int .u64 X.age,.int .u64 X.wear] 76))=W0 at *
       have s0:=Held.cell (B:=W0.heap.size) z0 (block_lt_of_cell z0)
       have s1:=Held.cell (B:=W0.heap.size) z1 (block_lt_of_cell z1)
       have s2:=Held.cell (B:=W0.heap.size) z2 (block_lt_of_cell z2)
       have s3:=Held.cell (B:=W0.heap.size) z3 (block_lt_of_cell z3)
       have r0:=Held.cell (B:=W0.heap.size) y0 (block_lt_of_cell y0)
       have r1:=Held.cell (B:=W0.heap.size) y1 (block_lt_of_cell y1)
       have r2:=Held.cell (B:=W0.heap.size) y2 (block_lt_of_cell y2)
       have r3:=Held.cell (B:=W0.heap.size) y3 (block_lt_of_cell y3)
       clear z0 z1 z2 z3 y0 y1 y2 y3
       cases t1:betterB X Y sz now
       ·have D1:Hid (∀ W,Calls Tryz.prog 104 #[.agg #[.int .i64 X.used,.int .i64 X.live,.int .u64 X.age,.int .u64 X.wear],.agg #[.int .i64 Y.used,.int .i64 Y.live,.int .u64 Y.age,.int .u64 Y.wear],.int .i64 sz,.int .u64 now] W fun e w'=>e= .returned (.bool false)∧Below W.heap.size W w'):=by
         unfold Hid; intro W; have:=C1.out W; rw [t1] at this; exact this
        cases t2:betterB Y X sz now
        ·have HN2:Hid (chooseFrom sz now opn none 0 (l.take (k+1))=if X.wear < Y.wear then some (k,X) else some (j,Y)):=by
          unfold Hid; rw [HN.out]; simp [takeB,t1,t2]
         have D2:Hid (∀ W,Calls Tryz.prog 104 #[.agg #[.int .i64 Y.used,.int .i64 Y.live,.int .u64 Y.age,.int .u64 Y.wear],.agg #[.int .i64 X.used,.int .i64 X.live,.int .u64 X.age,.int .u64 X.wear],.int .i64 sz,.int .u64 now] W fun e w'=>e= .returned (.bool false)∧Below W.heap.size W w'):=by
          unfold Hid; intro W; have:=C2.out W; rw [t2] at this; exact this
         clear HN C1 C2 t1 t2
         by_cases hw:X.wear < Y.wear
         ·have HN3:=Lib.hid HN2.out
          rw [if_pos hw] at HN3
          have hne:Nonempty (Held (Below W0.heap.size W0)):=⟨⟨_,(Held.drew_below (Nat.le_refl _))⟩⟩
          refine wp_region_heldq (S:=(Below W0.heap.size W0)) (by kernel_rfl) (by kernel_rfl) (Held.drew_below (Nat.le_refl _)) ?_
          repeat (go_big_quiet_step ((first | (go_at_call 104; exact Calls.held_below (Nat.le_refl _) (by with_reducible exact (D1.out _))) | (go_at_call 104; exact Calls.held_below (Nat.le_refl _) (by with_reducible exact (D2.out _))))))
          refine wpQuiet_nil ?_
          intro _ hw'
          obtain ⟨sq,hw''⟩:=hw'
          subst hw''
          clear hne
          go_wp2
          go_roundw
          case rel=>exact ⟨k+1,by omega,by go_num,by rw [HN3.out],hal.trans (sq.h.mono hal.size)⟩
          case measure=>simp [intOf]; omega
         ·have HN3:=Lib.hid HN2.out
          rw [if_neg hw] at HN3
          have hne:Nonempty (Held (Below W0.heap.size W0)):=⟨⟨_,(Held.drew_below (Nat.le_refl _))⟩⟩
          refine wp_region_heldq (S:=(Below W0.heap.size W0)) (by kernel_rfl) (by kernel_rfl) (Held.drew_below (Nat.le_refl _)) ?_
          repeat (go_big_quiet_step ((first | (go_at_call 104; exact Calls.held_below (Nat.le_refl _) (by with_reducible exact (D1.out _))) | (go_at_call 104; exact Calls.held_below (Nat.le_refl _) (by with_reducible exact (D2.out _))))))
          refine wpQuiet_nil ?_
          intro _ hw'
          obtain ⟨sq,hw''⟩:=hw'
          subst hw''
          clear hne
          go_wp2
          go_roundw
          case rel=>exact ⟨k+1,by omega,by go_num,by rw [HN3.out],hal.trans (sq.h.mono hal.size)⟩
          case measure=>simp [intOf]; omega
        ·have HN2:Hid (chooseFrom sz now opn none 0 (l.take (k+1))=some (j,Y)):=by
          unfold Hid; rw [HN.out]; simp [takeB,t1,t2]
         have D2:Hid (∀ W,Calls Tryz.prog 104 #[.agg #[.int .i64 Y.used,.int .i64 Y.live,.int .u64 Y.age,.int .u64 Y.wear],.agg #[.int .i64 X.used,.int .i64 X.live,.int .u64 X.age,.int .u64 X.wear],.int .i64 sz,.int .u64 now] W fun e w'=>e= .returned (.bool true)∧Below W.heap.size W w'):=by
          unfold Hid; intro W; have:=C2.out W; rw [t2] at this; exact this
         clear HN C1 C2 t1 t2
         have hne:Nonempty (Held (Below W0.heap.size W0)):=⟨⟨_,(Held.drew_below (Nat.le_refl _))⟩⟩
         refine wp_region_heldq (S:=(Below W0.heap.size W0)) (by kernel_rfl) (by kernel_rfl) (Held.drew_below (Nat.le_refl _)) ?_
         repeat (go_big_quiet_step ((first | (go_at_call 104; exact Calls.held_below (Nat.le_refl _) (by with_reducible exact (D1.out _))) | (go_at_call 104; exact Calls.held_below (Nat.le_refl _) (by with_reducible exact (D2.out _))))))
         refine wpQuiet_nil ?_
         intro _ hw'
         obtain ⟨sq,hw''⟩:=hw'
         subst hw''
         clear hne
         go_wp2
         go_roundw
         case rel=>exact ⟨k+1,by omega,by go_num,by rw [HN2.out],hal.trans (sq.h.mono hal.size)⟩
         case measure=>simp [intOf]; omega
       ·have HN2:Hid (chooseFrom sz now opn none 0 (l.take (k+1))=some (k,X)):=by
         unfold Hid; rw [HN.out]; simp [takeB,t1]
        have D1:Hid (∀ W,Calls Tryz.prog 104 #[.agg #[.int .i64 X.used,.int .i64 X.live,.int .u64 X.age,.int .u64 X.wear],.agg #[.int .i64 Y.used,.int .i64 Y.live,.int .u64 Y.age,.int .u64 Y.wear],.int .i64 sz,.int .u64 now] W fun e w'=>e= .returned (.bool true)∧Below W.heap.size W w'):=by
         unfold Hid; intro W; have:=C1.out W; rw [t1] at this; exact this
        clear HN C1 C2 t1
        have hne:Nonempty (Held (Below W0.heap.size W0)):=⟨⟨_,(Held.drew_below (Nat.le_refl _))⟩⟩
        refine wp_region_heldq (S:=(Below W0.heap.size W0)) (by kernel_rfl) (by kernel_rfl) (Held.drew_below (Nat.le_refl _)) ?_
        repeat (go_big_quiet_step ((go_at_call 104; exact Calls.held_below (Nat.le_refl _) (D1.out _))))
        refine wpQuiet_nil ?_
        intro _ hw'
        obtain ⟨sq,hw''⟩:=hw'
        subst hw''
        clear hne
        go_wp2
        go_roundw
        case rel=>exact ⟨k+1,by omega,by go_num,by rw [HN2.out],hal.trans (sq.h.mono hal.size)⟩
        case measure=>simp [intOf]; omega
    ·have hk':k=l.length:=by omega
     subst hk'
     rw [List.take_of_length_le (Nat.le_refl _)] at *
     have HI:=Lib.hid (choose_inv sz now opn l l.length (Nat.le_refl _))
     rw [List.take_of_length_le (Nat.le_refl _)] at HI
     rcases HI.out with hm | ⟨j,hj,hjk,hm,_⟩
     ·have HR2:=Lib.hid HR.out
      rw [hm] at HR2
      rw [hm]
      clear hm HI
      simp only [bestI]
      go_wp2
      go_ret2
      exact ⟨by rw [HR2.out]; rfl,hbl⟩
     ·have HR2:=Lib.hid HR.out
      rw [hm] at HR2
      rw [hm]
      clear hm HI
      simp only [bestI]
      go_wp2
      go_ret2
      exact ⟨by rw [HR2.out]; rfl,hbl⟩
  ·have HR:=Lib.hid (HC.out false (by rw [hv,decide_eq_false hs]; rfl))
   have hs':1048576 < sz:=by omega
   go_enter Tryz.func71,Tryz.ntmps71
   go_wp2_with (go_at_call 103; refine (valid_any sz l A c _ hl hbig).mono ?_; rintro e w1 ⟨rfl,hb1⟩; rw [hv])
   go_ret2
   exact ⟨by rw [HR.out]; rfl,hb1⟩
end Go.Proofs.YtggkengmlkhdiaaGreat.V
