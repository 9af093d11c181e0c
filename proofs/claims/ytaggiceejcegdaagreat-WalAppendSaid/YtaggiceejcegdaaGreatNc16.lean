/-
  WHAT IS SHOWN: what the functions of geometry and of tegularef10 return: the same; they change nothing that was there. what Locate and Address of geometry and of tegularef10 return: the same; they change nothing that was there. what Address of geometry and of tegularef10 return: the same; they change nothing that was there. what Shadow of geometry and of tegularef10 return: new lists of the same numbers; they change nothing that was there. Conditions: as each theorem names them.
-/
import Derived.Test.YtaggiceejcegdaaGreatRows
import Derived.Test.YtaggiceejcegdaaGreatNc00
import Derived.Handy
import Derived.Laws.OwnMore
namespace Go.Proofs.YtaggiceejcegdaaGreat
set_option linter.unusedVariables false
open Go.RowKit
structure Geo.Ok (g : Geo) : Prop where
 r : I64 g.random
 b : I64 g.bands
 t : I64 g.tracks
 s : I64 g.sectors
 o : I64 g.overlap
set_option maxHeartbeats 400000 in
theorem within_any (n lo hi : Int) (w : World) : Calls Tryz.prog 162 #[.int .i64 n,.int .i64 lo,.int .i64 hi] w fun e w'=>e = .returned (.bool (inR n lo hi)) ∧ w' = w:=by
 unfold inR
 go_enter Tryz.func162,Tryz.ntmps162
 go_wp2
 all_goals (go_ret; exact ⟨by first | (simp [*]; done) | (simp [*]; omega),rfl⟩)
set_option maxHeartbeats 400000 in
theorem gvalid_any (g : Geo) (w : World) : Calls Tryz.prog 118 #[.agg #[.int .i64 g.random,.int .i64 g.bands,.int .i64 g.tracks,.int .i64 g.sectors,.int .i64 g.overlap]] w fun e w'=>e = .returned (.bool (validG g)) ∧ Below w.heap.size w w':=by
 have W0:=within_any g.random 0 16384
 have W1:=within_any g.bands 1 64
 have W2:=within_any g.tracks 1 16
 have W3:=within_any g.sectors 1 64
 have W4:=within_any g.overlap 0 3
 unfold validG
 generalize inR g.random 0 16384 = b0 at *
 generalize inR g.bands 1 64 = b1 at *
 generalize inR g.tracks 1 16 = b2 at *
 generalize inR g.sectors 1 64 = b3 at *
 generalize inR g.overlap 0 3 = b4 at *
 have H0:=Lib.hid W0; have H1:=Lib.hid W1; have H2:=Lib.hid W2; have H3:=Lib.hid W3; have H4:=Lib.hid W4
 clear W0 W1 W2 W3 W4
 cases b0
 ·go_enter Tryz.func118,Tryz.ntmps118
  go_wp2_with fail
  refine (H0.out _).mono ?_
  rintro e w' ⟨rfl,rfl⟩
  go_wp2
  go_ret
  exact ⟨rfl,((Below.refl _ _).alloc (Nat.le_refl _) _)⟩
 ·cases b1
  ·go_enter Tryz.func118,Tryz.ntmps118
   go_wp2_with fail
   refine (H0.out _).mono ?_
   rintro e w' ⟨rfl,rfl⟩
   go_wp2_with fail
   refine (H1.out _).mono ?_
   rintro e w' ⟨rfl,rfl⟩
   go_wp2
   go_ret
   exact ⟨rfl,((Below.refl _ _).alloc (Nat.le_refl _) _)⟩
  ·cases b2
   ·go_enter Tryz.func118,Tryz.ntmps118
    go_wp2_with fail
    refine (H0.out _).mono ?_
    rintro e w' ⟨rfl,rfl⟩
    go_wp2_with fail
    refine (H1.out _).mono ?_
    rintro e w' ⟨rfl,rfl⟩
    go_wp2_with fail
    refine (H2.out _).mono ?_
    rintro e w' ⟨rfl,rfl⟩
    go_wp2
    go_ret
    exact ⟨rfl,((Below.refl _ _).alloc (Nat.le_refl _) _)⟩
   ·cases b3
    ·go_enter Tryz.func118,Tryz.ntmps118
     go_wp2_with fail
     refine (H0.out _).mono ?_
     rintro e w' ⟨rfl,rfl⟩
     go_wp2_with fail
     refine (H1.out _).mono ?_
     rintro e w' ⟨rfl,rfl⟩
     go_wp2_with fail
     refine (H2.out _).mono ?_
     rintro e w' ⟨rfl,rfl⟩
     go_wp2_with fail
     refine (H3.out _).mono ?_
     rintro e w' ⟨rfl,rfl⟩
     go_wp2
     go_ret
     exact ⟨rfl,((Below.refl _ _).alloc (Nat.le_refl _) _)⟩
    ·go_enter Tryz.func118,Tryz.ntmps118
     go_wp2_with fail
     refine (H0.out _).mono ?_
     rintro e w' ⟨rfl,rfl⟩
     go_wp2_with fail
     refine (H1.out _).mono ?_
     rintro e w' ⟨rfl,rfl⟩
     go_wp2_with fail
     refine (H2.out _).mono ?_
     rintro e w' ⟨rfl,rfl⟩
     go_wp2_with fail
     refine (H3.out _).mono ?_
     rintro e w' ⟨rfl,rfl⟩
     go_wp2_with fail
     refine (H4.out _).mono ?_
     rintro e w' ⟨rfl,rfl⟩
     go_wp2
     go_ret
     exact ⟨rfl,((Below.refl _ _).alloc (Nat.le_refl _) _)⟩
set_option maxHeartbeats 400000 in
theorem rgvalid_any (g : Geo) (w : World) : Calls Tryz.prog 121 #[.agg #[.int .i64 g.random,.int .i64 g.bands,.int .i64 g.tracks,.int .i64 g.sectors,.int .i64 g.overlap]] w fun e w'=>e = .returned (.bool (validG g)) ∧ Below w.heap.size w w':=by
 unfold validG inR
 go_enter Tryz.func121,Tryz.ntmps121
 go_wp2
 all_goals (go_ret; exact ⟨by first | (simp [*]; done) | (simp [*]; omega),((Below.refl _ _).alloc (Nat.le_refl _) _)⟩)
set_option maxHeartbeats 400000 in
theorem gbz_any (g : Geo) (w : World) : Calls Tryz.prog 163 #[.agg #[.int .i64 g.random,.int .i64 g.bands,.int .i64 g.tracks,.int .i64 g.sectors,.int .i64 g.overlap]] w fun e w'=>e = .returned (.int .i64 (bzN g)) ∧ Below w.heap.size w w':=by
 cases hv : validG g
 ·have HZ : Hid (bzN g = 0):=by unfold Hid bzN; rw [hv]; rfl
  go_enter Tryz.func163,Tryz.ntmps163
  go_wp2_with fail
  refine (gvalid_any g _).mono ?_
  rintro e w1 ⟨rfl,hb1⟩
  rw [hv]
  clear hv
  go_wp2
  go_ret
  exact ⟨by rw [HZ.out]; rfl,((Below.refl _ _).alloc (Nat.le_refl _) _).trans (hb1.mono (by simp))⟩
 ·have hg:=(validG_iff g).1 hv
  have h0:=hg.t0; have h1:=hg.t1; have h2:=hg.s0; have h3:=hg.s1
  have h4:=hg.bz
  have HZ:=Lib.hid (bzN_valid hg)
  go_enter Tryz.func163,Tryz.ntmps163
  go_wp2_with fail
  refine (gvalid_any g _).mono ?_
  rintro e w1 ⟨rfl,hb1⟩
  rw [hv]
  clear hv hg
  have PG:=(Cells5.new w 97 _ _ _ _ _).below hb1 (by simp)
  have p0:=PG.c0; have p1:=PG.c1; have p2:=PG.c2; have p3:=PG.c3; have p4:=PG.c4
  go_wp2
  go_ret
  exact ⟨by rw [HZ.out]; rfl,((Below.refl _ _).alloc (Nat.le_refl _) _).trans (hb1.mono (by simp))⟩
set_option maxHeartbeats 400000 in
theorem rbz_any (g : Geo) (w : World) : Calls Tryz.prog 164 #[.agg #[.int .i64 g.random,.int .i64 g.bands,.int .i64 g.tracks,.int .i64 g.sectors,.int .i64 g.overlap]] w fun e w'=>e = .returned (.int .i64 (bzN g)) ∧ Below w.heap.size w w':=by
 cases hv : validG g
 ·have HZ : Hid (bzN g = 0):=by unfold Hid bzN; rw [hv]; rfl
  go_enter Tryz.func164,Tryz.ntmps164
  go_wp2_with fail
  refine (rgvalid_any g _).mono ?_
  rintro e w1 ⟨rfl,hb1⟩
  rw [hv]
  clear hv
  go_wp2
  go_ret
  exact ⟨by rw [HZ.out]; rfl,((Below.refl _ _).alloc (Nat.le_refl _) _).trans (hb1.mono (by simp))⟩
 ·have hg:=(validG_iff g).1 hv
  have h0:=hg.t0; have h1:=hg.t1; have h2:=hg.s0; have h3:=hg.s1
  have h4:=hg.bz
  have HZ:=Lib.hid (bzN_valid hg)
  go_enter Tryz.func164,Tryz.ntmps164
  go_wp2_with fail
  refine (rgvalid_any g _).mono ?_
  rintro e w1 ⟨rfl,hb1⟩
  rw [hv]
  clear hv hg
  have PG:=(Cells5.new w 97 _ _ _ _ _).below hb1 (by simp)
  have p0:=PG.c0; have p1:=PG.c1; have p2:=PG.c2; have p3:=PG.c3; have p4:=PG.c4
  go_wp2
  go_ret
  exact ⟨by rw [HZ.out]; rfl,((Below.refl _ _).alloc (Nat.le_refl _) _).trans (hb1.mono (by simp))⟩
set_option maxHeartbeats 400000 in
theorem gsz_any (g : Geo) (w : World) : Calls Tryz.prog 119 #[.agg #[.int .i64 g.random,.int .i64 g.bands,.int .i64 g.tracks,.int .i64 g.sectors,.int .i64 g.overlap]] w fun e w'=>e = .returned (.int .i64 (szN g)) ∧ Below w.heap.size w w':=by
 cases hv : validG g
 ·have HZ : Hid (szN g = 0):=by unfold Hid szN; rw [hv]; rfl
  go_enter Tryz.func119,Tryz.ntmps119
  go_wp2_with fail
  refine (gvalid_any g _).mono ?_
  rintro e w1 ⟨rfl,hb1⟩
  rw [hv]
  clear hv
  go_wp2
  go_ret
  exact ⟨by rw [HZ.out]; rfl,((Below.refl _ _).alloc (Nat.le_refl _) _).trans (hb1.mono (by simp))⟩
 ·have hg:=(validG_iff g).1 hv
  have h4:=hg.bz
  have h5:=hg.sz
  have h6:=hg.r0; have h7:=hg.r1
  have HZ:=Lib.hid (szN_valid hg)
  have HB : ∀ W,Calls Tryz.prog 163 #[.agg #[.int .i64 g.random,.int .i64 g.bands,.int .i64 g.tracks,.int .i64 g.sectors,.int .i64 g.overlap]] W fun e w'=>e = .returned (.int .i64 (g.tracks * g.sectors)) ∧ Below W.heap.size W w':=fun W=>by
   have:=gbz_any g W; rw [bzN_valid hg] at this; exact this
  have HB':=Lib.hid HB
  clear HB
  go_enter Tryz.func119,Tryz.ntmps119
  go_wp2_with fail
  refine (gvalid_any g _).mono ?_
  rintro e w1 ⟨rfl,hb1⟩
  rw [hv]
  clear hv hg
  have PG:=(Cells5.new w 97 _ _ _ _ _).below hb1 (by simp)
  have hbl1 : Below w.heap.size w w1:=((Below.refl _ _).alloc (Nat.le_refl _) _).trans (hb1.mono (by simp))
  have hz1 : w.heap.size < w1.heap.size:=by have:=hb1.size; simp at this; omega
  go_wp2_with fail
  have s0:=Held.cell PG.c0 hz1; have s1:=Held.cell PG.c1 hz1; have s2:=Held.cell PG.c2 hz1; have s3:=Held.cell PG.c3 hz1; have s4:=Held.cell PG.c4 hz1
  have p0:=PG.c0; have p1:=PG.c1; have p2:=PG.c2; have p3:=PG.c3; have p4:=PG.c4
  generalize g.tracks * g.sectors = Z at *
  have hw1 : IntKind.i64.wrap (g.bands * Z) = g.bands * Z:=by rw [IntKind.wrap_i64]; omega
  have hw2 : IntKind.i64.wrap (g.random + g.bands * Z) = g.random + g.bands * Z:=by rw [IntKind.wrap_i64]; omega
  have hne : Nonempty (Held (Below w1.heap.size w1)):=⟨⟨_,(Held.drew_below (Nat.le_refl _))⟩⟩
  refine wp_region_heldq (S:=(Below w1.heap.size w1)) (by kernel_rfl) (by kernel_rfl) (Held.drew_below (Nat.le_refl _)) ?_
  repeat (go_big_quiet_step ((go_at_call 163; exact Calls.held_below (Nat.le_refl _) (HB'.out _))))
  refine wpQuiet_nil ?_
  intro _ hw'
  obtain ⟨sq,hw''⟩:=hw'
  subst hw''
  clear hne
  go_wp2
  go_ret
  exact ⟨by rw [HZ.out]; rfl,hbl1.trans (sq.h.mono hbl1.size)⟩
set_option maxHeartbeats 400000 in
theorem rsz_any (g : Geo) (w : World) : Calls Tryz.prog 122 #[.agg #[.int .i64 g.random,.int .i64 g.bands,.int .i64 g.tracks,.int .i64 g.sectors,.int .i64 g.overlap]] w fun e w'=>e = .returned (.int .i64 (szN g)) ∧ Below w.heap.size w w':=by
 cases hv : validG g
 ·have HZ : Hid (szN g = 0):=by unfold Hid szN; rw [hv]; rfl
  go_enter Tryz.func122,Tryz.ntmps122
  go_wp2_with fail
  refine (rgvalid_any g _).mono ?_
  rintro e w1 ⟨rfl,hb1⟩
  rw [hv]
  clear hv
  go_wp2
  go_ret
  exact ⟨by rw [HZ.out]; rfl,((Below.refl _ _).alloc (Nat.le_refl _) _).trans (hb1.mono (by simp))⟩
 ·have hg:=(validG_iff g).1 hv
  have h4:=hg.bz
  have h5:=hg.sz
  have h6:=hg.r0; have h7:=hg.r1
  have HZ:=Lib.hid (szN_valid hg)
  have HB : ∀ W,Calls Tryz.prog 164 #[.agg #[.int .i64 g.random,.int .i64 g.bands,.int .i64 g.tracks,.int .i64 g.sectors,.int .i64 g.overlap]] W fun e w'=>e = .returned (.int .i64 (g.tracks * g.sectors)) ∧ Below W.heap.size W w':=fun W=>by
   have:=rbz_any g W; rw [bzN_valid hg] at this; exact this
  have HB':=Lib.hid HB
  clear HB
  go_enter Tryz.func122,Tryz.ntmps122
  go_wp2_with fail
  refine (rgvalid_any g _).mono ?_
  rintro e w1 ⟨rfl,hb1⟩
  rw [hv]
  clear hv hg
  have PG:=(Cells5.new w 97 _ _ _ _ _).below hb1 (by simp)
  have hbl1 : Below w.heap.size w w1:=((Below.refl _ _).alloc (Nat.le_refl _) _).trans (hb1.mono (by simp))
  have hz1 : w.heap.size < w1.heap.size:=by have:=hb1.size; simp at this; omega
  go_wp2_with fail
  have s0:=Held.cell PG.c0 hz1; have s1:=Held.cell PG.c1 hz1; have s2:=Held.cell PG.c2 hz1; have s3:=Held.cell PG.c3 hz1; have s4:=Held.cell PG.c4 hz1
  have p0:=PG.c0; have p1:=PG.c1; have p2:=PG.c2; have p3:=PG.c3; have p4:=PG.c4
  generalize g.tracks * g.sectors = Z at *
  have hw1 : IntKind.i64.wrap (g.bands * Z) = g.bands * Z:=by rw [IntKind.wrap_i64]; omega
  have hw2 : IntKind.i64.wrap (g.random + g.bands * Z) = g.random + g.bands * Z:=by rw [IntKind.wrap_i64]; omega
  have hne : Nonempty (Held (Below w1.heap.size w1)):=⟨⟨_,(Held.drew_below (Nat.le_refl _))⟩⟩
  refine wp_region_heldq (S:=(Below w1.heap.size w1)) (by kernel_rfl) (by kernel_rfl) (Held.drew_below (Nat.le_refl _)) ?_
  repeat (go_big_quiet_step ((go_at_call 164; exact Calls.held_below (Nat.le_refl _) (HB'.out _))))
  refine wpQuiet_nil ?_
  intro _ hw'
  obtain ⟨sq,hw''⟩:=hw'
  subst hw''
  clear hne
  go_wp2
  go_ret
  exact ⟨by rw [HZ.out]; rfl,hbl1.trans (sq.h.mono hbl1.size)⟩
end Go.Proofs.YtaggiceejcegdaaGreat
namespace Go.Proofs.YtaggiceejcegdaaGreat
set_option linter.unusedVariables false
open Go.RowKit
theorem ret_loc {a b c d a' b' c' d' : Int} (h1 : a = a') (h2 : b = b') (h3 : c = c') (h4 : d = d') : Ending.returned (.tuple #[.int .i64 a,.int .i64 b,.int .i64 c,.int .i64 d]) = .returned (.tuple #[.int .i64 a',.int .i64 b',.int .i64 c',.int .i64 d']):=by rw [h1,h2,h3,h4]
set_option maxHeartbeats 1000000 in
theorem gloc_any (g : Geo) (a : Int) (ha : I64 a) (w : World) : Calls Tryz.prog 176 #[.agg #[.int .i64 g.random,.int .i64 g.bands,.int .i64 g.tracks,.int .i64 g.sectors,.int .i64 g.overlap],.int .i64 a] w fun e w'=>e = .returned (.tuple #[.int .i64 (locN g a).band,.int .i64 (locN g a).track,.int .i64 (locN g a).pos,.int .i64 (locN g a).e]) ∧ Below w.heap.size w w':=by
 cases hv : validG g
 ·have HL:=Lib.hid (loc_invalid a hv)
  go_enter Tryz.func176,Tryz.ntmps176
  go_wp2_with fail
  refine (gvalid_any g _).mono ?_
  rintro e w1 ⟨rfl,hb1⟩
  rw [hv]
  clear hv
  go_wp2
  (try simp only [Exit.inBlock,Exit.then])
  refine bodyPost_ret (results_tmp4 rfl _ _ _) rfl ?_
  exact ⟨by rw [HL.out]; rfl,((Below.refl _ _).alloc (Nat.le_refl _) _).trans (hb1.mono (by simp))⟩
 ·have hg:=(validG_iff g).1 hv
  have hz:=szN_bound g
  have hzv:=Lib.hid (szN_valid hg)
  have h0:=hg.r0; have h1:=hg.r1; have h2:=hg.t0; have h3:=hg.s0
  cases hin : inR a g.random (szN g - 1)
  ·have HL:=Lib.hid (loc_out hv hin)
   have HW : Hid (∀ W,Calls Tryz.prog 162 #[.int .i64 a,.int .i64 g.random,.int .i64 (szN g - 1)] W fun e w'=>e = .returned (.bool false) ∧ w' = W):=by
    unfold Hid; intro W; have:=within_any a g.random (szN g - 1) W; rw [hin] at this; exact this
   have HS:=Lib.hid (fun W=>gsz_any g W)
   clear hin
   go_enter Tryz.func176,Tryz.ntmps176
   go_wp2_with fail
   refine (gvalid_any g _).mono ?_
   rintro e w1 ⟨rfl,hb1⟩
   rw [hv]
   clear hv hg
   have PG:=(Cells5.new w 97 _ _ _ _ _).below hb1 (by simp)
   have hbl1 : Below w.heap.size w w1:=((Below.refl _ _).alloc (Nat.le_refl _) _).trans (hb1.mono (by simp))
   have hz1 : w.heap.size < w1.heap.size:=by have:=hb1.size; simp at this; omega
   clear hb1
   have s0:=Held.cell PG.c0 hz1; have s1:=Held.cell PG.c1 hz1; have s2:=Held.cell PG.c2 hz1; have s3:=Held.cell PG.c3 hz1; have s4:=Held.cell PG.c4 hz1
   go_wp2
   generalize szN g = Z at *
   have hw1 : IntKind.i64.wrap (Z - 1) = Z - 1:=by rw [IntKind.wrap_i64]; omega
   have hne : Nonempty (Held (Below w1.heap.size w1)):=⟨⟨_,(Held.drew_below (Nat.le_refl _))⟩⟩
   refine wp_region_heldq (S:=(Below w1.heap.size w1)) (by kernel_rfl) (by kernel_rfl) (Held.drew_below (Nat.le_refl _)) ?_
   repeat (go_big_quiet_step ((first | (go_at_call 119; exact Calls.held_below (Nat.le_refl _) (HS.out _)) | (go_at_call 162; exact Calls.held_same (HW.out _)))))
   refine wpQuiet_nil ?_
   intro _ hw'
   obtain ⟨sq,hw''⟩:=hw'
   subst hw''
   clear hne
   clear hw1
   go_wp2
   (try simp only [Exit.inBlock,Exit.then])
   refine bodyPost_ret (results_tmp4 rfl _ _ _) rfl ?_
   exact ⟨by rw [HL.out]; rfl,hbl1.trans (sq.h.mono hbl1.size)⟩
  ·have HL:=Lib.hid (loc_in hv hin)
   have HW : Hid (∀ W,Calls Tryz.prog 162 #[.int .i64 a,.int .i64 g.random,.int .i64 (szN g - 1)] W fun e w'=>e = .returned (.bool true) ∧ w' = W):=by
    unfold Hid; intro W; have:=within_any a g.random (szN g - 1) W; rw [hin] at this; exact this
   have HS:=Lib.hid (fun W=>gsz_any g W)
   obtain ⟨a0,a1⟩:=(inR_iff _ _ _).1 hin
   have d0 : 0 ≤ (a - g.random) / g.sectors:=Int.ediv_nonneg (by omega) (by omega)
   clear hin
   go_enter Tryz.func176,Tryz.ntmps176
   go_wp2_with fail
   refine (gvalid_any g _).mono ?_
   rintro e w1 ⟨rfl,hb1⟩
   rw [hv]
   clear hv hg
   have PG:=(Cells5.new w 97 _ _ _ _ _).below hb1 (by simp)
   have hbl1 : Below w.heap.size w w1:=((Below.refl _ _).alloc (Nat.le_refl _) _).trans (hb1.mono (by simp))
   have hz1 : w.heap.size < w1.heap.size:=by have:=hb1.size; simp at this; omega
   clear hb1
   have s0:=Held.cell PG.c0 hz1; have s1:=Held.cell PG.c1 hz1; have s2:=Held.cell PG.c2 hz1; have s3:=Held.cell PG.c3 hz1; have s4:=Held.cell PG.c4 hz1
   go_wp2
   generalize szN g = Z at *
   have hw1 : IntKind.i64.wrap (Z - 1) = Z - 1:=by rw [IntKind.wrap_i64]; omega
   have hne : Nonempty (Held (Below w1.heap.size w1)):=⟨⟨_,(Held.drew_below (Nat.le_refl _))⟩⟩
   refine wp_region_heldq (S:=(Below w1.heap.size w1)) (by kernel_rfl) (by kernel_rfl) (Held.drew_below (Nat.le_refl _)) ?_
   repeat (go_big_quiet_step ((first | (go_at_call 119; exact Calls.held_below (Nat.le_refl _) (HS.out _)) | (go_at_call 162; exact Calls.held_same (HW.out _)))))
   refine wpQuiet_nil ?_
   intro _ hw'
   obtain ⟨sq,hw''⟩:=hw'
   subst hw''
   clear hne
   clear hw1
   have r0:=s0 sq; have r2:=s2 sq; have r3:=s3 sq
   clear s0 s1 s2 s3 s4
   go_wp2
   have n0 : 0 ≤ a - g.random:=by omega
   have n1 : a - g.random ≤ 81920:=by omega
   generalize a - g.random = n at *
   go_quiet (fail)
   go_wp2
   go_quiet (fail)
   go_wp2
   (try simp only [Exit.inBlock,Exit.then])
   refine bodyPost_ret (results_tmp4 rfl _ _ _) rfl ?_
   obtain ⟨e1,e2,e3,e4⟩:=quo_pos n0 (by omega) h3
   obtain ⟨f1,_,_,f4⟩:=quo_pos e2 e3 h2
   exact ⟨ret_loc (by rw [HL.out]; first | done | simp only [f1] | simp only [e1,f1]) (by rw [HL.out]; first | done | simp only [f4] | simp only [e1,f4]) (by rw [HL.out]) (by rw [HL.out]),below_drewN' (below_drewN' (hbl1.trans (sq.h.mono hbl1.size)) _) _⟩
end Go.Proofs.YtaggiceejcegdaaGreat
namespace Go.Proofs.YtaggiceejcegdaaGreat
set_option linter.unusedVariables false
open Go.RowKit
theorem adr_in {g : Geo} {b t p : Int} (h : validG g = true) (h1 : inR b 0 (g.bands - 1) = true) (h2 : inR t 0 (g.tracks - 1) = true) (h3 : inR p 0 (g.sectors - 1) = true) : adrN g b t p = (g.random + (b * g.tracks + t) * g.sectors + p,0):=by unfold adrN; rw [h,h1,h2,h3]; rfl
end Go.Proofs.YtaggiceejcegdaaGreat
namespace Go.Proofs.YtaggiceejcegdaaGreat
set_option linter.unusedVariables false
open Go.RowKit
def IntsPost (w : World) (L : List Int) (e : Ending) (w' : World) : Prop:=
 ∃ A c,e = .returned (.slice A L.length c) ∧ w'.ownsRow w.heap.size 3 1 (.slice A L.length c) L.length (L.map (Value.int .i64)) ∧ Below w.heap.size w w'
theorem info_int : (Tryz.prog.info? 3).map (fun i=>(i.zero,i.size,i.bytes)) = some (some (.int .i64 0),1,8):=by kernel_rfl
def shTo (g : Geo) (a : Int) (j : Nat) : List Int:=(List.range j).map fun (i : Nat)=>a + ((i : Int) + 1) * g.sectors
theorem shTo_succ (g : Geo) (a : Int) (j : Nat) : shTo g a (j + 1) = shTo g a j ++ [a + ((j : Int) + 1) * g.sectors]:=by unfold shTo; rw [List.range_succ]; simp
theorem shTo_len (g : Geo) (a : Int) (j : Nat) : (shTo g a j).length = j:=by unfold shTo; simp
theorem shadow_in {g : Geo} {a : Int} (h : (locN g a).e = 0) : shadowL g a = shTo g a (shCnt g (locN g a).track):=by unfold shadowL shTo; rw [if_pos h]
theorem shadow_out {g : Geo} {a : Int} (h : (locN g a).e ≠ 0) : shadowL g a = []:=by unfold shadowL; rw [if_neg h]
theorem loc_ok {g : Geo} {a : Int} (h : (locN g a).e = 0) : Vg g ∧ g.random ≤ a ∧ a < g.random + g.bands * (g.tracks * g.sectors) ∧ locN g a = ⟨(a - g.random) / g.sectors / g.tracks,(a - g.random) / g.sectors % g.tracks,(a - g.random) % g.sectors,0⟩:=by
 cases hv : validG g
 ·rw [loc_invalid a hv] at h; simp at h
 ·cases hi : inR a g.random (szN g - 1)
  ·rw [loc_out hv hi] at h; simp at h
  ·have hg:=(validG_iff g).1 hv
   have:=(inR_iff _ _ _).1 hi
   have hz:=szN_valid hg
   exact ⟨hg,this.1,by omega,loc_in hv hi⟩
theorem own_snoc {w : World} {base : Nat} {v : Value} {g : Geo} {a : Int} {j : Nat} {n : Nat} {xs : List Value} (h : w.ownsRow base 3 1 v n xs) (hn : n = j + 1) (hx : xs = (shTo g a j).map (Value.int .i64) ++ [.int .i64 (a + ((j : Int) + 1) * g.sectors)]) :
  w.ownsRow base 3 1 v (j + 1) ((shTo g a (j + 1)).map (Value.int .i64)):=by
 subst hn; subst hx
 rw [shTo_succ,List.map_append]; exact h
set_option maxRecDepth 100000 in
set_option maxHeartbeats 1000000 in
theorem gshadow_any (g : Geo) (a : Int) (ha : I64 a) (w : World) : Calls Tryz.prog 167 #[.agg #[.int .i64 g.random,.int .i64 g.bands,.int .i64 g.tracks,.int .i64 g.sectors,.int .i64 g.overlap],.int .i64 a] w (IntsPost w (shadowL g a)):=by
 have HL:=Lib.hid (fun W=>gloc_any g a ha W)
 by_cases he : (locN g a).e = 0
 ·obtain ⟨hg,a0,a1,hl⟩:=loc_ok he
  obtain ⟨_,_,t0,t1,_,_,_⟩:=loc_spec hg a0 a1
  have HR:=Lib.hid (shadow_in he)
  rw [hl] at HL HR
  simp only at HL HR
  have h0:=hg.o0; have h1:=hg.o1; have h2:=hg.t1; have h3:=hg.s0; have h4:=hg.s1; have h5:=hg.r0; have h6:=hg.r1
  have h7:=hg.sz
  have a2 : 0 ≤ a:=by omega
  have a3 : a ≤ 100000:=by omega
  generalize (a - g.random) / g.sectors % g.tracks = T at *
  generalize (a - g.random) / g.sectors / g.tracks = T1 at *
  generalize (a - g.random) % g.sectors = T2 at *
  have hc1 : (shCnt g T : Int) = min g.overlap (g.tracks - 1 - T):=by unfold shCnt; omega
  generalize shCnt g T = N at *
  have hc2 : (N : Int) ≤ g.overlap:=by omega
  have hc3 : T + N < g.tracks:=by omega
  have hc4 : g.overlap ≤ N ∨ g.tracks ≤ T + N + 1:=by omega
  clear hc1 hl he a0 a1 h7 hg
  obtain ⟨i0,hi,hz0,hz1,hz2⟩:=info_parts info_int
  go_enter Tryz.func167,Tryz.ntmps167
  go_wp2_with fail
  refine (HL.out _).mono ?_
  rintro e w1 ⟨rfl,hb1⟩
  have PG:=(Cells5.new w 97 _ _ _ _ _).below hb1 (by simp)
  have hbl1 : Below w.heap.size w w1:=((Below.refl _ _).alloc (Nat.le_refl _) _).trans (hb1.mono (by simp))
  have hzz1 : w.heap.size < w1.heap.size:=by have:=hb1.size; simp at this; omega
  clear hb1 HL
  go_wp2
  go_loopw [9,10] (fun v k wr=>∃ j : Nat,j ≤ N ∧ k = .int .i64 ((j : Int) + 1) ∧ wr.ownsRow w1.heap.size 3 1 v j ((shTo g a j).map (Value.int .i64)) ∧ Below w1.heap.size w1 wr) (fun _ k _=>5 - (intOf k).toNat)
  case atStart=>exact ⟨0,Nat.zero_le _,rfl,World.ownsRow_nil _ _ _ _,Below.refl _ _⟩
  case round=>
   obtain ⟨j,hj,rfl,hown,hbr⟩:=hrel
   have PGr:=PG.below hbr hzz1
   have p0:=PGr.c0; have p2:=PGr.c2; have p3:=PGr.c3; have p4:=PGr.c4
   have hzr:=hbr.size
   by_cases hlt : j < N
   ·have hm:=mul_lim (a:=(j : Int) + 1) (b:=g.sectors) (A:=3) (B:=64) (by omega) (by omega) (by omega) h4
    have q1 : (j : Int) + 1 ≤ g.overlap:=by omega
    have q2 : T + ((j : Int) + 1) < g.tracks:=by omega
    have hX : Hid (∀ (v : Value) (W : World) n xs,W.ownsRow w1.heap.size 3 1 v n xs → n = j + 1 → xs = (shTo g a j).map (Value.int .i64) ++ [.int .i64 (a + ((j : Int) + 1) * g.sectors)] → W.ownsRow w1.heap.size 3 1 v (j + 1) ((shTo g a (j + 1)).map (Value.int .i64))):=by
     unfold Hid; intro v W n xs h e1 e2; exact own_snoc h e1 e2
    have hw1 : wrap64 (((j : Int) + 1) * g.sectors) = ((j : Int) + 1) * g.sectors:=w64_id (by omega) (by omega)
    have hw2 : wrap64 (a + ((j : Int) + 1) * g.sectors) = a + ((j : Int) + 1) * g.sectors:=w64_id (by omega) (by omega)
    go_wp2_with (at_builtin; refine wpList_append_own _ rfl _ _ 231 rfl w1.heap.size 3 i0 _ 1 8 Tryz.underlying231 hi hz0 hz1 hz2 rfl (by decide) _ _ _ rfl (hown.alloc _) ⟨wr.heap.size,0,none⟩ 1 1 [.int .i64 (a + ((j : Int) + 1) * g.sectors)] rfl rfl ?c1 ?c2 ?c3 ?c4 ?c5 ?_)
    case c1=>
     intro i u hu
     rw [add_off]
     cases i with
     | zero=>simp at hu; subst hu; exact cell_new _ _ _ _ _ _ rfl rfl
     | succ i=>simp at hu
    case c2=>intro u hu; simp at hu; subst hu; rfl
    case c3=>unfold maxLen; omega
    case c4=>omega
    case c5=>simp; omega
    intro v' w' hown' hgrow _
    have hn:=hX.out _ _ _ _ hown' rfl rfl
    have hb' : Below w1.heap.size w1 w':=(hbr.alloc hzr _).grown hgrow (by simp; omega) (fun k hk=>(hown.lt k hk).1)
    clear hown hown' hgrow hX
    go_wp2
    go_roundw
    case rel=>exact ⟨j + 1,by omega,by go_num,hn,hb'⟩
    case measure=>simp [intOf]; omega
   ·have hjN : j = N:=by omega
    subst hjN
    obtain ⟨A,c,rfl⟩:=own_form hown
    have HE : Hid (wr.ownsRow w.heap.size 3 1 (.slice A j c) (shadowL g a).length ((shadowL g a).map (Value.int .i64))):=by
     unfold Hid; rw [HR.out,shTo_len]; exact own_mono hown hbl1.size
    have HN : Hid ((shadowL g a).length = j):=by unfold Hid; rw [HR.out,shTo_len]
    clear hown hj hlt a2 a3 ha
    rcases hc4 with hc4 | hc4
    ·have q1 : g.overlap < (j : Int) + 1:=by omega
     go_wp2
     go_ret
     exact ⟨A,c,by rw [HN.out]; rfl,by have:=HE.out; rw [HN.out] at this ⊢; exact this,hbl1.trans (hbr.mono hbl1.size)⟩
    ·have q2 : g.tracks ≤ T + ((j : Int) + 1):=by omega
     by_cases q3 : g.overlap < (j : Int) + 1
     ·go_wp2
      go_ret
      exact ⟨A,c,by rw [HN.out]; rfl,by have:=HE.out; rw [HN.out] at this ⊢; exact this,hbl1.trans (hbr.mono hbl1.size)⟩
     ·go_wp2
      go_ret
      exact ⟨A,c,by rw [HN.out]; rfl,by have:=HE.out; rw [HN.out] at this ⊢; exact this,hbl1.trans (hbr.mono hbl1.size)⟩
 ·have HR:=Lib.hid (shadow_out he)
  generalize locN g a = L at *
  have he2 : (L.e != 0) = true:=by simpa using he
  clear he
  go_enter Tryz.func167,Tryz.ntmps167
  go_wp2_with fail
  refine (HL.out _).mono ?_
  rintro e w1 ⟨rfl,hb1⟩
  go_wp2
  go_ret
  exact ⟨none,0,by rw [HR.out]; rfl,by rw [HR.out]; exact World.ownsRow_nil _ _ _ _,((Below.refl _ _).alloc (Nat.le_refl _) _).trans (hb1.mono (by simp))⟩
end Go.Proofs.YtaggiceejcegdaaGreat
