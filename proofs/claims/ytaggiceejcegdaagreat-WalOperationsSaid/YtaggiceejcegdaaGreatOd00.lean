/-
  WHAT IS SHOWN: more: plain facts on geometries: places, addresses and shadows of sectors. what Locate and Address of geometry and of tegularef10 return: the same; they change nothing that was there. what Address of geometry and of tegularef10 return: the same; they change nothing that was there. what Shadow of tegularef10 returns: a new list of the same numbers as that of geometry; it changes nothing that was there. No condition. plain facts on media: what writes and erasures make of the sectors; how a medium lies in memory. what slices.Clone returns of bytes; what the reading methods of media and of tegularef11 return; they change nothing that was there. what Erase of media and of tegularef11 returns and makes of the medium. what Write of tegularef11 returns and makes of the medium; what its Read returns. what Read of tegularef11 returns; what New and Clone of media and of tegularef11 return. what do, Do, play and same of tegulalaw11 and tegularef11 return and make of media. what play of tegulalaw11 returns and makes of two media: the same. Conditions: as each theorem names them.
-/
import Derived.Test.YtaggiceejcegdaaGreatNc35
import Derived.BigQuiet
import Derived.ChangeKeysEq
import Derived.ChangeOld
import Derived.Deep.AppendLies
import Derived.Deep.DeepCutAuto
import Derived.Deep.Draws
import Derived.Deep.Fields
import Derived.Deep.QuietTactic
import Derived.Deep.RegionHeld3
import Derived.Deep.RegionLaw
import Derived.Deep.Slices
import Derived.Handy
import Derived.Laws.BytesArg
import Derived.Laws.Cover3
import Derived.Laws.MakeOwn
import Derived.Laws.OwnMore
import Derived.Laws.Rows
import Derived.Lib.ConvBytes
import Derived.Lib.Hide
import Derived.Lib.SmallJoins
import Derived.Lib.VarintBits
import Derived.Lib.Zigzag
import Derived.LoopIn
import Derived.LoopNIn
import Derived.Maps.AppendAt
import Derived.OpenShut
import Derived.OwnWalkIn
import Derived.ProofKit
import Derived.RangeFuncBox
import Derived.RangeFuncLeaves
import Derived.Shelf.Abstract
import Derived.Sort.QuietIn
import Derived.TacticsInMore
import Derived.WalkKit
import Derived.WalkLawsBesides
import Derived.WalkMore
import Derived.WalkSpells
namespace Go.Proofs.YtaggiceejcegdaaGreat
set_option linter.unusedVariables false
open Go.RowKit
theorem inR_no {n lo hi : Int} (h : inR n lo hi = false) : n < lo ∨ hi < n:=by
 rcases Int.lt_or_le n lo with h1 | h1
 ·exact .inl h1
 ·rcases Int.lt_or_le hi n with h2 | h2
  ·exact .inr h2
  ·rw [(inR_iff n lo hi).2 ⟨h1,h2⟩] at h; cases h
theorem loc_bands {g : Geo} {a : Int} (h : Vg g) (h0 : g.random ≤ a) : (a - g.random) / (g.tracks * g.sectors) = (a - g.random) / g.sectors / g.tracks:=by
 rw [Int.mul_comm,Int.ediv_ediv_of_nonneg (by have:=h.s0; omega)]
end Go.Proofs.YtaggiceejcegdaaGreat
namespace Go.Proofs.YtaggiceejcegdaaGreat
set_option linter.unusedVariables false
open Go.RowKit
set_option maxHeartbeats 1000000 in
theorem rloc_any (g : Geo) (a : Int) (ha : I64 a) (w : World) : Calls Tryz.prog 179 #[.agg #[.int .i64 g.random,.int .i64 g.bands,.int .i64 g.tracks,.int .i64 g.sectors,.int .i64 g.overlap],.int .i64 a] w fun e w'=>e = .returned (.tuple #[.int .i64 (locN g a).band,.int .i64 (locN g a).track,.int .i64 (locN g a).pos,.int .i64 (locN g a).e]) ∧ Below w.heap.size w w':=by
 cases hv : validG g
 ·have HL:=Lib.hid (loc_invalid a hv)
  go_enter Tryz.func179,Tryz.ntmps179
  go_wp2_with fail
  refine (rgvalid_any g _).mono ?_
  rintro e w1 ⟨rfl,hb1⟩
  rw [hv]
  clear hv
  go_wp2
  (try simp only [Exit.inBlock,Exit.then])
  refine bodyPost_ret (results_tmp4 rfl _ _ _) rfl ?_
  exact ⟨by rw [HL.out]; rfl,((Below.refl _ _).alloc (Nat.le_refl _) _).trans (hb1.mono (by simp))⟩
 ·have hg:=(validG_iff g).1 hv
  have hz:=szN_bound g
  have hzv:=Lib.hid (szN_valid hg)
  have h0:=hg.r0; have h1:=hg.r1; have h2:=hg.t0; have h3:=hg.s0; have h4:=hg.bz
  by_cases g1 : a < g.random
  ·have HL:=Lib.hid (loc_out (a:=a) hv (by
    cases hi : inR a g.random (szN g - 1)
    ·rfl
    ·have:=(inR_iff _ _ _).1 hi; omega))
   go_enter Tryz.func179,Tryz.ntmps179
   go_wp2_with fail
   refine (rgvalid_any g _).mono ?_
   rintro e w1 ⟨rfl,hb1⟩
   rw [hv]
   clear hv hg
   have PG:=(Cells5.new w 97 _ _ _ _ _).below hb1 (by simp)
   have hbl1 : Below w.heap.size w w1:=((Below.refl _ _).alloc (Nat.le_refl _) _).trans (hb1.mono (by simp))
   have hz1 : w.heap.size < w1.heap.size:=by have:=hb1.size; simp at this; omega
   clear hb1
   have p0:=PG.c0; have p1:=PG.c1; have p2:=PG.c2; have p3:=PG.c3; have p4:=PG.c4
   go_wp2
   (try simp only [Exit.inBlock,Exit.then])
   refine bodyPost_ret (results_tmp4 rfl _ _ _) rfl ?_
   exact ⟨by rw [HL.out]; rfl,hbl1⟩
  ·by_cases g2 : szN g ≤ a
   ·have HL:=Lib.hid (loc_out (a:=a) hv (by
     cases hi : inR a g.random (szN g - 1)
     ·rfl
     ·have:=(inR_iff _ _ _).1 hi; omega))
    have HS:=Lib.hid (fun W=>rsz_any g W)
    generalize szN g = Z at *
    go_enter Tryz.func179,Tryz.ntmps179
    go_wp2_with fail
    refine (rgvalid_any g _).mono ?_
    rintro e w1 ⟨rfl,hb1⟩
    rw [hv]
    clear hv hg
    have PG:=(Cells5.new w 97 _ _ _ _ _).below hb1 (by simp)
    have hbl1 : Below w.heap.size w w1:=((Below.refl _ _).alloc (Nat.le_refl _) _).trans (hb1.mono (by simp))
    have hz1 : w.heap.size < w1.heap.size:=by have:=hb1.size; simp at this; omega
    clear hb1
    have p0:=PG.c0; have p1:=PG.c1; have p2:=PG.c2; have p3:=PG.c3; have p4:=PG.c4
    go_wp2_with fail
    refine (HS.out _).mono ?_
    rintro e w2 ⟨rfl,hb2⟩
    go_wp2
    (try simp only [Exit.inBlock,Exit.then])
    refine bodyPost_ret (results_tmp4 rfl _ _ _) rfl ?_
    exact ⟨by rw [HL.out]; rfl,hbl1.trans (hb2.mono hbl1.size)⟩
   ·have HL:=Lib.hid (loc_in hv ((inR_iff _ _ _).2 ⟨show g.random ≤ a by omega,show a ≤ szN g - 1 by omega⟩))
    have HS:=Lib.hid (fun W=>rsz_any g W)
    have HB : Hid (∀ W,Calls Tryz.prog 164 #[.agg #[.int .i64 g.random,.int .i64 g.bands,.int .i64 g.tracks,.int .i64 g.sectors,.int .i64 g.overlap]] W fun e w'=>e = .returned (.int .i64 (g.tracks * g.sectors)) ∧ Below W.heap.size W w'):=by
     unfold Hid; intro W; have:=rbz_any g W; rw [bzN_valid hg] at this; exact this
    have HD:=Lib.hid (loc_bands hg (show g.random ≤ a by omega))
    generalize szN g = Z at *
    have g3 : decide (Z ≤ a) = false:=decide_eq_false g2
    go_enter Tryz.func179,Tryz.ntmps179
    go_wp2_with fail
    refine (rgvalid_any g _).mono ?_
    rintro e w1 ⟨rfl,hb1⟩
    rw [hv]
    clear hv hg
    have PG:=(Cells5.new w 97 _ _ _ _ _).below hb1 (by simp)
    have hbl1 : Below w.heap.size w w1:=((Below.refl _ _).alloc (Nat.le_refl _) _).trans (hb1.mono (by simp))
    have hz1 : w.heap.size < w1.heap.size:=by have:=hb1.size; simp at this; omega
    clear hb1
    have p0:=PG.c0; have p1:=PG.c1; have p2:=PG.c2; have p3:=PG.c3; have p4:=PG.c4
    go_wp2_with fail
    refine (HS.out _).mono ?_
    rintro e w2 ⟨rfl,hb2⟩
    have hbl2:=hbl1.trans (hb2.mono hbl1.size)
    have PG2:=PG.below hb2 hz1
    have hz2 : w.heap.size < w2.heap.size:=Nat.lt_of_lt_of_le hz1 hb2.size
    clear p0 p1 p2 p3 p4
    have p0:=PG2.c0
    go_wp2
    clear p0
    have s0:=Held.cell PG2.c0 hz2; have s1:=Held.cell PG2.c1 hz2; have s2:=Held.cell PG2.c2 hz2; have s3:=Held.cell PG2.c3 hz2; have s4:=Held.cell PG2.c4 hz2
    have n0 : 0 ≤ a - g.random:=by omega
    have n1 : a - g.random ≤ 81920:=by omega
    generalize a - g.random = n at *
    generalize g.tracks * g.sectors = Y at *
    obtain ⟨e1,e2,e3,e4⟩:=quo_pos n0 (by omega) h3
    obtain ⟨f1,_,_,f4⟩:=quo_pos e2 e3 h2
    obtain ⟨k1,_,_,_⟩:=quo_pos n0 (by omega) h4.1
    have E1:=Lib.hid e1; have E4:=Lib.hid e4; have F1:=Lib.hid f1; have F4:=Lib.hid f4; have K1:=Lib.hid k1
    clear e1 e4 f1 f4 k1
    have hne : Nonempty (Held (Below w2.heap.size w2)):=⟨⟨_,(Held.drew_below (Nat.le_refl _))⟩⟩
    refine wp_region_heldq (S:=(Below w2.heap.size w2)) (by kernel_rfl) (by kernel_rfl) (Held.drew_below (Nat.le_refl _)) ?_
    repeat (go_big_quiet_step ((go_at_call 164; exact Calls.held_below (Nat.le_refl _) (HB.out _))))
    refine wpQuiet_nil ?_
    intro _ hw'
    obtain ⟨sq,hw''⟩:=hw'
    subst hw''
    clear hne
    go_wp2
    (try simp only [Exit.inBlock,Exit.then])
    refine bodyPost_ret (results_tmp4 rfl _ _ _) rfl ?_
    exact ⟨ret_loc (by rw [HL.out]; first | exact HD.out | (rw [K1.out]; exact HD.out)) (by rw [HL.out]; first | done | simp only [E1.out,F4.out]) (by rw [HL.out]; first | done | simp only [E4.out]) (by rw [HL.out]),hbl2.trans (sq.h.mono hbl2.size)⟩
end Go.Proofs.YtaggiceejcegdaaGreat
namespace Go.Proofs.YtaggiceejcegdaaGreat
set_option linter.unusedVariables false
open Go.RowKit
theorem ret_two {a b a' b' : Int} (h1 : a = a') (h2 : b = b') : Ending.returned (.tuple #[.int .i64 a,.int .i64 b]) = .returned (.tuple #[.int .i64 a',.int .i64 b']):=by rw [h1,h2]
theorem adr_invalid {g : Geo} (b t p : Int) (h : validG g = false) : adrN g b t p = (0,1):=by unfold adrN; rw [h]; rfl
theorem adr_out {g : Geo} {b t p : Int} (h : validG g = true) (ho : (inR b 0 (g.bands - 1) && (inR t 0 (g.tracks - 1) && inR p 0 (g.sectors - 1))) = false) : adrN g b t p = (0,2):=by unfold adrN; rw [h,ho]; rfl
theorem adr_bound {g : Geo} {b t : Int} (hg : Vg g) (h1 : 0 ≤ b ∧ b ≤ g.bands - 1) (h2 : 0 ≤ t ∧ t ≤ g.tracks - 1) : 0 ≤ b * g.tracks ∧ b * g.tracks ≤ 1024 ∧ 0 ≤ (b * g.tracks + t) * g.sectors ∧ (b * g.tracks + t) * g.sectors ≤ 70000:=by
 have h0:=hg.t0; have h3:=hg.t1; have h4:=hg.b1; have h5:=hg.s0; have h6:=hg.s1
 have m1:=mul_lim (a:=b) (b:=g.tracks) (A:=64) (B:=16) h1.1 (by omega) (by omega) h3
 have m2:=mul_lim (a:=b * g.tracks + t) (b:=g.sectors) (A:=1040) (B:=64) (by omega) (by omega) (by omega) h6
 omega
theorem inR_false {n lo hi : Int} (h : n < lo ∨ hi < n) : inR n lo hi = false:=by
 cases e : inR n lo hi
 ·rfl
 ·have:=(inR_iff _ _ _).1 e; omega
set_option maxHeartbeats 1000000 in
theorem radr_any (g : Geo) (b t p : Int) (w : World) : Calls Tryz.prog 180 #[.agg #[.int .i64 g.random,.int .i64 g.bands,.int .i64 g.tracks,.int .i64 g.sectors,.int .i64 g.overlap],.int .i64 b,.int .i64 t,.int .i64 p] w fun e w'=>e = .returned (.tuple #[.int .i64 (adrN g b t p).1,.int .i64 (adrN g b t p).2]) ∧ Below w.heap.size w w':=by
 cases hv : validG g
 ·have HL:=Lib.hid (adr_invalid b t p hv)
  go_enter Tryz.func180,Tryz.ntmps180
  go_wp2_with fail
  refine (rgvalid_any g _).mono ?_
  rintro e w1 ⟨rfl,hb1⟩
  rw [hv]
  clear hv
  go_wp2
  go_ret2
  exact ⟨by rw [HL.out]; rfl,((Below.refl _ _).alloc (Nat.le_refl _) _).trans (hb1.mono (by simp))⟩
 ·have hg:=(validG_iff g).1 hv
  have h0:=hg.b0; have h1:=hg.t0; have h2:=hg.s0; have h4:=hg.b1; have h5:=hg.t1; have h6:=hg.s1; have h7:=hg.r0; have h8:=hg.r1
  by_cases c1 : b < 0
  ·have HL:=Lib.hid (adr_out (b:=b) (t:=t) (p:=p) hv (by rw [inR_false (by omega)]; rfl))
   go_enter Tryz.func180,Tryz.ntmps180
   go_wp2_with fail
   refine (rgvalid_any g _).mono ?_
   rintro e w1 ⟨rfl,hb1⟩
   rw [hv]
   clear hv hg
   have PG:=(Cells5.new w 97 _ _ _ _ _).below hb1 (by simp)
   have hbl1 : Below w.heap.size w w1:=((Below.refl _ _).alloc (Nat.le_refl _) _).trans (hb1.mono (by simp))
   have hz1 : w.heap.size < w1.heap.size:=by have:=hb1.size; simp at this; omega
   clear hb1
   have p0:=PG.c0; have p1:=PG.c1; have p2:=PG.c2; have p3:=PG.c3; have p4:=PG.c4
   go_wp2
   go_ret2
   exact ⟨by rw [HL.out]; rfl,hbl1⟩
  ·by_cases c2 : g.bands ≤ b
   ·have HL:=Lib.hid (adr_out (b:=b) (t:=t) (p:=p) hv (by rw [inR_false (by omega)]; rfl))
    go_enter Tryz.func180,Tryz.ntmps180
    go_wp2_with fail
    refine (rgvalid_any g _).mono ?_
    rintro e w1 ⟨rfl,hb1⟩
    rw [hv]
    clear hv hg
    have PG:=(Cells5.new w 97 _ _ _ _ _).below hb1 (by simp)
    have hbl1 : Below w.heap.size w w1:=((Below.refl _ _).alloc (Nat.le_refl _) _).trans (hb1.mono (by simp))
    have hz1 : w.heap.size < w1.heap.size:=by have:=hb1.size; simp at this; omega
    clear hb1
    have p0:=PG.c0; have p1:=PG.c1; have p2:=PG.c2; have p3:=PG.c3; have p4:=PG.c4
    go_wp2
    go_ret2
    exact ⟨by rw [HL.out]; rfl,hbl1⟩
   ·by_cases c3 : t < 0
    ·have HL:=Lib.hid (adr_out (b:=b) (t:=t) (p:=p) hv (by rw [inR_false (n:=t) (by omega)]; simp))
     go_enter Tryz.func180,Tryz.ntmps180
     go_wp2_with fail
     refine (rgvalid_any g _).mono ?_
     rintro e w1 ⟨rfl,hb1⟩
     rw [hv]
     clear hv hg
     have PG:=(Cells5.new w 97 _ _ _ _ _).below hb1 (by simp)
     have hbl1 : Below w.heap.size w w1:=((Below.refl _ _).alloc (Nat.le_refl _) _).trans (hb1.mono (by simp))
     have hz1 : w.heap.size < w1.heap.size:=by have:=hb1.size; simp at this; omega
     clear hb1
     have p0:=PG.c0; have p1:=PG.c1; have p2:=PG.c2; have p3:=PG.c3; have p4:=PG.c4
     go_wp2
     go_ret2
     exact ⟨by rw [HL.out]; rfl,hbl1⟩
    ·by_cases c4 : g.tracks ≤ t
     ·have HL:=Lib.hid (adr_out (b:=b) (t:=t) (p:=p) hv (by rw [inR_false (n:=t) (by omega)]; simp))
      go_enter Tryz.func180,Tryz.ntmps180
      go_wp2_with fail
      refine (rgvalid_any g _).mono ?_
      rintro e w1 ⟨rfl,hb1⟩
      rw [hv]
      clear hv hg
      have PG:=(Cells5.new w 97 _ _ _ _ _).below hb1 (by simp)
      have hbl1 : Below w.heap.size w w1:=((Below.refl _ _).alloc (Nat.le_refl _) _).trans (hb1.mono (by simp))
      have hz1 : w.heap.size < w1.heap.size:=by have:=hb1.size; simp at this; omega
      clear hb1
      have p0:=PG.c0; have p1:=PG.c1; have p2:=PG.c2; have p3:=PG.c3; have p4:=PG.c4
      go_wp2
      go_ret2
      exact ⟨by rw [HL.out]; rfl,hbl1⟩
     ·by_cases c5 : p < 0
      ·have HL:=Lib.hid (adr_out (b:=b) (t:=t) (p:=p) hv (by rw [inR_false (n:=p) (by omega)]; simp))
       go_enter Tryz.func180,Tryz.ntmps180
       go_wp2_with fail
       refine (rgvalid_any g _).mono ?_
       rintro e w1 ⟨rfl,hb1⟩
       rw [hv]
       clear hv hg
       have PG:=(Cells5.new w 97 _ _ _ _ _).below hb1 (by simp)
       have hbl1 : Below w.heap.size w w1:=((Below.refl _ _).alloc (Nat.le_refl _) _).trans (hb1.mono (by simp))
       have hz1 : w.heap.size < w1.heap.size:=by have:=hb1.size; simp at this; omega
       clear hb1
       have p0:=PG.c0; have p1:=PG.c1; have p2:=PG.c2; have p3:=PG.c3; have p4:=PG.c4
       go_wp2
       go_ret2
       exact ⟨by rw [HL.out]; rfl,hbl1⟩
      ·by_cases c6 : g.sectors ≤ p
       ·have HL:=Lib.hid (adr_out (b:=b) (t:=t) (p:=p) hv (by rw [inR_false (n:=p) (by omega)]; simp))
        go_enter Tryz.func180,Tryz.ntmps180
        go_wp2_with fail
        refine (rgvalid_any g _).mono ?_
        rintro e w1 ⟨rfl,hb1⟩
        rw [hv]
        clear hv hg
        have PG:=(Cells5.new w 97 _ _ _ _ _).below hb1 (by simp)
        have hbl1 : Below w.heap.size w w1:=((Below.refl _ _).alloc (Nat.le_refl _) _).trans (hb1.mono (by simp))
        have hz1 : w.heap.size < w1.heap.size:=by have:=hb1.size; simp at this; omega
        clear hb1
        have p0:=PG.c0; have p1:=PG.c1; have p2:=PG.c2; have p3:=PG.c3; have p4:=PG.c4
        go_wp2
        go_ret2
        exact ⟨by rw [HL.out]; rfl,hbl1⟩
       ·have HL:=Lib.hid (adr_in (b:=b) (t:=t) (p:=p) hv ((inR_iff _ _ _).2 (by omega)) ((inR_iff _ _ _).2 (by omega)) ((inR_iff _ _ _).2 (by omega)))
        obtain ⟨b0,b1,b2,b3⟩:=adr_bound (b:=b) (t:=t) hg (by omega) (by omega)
        go_enter Tryz.func180,Tryz.ntmps180
        go_wp2_with fail
        refine (rgvalid_any g _).mono ?_
        rintro e w1 ⟨rfl,hb1⟩
        rw [hv]
        clear hv hg
        have PG:=(Cells5.new w 97 _ _ _ _ _).below hb1 (by simp)
        have hbl1 : Below w.heap.size w w1:=((Below.refl _ _).alloc (Nat.le_refl _) _).trans (hb1.mono (by simp))
        have hz1 : w.heap.size < w1.heap.size:=by have:=hb1.size; simp at this; omega
        clear hb1
        have p0:=PG.c0; have p1:=PG.c1; have p2:=PG.c2; have p3:=PG.c3; have p4:=PG.c4
        go_wp2
        go_ret2
        exact ⟨ret_two (by rw [HL.out]) (by rw [HL.out]),hbl1⟩
end Go.Proofs.YtaggiceejcegdaaGreat
namespace Go.Proofs.YtaggiceejcegdaaGreat
set_option linter.unusedVariables false
open Go.RowKit
theorem sh_adr_out {g : Geo} {a : Int} (hg : Vg g) (h0 : g.random ≤ a) (h1 : a < g.random + g.bands * (g.tracks * g.sectors)) (k : Int) (hT : g.tracks ≤ (a - g.random) / g.sectors % g.tracks + k) :
  adrN g ((a - g.random) / g.sectors / g.tracks) ((a - g.random) / g.sectors % g.tracks + k) ((a - g.random) % g.sectors) = (0,2):=by
 rw [adr_out ((validG_iff g).2 hg)]
 rw [inR_false (n:=(a - g.random) / g.sectors % g.tracks + k) (.inr (by omega))]
 simp
set_option maxRecDepth 100000 in
set_option maxHeartbeats 1000000 in
theorem rshadow_any (g : Geo) (a : Int) (ha : I64 a) (w : World) : Calls Tryz.prog 177 #[.agg #[.int .i64 g.random,.int .i64 g.bands,.int .i64 g.tracks,.int .i64 g.sectors,.int .i64 g.overlap],.int .i64 a] w (IntsPost w (shadowL g a)):=by
 have HL:=Lib.hid (fun W=>rloc_any g a ha W)
 by_cases he : (locN g a).e = 0
 ·obtain ⟨hg,a0,a1,hl⟩:=loc_ok he
  obtain ⟨_,_,t0,t1,_,_,_⟩:=loc_spec hg a0 a1
  have HR:=Lib.hid (shadow_in he)
  have AI:=Lib.hid (fun k h1 h2=>sh_adr_in hg a0 a1 k h1 h2)
  have AO:=Lib.hid (fun k h1=>sh_adr_out hg a0 a1 k h1)
  rw [hl] at HL HR
  simp only at HL HR
  have h0:=hg.o0; have h1:=hg.o1; have h2:=hg.t1; have h3:=hg.s0; have h4:=hg.s1; have h5:=hg.r0; have h6:=hg.r1
  have h7:=hg.sz
  have a2 : 0 ≤ a:=by omega
  have a3 : a ≤ 100000:=by omega
  generalize (a - g.random) / g.sectors % g.tracks = T at *
  generalize (a - g.random) / g.sectors / g.tracks = T1 at *
  generalize (a - g.random) % g.sectors = T2 at *
  have hc1 : (shCnt g T : Int) = min g.overlap (g.tracks - 1 - T):=by unfold shCnt; omega
  generalize shCnt g T = N at *
  have hc2 : (N : Int) ≤ g.overlap:=by omega
  have hc3 : T + N < g.tracks:=by omega
  have hc4 : g.overlap ≤ N ∨ g.tracks ≤ T + N + 1:=by omega
  have hc5 : ∃ O : Nat,g.overlap = (O : Int):=⟨g.overlap.toNat,by omega⟩
  obtain ⟨O,hO⟩:=hc5
  have HO:=Lib.hid hO
  have hNO : N ≤ O:=by omega
  have hc6 : N < O → g.tracks ≤ T + N + 1:=by omega
  have HC6:=Lib.hid hc6
  clear hc1 hl he a0 a1 h7 hg hc4 hc6 hO
  obtain ⟨i0,hi,hz0,hz1,hz2⟩:=info_parts info_int
  go_enter Tryz.func177,Tryz.ntmps177
  go_wp2_with fail
  refine (HL.out _).mono ?_
  rintro e w1 ⟨rfl,hb1⟩
  have PG:=(Cells5.new w 97 _ _ _ _ _).below hb1 (by simp)
  have hbl1 : Below w.heap.size w w1:=((Below.refl _ _).alloc (Nat.le_refl _) _).trans (hb1.mono (by simp))
  have hzz1 : w.heap.size < w1.heap.size:=by have:=hb1.size; simp at this; omega
  clear hb1 HL
  go_wp2
  go_loopw [9,10] (fun v k wr=>∃ j m : Nat,j ≤ O ∧ m ≤ 3 ∧ Hid (m = min j N) ∧ k = .int .i64 ((j : Int) + 1) ∧ wr.ownsRow w1.heap.size 3 1 v m ((shTo g a m).map (Value.int .i64)) ∧ Below w1.heap.size w1 wr) (fun _ k _=>5 - (intOf k).toNat)
  case atStart=>exact ⟨0,0,Nat.zero_le _,Nat.zero_le _,by unfold Hid; omega,rfl,World.ownsRow_nil _ _ _ _,Below.refl _ _⟩
  case round=>
   obtain ⟨j,m,hj,hm3,HM,rfl,hown,hbr⟩:=hrel
   have PGr:=PG.below hbr hzz1
   have p0:=PGr.c0; have p1:=PGr.c1; have p2:=PGr.c2; have p3:=PGr.c3; have p4:=PGr.c4
   have hzr:=hbr.size
   have hO2:=HO.out
   by_cases hlt : j < O
   ·have hjb : (j : Int) + 1 ≤ 3:=by omega
    have q1 : (j : Int) + 1 ≤ g.overlap:=by omega
    clear hO2
    by_cases hN : j < N
    ·have hadr:=AI.out ((j : Int) + 1) (by omega) (by omega)
     have hcall:=Lib.hid (fun W=>radr_any g T1 (T + ((j : Int) + 1)) T2 W)
     rw [hadr] at hcall
     simp only at hcall
     have hm:=mul_lim (a:=(j : Int) + 1) (b:=g.sectors) (A:=3) (B:=64) (by omega) (by omega) (by omega) h4
     have hmj : m = j:=by have:=HM.out; omega
     subst hmj
     have hX : Hid (∀ (v : Value) (W : World) n xs,W.ownsRow w1.heap.size 3 1 v n xs → n = m + 1 → xs = (shTo g a m).map (Value.int .i64) ++ [.int .i64 (a + ((m : Int) + 1) * g.sectors)] → W.ownsRow w1.heap.size 3 1 v (m + 1) ((shTo g a (m + 1)).map (Value.int .i64))):=by
      unfold Hid; intro v W n xs h e1 e2; exact own_snoc h e1 e2
     clear hadr
     go_wp2_with fail
     refine (hcall.out _).mono ?_
     rintro e w2 ⟨rfl,hb2⟩
     have hown2:=own_kept hown (belKept0 (S:=fun _=>False) hb2) (fun _ _ h=>h.elim)
     have hbr2:=hbr.trans (hb2.mono hzr)
     have hzr2:=hbr2.size
     clear hown
     go_wp2_with (at_builtin; refine wpList_append_own _ rfl _ _ 231 rfl w1.heap.size 3 i0 _ 1 8 Tryz.underlying231 hi hz0 hz1 hz2 rfl (by decide) _ _ _ rfl (hown2.alloc _) ⟨w2.heap.size,0,none⟩ 1 1 [.int .i64 (a + ((m : Int) + 1) * g.sectors)] rfl rfl ?c1 ?c2 ?c3 ?c4 ?c5 ?_)
     case c1=>
      intro i u hu
      rw [add_off]
      cases i with
      | zero=>simp at hu; subst hu; exact cell_new _ _ _ _ _ _ rfl rfl
      | succ i=>simp at hu
     case c2=>intro u hu; simp at hu; subst hu; rfl
     case c3=>unfold maxLen; omega
     case c4=>omega
     case c5=>simp; omega
     intro v' w' hown' hgrow _
     have hn:=hX.out _ _ _ _ hown' rfl rfl
     have hb' : Below w1.heap.size w1 w':=(hbr2.alloc hzr2 _).grown hgrow (by simp; omega) (fun k hk=>(hown2.lt k hk).1)
     clear hown2 hown' hgrow hX
     go_wp2
     go_roundw
     case rel=>exact ⟨m + 1,m + 1,by omega,by omega,by unfold Hid; omega,by go_num,hn,hb'⟩
     case measure=>simp [intOf]; omega
    ·have hadr:=AO.out ((j : Int) + 1) (by have:=HC6.out (by omega); omega)
     have hcall:=Lib.hid (fun W=>radr_any g T1 (T + ((j : Int) + 1)) T2 W)
     rw [hadr] at hcall
     simp only at hcall
     have HM2 : Hid (m = min (j + 1) N):=by unfold Hid; have:=HM.out; omega
     clear hadr
     go_wp2_with fail
     refine (hcall.out _).mono ?_
     rintro e w2 ⟨rfl,hb2⟩
     have hown2:=own_kept hown (belKept0 (S:=fun _=>False) hb2) (fun _ _ h=>h.elim)
     have hbr2:=hbr.trans (hb2.mono hzr)
     clear hown
     go_wp2
     go_roundw
     case rel=>exact ⟨j + 1,m,by omega,hm3,HM2,by go_num,hown2,hbr2⟩
     case measure=>simp [intOf]; omega
   ·have hmN : m = N:=by have:=HM.out; omega
    subst hmN
    obtain ⟨A,c,rfl⟩:=own_form hown
    have HE : Hid (wr.ownsRow w.heap.size 3 1 (.slice A m c) (shadowL g a).length ((shadowL g a).map (Value.int .i64))):=by
     unfold Hid; rw [HR.out,shTo_len]; exact own_mono hown hbl1.size
    have HN : Hid ((shadowL g a).length = m):=by unfold Hid; rw [HR.out,shTo_len]
    have q1 : g.overlap < (j : Int) + 1:=by omega
    clear hown hO2
    go_wp2
    go_ret
    exact ⟨A,c,by rw [HN.out]; rfl,by have:=HE.out; rw [HN.out] at this ⊢; exact this,hbl1.trans (hbr.mono hbl1.size)⟩
 ·have HR:=Lib.hid (shadow_out he)
  generalize locN g a = L at *
  have he2 : (L.e == 0) = false:=by simpa using he
  clear he
  go_enter Tryz.func177,Tryz.ntmps177
  go_wp2_with fail
  refine (HL.out _).mono ?_
  rintro e w1 ⟨rfl,hb1⟩
  have hbl1 : Below w.heap.size w w1:=((Below.refl _ _).alloc (Nat.le_refl _) _).trans (hb1.mono (by simp))
  go_wp2
  go_loopw [9,10] (fun v k wr=>v = .slice none 0 0 ∧ k = .int .i64 1 ∧ wr = w1) (fun _ _ _=>0)
  case atStart=>exact ⟨rfl,rfl,rfl⟩
  case round=>
   obtain ⟨rfl,rfl,rfl⟩:=hrel
   go_wp2
   go_ret
   exact ⟨none,0,by rw [HR.out]; rfl,by rw [HR.out]; exact World.ownsRow_nil _ _ _ _,hbl1⟩
end Go.Proofs.YtaggiceejcegdaaGreat
namespace Go.Proofs.YtaggiceejcegdaaGreat
set_option linter.unusedVariables false
open Go.RowKit
theorem erase_range {g : Geo} {L : List Sec} (h : Fit g L) {band : Int} (hb : inR band 0 (g.bands - 1) = true) : 0 ≤ g.random + band * (g.tracks * g.sectors) ∧ g.random + band * (g.tracks * g.sectors) + g.tracks * g.sectors ≤ L.length:=by
 obtain ⟨b0,b1⟩:=(inR_iff _ _ _).1 hb
 have hz:=h.v.bz
 have m1:=Int.mul_nonneg b0 (show 0 ≤ g.tracks * g.sectors by omega)
 have m2 : (band + 1) * (g.tracks * g.sectors) ≤ g.bands * (g.tracks * g.sectors):=Int.mul_le_mul_of_nonneg_right (by omega) (by omega)
 rw [Int.add_mul,Int.one_mul] at m2
 have:=h.n; have:=h.v.r0
 omega
section
variable {w w' : World} {m bs : Nat} {g : Geo} {L : List Sec} {S : Nat → Prop}
theorem RMed.free (h : RMed w m bs g L) (j : Nat) : w.frozen? ⟨bs,j,none⟩ = false:=by
 obtain ⟨c,h1,h2⟩:=h
 exact h2.frozenAt j
theorem RMed.set (h : RMed w m bs g L) {i : Nat} (hi : i < L.length) (s : Sec) : RMed ((w.setCell ⟨bs,i * 2,none⟩ (.int .i64 s.st)).setCell ⟨bs,i * 2 + 1,none⟩ (.string (strOfNums s.by_))) m bs g (L.set i s):=by
 have hne:=h.lt.2.2
 obtain ⟨c,h1,h2⟩:=h
 have hk:=set2_kept w bs i (.int .i64 s.st) (.string (strOfNums s.by_))
 refine ⟨c,by rw [List.length_set]; exact hk.obj h1 hne,?_⟩
 rw [List.length_set,flat_set2 recV recV_len (.int .i64 s.st) (.string (strOfNums s.by_)) s rfl L i hi]
 exact (World.ownsRow.stored (World.ownsRow.stored h2 (i * 2) _).1 (i * 2 + 1) _).1
end
end Go.Proofs.YtaggiceejcegdaaGreat
namespace Go.Proofs.YtaggiceejcegdaaGreat
set_option linter.unusedVariables false
open Go.RowKit
section
variable {m bs : Nat} {g : Geo} {L : List Sec} {w : World}
set_option maxHeartbeats 400000 in
theorem rhas_any (a : Int) (hm : RMed w m bs g L) (hf : Fit g L) : Calls Tryz.prog 170 #[.pointer (some ⟨m,0,none⟩),.int .i64 a] w fun e w'=>e = .returned (.bool (inL L a)) ∧ w = w':=by
 obtain ⟨c,_,_,_,_,_,p5,_,_⟩:=hm.cells
 have hl:=hf.le
 unfold inL
 clear hm hf
 by_cases h0 : a < 0
 ·go_enter Tryz.func170,Tryz.ntmps170
  go_wp2
  go_ret
  exact ⟨by first | (simp; done) | (simp; omega),rfl⟩
 ·by_cases h1 : a < L.length
  ·go_enter Tryz.func170,Tryz.ntmps170
   go_wp2
   go_ret
   exact ⟨by first | (simp; done) | (simp [h1]; done) | (simp; omega),rfl⟩
  ·go_enter Tryz.func170,Tryz.ntmps170
   go_wp2
   go_ret
   exact ⟨by first | (simp; done) | (simp [h1]; done) | (simp; omega),rfl⟩
end
end Go.Proofs.YtaggiceejcegdaaGreat
namespace Go.Proofs.YtaggiceejcegdaaGreat
set_option linter.unusedVariables false
open Go.RowKit
theorem rsec_at {m bs : Nat} {g : Geo} {L : List Sec} {w : World} (hm : RMed w m bs g L) {i : Nat} (hi : i < L.length) : ∃ v,w.cell? ⟨bs,i * 2,none⟩ = some (.int .i64 L[i].st) ∧ w.cell? ⟨bs,i * 2 + 1,none⟩ = some v:=by
 obtain ⟨c2,_,_,_,_,_,_,_,hs2⟩:=hm.cells
 obtain ⟨q0,q1⟩:=hs2 i L[i] (List.getElem?_eq_getElem hi)
 exact ⟨_,q0,q1⟩
set_option maxRecDepth 100000 in
set_option maxHeartbeats 1000000 in
theorem rerase_any {m bs : Nat} {g : Geo} {L : List Sec} {w : World} (band : Int) (hm : RMed w m bs g L) (hf : Fit g L) :
  Calls Tryz.prog 168 #[.pointer (some ⟨m,0,none⟩),.int .i64 band] w (RWritePost w m bs g (eraseE g band) (eraseL g L band)):=by
 obtain ⟨c3,p0,p1,p2,p3,p4,p5,hc3,_⟩:=hm.cells
 obtain ⟨hlm,hlb,hmb⟩:=hm.lt
 have HM:=Lib.hid hm
 have hle:=hf.le
 cases hin : inR band 0 (g.bands - 1)
 ·have HE : Hid (eraseE g band = 2):=by unfold Hid eraseE; rw [hin]; rfl
  have HB : Hid (eraseL g L band = L):=by unfold Hid eraseL; rw [hin]; rfl
  rcases inR_no hin with h0 | h0
  ·clear hin hf hm
   go_enter Tryz.func168,Tryz.ntmps168
   go_wp2
   go_ret
   exact ⟨by rw [HE.out]; rfl,by rw [HB.out]; exact HM.out,Kept.refl _ _⟩
  ·have h2 : g.bands ≤ band:=by omega
   have h3 : 0 ≤ band:=by have:=hf.v.b0; omega
   clear hin hf hm
   go_enter Tryz.func168,Tryz.ntmps168
   go_wp2
   go_ret
   exact ⟨by rw [HE.out]; rfl,by rw [HB.out]; exact HM.out,Kept.refl _ _⟩
 ·have HE : Hid (eraseE g band = 0):=by unfold Hid eraseE; rw [hin]; rfl
  have HB : Hid (eraseL g L band = eraseTo L (g.random + band * (g.tracks * g.sectors)).toNat (g.tracks * g.sectors).toNat):=by unfold Hid eraseL; rw [hin]; rfl
  obtain ⟨b0,b1⟩:=(inR_iff _ _ _).1 hin
  obtain ⟨r0,r1⟩:=erase_range hf hin
  have hz:=hf.v.bz
  have hmn:=Int.mul_nonneg b0 (show 0 ≤ g.tracks * g.sectors by omega)
  have hR0:=hf.v.r0; have hR1:=hf.v.r1
  have HZ : Hid (∀ W,Calls Tryz.prog 164 #[.agg #[.int .i64 g.random,.int .i64 g.bands,.int .i64 g.tracks,.int .i64 g.sectors,.int .i64 g.overlap]] W fun e w'=>e = .returned (.int .i64 (g.tracks * g.sectors)) ∧ Below W.heap.size W w'):=by
   unfold Hid; intro W; have:=rbz_any g W; rw [bzN_valid hf.v] at this; exact this
  generalize g.tracks * g.sectors = Z at *
  obtain ⟨z,rfl⟩:=Int.eq_ofNat_of_zero_le (show 0 ≤ Z by omega)
  generalize hM : band * (z : Int) = M at *
  have hM1 : M ≤ 81920:=by omega
  have hb64 : band < g.bands:=by omega
  obtain ⟨f,hfe⟩:=Int.eq_ofNat_of_zero_le r0
  rw [hfe,Int.toNat_natCast,Int.toNat_natCast] at HB
  have hfz : f + z ≤ L.length:=by omega
  have HFE:=Lib.hid hfe
  have hw1 : IntKind.i64.wrap (band * (z : Int)) = M:=by rw [hM,IntKind.wrap_i64]; omega
  have hw1' : wrap64 (band * (z : Int)) = M:=by rw [hM]; exact w64_id (by omega) (by omega)
  have HM0:=Lib.hid hM
  clear hin hf hm r1 hfe hM
  go_enter Tryz.func168,Tryz.ntmps168
  go_wp2_with fail
  refine (HZ.out _).mono ?_
  rintro e w2 ⟨rfl,hb2⟩
  have hm2:=HM.out.below0 hb2
  have hk2:=belKept0 (S:=fun k=>k = bs) hb2
  clear p0 p1 p2 p3 p4 p5 HM hb2
  go_wp2
  go_loopw [6] (fun v wr=>∃ k : Nat,k ≤ z ∧ v = .int .i64 k ∧ RMed wr m bs g (eraseTo L f k) ∧ Kept (fun k=>k = bs) w wr) (fun v _=>z - (intOf v).toNat)
  case atStart=>exact ⟨0,Nat.zero_le _,rfl,hm2,hk2⟩
  case round=>
   obtain ⟨k,hk,rfl,hmr,hkr⟩:=hrel
   by_cases hlt : k < z
   ·have HT:=Lib.hid (eraseTo_succ L f k)
    have hdl:=eraseTo_len L f k
    have hjl : f + k < (eraseTo L f k).length:=by omega
    have hfk : g.random + M + (k : Int) = ((f + k : Nat) : Int):=by have:=HFE.out; omega
    have HFK:=Lib.hid hfk
    obtain ⟨cr,r0',_,_,_,_,r5,hcc2,_⟩:=hmr.cells
    obtain ⟨v1,q0,q1⟩:=rsec_at hmr hjl
    have f0:=hmr.free
    have hmS : Hid (RMed ((wr.setCell ⟨bs,(f + k) * 2,none⟩ (.int .i64 0)).setCell ⟨bs,(f + k) * 2 + 1,none⟩ (.string (strOfNums []))) m bs g ((eraseTo L f k).set (f + k) blankS)):=
     hmr.set hjl blankS
    have HKS:=Lib.hid (hkr.trans (set2_kept wr bs (f + k) (.int .i64 0) (.string (strOfNums []))) (fun _ _ h=>h))
    have hn : (eraseTo L f k).length ≤ 81920:=by omega
    have q6 : (0 : Int) ≤ g.random + M + (k : Int):=by omega
    have q7 : g.random + M + (k : Int) < (eraseTo L f k).length:=by omega
    have qt : (g.random + M + (k : Int)).toNat = f + k:=by omega
    have wa : IntKind.i64.wrap (g.random + M) = g.random + M:=by rw [IntKind.wrap_i64]; omega
    have wb : IntKind.i64.wrap (g.random + M + (k : Int)) = g.random + M + (k : Int):=by rw [IntKind.wrap_i64]; omega
    clear hfk
    clear hmr hkr hm2 hdl
    generalize eraseTo L f k = D at *
    go_wp2
    go_region
    all_goals
     go_wp2
     go_roundw
     case rel=>exact ⟨k + 1,by omega,by go_num,by rw [HT.out]; exact hmS.out,HKS.out.drew⟩
     case measure=>simp [intOf]; omega
   ·have hk' : k = z:=by omega
    subst hk'
    have HM' : Hid (RMed wr m bs g (eraseL g L band)):=by unfold Hid; rw [HB.out]; exact hmr
    clear hmr hm2
    go_wp2
    go_ret
    exact ⟨by rw [HE.out]; rfl,HM'.out,hkr⟩
end Go.Proofs.YtaggiceejcegdaaGreat
namespace Go.Proofs.YtaggiceejcegdaaGreat
set_option linter.unusedVariables false
open Go.RowKit
theorem getD_cells {w : World} {B : Nat} {A : Option Addr} {xs : List Int} {b off : Nat} (h : Rd w B A (xs.map (Value.int .u8))) (hA : A = some ⟨b,off,none⟩) : ∀ i,i < xs.length → w.cell? ⟨b,off + i,none⟩ = some (.int .u8 (xs.getD i 0)):=by
 intro i hi
 obtain ⟨g,o,e,_,hc⟩:=h i (.int .u8 xs[i]) (by simp [hi])
 rw [hA] at e
 injection e with e; injection e with e1 e2; subst e1; subst e2
 rw [hc]; simp [List.getD,hi]
set_option maxRecDepth 100000 in
theorem conv_bytes {w : World} {B : Nat} {A : Option Addr} {xs : List Int} (c : Nat) (h : Rd w B A (xs.map (Value.int .u8))) : (convert 26 9 (.slice A xs.length c)).run Tryz.prog w = .ok (.string (strOfNums xs)) w:=by
 cases A with
 | none=>
   have hx:=h.at_none
   obtain rfl : xs = []:=by cases xs; rfl; simp at hx
   exact run_convert_bytes_nil w 26 5 Tryz.underlying26 Tryz.underlying5 _ _ 9 Tryz.underlying9
 | some a=>
   cases xs with
   | nil=>
     rw [run_convert_bytes_string w 26 9 5 _ _ c Tryz.underlying26 Tryz.underlying5 Tryz.underlying9]
     rfl
   | cons x xs=>
     obtain ⟨g,o,e,_,hc⟩:=h 0 (.int .u8 x) rfl
     injection e with e
     subst e
     have hcs:=getD_cells h rfl
     have key:=run_convert_bytes_arg (P:=Tryz.prog) w 26 5 Tryz.underlying26 Tryz.underlying5 g o (x :: xs).length c (x :: xs) rfl hcs 9 Tryz.underlying9
     exact key
set_option maxRecDepth 100000 in
set_option maxHeartbeats 1000000 in
theorem rwrite_any {m bs : Nat} {g : Geo} {L : List Sec} {w : World} (a : Int) (ha : I64 a) (hm : RMed w m bs g L) (hf : Fit g L) (xs : List Int) (A : Option Addr) (c : Nat) (hr : Rd w w.heap.size A (xs.map (Value.int .u8))) (hn : xs.length ≤ 100000) :
  Calls Tryz.prog 169 #[.pointer (some ⟨m,0,none⟩),.int .i64 a,.slice A xs.length c] w (RWritePost w m bs g (writeE L a xs) (writeL g L a xs)):=by
 have HH:=Lib.hid (rhas_any a hm hf)
 cases hin : inL L a
 ·have HE : Hid (writeE L a xs = 2):=by unfold Hid writeE; rw [hin]; rfl
  have HB : Hid (writeL g L a xs = L):=by unfold Hid writeL; rw [hin]; rfl
  rw [hin] at HH
  have HM:=Lib.hid hm
  clear hin hm hf hr
  go_enter Tryz.func169,Tryz.ntmps169
  go_wp2_with fail
  refine HH.out.mono ?_
  rintro e w' ⟨rfl,rfl⟩
  go_wp2
  go_ret
  exact ⟨by rw [HE.out]; rfl,by rw [HB.out]; exact HM.out,Kept.refl _ _⟩
 ·rw [hin] at HH
  by_cases hlen : xs.length ≤ 64
  ·have HE : Hid (writeE L a xs = 0):=by unfold Hid writeE; rw [hin,if_pos rfl,if_pos hlen]
   have HB : Hid (writeL g L a xs = destroy (shadowL g a) (L.set a.toNat ⟨1,xs⟩)):=by unfold Hid writeL; rw [hin,decide_eq_true hlen]; rfl
   obtain ⟨h0,h1⟩:=(inL_iff L a).1 hin
   obtain ⟨i,hi,rfl,hg,hd⟩:=get_sec h0 h1
   obtain ⟨cc,p0,p1,p2,p3,p4,p5,hcc,_⟩:=hm.cells
   obtain ⟨v1,q0,q1⟩:=rsec_at hm hi
   have f0:=hm.free
   obtain ⟨hlm,hlb,hmb⟩:=hm.lt
   have hle:=hf.le
   have hconv : ∀ n,(convert 26 9 (.slice A xs.length c)).run Tryz.prog (w.drewN n) = .ok (.string (strOfNums xs)) (w.drewN n):=fun n=>conv_bytes c (hr.drewN n)
   have hconv1 : (convert 26 9 (.slice A xs.length c)).run Tryz.prog w.drew = .ok (.string (strOfNums xs)) w.drew:=conv_bytes c (hr.drewN 1)
   have HM3 : Hid (RMed ((w.setCell ⟨bs,i * 2,none⟩ (.int .i64 1)).setCell ⟨bs,i * 2 + 1,none⟩ (.string (strOfNums xs))) m bs g (L.set i ⟨1,xs⟩)):=hm.set hi ⟨1,xs⟩
   have HF:=Lib.hid hf
   have HS:=Lib.hid (fun W=>rshadow_any g (i : Int) ha W)
   have q4 : (0 : Int) ≤ i:=by omega
   have q5 : (i : Int) < L.length:=by omega
   rw [Int.toNat_natCast] at HB
   generalize hss : strOfNums xs = SS at *
   have HSS:=Lib.hid hss
   clear hin hm hf hr hg hd ha hss
   go_enter Tryz.func169,Tryz.ntmps169
   go_wp2_with fail
   refine HH.out.mono ?_
   rintro e w' ⟨rfl,rfl⟩
   go_wp2
   go_region
   all_goals
    have hm3:=HM3.out
    have hk3:=set2_kept w bs i (.int .i64 1) (.string SS)
    clear hconv hconv1 HM3 q0 q1 f0 p0 p1 p2 p3 p4 p5 HH
    generalize (w.setCell ⟨bs,i * 2,none⟩ (.int .i64 1)).setCell ⟨bs,i * 2 + 1,none⟩ (.string SS) = w3 at *
    obtain ⟨c3,p0,p1,p2,p3,p4,p5,hc3,_⟩:=hm3.cells
    have HF3:=Lib.hid (HF.out.len (L':=L.set i ⟨1,xs⟩) (by simp))
    have HSR : Hid (∀ s ∈ shadowL g (i : Int),0 ≤ s ∧ s < (L.set i ⟨1,xs⟩).length):=by
     unfold Hid; intro s hs; exact shadow_range HF3.out hs
    have hss:=shadow_len g (i : Int)
    have hL1:=HF3.out.le
    go_wp2_with fail
    refine (HS.out _).mono ?_
    rintro e w4 ⟨A4,c4,rfl,hown4,hb4⟩
    have HX : Hid (writeL g L (i : Int) xs = destroy (shadowL g (i : Int)) (L.set i ⟨1,xs⟩)):=HB
    clear HB
    generalize shadowL g (i : Int) = ss at *
    generalize L.set i ⟨1,xs⟩ = L1 at *
    have hb4' : Below w3.heap.size w3 w4:=((Below.refl w3.heap.size w3).drew).trans hb4
    have hm4:=hm3.below0 hb4'
    have hk4:=hk3.thenBelow hb4'
    have HI : Hid (∀ k (hk : k < ss.length),∃ g',A4 = some ⟨g',0,none⟩ ∧ w3.heap.size ≤ g' ∧ w4.cell? ⟨g',k,none⟩ = some (.int .i64 ss[k])):=by
     unfold Hid; intro k hk; exact ints_at hown4 k hk
    have hlb3:=hm3.lt.2.1
    clear p0 p1 p2 p3 p4 p5 hb4 hb4' hm3 HS hown4 hk3
    go_wp2
    go_loopw [8] (fun v wr=>∃ k : Nat,k ≤ ss.length ∧ v = .int .i64 k ∧ RMed wr m bs g (destroy (ss.take k) L1) ∧ Kept (fun k=>k = bs) w4 wr) (fun v _=>ss.length - (intOf v).toNat)
    case atStart=>exact ⟨0,Nat.zero_le _,rfl,hm4,Kept.refl _ _⟩
    case round=>
     obtain ⟨k,hk,rfl,hmr,hkr⟩:=hrel
     by_cases hlt : k < ss.length
     ·obtain ⟨g',rfl,hg',hcg⟩:=HI.out k hlt
      obtain ⟨s0,s1⟩:=HSR.out ss[k] (List.getElem_mem hlt)
      have hcr:=hkr.cell hcg (by show ¬ (g' = bs); omega)
      have HT:=Lib.hid (destroy_take ss k hlt L1)
      have hdl:=destroy_len (ss.take k) L1
      obtain ⟨j,hj⟩:=Int.eq_ofNat_of_zero_le s0
      have hjl : j < (destroy (ss.take k) L1).length:=by omega
      rw [hj] at hcr HT
      rw [Int.toNat_natCast] at HT
      have q6 : (0 : Int) ≤ j:=by omega
      have q7 : (j : Int) < (destroy (ss.take k) L1).length:=by omega
      have hk2 : (k : Int) < ss.length:=by omega
      have hk0 : (0 : Int) ≤ k:=by omega
      obtain ⟨cr,_,_,_,_,_,r5,hcc2,_⟩:=hmr.cells
      obtain ⟨v1,q0,q1⟩:=rsec_at hmr hjl
      have f0:=hmr.free
      have hmS : Hid (RMed ((wr.setCell ⟨bs,j * 2,none⟩ (.int .i64 2)).setCell ⟨bs,j * 2 + 1,none⟩ (.string (strOfNums []))) m bs g ((destroy (ss.take k) L1).set j goneS)):=
       hmr.set hjl goneS
      have HKS:=Lib.hid (hkr.trans (set2_kept wr bs j (.int .i64 2) (.string (strOfNums []))) (fun _ _ h=>h))
      have hll:=Lib.hid hdl
      clear hcg hj s0 s1 hmr hkr hm4 HI hdl
      generalize destroy (ss.take k) L1 = D at *
      go_wp2
      go_region
      all_goals
       go_wp2
       go_roundw
       case rel=>exact ⟨k + 1,by omega,by go_num,by rw [HT.out]; exact hmS.out,HKS.out.drew⟩
       case measure=>simp [intOf]; omega
     ·have hk' : k = ss.length:=by omega
      subst hk'
      have hmr' : RMed wr m bs g (writeL g L (i : Int) xs):=by rw [HX.out]; rw [List.take_of_length_le (Nat.le_refl _)] at hmr; exact hmr
      have HM':=Lib.hid hmr'
      clear hmr hmr' hm4
      go_wp2
      go_ret
      exact ⟨by rw [HE.out]; rfl,HM'.out,hk4.trans hkr (fun _ _ h=>h)⟩
  ·have HE : Hid (writeE L a xs = 7):=by unfold Hid writeE; rw [hin,if_pos rfl,if_neg hlen]
   have HB : Hid (writeL g L a xs = L):=by unfold Hid writeL; rw [hin,decide_eq_false hlen]; rfl
   have HM:=Lib.hid hm
   clear hin hm hf hr
   go_enter Tryz.func169,Tryz.ntmps169
   go_wp2_with fail
   refine HH.out.mono ?_
   rintro e w' ⟨rfl,rfl⟩
   go_wp2
   go_ret
   exact ⟨by rw [HE.out]; rfl,by rw [HB.out]; exact HM.out,Kept.refl _ _⟩
end Go.Proofs.YtaggiceejcegdaaGreat
namespace Go.Proofs.YtaggiceejcegdaaGreat
set_option linter.unusedVariables false
open Go.RowKit
theorem norm_len (xs : List Int) : (norm xs).length = xs.length:=by unfold norm; simp
theorem str_size (xs : List Int) : (strOfNums xs).size = xs.length:=by unfold strOfNums ByteArray.size; simp
theorem below_bytesWorld (w : World) (e : TypeId) (s : ByteArray) : Below w.heap.size w (Lib.bytesWorld w e s):=
 ⟨rfl,rfl,rfl,by rw [Lib.bytesWorld_size]; omega,fun j hj=>Lib.bytesWorld_at_old w e s j hj⟩
theorem byt_bytesWorld (w : World) (xs : List Int) : Bys 5 (Lib.bytesWorld w 5 (strOfNums xs)) (.slice (some ⟨w.heap.size,0,none⟩) (strOfNums xs).size (grownCap w (strOfNums xs).size 0 5)) (norm xs):=by
 refine ⟨_,_,by rw [norm_len,str_size],fun j u hu=>?_,(fun h=>by cases h),fun h=>⟨by rw [norm_len,← str_size]; exact grownCap_ge _ _ _ _,?_⟩⟩
 rotate_left
 ·rw [norm_len] at h
  have h2 : (strOfNums xs).size ≤ maxLen:=by rw [str_size]; unfold maxLen; omega
  have h3:=grownCap_le_maxLen w (strOfNums xs).size 0 5 h2
  unfold maxLen at h3
  first | exact h3 | (rw [str_size] at h3; exact h3)
 refine ⟨w.heap.size,0,_,_,rfl,Lib.bytesWorld_at_new w 5 (strOfNums xs),?_⟩
 have hj : j < xs.length:=by have:=(List.getElem?_eq_some_iff.1 hu).1; simpa [norm] using this
 unfold norm at hu
 simp [hj] at hu
 subst hu
 unfold Lib.bytesCells
 rw [Nat.zero_add,Array.getElem?_append_left (by simp [strOfNums]; exact hj)]
 simp [strOfNums,hj]
section
variable {m bs : Nat} {g : Geo} {L : List Sec} {w : World}
set_option maxHeartbeats 400000 in
theorem rread_any (a : Int) (hm : RMed w m bs g L) (hf : Fit g L) : Calls Tryz.prog 145 #[.pointer (some ⟨m,0,none⟩),.int .i64 a] w (ReadPost w (norm (readB L a)) (readE L a)):=by
 have HH:=Lib.hid (rhas_any a hm hf)
 obtain ⟨c,_,_,_,_,_,p5,hc,hs⟩:=hm.cells
 have hle:=hf.le
 cases hin : inL L a
 ·have HE : Hid (readE L a = 2):=by unfold Hid readE; rw [hin]; rfl
  have HB : Hid (readB L a = []):=by unfold Hid readB; rw [HE.out]; rfl
  rw [hin] at HH
  clear hin hm hs hf
  go_enter Tryz.func145,Tryz.ntmps145
  go_wp2_with fail
  refine HH.out.mono ?_
  rintro e w' ⟨rfl,rfl⟩
  go_wp2
  go_ret2
  exact ⟨_,by rw [HE.out]; rfl,by rw [HB.out]; exact Bys.nil _ _,Below.refl _ _⟩
 ·obtain ⟨h0,h1⟩:=(inL_iff L a).1 hin
  obtain ⟨i,hi,rfl,hg,hd⟩:=get_sec h0 h1
  obtain ⟨q0,q1⟩:=hs i _ hg
  rw [hin] at HH
  by_cases hst : L[i].st = 1
  ·have HE : Hid (readE L (i : Int) = 0):=by unfold Hid readE; rw [hin,hd,hst]; rfl
   have HB : Hid (readB L (i : Int) = L[i].by_):=by unfold Hid readB; rw [HE.out,hd]; rfl
   rw [hst] at q0
   have hconv:=Lib.run_convert_string_bytes (P:=Tryz.prog) w 9 26 5 (strOfNums L[i].by_) Tryz.underlying9 Tryz.underlying26 Tryz.underlying5
   have HBW:=Lib.hid (byt_bytesWorld w L[i].by_)
   have HBB:=Lib.hid (below_bytesWorld w 5 (strOfNums L[i].by_))
   generalize Lib.bytesWorld w 5 (strOfNums L[i].by_) = w2 at *
   generalize grownCap w (strOfNums L[i].by_).size 0 5 = gc at *
   generalize hSZ : (strOfNums L[i].by_).size = SZ at *
   generalize hSS : strOfNums L[i].by_ = SS at *
   have HSS:=Lib.hid hSS
   have HSZ:=Lib.hid hSZ
   clear hin hm hs hf hst hg hd hSS hSZ
   go_enter Tryz.func145,Tryz.ntmps145
   go_wp2_with fail
   refine HH.out.mono ?_
   rintro e w' ⟨rfl,rfl⟩
   go_wp2
   go_ret2
   exact ⟨_,by rw [HE.out]; rfl,by rw [HB.out]; exact HBW.out,HBB.out⟩
  ·have HE : Hid (readE L (i : Int) = 15):=by unfold Hid readE; rw [hin,hd]; simp [hst]
   have HB : Hid (readB L (i : Int) = []):=by unfold Hid readB; rw [HE.out]; rfl
   have hst2 : (L[i].st != 1) = true:=by simpa using hst
   clear hin hm hs hf hst hg hd
   go_enter Tryz.func145,Tryz.ntmps145
   go_wp2_with fail
   refine HH.out.mono ?_
   rintro e w' ⟨rfl,rfl⟩
   go_wp2
   go_ret2
   exact ⟨_,by rw [HE.out]; rfl,by rw [HB.out]; exact Bys.nil _ _,Below.refl _ _⟩
end
end Go.Proofs.YtaggiceejcegdaaGreat
namespace Go.Proofs.YtaggiceejcegdaaGreat
set_option linter.unusedVariables false
open Go.RowKit
theorem opcells_len (o : OpV) : o.cells.length = 3:=rfl
section
variable {m bs : Nat} {g : Geo} {L : List Sec} {w : World} {B : Nat}
set_option maxHeartbeats 400000 in
theorem rdo_any (o : OpV) (hm : RMed w m bs g L) (hf : Fit g L) (ho : OpOk w B o) (hB : B ≤ w.heap.size) :
  Calls Tryz.prog 142 #[.pointer (some ⟨m,0,none⟩),.agg #[.bool o.er,.int .i64 o.at_,.slice o.A o.xs.length o.c]] w (RWritePost w m bs g (doE g L o) (doL g L o)):=by
 have hb0 : Below w.heap.size w (w.alloc (.cells #[.bool o.er,.int .i64 o.at_,.slice o.A o.xs.length o.c] 172)):=(Below.refl _ _).alloc (Nat.le_refl _) _
 have HM:=Lib.hid (RMed.below0 hm hb0)
 have HR:=Lib.hid ((ho.rd.more hB).below hb0 (Nat.le_refl _))
 have HF:=Lib.hid hf
 have HO:=Lib.hid ho
 obtain ⟨er,at_,xs,A,c⟩:=o
 simp only at *
 have hn:=ho.n
 simp only at hn
 cases er
 ·have HE : Hid (doE g L ⟨false,at_,xs,A,c⟩ = writeE L at_ xs):=rfl
  have HL : Hid (doL g L ⟨false,at_,xs,A,c⟩ = writeL g L at_ xs):=rfl
  clear hm hf ho
  go_enter Tryz.func142,Tryz.ntmps142
  go_wp2_with fail
  refine (rwrite_any at_ HO.out.at_ HM.out HF.out xs A c (HR.out.more (by simp)) hn).mono ?_
  rintro e w1 ⟨rfl,hm1,hk1⟩
  go_wp2
  go_ret
  exact ⟨by rw [HE.out]; rfl,by rw [HL.out]; exact hm1,(belKept0 (S:=fun k=>k = bs) hb0).trans hk1 (fun _ _ h=>h)⟩
 ·have HE : Hid (doE g L ⟨true,at_,xs,A,c⟩ = eraseE g at_):=rfl
  have HL : Hid (doL g L ⟨true,at_,xs,A,c⟩ = eraseL g L at_):=rfl
  clear hm hf ho
  go_enter Tryz.func142,Tryz.ntmps142
  go_wp2_with fail
  refine (rerase_any at_ HM.out HF.out).mono ?_
  rintro e w1 ⟨rfl,hm1,hk1⟩
  go_wp2
  go_ret
  exact ⟨by rw [HE.out]; rfl,by rw [HL.out]; exact hm1,(belKept0 (S:=fun k=>k = bs) hb0).trans hk1 (fun _ _ h=>h)⟩
end
end Go.Proofs.YtaggiceejcegdaaGreat
namespace Go.Proofs.YtaggiceejcegdaaGreat
set_option linter.unusedVariables false
open Go.RowKit
theorem ops_at {w : World} {B : Nat} {A : Option Addr} {l : List OpV} (h : Rd w B A (flatOps l)) {k : Nat} (hk : k < l.length) : ∃ g o,A = some ⟨g,o,none⟩ ∧ g < B ∧ w.cell? ⟨g,o + k * 3,none⟩ = some (.bool l[k].er) ∧ w.cell? ⟨g,o + k * 3 + 1,none⟩ = some (.int .i64 l[k].at_) ∧ w.cell? ⟨g,o + k * 3 + 2,none⟩ = some (.slice l[k].A l[k].xs.length l[k].c):=by
 have e : ∀ t,t < 3 → (flatOps l)[k * 3 + t]? = l[k].cells[t]?:=fun t ht=>by
  unfold flatOps; rw [flat_get _ 3 opcells_len l k t ht,List.getElem?_eq_getElem hk]; rfl
 obtain ⟨g,o,e0,hg,h0⟩:=h (k * 3 + 0) _ (e 0 (by omega))
 obtain ⟨g1,o1,e1,_,h1⟩:=h (k * 3 + 1) _ (e 1 (by omega))
 obtain ⟨g2,o2,e2,_,h2⟩:=h (k * 3 + 2) _ (e 2 (by omega))
 rw [e0] at e1 e2
 injection e1 with e1; injection e1 with e1 e1'; subst e1; subst e1'
 injection e2 with e2; injection e2 with e2 e2'; subst e2; subst e2'
 exact ⟨g,o,e0,hg,h0,h1,h2⟩
end Go.Proofs.YtaggiceejcegdaaGreat
