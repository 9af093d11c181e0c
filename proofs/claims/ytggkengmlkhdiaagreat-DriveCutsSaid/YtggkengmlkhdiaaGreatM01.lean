/-
  WHAT IS SHOWN: what Locate and Address of geometry and of tegularef10 return: the same; they change nothing that was there. what Address of geometry and of tegularef10 return: the same; they change nothing that was there. what Shadow of geometry and of tegularef10 return: new lists of the same numbers; they change nothing that was there. what Shadow of tegularef10 returns: a new list of the same numbers as that of geometry; it changes nothing that was there. No condition. plain facts on media: what writes and erasures make of the sectors; how a medium lies in memory. Conditions: as each theorem names them.
-/
import Derived.Test.YtggkengmlkhdiaaGreatM00
import Derived.Laws.OwnMore
import Derived.Deep.QuietTactic
import Derived.BigQuiet
import Derived.Laws.BytesArg
namespace Go.Proofs.YtggkengmlkhdiaaGreat
set_option linter.unusedVariables false
open Go.RowKit
theorem ret_loc {a b c d a' b' c' d':Int} (h1:a=a') (h2:b=b') (h3:c=c') (h4:d=d'):Ending.returned (.tuple #[.int .i64 a,.int .i64 b,.int .i64 c,.int .i64 d])= .returned (.tuple #[.int .i64 a',.int .i64 b',.int .i64 c',.int .i64 d']):=by rw [h1,h2,h3,h4]
set_option maxHeartbeats 1000000 in
theorem gloc_any (g:Geo) (a:Int) (ha:I64 a) (w:World):Calls Tryz.prog 180 #[.agg #[.int .i64 g.random,.int .i64 g.bands,.int .i64 g.tracks,.int .i64 g.sectors,.int .i64 g.overlap],.int .i64 a] w fun e w'=>e= .returned (.tuple #[.int .i64 (locN g a).band,.int .i64 (locN g a).track,.int .i64 (locN g a).pos,.int .i64 (locN g a).e])∧Below w.heap.size w w':=by
 cases hv:validG g
 ·have HL:=Lib.hid (loc_invalid a hv)
  go_enter Tryz.func180,Tryz.ntmps180
  go_wp2_with fail
  refine (gvalid_any g _).mono ?_
  rintro e w1 ⟨rfl,hb1⟩
  rw [hv]
  clear hv
  go_wp2
  (try simp only [Exit.inBlock,Exit.then])
  refine bodyPost_ret (results_tmp4 rfl _ _ _) rfl ?_
  exact ⟨by rw [HL.out]; rfl,((Below.refl _ _).alloc (Nat.le_refl _) _).trans (hb1.mono (by simp))⟩
 ·have hg:=(validG_iff g).1 hv
  have hz:=szN_bound g
  have hzv:=Lib.hid (szN_valid hg)
  have h0:=hg.r0; have h1:=hg.r1; have h2:=hg.t0; have h3:=hg.s0
  cases hin:inR a g.random (szN g - 1)
  ·have HL:=Lib.hid (loc_out hv hin)
   have HW:Hid (∀ W,Calls Tryz.prog 120 #[.int .i64 a,.int .i64 g.random,.int .i64 (szN g - 1)] W fun e w'=>e= .returned (.bool false)∧w'=W):=by
    unfold Hid; intro W; have:=within_any a g.random (szN g - 1) W; rw [hin] at this; exact this
   have HS:=Lib.hid (fun W=>gsz_any g W)
   clear hin
   go_enter Tryz.func180,Tryz.ntmps180
   go_wp2_with fail
   refine (gvalid_any g _).mono ?_
   rintro e w1 ⟨rfl,hb1⟩
   rw [hv]
   clear hv hg
   have PG:=(Cells5.new w 42 _ _ _ _ _).below hb1 (by simp)
   have hbl1:Below w.heap.size w w1:=((Below.refl _ _).alloc (Nat.le_refl _) _).trans (hb1.mono (by simp))
   have hz1:w.heap.size < w1.heap.size:=by have:=hb1.size; simp at this; omega
   clear hb1
   have s0:=Held.cell PG.c0 hz1; have s1:=Held.cell PG.c1 hz1; have s2:=Held.cell PG.c2 hz1; have s3:=Held.cell PG.c3 hz1; have s4:=Held.cell PG.c4 hz1
   go_wp2
   generalize szN g=Z at *
   have hw1:IntKind.i64.wrap (Z - 1)=Z - 1:=by rw [IntKind.wrap_i64]; omega
   have hne:Nonempty (Held (Below w1.heap.size w1)):=⟨⟨_,(Held.drew_below (Nat.le_refl _))⟩⟩
   refine wp_region_heldq (S:=(Below w1.heap.size w1)) (by kernel_rfl) (by kernel_rfl) (Held.drew_below (Nat.le_refl _)) ?_
   repeat (go_big_quiet_step ((first | (go_at_call 58; exact Calls.held_below (Nat.le_refl _) (HS.out _)) | (go_at_call 120; exact Calls.held_same (HW.out _)))))
   refine wpQuiet_nil ?_
   intro _ hw'
   obtain ⟨sq,hw''⟩:=hw'
   subst hw''
   clear hne
   clear hw1
   go_wp2
   (try simp only [Exit.inBlock,Exit.then])
   refine bodyPost_ret (results_tmp4 rfl _ _ _) rfl ?_
   exact ⟨by rw [HL.out]; rfl,hbl1.trans (sq.h.mono hbl1.size)⟩
  ·have HL:=Lib.hid (loc_in hv hin)
   have HW:Hid (∀ W,Calls Tryz.prog 120 #[.int .i64 a,.int .i64 g.random,.int .i64 (szN g - 1)] W fun e w'=>e= .returned (.bool true)∧w'=W):=by
    unfold Hid; intro W; have:=within_any a g.random (szN g - 1) W; rw [hin] at this; exact this
   have HS:=Lib.hid (fun W=>gsz_any g W)
   obtain ⟨a0,a1⟩:=(inR_iff _ _ _).1 hin
   have d0:0≤(a - g.random) / g.sectors:=Int.ediv_nonneg (by omega) (by omega)
   clear hin
   go_enter Tryz.func180,Tryz.ntmps180
   go_wp2_with fail
   refine (gvalid_any g _).mono ?_
   rintro e w1 ⟨rfl,hb1⟩
   rw [hv]
   clear hv hg
   have PG:=(Cells5.new w 42 _ _ _ _ _).below hb1 (by simp)
   have hbl1:Below w.heap.size w w1:=((Below.refl _ _).alloc (Nat.le_refl _) _).trans (hb1.mono (by simp))
   have hz1:w.heap.size < w1.heap.size:=by have:=hb1.size; simp at this; omega
   clear hb1
   have s0:=Held.cell PG.c0 hz1; have s1:=Held.cell PG.c1 hz1; have s2:=Held.cell PG.c2 hz1; have s3:=Held.cell PG.c3 hz1; have s4:=Held.cell PG.c4 hz1
   go_wp2
   generalize szN g=Z at *
   have hw1:IntKind.i64.wrap (Z - 1)=Z - 1:=by rw [IntKind.wrap_i64]; omega
   have hne:Nonempty (Held (Below w1.heap.size w1)):=⟨⟨_,(Held.drew_below (Nat.le_refl _))⟩⟩
   refine wp_region_heldq (S:=(Below w1.heap.size w1)) (by kernel_rfl) (by kernel_rfl) (Held.drew_below (Nat.le_refl _)) ?_
   repeat (go_big_quiet_step ((first | (go_at_call 58; exact Calls.held_below (Nat.le_refl _) (HS.out _)) | (go_at_call 120; exact Calls.held_same (HW.out _)))))
   refine wpQuiet_nil ?_
   intro _ hw'
   obtain ⟨sq,hw''⟩:=hw'
   subst hw''
   clear hne
   clear hw1
   have r0:=s0 sq; have r2:=s2 sq; have r3:=s3 sq
   clear s0 s1 s2 s3 s4
   go_wp2
   have n0:0≤a - g.random:=by omega
   have n1:a - g.random≤81920:=by omega
   generalize a - g.random=n at *
   go_quiet (fail)
   go_wp2
   go_quiet (fail)
   go_wp2
   (try simp only [Exit.inBlock,Exit.then])
   refine bodyPost_ret (results_tmp4 rfl _ _ _) rfl ?_
   obtain ⟨e1,e2,e3,e4⟩:=quo_pos n0 (by omega) h3
   obtain ⟨f1,_,_,f4⟩:=quo_pos e2 e3 h2
   exact ⟨ret_loc (by rw [HL.out]; first | done | simp only [f1] | simp only [e1,f1]) (by rw [HL.out]; first | done | simp only [f4] | simp only [e1,f4]) (by rw [HL.out]) (by rw [HL.out]),below_drewN' (below_drewN' (hbl1.trans (sq.h.mono hbl1.size)) _) _⟩
end Go.Proofs.YtggkengmlkhdiaaGreat
namespace Go.Proofs.YtggkengmlkhdiaaGreat
set_option linter.unusedVariables false
open Go.RowKit
theorem ret_two {a b a' b':Int} (h1:a=a') (h2:b=b'):Ending.returned (.tuple #[.int .i64 a,.int .i64 b])= .returned (.tuple #[.int .i64 a',.int .i64 b']):=by rw [h1,h2]
theorem adr_invalid {g:Geo} (b t p:Int) (h:validG g=false):adrN g b t p=(0,1):=by unfold adrN; rw [h]; rfl
theorem adr_out {g:Geo} {b t p:Int} (h:validG g=true) (ho:(inR b 0 (g.bands - 1) && (inR t 0 (g.tracks - 1) && inR p 0 (g.sectors - 1)))=false):adrN g b t p=(0,2):=by unfold adrN; rw [h,ho]; rfl
theorem adr_in {g:Geo} {b t p:Int} (h:validG g=true) (h1:inR b 0 (g.bands - 1)=true) (h2:inR t 0 (g.tracks - 1)=true) (h3:inR p 0 (g.sectors - 1)=true):adrN g b t p=(g.random+(b * g.tracks+t) * g.sectors+p,0):=by unfold adrN; rw [h,h1,h2,h3]; rfl
theorem adr_bound {g:Geo} {b t:Int} (hg:Vg g) (h1:0≤b∧b≤g.bands - 1) (h2:0≤t∧t≤g.tracks - 1):0≤b * g.tracks∧b * g.tracks≤1024∧0≤(b * g.tracks+t) * g.sectors∧(b * g.tracks+t) * g.sectors≤70000:=by
 have h0:=hg.t0; have h3:=hg.t1; have h4:=hg.b1; have h5:=hg.s0; have h6:=hg.s1
 have m1:=mul_lim (a:=b) (b:=g.tracks) (A:=64) (B:=16) h1.1 (by omega) (by omega) h3
 have m2:=mul_lim (a:=b * g.tracks+t) (b:=g.sectors) (A:=1040) (B:=64) (by omega) (by omega) (by omega) h6
 omega
set_option maxHeartbeats 1000000 in
theorem gadr_any (g:Geo) (b t p:Int) (w:World):Calls Tryz.prog 161 #[.agg #[.int .i64 g.random,.int .i64 g.bands,.int .i64 g.tracks,.int .i64 g.sectors,.int .i64 g.overlap],.int .i64 b,.int .i64 t,.int .i64 p] w fun e w'=>e= .returned (.tuple #[.int .i64 (adrN g b t p).1,.int .i64 (adrN g b t p).2])∧Below w.heap.size w w':=by
 cases hv:validG g
 ·have HL:=Lib.hid (adr_invalid b t p hv)
  go_enter Tryz.func161,Tryz.ntmps161
  go_wp2_with fail
  refine (gvalid_any g _).mono ?_
  rintro e w1 ⟨rfl,hb1⟩
  rw [hv]
  clear hv
  go_wp2
  go_ret2
  exact ⟨by rw [HL.out]; rfl,((Below.refl _ _).alloc (Nat.le_refl _) _).trans (hb1.mono (by simp))⟩
 ·have hg:=(validG_iff g).1 hv
  have h0:=hg.b0; have h1:=hg.t0; have h2:=hg.s0; have h4:=hg.b1; have h5:=hg.t1; have h6:=hg.s1; have h7:=hg.r0; have h8:=hg.r1
  have Wb:=Lib.hid (within_any b 0 (g.bands - 1))
  have Wt:=Lib.hid (within_any t 0 (g.tracks - 1))
  have Wp:=Lib.hid (within_any p 0 (g.sectors - 1))
  cases c1:inR b 0 (g.bands - 1)
  ·have HL:=Lib.hid (adr_out (t:=t) (p:=p) hv (by rw [c1]; rfl))
   rw [c1] at Wb
   clear c1
   go_enter Tryz.func161,Tryz.ntmps161
   go_wp2_with fail
   refine (gvalid_any g _).mono ?_
   rintro e w1 ⟨rfl,hb1⟩
   rw [hv]
   clear hv hg
   have PG:=(Cells5.new w 42 _ _ _ _ _).below hb1 (by simp)
   have hbl1:Below w.heap.size w w1:=((Below.refl _ _).alloc (Nat.le_refl _) _).trans (hb1.mono (by simp))
   clear hb1
   have p0:=PG.c0; have p1:=PG.c1; have p2:=PG.c2; have p3:=PG.c3; have p4:=PG.c4
   go_wp2_with fail
   refine (Wb.out _).mono ?_
   rintro e w' ⟨rfl,rfl⟩
   go_wp2
   go_ret2
   exact ⟨by rw [HL.out]; rfl,hbl1⟩
  ·cases c2:inR t 0 (g.tracks - 1)
   ·have HL:=Lib.hid (adr_out (p:=p) hv (by rw [c1,c2]; rfl))
    rw [c1] at Wb
    rw [c2] at Wt
    clear c1 c2
    go_enter Tryz.func161,Tryz.ntmps161
    go_wp2_with fail
    refine (gvalid_any g _).mono ?_
    rintro e w1 ⟨rfl,hb1⟩
    rw [hv]
    clear hv hg
    have PG:=(Cells5.new w 42 _ _ _ _ _).below hb1 (by simp)
    have hbl1:Below w.heap.size w w1:=((Below.refl _ _).alloc (Nat.le_refl _) _).trans (hb1.mono (by simp))
    clear hb1
    have p0:=PG.c0; have p1:=PG.c1; have p2:=PG.c2; have p3:=PG.c3; have p4:=PG.c4
    go_wp2_with fail
    refine (Wb.out _).mono ?_
    rintro e w' ⟨rfl,rfl⟩
    go_wp2_with fail
    refine (Wt.out _).mono ?_
    rintro e w' ⟨rfl,rfl⟩
    go_wp2
    go_ret2
    exact ⟨by rw [HL.out]; rfl,hbl1⟩
   ·cases c3:inR p 0 (g.sectors - 1)
    ·have HL:=Lib.hid (adr_out hv (by rw [c1,c2,c3]; rfl))
     rw [c1] at Wb
     rw [c2] at Wt
     rw [c3] at Wp
     clear c1 c2 c3
     go_enter Tryz.func161,Tryz.ntmps161
     go_wp2_with fail
     refine (gvalid_any g _).mono ?_
     rintro e w1 ⟨rfl,hb1⟩
     rw [hv]
     clear hv hg
     have PG:=(Cells5.new w 42 _ _ _ _ _).below hb1 (by simp)
     have hbl1:Below w.heap.size w w1:=((Below.refl _ _).alloc (Nat.le_refl _) _).trans (hb1.mono (by simp))
     clear hb1
     have p0:=PG.c0; have p1:=PG.c1; have p2:=PG.c2; have p3:=PG.c3; have p4:=PG.c4
     go_wp2_with fail
     refine (Wb.out _).mono ?_
     rintro e w' ⟨rfl,rfl⟩
     go_wp2_with fail
     refine (Wt.out _).mono ?_
     rintro e w' ⟨rfl,rfl⟩
     go_wp2_with fail
     refine (Wp.out _).mono ?_
     rintro e w' ⟨rfl,rfl⟩
     go_wp2
     go_ret2
     exact ⟨by rw [HL.out]; rfl,hbl1⟩
    ·have HL:=Lib.hid (adr_in hv c1 c2 c3)
     have k1:=(inR_iff _ _ _).1 c1
     have k2:=(inR_iff _ _ _).1 c2
     have k3:=(inR_iff _ _ _).1 c3
     obtain ⟨b0,b1,b2,b3⟩:=adr_bound hg k1 k2
     rw [c1] at Wb
     rw [c2] at Wt
     rw [c3] at Wp
     clear c1 c2 c3
     go_enter Tryz.func161,Tryz.ntmps161
     go_wp2_with fail
     refine (gvalid_any g _).mono ?_
     rintro e w1 ⟨rfl,hb1⟩
     rw [hv]
     clear hv hg
     have PG:=(Cells5.new w 42 _ _ _ _ _).below hb1 (by simp)
     have hbl1:Below w.heap.size w w1:=((Below.refl _ _).alloc (Nat.le_refl _) _).trans (hb1.mono (by simp))
     clear hb1
     have p0:=PG.c0; have p1:=PG.c1; have p2:=PG.c2; have p3:=PG.c3; have p4:=PG.c4
     go_wp2_with fail
     refine (Wb.out _).mono ?_
     rintro e w' ⟨rfl,rfl⟩
     go_wp2_with fail
     refine (Wt.out _).mono ?_
     rintro e w' ⟨rfl,rfl⟩
     go_wp2_with fail
     refine (Wp.out _).mono ?_
     rintro e w' ⟨rfl,rfl⟩
     go_wp2
     go_ret2
     exact ⟨ret_two (by rw [HL.out]) (by rw [HL.out]),hbl1⟩
end Go.Proofs.YtggkengmlkhdiaaGreat
namespace Go.Proofs.YtggkengmlkhdiaaGreat
set_option linter.unusedVariables false
open Go.RowKit
def IntsPost (w:World) (L:List Int) (e:Ending) (w':World):Prop:=
 ∃ A c,e= .returned (.slice A L.length c)∧w'.ownsRow w.heap.size 3 1 (.slice A L.length c) L.length (L.map (Value.int .i64))∧Below w.heap.size w w'
theorem info_int:(Tryz.prog.info? 3).map (fun i=>(i.zero,i.size,i.bytes))=some (some (.int .i64 0),1,8):=by kernel_rfl
def shTo (g:Geo) (a:Int) (j:Nat):List Int:=(List.range j).map fun (i:Nat)=>a+((i:Int)+1) * g.sectors
theorem shTo_succ (g:Geo) (a:Int) (j:Nat):shTo g a (j+1)=shTo g a j++[a+((j:Int)+1) * g.sectors]:=by unfold shTo; rw [List.range_succ]; simp
theorem shTo_len (g:Geo) (a:Int) (j:Nat):(shTo g a j).length=j:=by unfold shTo; simp
theorem shadow_in {g:Geo} {a:Int} (h:(locN g a).e=0):shadowL g a=shTo g a (shCnt g (locN g a).track):=by unfold shadowL shTo; rw [if_pos h]
theorem shadow_out {g:Geo} {a:Int} (h:(locN g a).e≠0):shadowL g a=[]:=by unfold shadowL; rw [if_neg h]
theorem loc_ok {g:Geo} {a:Int} (h:(locN g a).e=0):Vg g∧g.random≤a∧a < g.random+g.bands * (g.tracks * g.sectors)∧locN g a=⟨(a - g.random) / g.sectors / g.tracks,(a - g.random) / g.sectors % g.tracks,(a - g.random) % g.sectors,0⟩:=by
 cases hv:validG g
 ·rw [loc_invalid a hv] at h; simp at h
 ·cases hi:inR a g.random (szN g - 1)
  ·rw [loc_out hv hi] at h; simp at h
  ·have hg:=(validG_iff g).1 hv
   have:=(inR_iff _ _ _).1 hi
   have hz:=szN_valid hg
   exact ⟨hg,this.1,by omega,loc_in hv hi⟩
theorem own_snoc {w:World} {base:Nat} {v:Value} {g:Geo} {a:Int} {j:Nat} {n:Nat} {xs:List Value} (h:w.ownsRow base 3 1 v n xs) (hn:n=j+1) (hx:xs=(shTo g a j).map (Value.int .i64)++[.int .i64 (a+((j:Int)+1) * g.sectors)]):
  w.ownsRow base 3 1 v (j+1) ((shTo g a (j+1)).map (Value.int .i64)):=by
 subst hn; subst hx
 rw [shTo_succ,List.map_append]; exact h
set_option maxRecDepth 100000 in
set_option maxHeartbeats 1000000 in
theorem gshadow_any (g:Geo) (a:Int) (ha:I64 a) (w:World):Calls Tryz.prog 178 #[.agg #[.int .i64 g.random,.int .i64 g.bands,.int .i64 g.tracks,.int .i64 g.sectors,.int .i64 g.overlap],.int .i64 a] w (IntsPost w (shadowL g a)):=by
 have HL:=Lib.hid (fun W=>gloc_any g a ha W)
 by_cases he:(locN g a).e=0
 ·obtain ⟨hg,a0,a1,hl⟩:=loc_ok he
  obtain ⟨_,_,t0,t1,_,_,_⟩:=loc_spec hg a0 a1
  have HR:=Lib.hid (shadow_in he)
  rw [hl] at HL HR
  simp only at HL HR
  have h0:=hg.o0; have h1:=hg.o1; have h2:=hg.t1; have h3:=hg.s0; have h4:=hg.s1; have h5:=hg.r0; have h6:=hg.r1
  have h7:=hg.sz
  have a2:0≤a:=by omega
  have a3:a≤100000:=by omega
  generalize (a - g.random) / g.sectors % g.tracks=T at *
  generalize (a - g.random) / g.sectors / g.tracks=T1 at *
  generalize (a - g.random) % g.sectors=T2 at *
  have hc1:(shCnt g T:Int)=min g.overlap (g.tracks - 1 - T):=by unfold shCnt; omega
  generalize shCnt g T=N at *
  have hc2:(N:Int)≤g.overlap:=by omega
  have hc3:T+N < g.tracks:=by omega
  have hc4:g.overlap≤N∨g.tracks≤T+N+1:=by omega
  clear hc1 hl he a0 a1 h7 hg
  obtain ⟨i0,hi,hz0,hz1,hz2⟩:=info_parts info_int
  go_enter Tryz.func178,Tryz.ntmps178
  go_wp2_with fail
  refine (HL.out _).mono ?_
  rintro e w1 ⟨rfl,hb1⟩
  have PG:=(Cells5.new w 42 _ _ _ _ _).below hb1 (by simp)
  have hbl1:Below w.heap.size w w1:=((Below.refl _ _).alloc (Nat.le_refl _) _).trans (hb1.mono (by simp))
  have hzz1:w.heap.size < w1.heap.size:=by have:=hb1.size; simp at this; omega
  clear hb1 HL
  go_wp2
  go_loopw [9,10] (fun v k wr=>∃ j:Nat,j≤N∧k= .int .i64 ((j:Int)+1)∧wr.ownsRow w1.heap.size 3 1 v j ((shTo g a j).map (Value.int .i64))∧Below w1.heap.size w1 wr) (fun _ k _=>5 - (intOf k).toNat)
  case atStart=>exact ⟨0,Nat.zero_le _,rfl,World.ownsRow_nil _ _ _ _,Below.refl _ _⟩
  case round=>
   obtain ⟨j,hj,rfl,hown,hbr⟩:=hrel
   have PGr:=PG.below hbr hzz1
   have p0:=PGr.c0; have p2:=PGr.c2; have p3:=PGr.c3; have p4:=PGr.c4
   have hzr:=hbr.size
   by_cases hlt:j < N
   ·have hm:=mul_lim (a:=(j:Int)+1) (b:=g.sectors) (A:=3) (B:=64) (by omega) (by omega) (by omega) h4
    have q1:(j:Int)+1≤g.overlap:=by omega
    have q2:T+((j:Int)+1) < g.tracks:=by omega
    have hX:Hid (∀ (v:Value) (W:World) n xs,W.ownsRow w1.heap.size 3 1 v n xs→n=j+1→xs=(shTo g a j).map (Value.int .i64)++[.int .i64 (a+((j:Int)+1) * g.sectors)]→W.ownsRow w1.heap.size 3 1 v (j+1) ((shTo g a (j+1)).map (Value.int .i64))):=by
     unfold Hid; intro v W n xs h e1 e2; exact own_snoc h e1 e2
    have hw1:wrap64 (((j:Int)+1) * g.sectors)=((j:Int)+1) * g.sectors:=w64_id (by omega) (by omega)
    have hw2:wrap64 (a+((j:Int)+1) * g.sectors)=a+((j:Int)+1) * g.sectors:=w64_id (by omega) (by omega)
    go_wp2_with (at_builtin; refine wpList_append_own _ rfl _ _ 56 rfl w1.heap.size 3 i0 _ 1 8 Tryz.underlying56 hi hz0 hz1 hz2 rfl (by decide) _ _ _ rfl (hown.alloc _) ⟨wr.heap.size,0,none⟩ 1 1 [.int .i64 (a+((j:Int)+1) * g.sectors)] rfl rfl ?c1 ?c2 ?c3 ?c4 ?c5 ?_)
    case c1=>
     intro i u hu
     rw [add_off]
     cases i with
     | zero=>simp at hu; subst hu; exact cell_new _ _ _ _ _ _ rfl rfl
     | succ i=>simp at hu
    case c2=>intro u hu; simp at hu; subst hu; rfl
    case c3=>unfold maxLen; omega
    case c4=>omega
    case c5=>simp; omega
    intro v' w' hown' hgrow _
    have hn:=hX.out _ _ _ _ hown' rfl rfl
    have hb':Below w1.heap.size w1 w':=(hbr.alloc hzr _).grown hgrow (by simp; omega) (fun k hk=>(hown.lt k hk).1)
    clear hown hown' hgrow hX
    go_wp2
    go_roundw
    case rel=>exact ⟨j+1,by omega,by go_num,hn,hb'⟩
    case measure=>simp [intOf]; omega
   ·have hjN:j=N:=by omega
    subst hjN
    obtain ⟨A,c,rfl⟩:=own_form hown
    have HE:Hid (wr.ownsRow w.heap.size 3 1 (.slice A j c) (shadowL g a).length ((shadowL g a).map (Value.int .i64))):=by
     unfold Hid; rw [HR.out,shTo_len]; exact own_mono hown hbl1.size
    have HN:Hid ((shadowL g a).length=j):=by unfold Hid; rw [HR.out,shTo_len]
    clear hown hj hlt a2 a3 ha
    rcases hc4 with hc4 | hc4
    ·have q1:g.overlap < (j:Int)+1:=by omega
     go_wp2
     go_ret
     exact ⟨A,c,by rw [HN.out]; rfl,by have:=HE.out; rw [HN.out] at this ⊢; exact this,hbl1.trans (hbr.mono hbl1.size)⟩
    ·have q2:g.tracks≤T+((j:Int)+1):=by omega
     by_cases q3:g.overlap < (j:Int)+1
     ·go_wp2
      go_ret
      exact ⟨A,c,by rw [HN.out]; rfl,by have:=HE.out; rw [HN.out] at this ⊢; exact this,hbl1.trans (hbr.mono hbl1.size)⟩
     ·go_wp2
      go_ret
      exact ⟨A,c,by rw [HN.out]; rfl,by have:=HE.out; rw [HN.out] at this ⊢; exact this,hbl1.trans (hbr.mono hbl1.size)⟩
 ·have HR:=Lib.hid (shadow_out he)
  generalize locN g a=L at *
  have he2:(L.e !=0)=true:=by simpa using he
  clear he
  go_enter Tryz.func178,Tryz.ntmps178
  go_wp2_with fail
  refine (HL.out _).mono ?_
  rintro e w1 ⟨rfl,hb1⟩
  go_wp2
  go_ret
  exact ⟨none,0,by rw [HR.out]; rfl,by rw [HR.out]; exact World.ownsRow_nil _ _ _ _,((Below.refl _ _).alloc (Nat.le_refl _) _).trans (hb1.mono (by simp))⟩
end Go.Proofs.YtggkengmlkhdiaaGreat
namespace Go.Proofs.YtggkengmlkhdiaaGreat
set_option linter.unusedVariables false
open Go.RowKit
theorem sh_adr_in {g:Geo} {a:Int} (hg:Vg g) (h0:g.random≤a) (h1:a < g.random+g.bands * (g.tracks * g.sectors)) (k:Int) (hk:0≤k) (hT:(a - g.random) / g.sectors % g.tracks+k < g.tracks):
  adrN g ((a - g.random) / g.sectors / g.tracks) ((a - g.random) / g.sectors % g.tracks+k) ((a - g.random) % g.sectors)=(a+k * g.sectors,0):=by
 obtain ⟨s0,s1,s2,s3,s4,s5,s6⟩:=loc_spec hg h0 h1
 rw [adr_in ((validG_iff g).2 hg) ((inR_iff _ _ _).2 ⟨s0,by omega⟩) ((inR_iff _ _ _).2 ⟨by omega,by omega⟩) ((inR_iff _ _ _).2 ⟨s4,by omega⟩)]
 rw [← Int.add_assoc ((a - g.random) / g.sectors / g.tracks * g.tracks),Int.add_mul _ k]
 congr 1
 omega
end Go.Proofs.YtggkengmlkhdiaaGreat
namespace Go.Proofs.YtggkengmlkhdiaaGreat
set_option linter.unusedVariables false
open Go.RowKit
structure Sec where
 st:Int
 by_:List Int
def blankS:Sec:=⟨0,[]⟩
def goneS:Sec:=⟨2,[]⟩
def destroy (ss:List Int) (L:List Sec):List Sec:=ss.foldl (fun L s=>L.set s.toNat goneS) L
def inL (L:List Sec) (a:Int):Bool:=decide (0≤a) && decide (a < L.length)
def writeE (L:List Sec) (a:Int) (b:List Int):Int:=if inL L a then (if b.length≤64 then 0 else 7) else 2
def writeL (g:Geo) (L:List Sec) (a:Int) (b:List Int):List Sec:=if inL L a && decide (b.length≤64) then destroy (shadowL g a) (L.set a.toNat ⟨1,b⟩) else L
def eraseTo (L:List Sec) (from_:Nat) (k:Nat):List Sec:=(List.range k).foldl (fun L i=>L.set (from_+i) blankS) L
def eraseE (g:Geo) (band:Int):Int:=if inR band 0 (g.bands - 1) then 0 else 2
def eraseL (g:Geo) (L:List Sec) (band:Int):List Sec:=if inR band 0 (g.bands - 1) then eraseTo L (g.random+band * (g.tracks * g.sectors)).toNat (g.tracks * g.sectors).toNat else L
def readE (L:List Sec) (a:Int):Int:=if inL L a then (if (L.getD a.toNat blankS).st=1 then 0 else 15) else 2
def readB (L:List Sec) (a:Int):List Int:=if readE L a=0 then (L.getD a.toNat blankS).by_ else []
def stateN (L:List Sec) (a:Int):Int:=if inL L a then (L.getD a.toNat blankS).st else 0
theorem inL_iff (L:List Sec) (a:Int):inL L a=true↔0≤a∧a < L.length:=by unfold inL; simp
theorem destroy_len (ss:List Int):∀ L,(destroy ss L).length=L.length:=by
 induction ss with
 | nil=>intro L; rfl
 | cons s ss ih=>intro L; unfold destroy at *; rw [List.foldl_cons,ih,List.length_set]
theorem destroy_snoc (ss:List Int) (s:Int) (L:List Sec):destroy (ss++[s]) L=(destroy ss L).set s.toNat goneS:=by unfold destroy; rw [List.foldl_append]; rfl
theorem destroy_take (ss:List Int) (k:Nat) (h:k < ss.length) (L:List Sec):destroy (ss.take (k+1)) L=(destroy (ss.take k) L).set ss[k].toNat goneS:=by rw [List.take_succ_eq_append_getElem h,destroy_snoc]
theorem eraseTo_succ (L:List Sec) (f k:Nat):eraseTo L f (k+1)=(eraseTo L f k).set (f+k) blankS:=by unfold eraseTo; rw [List.range_succ,List.foldl_append]; rfl
theorem eraseTo_len (L:List Sec) (f:Nat):∀ k,(eraseTo L f k).length=L.length
 | 0=>rfl
 | k+1=>by rw [eraseTo_succ,List.length_set,eraseTo_len L f k]
theorem writeL_len (g:Geo) (L:List Sec) (a:Int) (b:List Int):(writeL g L a b).length=L.length:=by
 unfold writeL; split
 ·rw [destroy_len,List.length_set]
 ·rfl
theorem eraseL_len (g:Geo) (L:List Sec) (b:Int):(eraseL g L b).length=L.length:=by
 unfold eraseL; split
 ·rw [eraseTo_len]
 ·rfl
structure Fit (g:Geo) (L:List Sec):Prop where
 v:Vg g
 n:(L.length:Int)=g.random+g.bands * (g.tracks * g.sectors)
theorem Fit.len {g:Geo} {L L':List Sec} (h:Fit g L) (hl:L'.length=L.length):Fit g L':=⟨h.v,by rw [hl]; exact h.n⟩
theorem Fit.le {g:Geo} {L:List Sec} (h:Fit g L):1≤L.length∧L.length≤81920:=by
 have:=h.n; have:=h.v.sz; have:=h.v.r0; have:=h.v.r1; omega
theorem shadow_range {g:Geo} {L:List Sec} (h:Fit g L) {a s:Int} (hs:s∈shadowL g a):0≤s∧s < L.length:=by
 unfold shadowL at hs
 split at hs
 ·rename_i he
  obtain ⟨hg,a0,a1,hl⟩:=loc_ok he
  rw [hl] at hs
  simp only [List.mem_map,List.mem_range] at hs
  obtain ⟨i,hi,rfl⟩:=hs
  have hT:(a - g.random) / g.sectors % g.tracks+((i:Int)+1) < g.tracks:=by unfold shCnt at hi; omega
  obtain ⟨s0,s1,s2,s3,s4,s5,s6⟩:=loc_spec hg a0 a1
  have e:=sh_adr_in hg a0 a1 ((i:Int)+1) (by omega) hT
  have m1:=Int.mul_nonneg (show 0≤(i:Int)+1 by omega) (show 0≤g.sectors by have:=hg.s0; omega)
  rw [adr_in ((validG_iff g).2 hg) ((inR_iff _ _ _).2 ⟨s0,by omega⟩) ((inR_iff _ _ _).2 ⟨by omega,by omega⟩) ((inR_iff _ _ _).2 ⟨s4,by omega⟩)] at e
  injection e with e _
  have hn:=h.n
  have m2:((a - g.random) / g.sectors / g.tracks * g.tracks+((a - g.random) / g.sectors % g.tracks+((i:Int)+1))+1) * g.sectors≤(g.bands * g.tracks) * g.sectors:=by
   apply Int.mul_le_mul_of_nonneg_right _ (by omega)
   have m3:((a - g.random) / g.sectors / g.tracks+1) * g.tracks≤g.bands * g.tracks:=Int.mul_le_mul_of_nonneg_right (by omega) (by omega)
   rw [Int.add_mul] at m3
   omega
  rw [Int.add_mul _ 1,Int.one_mul,Int.mul_assoc g.bands] at m2
  have:=hg.r0
  omega
 ·simp at hs
theorem erase_range {g:Geo} {L:List Sec} (h:Fit g L) {band:Int} (hb:inR band 0 (g.bands - 1)=true):0≤g.random+band * (g.tracks * g.sectors)∧g.random+band * (g.tracks * g.sectors)+g.tracks * g.sectors≤L.length:=by
 obtain ⟨b0,b1⟩:=(inR_iff _ _ _).1 hb
 have hz:=h.v.bz
 have m1:=Int.mul_nonneg b0 (show 0≤g.tracks * g.sectors by omega)
 have m2:(band+1) * (g.tracks * g.sectors)≤g.bands * (g.tracks * g.sectors):=Int.mul_le_mul_of_nonneg_right (by omega) (by omega)
 rw [Int.add_mul,Int.one_mul] at m2
 have:=h.n; have:=h.v.r0
 omega
def secV (p:Int × Value):List Value:=[.int .i64 p.1,p.2]
theorem secV_len (p:Int × Value):(secV p).length=2:=rfl
def medObj (g:Geo) (bs n c:Nat):Array Value:=#[.int .i64 g.random,.int .i64 g.bands,.int .i64 g.tracks,.int .i64 g.sectors,.int .i64 g.overlap,.slice (some ⟨bs,0,none⟩) n c]
def CapOk (A:Option Addr) (n c:Nat):Prop:=(A=none→c=0)∧(n≤100000→n≤c∧c≤9223372036854775807)
theorem CapOk.nil:CapOk none 0 0:=⟨fun _=>rfl,fun _=>⟨Nat.le_refl _,by omega⟩⟩
def Bys (t:TypeId) (w:World) (v:Value) (xs:List Int):Prop:=∃ A c,v= .slice A xs.length c∧RdT w t A (xs.map (Value.int .u8))∧CapOk A xs.length c
theorem Bys.kept {S:Nat→Prop} {t:TypeId} {w w':World} {v:Value} {xs:List Int} (h:Bys t w v xs) (hk:Kept S w w') (hf:Free w t S):Bys t w' v xs:=by
 obtain ⟨A,c,e,hr,hn⟩:=h
 exact ⟨A,c,e,hr.kept hk hf,hn⟩
theorem Bys.nil (t:TypeId) (w:World):Bys t w (.slice none 0 0) []:=⟨none,0,rfl,RdT.nil _ _ _,CapOk.nil⟩
theorem bys_cap {w:World} {base:Nat} {e:TypeId} {size n c:Nat} {A:Option Addr} {xs:List Value} (h:w.ownsRow base e size (.slice A n c) n xs):CapOk A n c:=by
 rcases h.2 with ⟨h1,h0⟩ | ⟨g,cap,cur,hv,hb,hg,hc,hm,_⟩
 ·injection h1 with h1 h2 h3; subst h3; subst h0; exact ⟨fun _=>rfl,fun _=>⟨Nat.le_refl _,by omega⟩⟩
 ·injection hv with h1 h2 h3; subst h3; exact ⟨(fun h=>by rw [h] at h1; cases h1),fun _=>⟨hc,(by unfold maxLen at hm; omega)⟩⟩
def Med (w:World) (m bs:Nat) (g:Geo) (L:List Sec):Prop:=
 ∃ (c:Nat) (V:List (Int × Value)),w.heap[m]?=some (.cells (medObj g bs L.length c) 162)∧
  w.ownsRow 0 196 2 (.slice (some ⟨bs,0,none⟩) L.length c) L.length (V.flatMap secV)∧V.length=L.length∧
  ∀ (i:Nat) (s:Sec),L[i]?=some s→∃ v,V[i]?=some (s.st,v)∧Bys 5 w v s.by_
def recV (s:Sec):List Value:=[.int .i64 s.st,.string (strOfNums s.by_)]
theorem obj_lt {w:World} {b:Nat} {o:Obj} (h:w.heap[b]?=some o):b < w.heap.size:=lt_of_block h
theorem own_type {w:World} {base:Nat} {e:TypeId} {size n c g:Nat} {xs:List Value} (h:w.ownsRow base e size (.slice (some ⟨g,0,none⟩) n c) n xs):∃ cur,w.heap[g]?=some (.cells cur e (0,0)):=by
 rcases h.2 with ⟨h,_⟩ | ⟨g',cap,cur,h1,_,h3,_⟩
 ·cases h
 ·injection h1 with h1; injection h1 with h1; injection h1 with h1; subst h1; exact ⟨cur,h3⟩
theorem flat_set2 {α:Type} (f:α→List Value) (hf:∀ a,(f a).length=2) (x y:Value) (b:α) (hb:f b=[x,y]):∀ (l:List α) (i:Nat),i < l.length→(l.set i b).flatMap f=((l.flatMap f).set (i * 2) x).set (i * 2+1) y
 | [],i,h=>by simp at h
 | a::l,0,_=>by
   have ha:=hf a
   match hfa:f a,ha with
   | [u,v],_=>simp [hfa,hb]
 | a::l,i+1,h=>by
   have ha:=hf a
   have ih:=flat_set2 f hf x y b hb l i (by simpa using h)
   match hfa:f a,ha with
   | [u,v],_=>
     rw [List.set_cons_succ,List.flatMap_cons,List.flatMap_cons,ih,hfa]
     have e1:(i+1) * 2=i * 2+1+1:=by omega
     rw [e1]
     simp
section
variable {w w':World} {m bs:Nat} {g:Geo} {L:List Sec} {S:Nat→Prop}
theorem Med.kept (h:Med w m bs g L) (hk:Kept S w w') (hm:¬ S m) (hb:¬ S bs) (hf:Free w 5 S):Med w' m bs g L:=by
 obtain ⟨c,V,h1,h2,h3,h4⟩:=h
 refine ⟨c,V,hk.obj h1 hm,own_kept h2 hk (fun k e=>by simp [Value.ownBlock] at e; subst e; exact hb),h3,fun i s hs=>?_⟩
 obtain ⟨v,hv,hB⟩:=h4 i s hs
 exact ⟨v,hv,hB.kept hk hf⟩
theorem Med.below0 (h:Med w m bs g L) (hk:Below w.heap.size w w'):Med w' m bs g L:=h.kept (belKept0 (S:=fun _=>False) hk) (fun h=>h) (fun h=>h) (Free.none _ _)
theorem Med.lt (h:Med w m bs g L):m < w.heap.size∧bs < w.heap.size∧m≠bs:=by
 obtain ⟨c,V,h1,h2,h3,h4⟩:=h
 obtain ⟨cur,hc⟩:=own_type h2
 exact ⟨obj_lt h1,obj_lt hc,fun e=>by subst e; rw [h1] at hc; injection hc with hc; injection hc with _ hc; revert hc; decide⟩
theorem Med.cells (h:Med w m bs g L):∃ c,w.cell? ⟨m,0,none⟩=some (.int .i64 g.random)∧w.cell? ⟨m,1,none⟩=some (.int .i64 g.bands)∧w.cell? ⟨m,2,none⟩=some (.int .i64 g.tracks)∧w.cell? ⟨m,3,none⟩=some (.int .i64 g.sectors)∧
  w.cell? ⟨m,4,none⟩=some (.int .i64 g.overlap)∧w.cell? ⟨m,5,none⟩=some (.slice (some ⟨bs,0,none⟩) L.length c)∧L.length≤c∧
  ∀ (i:Nat) (s:Sec),L[i]?=some s→w.cell? ⟨bs,i * 2,none⟩=some (.int .i64 s.st)∧∃ v,w.cell? ⟨bs,i * 2+1,none⟩=some v∧Bys 5 w v s.by_:=by
 obtain ⟨c,V,h1,h2,h3,h4⟩:=h
 refine ⟨c,by rw [cell_of_row _ _ _ _ _ _ h1]; rfl,by rw [cell_of_row _ _ _ _ _ _ h1]; rfl,by rw [cell_of_row _ _ _ _ _ _ h1]; rfl,by rw [cell_of_row _ _ _ _ _ _ h1]; rfl,by rw [cell_of_row _ _ _ _ _ _ h1]; rfl,by rw [cell_of_row _ _ _ _ _ _ h1]; rfl,?_,fun i s hs=>?_⟩
 ·rcases h2.2 with ⟨h,_⟩ | ⟨g',cap,cur,e1,_,_,e4,_⟩
  ·cases h
  ·injection e1 with _ _ e1; subst e1; exact e4
 ·obtain ⟨v,hv,hB⟩:=h4 i s hs
  have hi:i < L.length:=(List.getElem?_eq_some_iff.1 hs).1
  have e0:(V.flatMap secV)[i * 2+0]?=some (.int .i64 s.st):=by rw [flat_get _ 2 secV_len V i 0 (by omega),hv]; rfl
  have e1:(V.flatMap secV)[i * 2+1]?=some v:=by rw [flat_get _ 2 secV_len V i 1 (by omega),hv]; rfl
  exact ⟨(World.ownsRow.cellAt h2 (i * 2) (by omega)).trans e0,v,(World.ownsRow.cellAt h2 (i * 2+1) (by omega)).trans e1,hB⟩
theorem Med.free (h:Med w m bs g L) (j:Nat):w.frozen? ⟨bs,j,none⟩=false:=by
 obtain ⟨c,V,h1,h2,h3,h4⟩:=h
 exact h2.frozenAt j
theorem Med.nobytes (h:Med w m bs g L):Free w 5 (fun k=>k=bs):=by
 obtain ⟨c,V,h1,h2,h3,h4⟩:=h
 obtain ⟨cur,hc⟩:=own_type h2
 exact Free.one hc (by decide)
theorem set2_kept (w:World) (bs i:Nat) (u v:Value):Kept (fun k=>k=bs) w ((w.setCell ⟨bs,i * 2,none⟩ u).setCell ⟨bs,i * 2+1,none⟩ v):=
 ((Kept.refl (fun k=>k=bs) w).setCell (p:=⟨bs,i * 2,none⟩) (fun _=>rfl) u).setCell (p:=⟨bs,i * 2+1,none⟩) (fun _=>rfl) v
theorem Med.set (h:Med w m bs g L) {i:Nat} (hi:i < L.length) (s:Sec) (v:Value) (hv:Bys 5 w v s.by_):Med ((w.setCell ⟨bs,i * 2,none⟩ (.int .i64 s.st)).setCell ⟨bs,i * 2+1,none⟩ v) m bs g (L.set i s):=by
 have hne:=h.lt.2.2
 have hnb:=h.nobytes
 obtain ⟨c,V,h1,h2,h3,h4⟩:=h
 have hk:=set2_kept w bs i (.int .i64 s.st) v
 refine ⟨c,V.set i (s.st,v),by rw [List.length_set]; exact hk.obj h1 hne,?_,by rw [List.length_set,List.length_set,h3],fun j t hj=>?_⟩
 ·rw [List.length_set,flat_set2 secV secV_len (.int .i64 s.st) v (s.st,v) rfl V i (by omega)]
  exact (World.ownsRow.stored (World.ownsRow.stored h2 (i * 2) _).1 (i * 2+1) _).1
 ·rw [List.getElem?_set] at hj
  by_cases e:i=j
  ·subst e
   rw [if_pos rfl,if_pos hi] at hj
   injection hj with hj
   subst hj
   exact ⟨v,by rw [List.getElem?_set_self (by omega)],hv.kept hk hnb⟩
  ·rw [if_neg e] at hj
   obtain ⟨u,hu,hB⟩:=h4 j t hj
   exact ⟨u,by rw [List.getElem?_set_ne e]; exact hu,hB.kept hk hnb⟩
end
end Go.Proofs.YtggkengmlkhdiaaGreat
