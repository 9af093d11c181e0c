/-
  WHAT IS SHOWN: what Rewrite and New of wal return and leave. Conditions: the log and the disks lie in memory.
-/
import Derived.Test.YtaggiceejcegdaaGreatNc31
namespace Go.Proofs.YtaggiceejcegdaaGreat
set_option linter.unusedVariables false
open Go.RowKit
section
variable {w w' : World} {n b pw : Nat} {S : LogS} {V : Option Nat} {g : Geo} {qs : List Nat} {m : MS}
def newB (gen : Nat) (fr sec : Int) (l : List Rec) : Bool:=decide (0 ≤ fr) && decide (0 ≤ sec) && logV l && decide (((secsL l).length : Int) ≤ sec) && (decide (l.length = 0) || decide ((l.headD zRec).gen = gen))
def NewPostW (w : World) (gen : Nat) (fr sec : Int) (l : List Rec) (e : Ending) (w' : World) : Prop:=
 if newB gen fr sec l then ∃ b V,e = .returned (.tuple #[.pointer (some ⟨b,0,none⟩),.int .i64 0]) ∧ LogM w' w.heap.size b V ⟨gen,fr,sec,(secsL l).length,l⟩ ∧ Below w.heap.size w w'
 else e = .returned (.tuple #[.pointer none,.int .i64 1]) ∧ Below w.heap.size w w'
theorem newB_no {gen : Nat} {fr sec : Int} {l : List Rec} {w w' : World} (h : newB gen fr sec l = false) (hb : Below w.heap.size w w') : NewPostW w gen fr sec l (.returned (.tuple #[.pointer none,.int .i64 1])) w':=by
 unfold NewPostW; rw [h]; exact ⟨rfl,hb⟩
set_option maxRecDepth 100000 in
set_option maxHeartbeats 8000000 in
theorem wnew_any (gen : Nat) (fr sec : Int) (l : List RS) (A : Option Addr) (c : Nat) (w : World) (h : RcsR w w.heap.size A l) (ht : ∀ x ∈ l,Tiny x.r) (hok : ∀ x ∈ l,x.r.Ok) (hl : l.length ≤ 100) :
  Calls Tryz.prog 12 #[.int .u64 gen,.int .i64 fr,.int .i64 sec,.slice A l.length c] w (NewPostW w gen fr sec (l.map RS.r)):=by
 obtain ⟨i0,hi,hz0',hz1,hz2⟩:=info_parts info_rec
 have HSC:=Lib.hid (sectors_any l ht hok A c w h (by omega))
 have HH:=Lib.hid h
 have HT:=Lib.hid ht
 clear h ht hok
 go_enter Tryz.func12,Tryz.ntmps12
 go_wp2_with fail
 refine HSC.out.mono ?_
 rintro e w1 ⟨A1,c1,ss,rfl,hss,ho1,hb1⟩
 have HB1:=Lib.hid hb1
 have HNO:=Lib.hid (fun h=>newB_no (gen:=gen) (fr:=fr) (sec:=sec) (l:=l.map RS.r) h hb1)
 have HXS:=Lib.hid hss
 have hh1:=HH.out.up hb1
 have HH1:=Lib.hid hh1
 clear ho1 hb1 hss HSC hh1
 by_cases hf : fr < 0
 ·have HN : Hid (newB gen fr sec (l.map RS.r) = false):=by unfold Hid newB; rw [decide_eq_false (by omega : ¬ 0 ≤ fr)]; rfl
  go_wp2
  go_ret2
  exact HNO.out HN.out
 ·have d1 : decide (fr < 0) = false:=decide_eq_false hf
  by_cases hs : sec < 0
  ·have HN : Hid (newB gen fr sec (l.map RS.r) = false):=by unfold Hid newB; rw [decide_eq_false (by omega : ¬ 0 ≤ sec),Bool.and_false]; rfl
   go_wp2
   go_ret2
   exact HNO.out HN.out
  ·have d2 : decide (sec < 0) = false:=decide_eq_false hs
   cases hv : logV (l.map RS.r)
   ·have HN : Hid (newB gen fr sec (l.map RS.r) = false):=by unfold Hid newB; rw [hv,Bool.and_false]; rfl
    have HSE : Hid (secE (l.map RS.r) = 1):=by unfold Hid secE; rw [hv]; rfl
    rw [HSE.out]
    clear hv
    go_wp2
    go_ret2
    exact HNO.out HN.out
   ·have HSE : Hid (secE (l.map RS.r) = 0):=by unfold Hid secE; rw [hv]; rfl
    have HSL : Hid (ss.length = (secsL (l.map RS.r)).length):=by unfold Hid; have:=congrArg List.length HXS.out; rw [List.length_map] at this; rw [this]; unfold secLs; rw [hv]; rfl
    rw [HSE.out]
    by_cases hle : (ss.length : Int) ≤ sec
    ·have hN4 : newB gen fr sec (l.map RS.r) = (decide ((l.map RS.r).length = 0) || decide (((l.map RS.r).headD zRec).gen = gen)):=by
      unfold newB
      rw [hv,decide_eq_true (by omega : 0 ≤ fr),decide_eq_true (by omega : 0 ≤ sec),← HSL.out,decide_eq_true hle]; rfl
     have HN4:=Lib.hid hN4
     have HV:=Lib.hid hv
     clear hv hN4
     by_cases h0 : l.length = 0
     ·have HN : Hid (newB gen fr sec (l.map RS.r) = true):=by unfold Hid; rw [HN4.out,List.length_map,decide_eq_true h0]; rfl
      have d3 : decide ((0 : Int) < (l.length : Int)) = false:=decide_eq_false (by omega)
      have hbz:=HB1.out.size
      have hrl:=World.ownsRow_lit (base:=w.heap.size) (e:=103) (size:=5) w1 #[.int .u64 gen,.int .i64 fr,.int .i64 sec,.slice none 0 0,.int .i64 (ss.length : Int)] 1 hbz (by decide) rfl
      have H0 : Hid (∃ (A9 : Option Addr) (c9 : Nat) (ys : List RS),LogMem (w1.alloc (.cells #[.int .u64 gen,.int .i64 fr,.int .i64 sec,.slice none 0 0,.int .i64 (ss.length : Int)] 103)) w.heap.size w1.heap.size A9 c9 ys ⟨gen,fr,sec,ss.length,(l.map RS.r).take 0⟩ ∧ Below w.heap.size w (w1.alloc (.cells #[.int .u64 gen,.int .i64 fr,.int .i64 sec,.slice none 0 0,.int .i64 (ss.length : Int)] 103))):=⟨none,0,[],⟨hrl,rfl,RcsO.nil _ _⟩,HB1.out.alloc hbz _⟩
      clear hrl
      go_wp2
      go_loopw [58] (fun i wr=>∃ k : Nat,k ≤ l.length ∧ i = .int .i64 k ∧ Hid (∃ (A9 : Option Addr) (c9 : Nat) (ys : List RS),LogMem wr w.heap.size w1.heap.size A9 c9 ys ⟨gen,fr,sec,ss.length,(l.map RS.r).take k⟩ ∧ Below w.heap.size w wr)) (fun i _=>l.length - (intOf i).toNat)
      case atStart=>exact ⟨0,Nat.zero_le _,rfl,H0⟩
      case round=>
       obtain ⟨k,hk,rfl,HW⟩:=hrel
       obtain rfl : k = l.length:=by omega
       have HD : Hid (NewPostW w gen fr sec (l.map RS.r) (.returned (.tuple #[.pointer (some ⟨w1.heap.size,0,none⟩),.int .i64 0])) wr):=by
        obtain ⟨A9,c9,ys,hlm,hbw⟩:=HW.out
        rw [List.take_of_length_le (by simp),HSL.out] at hlm
        unfold Hid NewPostW
        rw [HN.out]
        exact ⟨w1.heap.size,_,rfl,⟨A9,c9,ys,hlm,rfl⟩,hbw⟩
       go_wp2
       go_ret2
       exact HD.out
     ·have hh2:=HH1.out
      obtain ⟨g0,o0,rfl,hg0,j0,_,_,_,_⟩:=hh2.rd.rs (show 0 < l.length by omega)
      simp only [Nat.zero_mul,Nat.add_zero] at j0
      have hhd : (l.map RS.r).headD zRec = l[0].r:=by cases l with | nil=>simp at h0 | cons x l=>rfl
      have d3 : decide ((0 : Int) < (l.length : Int)) = true:=decide_eq_true (by omega)
      clear hh2
      by_cases hg : l[0].r.gen = gen
      ·have HN : Hid (newB gen fr sec (l.map RS.r) = true):=by unfold Hid; rw [HN4.out,hhd,decide_eq_true hg,Bool.or_true]
       rw [hg] at j0
       clear hhd
       have hbz:=HB1.out.size
       have hrl:=World.ownsRow_lit (base:=w.heap.size) (e:=103) (size:=5) w1 #[.int .u64 gen,.int .i64 fr,.int .i64 sec,.slice none 0 0,.int .i64 (ss.length : Int)] 1 hbz (by decide) rfl
       have H0 : Hid (∃ (A9 : Option Addr) (c9 : Nat) (ys : List RS),LogMem (w1.alloc (.cells #[.int .u64 gen,.int .i64 fr,.int .i64 sec,.slice none 0 0,.int .i64 (ss.length : Int)] 103)) w.heap.size w1.heap.size A9 c9 ys ⟨gen,fr,sec,ss.length,(l.map RS.r).take 0⟩ ∧ Below w.heap.size w (w1.alloc (.cells #[.int .u64 gen,.int .i64 fr,.int .i64 sec,.slice none 0 0,.int .i64 (ss.length : Int)] 103))):=⟨none,0,[],⟨hrl,rfl,RcsO.nil _ _⟩,HB1.out.alloc hbz _⟩
       clear hrl
       go_wp2
       go_loopw [58] (fun i wr=>∃ k : Nat,k ≤ l.length ∧ i = .int .i64 k ∧ Hid (∃ (A9 : Option Addr) (c9 : Nat) (ys : List RS),LogMem wr w.heap.size w1.heap.size A9 c9 ys ⟨gen,fr,sec,ss.length,(l.map RS.r).take k⟩ ∧ Below w.heap.size w wr)) (fun i _=>l.length - (intOf i).toNat)
       case atStart=>exact ⟨0,Nat.zero_le _,rfl,H0⟩
       case round=>
        obtain ⟨k,hk,rfl,HW⟩:=hrel
        by_cases hlt : k < l.length
        ·obtain ⟨A9,c9,ys,hlm,hbw⟩:=HW.out
         have hyb : ys.length ≤ 100:=by rw [hlm.len]; simp; omega
         have hXW:=HH.out.up hbw
         obtain ⟨g7,o7,rA,hg7,j0',j1,j2,j3,j4⟩:=hXW.rd.rs hlt
         injection rA with rA
         injection rA with r1 r2
         subst r1
         subst r2
         clear j0
         have hxr:=hXW.each _ (List.getElem_mem hlt)
         have hbx : Below wr.heap.size wr (wr.alloc (.cells #[.int .u64 l[k].r.gen,.int .u64 l[k].r.seq,.slice l[k].A l[k].r.ws.length l[k].c,.slice l[k].D l[k].r.ms.length l[k].d,.slice l[k].N l[k].r.note.length l[k].n] 28)).drew:=((Below.refl _ _).alloc (Nat.le_refl _) _).drew
         have htk:=HT.out _ (List.getElem_mem hlt)
         have HC:=Lib.hid (copied_any l[k].r l[k].A l[k].D l[k].N l[k].c l[k].d l[k].n (wr.alloc (.cells #[.int .u64 l[k].r.gen,.int .u64 l[k].r.seq,.slice l[k].A l[k].r.ws.length l[k].c,.slice l[k].D l[k].r.ms.length l[k].d,.slice l[k].N l[k].r.note.length l[k].n] 28)).drew (hxr.up hbx) htk)
         have HE : Hid ((l.map RS.r).take (k + 1) = (l.map RS.r).take k ++ [l[k].r]):=by
          unfold Hid
          rw [List.take_succ_eq_append_getElem (by simpa using hlt)]; simp
         have PB:=(Cells5.new wr 28 (.int .u64 l[k].r.gen) (.int .u64 l[k].r.seq) (.slice l[k].A l[k].r.ws.length l[k].c) (.slice l[k].D l[k].r.ms.length l[k].d) (.slice l[k].N l[k].r.note.length l[k].n))
         have p0:=PB.c0; have p1:=PB.c1; have p2:=PB.c2; have p3:=PB.c3; have p4:=PB.c4
         have HLM:=Lib.hid hlm
         have HBX:=Lib.hid hbx
         have HBW:=Lib.hid hbw
         have hll:=(IsT.own hlm.obj).lt
         have l3:=(((Below.refl wr.heap.size wr).alloc (Nat.le_refl _) (.cells #[.int .u64 l[k].r.gen,.int .u64 l[k].r.seq,.slice l[k].A l[k].r.ws.length l[k].c,.slice l[k].D l[k].r.ms.length l[k].d,.slice l[k].N l[k].r.note.length l[k].n] 28)).cell (p:=⟨w1.heap.size,3,none⟩) hll).trans hlm.cells.2.2.2.1
         generalize l[k] = x at *
         clear hXW hxr PB hbx hlm hbw HW
         go_upto_region 8 with (fail)
         go_region_law (first
          | (refine qstep_append_own_at rfl (.tmp 66) (.tmp 69) 22 rfl w.heap.size 28 i0 _ 5 88 Tryz.underlying22 hi hz0' hz1 hz2 rfl (by decide) (.slice A9 ys.length c9) ys.length (flatR ys) rfl (HLM3.out.own.own.alloc _) ⟨w3.heap.size,0,none⟩ 1 1 [.int .u64 x.r.gen,.int .u64 x.r.seq,.slice A3 x.r.ws.length c3,.slice D3 x.r.ms.length d3,.slice N3 x.r.note.length n3] rfl rfl (World.news_of_block (heap_alloc_new _ _)) (RS.one ⟨x.r,A3,c3,D3,d3,N3,n3⟩) ?d1 ?d2 ?d3 ?_
             case d1=>unfold maxLen; omega
             case d2=>omega
             case d3=>first | (simp; omega) | omega
             intro v' w9 hown hgrow hat
             obtain ⟨A10,c10,hv⟩:=own_form hown
             subst hv
             have hba : Below w3.heap.size w3 (w3.alloc (.cells #[.int .u64 x.r.gen,.int .u64 x.r.seq,.slice A3 x.r.ws.length c3,.slice D3 x.r.ms.length d3,.slice N3 x.r.note.length n3] 28)):=(Below.refl _ _).alloc (Nat.le_refl _) _
             have hg : (w3.alloc (.cells #[.int .u64 x.r.gen,.int .u64 x.r.seq,.slice A3 x.r.ws.length c3,.slice D3 x.r.ms.length d3,.slice N3 x.r.note.length n3] 28)).grownBy w9 (Value.slice A9 ys.length c9).ownBlock:=⟨hgrow.os,hgrow.tape,hgrow.output,hgrow.size,hgrow.block⟩
             obtain ⟨hpm,ho9⟩:=HLM3.out.push (x:=⟨x.r,A3,c3,D3,d3,N3,n3⟩) HO3.out hown hg
             have fz:=ho9.frozenAt 3
             have cz:=(World.ownsRow.cellAt ho9 3 (by decide)).trans (show _ = some _ from rfl)
             have HFIN : Hid (∃ (A9' : Option Addr) (c9' : Nat) (ys' : List RS),LogMem (w9.setCell ⟨w1.heap.size,3,none⟩ (.slice A10 (ys.length + 1) c10)) w.heap.size w1.heap.size A9' c9' ys' ⟨gen,fr,sec,ss.length,(l.map RS.r).take (k + 1)⟩ ∧ Below w.heap.size w (w9.setCell ⟨w1.heap.size,3,none⟩ (.slice A10 (ys.length + 1) c10))):=by
              rw [HE.out]
              refine ⟨A10,c10,_,hpm,?_⟩
              have h1:=HBW3.out.trans (hba.mono HBW3.out.size)
              exact (h1.grown hg (Nat.le_trans HBW3.out.size hba.size) (fun k hk=>own_low (HLM3.out.own.own) hk)).setCell (p:=⟨w1.heap.size,3,none⟩) hbz _
             clear hown hgrow hat hba hg hpm ho9)
          | (go_simp
             go_at_call 48
             refine HC.out.mono ?_
             rintro e w3 ⟨A3,c3,D3,d3,N3,n3,rfl,ho3,hb3⟩
             have HO3:=Lib.hid ho3
             have HB3:=Lib.hid (HBX.out.trans (hb3.mono HBX.out.size))
             have HBW3:=Lib.hid (HBW.out.trans (HB3.out.mono HBW.out.size))
             have HLM3:=Lib.hid (HLM.out.kept (belKept0 (S:=fun _=>False) HB3.out) (fun h=>h) (fun _ _ h=>h) (Free.none _ _) (Free.none _ _) (Free.none _ _))
             have l3':=HLM3.out.cells.2.2.2.1
             have l3a:=((((Below.refl w3.heap.size w3).alloc (Nat.le_refl _) (.cells #[.int .u64 x.r.gen,.int .u64 x.r.seq,.slice A3 x.r.ws.length c3,.slice D3 x.r.ms.length d3,.slice N3 x.r.note.length n3] 28)).cell (p:=⟨w1.heap.size,3,none⟩) (IsT.own HLM3.out.obj).lt)).trans l3'
             have hzz3 : w.heap.size ≤ w3.heap.size:=HBW3.out.size
             clear ho3 hb3))
         all_goals
          go_wp2
          go_roundw
          case rel=>exact ⟨k + 1,hlt,by go_num,HFIN.out⟩
          case measure=>simp [intOf]; omega
        ·obtain rfl : k = l.length:=by omega
         have HD : Hid (NewPostW w gen fr sec (l.map RS.r) (.returned (.tuple #[.pointer (some ⟨w1.heap.size,0,none⟩),.int .i64 0])) wr):=by
          obtain ⟨A9,c9,ys,hlm,hbw⟩:=HW.out
          rw [List.take_of_length_le (by simp),HSL.out] at hlm
          unfold Hid NewPostW
          rw [HN.out]
          exact ⟨w1.heap.size,_,rfl,⟨A9,c9,ys,hlm,rfl⟩,hbw⟩
         go_wp2
         go_ret2
         exact HD.out
      ·have HN : Hid (newB gen fr sec (l.map RS.r) = false):=by unfold Hid; rw [HN4.out,hhd,decide_eq_false hg,List.length_map,decide_eq_false h0]; rfl
       have e9 : (((l[0].r.gen : Nat) : Int) != (gen : Int)) = true:=by simpa using fun h=>hg (by omega)
       clear hhd
       go_wp2
       go_ret2
       exact HNO.out HN.out
    ·have HN : Hid (newB gen fr sec (l.map RS.r) = false):=by unfold Hid newB; rw [← HSL.out,decide_eq_false hle,Bool.and_false]; rfl
     clear hv
     go_wp2
     go_ret2
     exact HNO.out HN.out
end
end Go.Proofs.YtaggiceejcegdaaGreat
