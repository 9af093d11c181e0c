/-
  WHAT IS SHOWN: what slices.Clone of pieces and of moves, and copied of wal return. what all of wal returns and leaves: sectors are written to several disks. the log of wal in memory; what its numbered, Used, Next and Fits return. what Records and Rewrite of wal return. what Append of wal returns and leaves. Conditions: as each theorem names them.
-/
import Derived.Test.YtaggiceejcegdaaGreatNc07
import Derived.Test.YtaggiceejcegdaaGreatNc09
import Derived.Deep.DeepCutAuto
import Derived.Test.YtaggiceejcegdaaGreatNc06
import Derived.Test.YtaggiceejcegdaaGreatNc15
import Derived.Test.YtaggiceejcegdaaGreatNc30
import Derived.Maps.AppendAt
namespace Go.Proofs.YtaggiceejcegdaaGreat
set_option linter.unusedVariables false
open Go.RowKit
theorem flatW_one (l : List PW) : ∀ u ∈ flatW l,u.oneCell' = true:=fun u hu=>by
 unfold flatW at hu
 obtain ⟨x,_,hx⟩:=List.mem_flatMap.1 hu
 unfold PW.cells at hx
 simp only [List.mem_cons,List.not_mem_nil,or_false] at hx
 rcases hx with rfl | rfl | rfl | rfl | rfl | rfl | rfl | rfl | rfl | rfl | rfl <;> rfl
theorem flatM_one (l : List Mv) : ∀ u ∈ flatM l,u.oneCell' = true:=fun u hu=>by
 unfold flatM at hu
 obtain ⟨x,_,hx⟩:=List.mem_flatMap.1 hu
 unfold Mv.cells at hx
 simp only [List.mem_cons,List.not_mem_nil,or_false] at hx
 rcases hx with rfl | rfl | rfl | rfl <;> rfl
set_option maxRecDepth 100000 in
set_option maxHeartbeats 400000 in
theorem clonews_any (l : List PW) (A : Option Addr) (c : Nat) (w : World) (hr : Rd w w.heap.size A (flatW l)) (hn : l.length ≤ 1000000) :
  Calls Tryz.prog 80 #[.slice A l.length c] w fun e w'=>∃ A' c',e = .returned (.slice A' l.length c') ∧ w'.ownsRow w.heap.size 151 11 (.slice A' l.length c') l.length (flatW l) ∧ Below w.heap.size w w':=by
 obtain ⟨i0,hi,hz0,hz1,hz2⟩:=info_parts info_pw
 have hnil:=fun (w : World) a n c=>Lib.run_eql_slice_nil (P:=Tryz.prog) w 24 151 a n c 0 0 Tryz.underlying24
 cases A with
 | none=>
   have hx:=hr.qat_none
   obtain rfl : l = []:=by cases l; rfl; simp [flatW,PW.cells] at hx
   go_enter Tryz.func80,Tryz.ntmps80
   go_wp2
   go_ret
   exact ⟨none,0,rfl,World.ownsRow_nil _ _ _ _,Below.refl _ _⟩
 | some a=>
   have hro:=World.ownsRow_lit (base:=w.heap.size) (e:=151) (size:=11) w #[] 0 (Nat.le_refl _) (by decide) rfl
   have hla:=hr.alloc (Nat.le_refl _) (.cells #[] 151)
   go_enter Tryz.func80,Tryz.ntmps80
   go_wp2_with (at_builtin; refine wpList_append_own _ rfl _ _ 24 rfl w.heap.size 151 i0 _ 11 32 Tryz.underlying24 hi hz0 hz1 hz2 rfl (by decide) _ 0 [] rfl hro a l.length c (flatW l) rfl (flatW_len l) hla.qat_add (flatW_one l) ?c1 ?c2 ?c3 ?_)
   case c1=>unfold maxLen; omega
   case c2=>omega
   intro v' w' hown hgrow hiff
   try simp only [Nat.zero_add,List.nil_append] at hown
   obtain ⟨A',c',hv⟩:=own_form hown
   subst hv
   go_wp2
   go_ret
   exact ⟨A',c',rfl,hown,((Below.refl _ _).alloc (Nat.le_refl _) _).grown hgrow (by simp) (fun k hk=>by simp [Value.ownBlock] at hk; omega)⟩
set_option maxRecDepth 100000 in
set_option maxHeartbeats 400000 in
theorem clonems_any (l : List Mv) (A : Option Addr) (c : Nat) (w : World) (hr : Rd w w.heap.size A (flatM l)) (hn : l.length ≤ 1000000) :
  Calls Tryz.prog 81 #[.slice A l.length c] w fun e w'=>∃ A' c',e = .returned (.slice A' l.length c') ∧ w'.ownsRow w.heap.size 156 4 (.slice A' l.length c') l.length (flatM l) ∧ Below w.heap.size w w':=by
 obtain ⟨i0,hi,hz0,hz1,hz2⟩:=info_parts info_mv
 have hnil:=fun (w : World) a n c=>Lib.run_eql_slice_nil (P:=Tryz.prog) w 25 156 a n c 0 0 Tryz.underlying25
 cases A with
 | none=>
   have hx:=hr.qat_none
   obtain rfl : l = []:=by cases l; rfl; simp [flatM,Mv.cells] at hx
   go_enter Tryz.func81,Tryz.ntmps81
   go_wp2
   go_ret
   exact ⟨none,0,rfl,World.ownsRow_nil _ _ _ _,Below.refl _ _⟩
 | some a=>
   have hro:=World.ownsRow_lit (base:=w.heap.size) (e:=156) (size:=4) w #[] 0 (Nat.le_refl _) (by decide) rfl
   have hla:=hr.alloc (Nat.le_refl _) (.cells #[] 156)
   go_enter Tryz.func81,Tryz.ntmps81
   go_wp2_with (at_builtin; refine wpList_append_own _ rfl _ _ 25 rfl w.heap.size 156 i0 _ 4 32 Tryz.underlying25 hi hz0 hz1 hz2 rfl (by decide) _ 0 [] rfl hro a l.length c (flatM l) rfl (flatM_len l) hla.qat_add (flatM_one l) ?c1 ?c2 ?c3 ?_)
   case c1=>unfold maxLen; omega
   case c2=>omega
   intro v' w' hown hgrow hiff
   try simp only [Nat.zero_add,List.nil_append] at hown
   obtain ⟨A',c',hv⟩:=own_form hown
   subst hv
   go_wp2
   go_ret
   exact ⟨A',c',rfl,hown,((Below.refl _ _).alloc (Nat.le_refl _) _).grown hgrow (by simp) (fun k hk=>by simp [Value.ownBlock] at hk; omega)⟩
def CopyPost (w : World) (r : Rec) (e : Ending) (w' : World) : Prop:=∃ (A : Option Addr) (c : Nat) (D : Option Addr) (d : Nat) (N : Option Addr) (n : Nat),e = .returned (.agg #[.int .u64 r.gen,.int .u64 r.seq,.slice A r.ws.length c,.slice D r.ms.length d,.slice N r.note.length n]) ∧ RecO w' r A c D d N n ∧ Below w.heap.size w w'
def CopyMid (w : World) (r : Rec) (wx : World) : Prop:=∃ (A : Option Addr) (c : Nat) (D : Option Addr) (d : Nat) (N : Option Addr) (n : Nat),
 wx.ownsRow w.heap.size 28 5 (.slice (some ⟨w.heap.size,0,none⟩) 1 1) 1 [.int .u64 r.gen,.int .u64 r.seq,.slice A r.ws.length c,.slice D r.ms.length d,.slice N r.note.length n] ∧
 wx.ownsRow w.heap.size 28 5 (.slice (some ⟨w.heap.size + 1,0,none⟩) 1 1) 1 [.int .u64 0,.int .u64 0,.slice none 0 0,.slice none 0 0,.slice none 0 0] ∧ RecO wx r A c D d N n ∧ Below w.heap.size w wx
theorem copy_fin {w W : World} {r : Rec} {A0 D0 N0 A D N : Option Addr} {c0 d0 n0 c d n : Nat}
  (h1 : W.ownsRow w.heap.size 28 5 (.slice (some ⟨w.heap.size,0,none⟩) 1 1) 1 [.int .u64 r.gen,.int .u64 r.seq,.slice A0 r.ws.length c0,.slice D0 r.ms.length d0,.slice N0 r.note.length n0])
  (h2 : W.ownsRow w.heap.size 28 5 (.slice (some ⟨w.heap.size + 1,0,none⟩) 1 1) 1 [.int .u64 0,.int .u64 0,.slice none 0 0,.slice none 0 0,.slice none 0 0]) (hb : Below w.heap.size w W)
  (ow : W.ownsRow 0 151 11 (.slice A r.ws.length c) r.ws.length (flatW r.ws)) (om : W.ownsRow 0 156 4 (.slice D r.ms.length d) r.ms.length (flatM r.ms)) (on_ : W.ownsRow 0 5 1 (.slice N r.note.length n) r.note.length (r.note.map (Value.int .u8))) :
  CopyMid w r (((W.setCell ⟨w.heap.size,2,none⟩ (.slice A r.ws.length c)).setCell ⟨w.heap.size,3,none⟩ (.slice D r.ms.length d)).setCell ⟨w.heap.size,4,none⟩ (.slice N r.note.length n)):=by
 have s1:=(World.ownsRow.stored h1 2 (.slice A r.ws.length c)).1
 have s2:=(World.ownsRow.stored s1 3 (.slice D r.ms.length d)).1
 have s3:=(World.ownsRow.stored s2 4 (.slice N r.note.length n)).1
 have hk : Kept (fun k=>k = w.heap.size) W (((W.setCell ⟨w.heap.size,2,none⟩ (.slice A r.ws.length c)).setCell ⟨w.heap.size,3,none⟩ (.slice D r.ms.length d)).setCell ⟨w.heap.size,4,none⟩ (.slice N r.note.length n)):=
  (((Kept.refl (fun k=>k = w.heap.size) W).setCell (p:=⟨w.heap.size,2,none⟩) (fun _=>rfl) _).setCell (p:=⟨w.heap.size,3,none⟩) (fun _=>rfl) _).setCell (p:=⟨w.heap.size,4,none⟩) (fun _=>rfl) _
 obtain ⟨cur,hcur⟩:=qown_type h1
 have hb3 : Below w.heap.size w (((W.setCell ⟨w.heap.size,2,none⟩ (.slice A r.ws.length c)).setCell ⟨w.heap.size,3,none⟩ (.slice D r.ms.length d)).setCell ⟨w.heap.size,4,none⟩ (.slice N r.note.length n)):=
  ((hb.setCell (Nat.le_refl _) _).setCell (Nat.le_refl _) _).setCell (Nat.le_refl _) _
 exact ⟨A,c,D,d,N,n,s3,own_kept h2 hk (fun k e=>by simp [Value.ownBlock] at e; subst e; show ¬ (w.heap.size + 1 = w.heap.size); omega),
  ⟨own_kept ow hk (own_ne ow hcur (by decide)),own_kept om hk (own_ne om hcur (by decide)),(RdT.of_own on_).kept hk (free4 hcur (by decide))⟩,hb3⟩
set_option maxRecDepth 100000 in
set_option maxHeartbeats 4000000 in
theorem copied_any (r : Rec) (A D N : Option Addr) (c d n : Nat) (w : World) (h : RecR w w.heap.size r A c D d N n) (ht : Tiny r) :
  Calls Tryz.prog 48 #[.agg #[.int .u64 r.gen,.int .u64 r.seq,.slice A r.ws.length c,.slice D r.ms.length d,.slice N r.note.length n]] w (CopyPost w r):=by
 have HW:=Lib.hid (fun W (hW : Below w.heap.size w W)=>clonews_any r.ws A c W ((h.ws.below hW (Nat.le_refl _)).more hW.size) ht.ws)
 have HM:=Lib.hid (fun W (hW : Below w.heap.size w W)=>clonems_any r.ms D d W ((h.ms.below hW (Nat.le_refl _)).more hW.size) ht.ms)
 have HN:=Lib.hid (fun W (hW : Below w.heap.size w W)=>cloneo_any r.note N n W ((h.note.below hW (Nat.le_refl _)).more hW.size) ht.note)
 clear h ht
 have hbW : Below w.heap.size w (((w.alloc (.cells #[.int .u64 r.gen,.int .u64 r.seq,.slice A r.ws.length c,.slice D r.ms.length d,.slice N r.note.length n] 28)).alloc (.cells #[.int .u64 0,.int .u64 0,.slice none 0 0,.slice none 0 0,.slice none 0 0] 28)).drew):=(((Below.refl _ _).alloc (Nat.le_refl _) _).alloc (by simp) _).drew
 have hz0 : (((w.alloc (.cells #[.int .u64 r.gen,.int .u64 r.seq,.slice A r.ws.length c,.slice D r.ms.length d,.slice N r.note.length n] 28)).alloc (.cells #[.int .u64 0,.int .u64 0,.slice none 0 0,.slice none 0 0,.slice none 0 0] 28)).drew).heap.size = w.heap.size + 2:=by simp
 have HR : Hid (∀ W,Below (w.heap.size + 2) (((w.alloc (.cells #[.int .u64 r.gen,.int .u64 r.seq,.slice A r.ws.length c,.slice D r.ms.length d,.slice N r.note.length n] 28)).alloc (.cells #[.int .u64 0,.int .u64 0,.slice none 0 0,.slice none 0 0,.slice none 0 0] 28)).drew) W → (W.ownsRow w.heap.size 28 5 (.slice (some ⟨w.heap.size,0,none⟩) 1 1) 1 [.int .u64 r.gen,.int .u64 r.seq,.slice A r.ws.length c,.slice D r.ms.length d,.slice N r.note.length n] ∧
   W.ownsRow w.heap.size 28 5 (.slice (some ⟨w.heap.size + 1,0,none⟩) 1 1) 1 [.int .u64 0,.int .u64 0,.slice none 0 0,.slice none 0 0,.slice none 0 0]) ∧ Below w.heap.size w W):=by
  unfold Hid
  intro W hW
  have o1:=World.ownsRow_lit (base:=w.heap.size) (e:=28) (size:=5) w #[.int .u64 r.gen,.int .u64 r.seq,.slice A r.ws.length c,.slice D r.ms.length d,.slice N r.note.length n] 1 (Nat.le_refl _) (by decide) rfl
  have o2:=World.ownsRow_lit (base:=w.heap.size) (e:=28) (size:=5) (w.alloc (.cells #[.int .u64 r.gen,.int .u64 r.seq,.slice A r.ws.length c,.slice D r.ms.length d,.slice N r.note.length n] 28)) #[.int .u64 0,.int .u64 0,.slice none 0 0,.slice none 0 0,.slice none 0 0] 1 (by simp) (by decide) rfl
  rw [World.size_alloc] at o2
  have hW' : Kept (fun i=>w.heap.size + 2 ≤ i) (((w.alloc (.cells #[.int .u64 r.gen,.int .u64 r.seq,.slice A r.ws.length c,.slice D r.ms.length d,.slice N r.note.length n] 28)).alloc (.cells #[.int .u64 0,.int .u64 0,.slice none 0 0,.slice none 0 0,.slice none 0 0] 28)).drew) W:=belKept hW
  refine ⟨⟨?_,?_⟩,hbW.trans (hW.mono (by omega))⟩
  ·exact own_kept (w:=(((w.alloc (.cells #[.int .u64 r.gen,.int .u64 r.seq,.slice A r.ws.length c,.slice D r.ms.length d,.slice N r.note.length n] 28)).alloc (.cells #[.int .u64 0,.int .u64 0,.slice none 0 0,.slice none 0 0,.slice none 0 0] 28)).drew)) (own_kept o1 (belKept0 (S:=fun _=>False) (((Below.refl _ _).alloc (Nat.le_refl _) _).drew)) (fun _ _ h=>h)) hW' (fun k e=>by simp [Value.ownBlock] at e; subst e; show ¬ (w.heap.size + 2 ≤ w.heap.size); omega)
  ·exact own_kept (w:=(((w.alloc (.cells #[.int .u64 r.gen,.int .u64 r.seq,.slice A r.ws.length c,.slice D r.ms.length d,.slice N r.note.length n] 28)).alloc (.cells #[.int .u64 0,.int .u64 0,.slice none 0 0,.slice none 0 0,.slice none 0 0] 28)).drew)) (own_kept o2 (belKept0 (S:=fun _=>False) ((Below.refl _ _).drew)) (fun _ _ h=>h)) hW' (fun k e=>by simp [Value.ownBlock] at e; subst e; show ¬ (w.heap.size + 2 ≤ w.heap.size + 1); omega)
 have HRC : Hid (∀ W,Below (w.heap.size + 2) (((w.alloc (.cells #[.int .u64 r.gen,.int .u64 r.seq,.slice A r.ws.length c,.slice D r.ms.length d,.slice N r.note.length n] 28)).alloc (.cells #[.int .u64 0,.int .u64 0,.slice none 0 0,.slice none 0 0,.slice none 0 0] 28)).drew) W → (W.cell? ⟨w.heap.size,2,none⟩ = some (.slice A r.ws.length c) ∧ W.cell? ⟨w.heap.size,3,none⟩ = some (.slice D r.ms.length d) ∧ W.cell? ⟨w.heap.size,4,none⟩ = some (.slice N r.note.length n)) ∧
   W.frozen? ⟨w.heap.size,2,none⟩ = false ∧ W.frozen? ⟨w.heap.size,3,none⟩ = false ∧ W.frozen? ⟨w.heap.size,4,none⟩ = false):=by
  unfold Hid
  intro W hW
  obtain ⟨⟨o1,_⟩,_⟩:=HR.out W hW
  exact ⟨⟨(World.ownsRow.cellAt o1 2 (by decide)).trans rfl,(World.ownsRow.cellAt o1 3 (by decide)).trans rfl,(World.ownsRow.cellAt o1 4 (by decide)).trans rfl⟩,o1.frozenAt 2,o1.frozenAt 3,o1.frozenAt 4⟩
 obtain ⟨⟨p2,p3,p4⟩,_⟩:=HRC.out _ (Below.refl _ _)
 have hb : Below (w.heap.size + 2) (((w.alloc (.cells #[.int .u64 r.gen,.int .u64 r.seq,.slice A r.ws.length c,.slice D r.ms.length d,.slice N r.note.length n] 28)).alloc (.cells #[.int .u64 0,.int .u64 0,.slice none 0 0,.slice none 0 0,.slice none 0 0] 28)).drew) (((w.alloc (.cells #[.int .u64 r.gen,.int .u64 r.seq,.slice A r.ws.length c,.slice D r.ms.length d,.slice N r.note.length n] 28)).alloc (.cells #[.int .u64 0,.int .u64 0,.slice none 0 0,.slice none 0 0,.slice none 0 0] 28)).drew):=Below.refl _ _
 have hzz : ∀ W,Below (w.heap.size + 2) (((w.alloc (.cells #[.int .u64 r.gen,.int .u64 r.seq,.slice A r.ws.length c,.slice D r.ms.length d,.slice N r.note.length n] 28)).alloc (.cells #[.int .u64 0,.int .u64 0,.slice none 0 0,.slice none 0 0,.slice none 0 0] 28)).drew) W → w.heap.size + 2 ≤ W.heap.size:=fun W h=>by have:=h.size; omega
 have HRB:=Lib.hid (fun W (h : Below (w.heap.size + 2) (((w.alloc (.cells #[.int .u64 r.gen,.int .u64 r.seq,.slice A r.ws.length c,.slice D r.ms.length d,.slice N r.note.length n] 28)).alloc (.cells #[.int .u64 0,.int .u64 0,.slice none 0 0,.slice none 0 0,.slice none 0 0] 28)).drew) W)=>(HR.out W h).2)
 go_enter Tryz.func48,Tryz.ntmps48
 go_upto_region 1 with (fail)
 go_cut [] from 3 to 14 (fun wx=>Hid (CopyMid w r wx))
 case first=>
  go_region_law (first
    | (go_simp
       go_at_call 80
       refine (HW.out _ (HRB.out _ hb)).mono ?_
       rintro e w1 ⟨A1,c1,rfl,ho,hbn⟩
       replace hb:=hb.trans (hbn.mono (hzz _ hb))
       clear p2 p3 p4
       obtain ⟨⟨p2,p3,p4⟩,f2,f3,f4⟩:=HRC.out _ hb
       have HO1:=Lib.hid (own_mono ho (Nat.zero_le _))
       try replace HO2:=Lib.hid (own_kept HO2.out (belKept0 (S:=fun _=>False) hbn) (fun _ _ h=>h))
       try replace HO3:=Lib.hid (own_kept HO3.out (belKept0 (S:=fun _=>False) hbn) (fun _ _ h=>h))
       clear ho hbn)
    | (go_simp
       go_at_call 81
       refine (HM.out _ (HRB.out _ hb)).mono ?_
       rintro e w2 ⟨A2,c2,rfl,ho,hbn⟩
       replace hb:=hb.trans (hbn.mono (hzz _ hb))
       clear p2 p3 p4
       obtain ⟨⟨p2,p3,p4⟩,f2,f3,f4⟩:=HRC.out _ hb
       have HO2:=Lib.hid (own_mono ho (Nat.zero_le _))
       try replace HO1:=Lib.hid (own_kept HO1.out (belKept0 (S:=fun _=>False) hbn) (fun _ _ h=>h))
       try replace HO3:=Lib.hid (own_kept HO3.out (belKept0 (S:=fun _=>False) hbn) (fun _ _ h=>h))
       clear ho hbn)
    | (go_simp
       go_at_call 82
       refine (HN.out _ (HRB.out _ hb)).mono ?_
       rintro e w3 ⟨A3,c3,rfl,ho,hbn⟩
       replace hb:=hb.trans (hbn.mono (hzz _ hb))
       clear p2 p3 p4
       obtain ⟨⟨p2,p3,p4⟩,f2,f3,f4⟩:=HRC.out _ hb
       have HO3:=Lib.hid (own_mono ho (Nat.zero_le _))
       try replace HO1:=Lib.hid (own_kept HO1.out (belKept0 (S:=fun _=>False) hbn) (fun _ _ h=>h))
       try replace HO2:=Lib.hid (own_kept HO2.out (belKept0 (S:=fun _=>False) hbn) (fun _ _ h=>h))
       clear ho hbn))
  all_goals
   go_wp2_with fail
   go_meet
   exact copy_fin (HR.out _ hb).1.1 (HR.out _ hb).1.2 (HR.out _ hb).2 HO1.out HO2.out HO3.out
 case rest=>
  obtain ⟨A1,c1,D1,d1,N1,n1,o1,o2,hr,hbx⟩:=hcut.out
  have p0:=(World.ownsRow.cellAt o1 0 (by decide)).trans (show _ = some _ from rfl)
  have p1:=(World.ownsRow.cellAt o1 1 (by decide)).trans (show _ = some _ from rfl)
  have p2:=(World.ownsRow.cellAt o1 2 (by decide)).trans (show _ = some _ from rfl)
  have p3:=(World.ownsRow.cellAt o1 3 (by decide)).trans (show _ = some _ from rfl)
  have p4:=(World.ownsRow.cellAt o1 4 (by decide)).trans (show _ = some _ from rfl)
  have q0:=(World.ownsRow.cellAt o2 0 (by decide)).trans (show _ = some _ from rfl)
  have q1:=(World.ownsRow.cellAt o2 1 (by decide)).trans (show _ = some _ from rfl)
  have q2:=(World.ownsRow.cellAt o2 2 (by decide)).trans (show _ = some _ from rfl)
  have q3:=(World.ownsRow.cellAt o2 3 (by decide)).trans (show _ = some _ from rfl)
  have q4:=(World.ownsRow.cellAt o2 4 (by decide)).trans (show _ = some _ from rfl)
  have f0:=o2.frozenAt 0
  have f1:=o2.frozenAt 1
  have f2:=o2.frozenAt 2
  have f3:=o2.frozenAt 3
  have f4:=o2.frozenAt 4
  have hk : Kept (fun k=>k = w.heap.size + 1) wc (((((wc.setCell ⟨w.heap.size + 1,0,none⟩ (.int .u64 r.gen)).setCell ⟨w.heap.size + 1,1,none⟩ (.int .u64 r.seq)).setCell ⟨w.heap.size + 1,2,none⟩ (.slice A1 r.ws.length c1)).setCell ⟨w.heap.size + 1,3,none⟩ (.slice D1 r.ms.length d1)).setCell ⟨w.heap.size + 1,4,none⟩ (.slice N1 r.note.length n1)):=
   (((((Kept.refl (fun k=>k = w.heap.size + 1) wc).setCell (p:=⟨w.heap.size + 1,0,none⟩) (fun _=>rfl) _).setCell (p:=⟨w.heap.size + 1,1,none⟩) (fun _=>rfl) _).setCell (p:=⟨w.heap.size + 1,2,none⟩) (fun _=>rfl) _).setCell (p:=⟨w.heap.size + 1,3,none⟩) (fun _=>rfl) _).setCell (p:=⟨w.heap.size + 1,4,none⟩) (fun _=>rfl) _
  obtain ⟨cur,hcur⟩:=qown_type o2
  have HM : Hid (RecO (((((wc.setCell ⟨w.heap.size + 1,0,none⟩ (.int .u64 r.gen)).setCell ⟨w.heap.size + 1,1,none⟩ (.int .u64 r.seq)).setCell ⟨w.heap.size + 1,2,none⟩ (.slice A1 r.ws.length c1)).setCell ⟨w.heap.size + 1,3,none⟩ (.slice D1 r.ms.length d1)).setCell ⟨w.heap.size + 1,4,none⟩ (.slice N1 r.note.length n1)) r A1 c1 D1 d1 N1 n1 ∧
    Below w.heap.size w (((((wc.setCell ⟨w.heap.size + 1,0,none⟩ (.int .u64 r.gen)).setCell ⟨w.heap.size + 1,1,none⟩ (.int .u64 r.seq)).setCell ⟨w.heap.size + 1,2,none⟩ (.slice A1 r.ws.length c1)).setCell ⟨w.heap.size + 1,3,none⟩ (.slice D1 r.ms.length d1)).setCell ⟨w.heap.size + 1,4,none⟩ (.slice N1 r.note.length n1))):=
   ⟨hr.kept hk hcur,((((hbx.setCell (p:=⟨w.heap.size + 1,0,none⟩) (Nat.le_succ _) _).setCell (p:=⟨w.heap.size + 1,1,none⟩) (Nat.le_succ _) _).setCell (p:=⟨w.heap.size + 1,2,none⟩) (Nat.le_succ _) _).setCell (p:=⟨w.heap.size + 1,3,none⟩) (Nat.le_succ _) _).setCell (p:=⟨w.heap.size + 1,4,none⟩) (Nat.le_succ _) _⟩
  clear hcut o1 o2 hr hbx hk hcur
  go_wp2
  exact bodyPost_ret (v:=.agg #[.int .u64 r.gen,.int .u64 r.seq,.slice A1 r.ws.length c1,.slice D1 r.ms.length d1,.slice N1 r.note.length n1]) (by simp [results,Tryz.results48,go_sem, *]) rfl ⟨A1,c1,D1,d1,N1,n1,rfl,HM.out.1,HM.out.2⟩
end Go.Proofs.YtaggiceejcegdaaGreat
namespace Go.Proofs.YtaggiceejcegdaaGreat
set_option linter.unusedVariables false
open Go.RowKit
def ptrs (qs : List Nat) (no : Nat → Bool) : List Value:=(List.range qs.length).map fun i=>.pointer (if no i then none else some ⟨qs.getD i 0,0,none⟩)
theorem ptrs_get {qs : List Nat} {no : Nat → Bool} {i q : Nat} (h : qs[i]? = some q) : (ptrs qs no)[i]? = some (.pointer (if no i then none else some ⟨q,0,none⟩)):=by
 have hi:=(List.getElem?_eq_some_iff.1 h).1
 unfold ptrs
 rw [List.getElem?_map,List.getElem?_range hi]
 simp [List.getD,h]
theorem own_isT {w : World} {base size n c g : Nat} {t : TypeId} {xs : List Value} (h : w.ownsRow base t size (.slice (some ⟨g,0,none⟩) n c) n xs) (hn : 0 < n) : IsT t w g:=IsT.own h
def errsL (n : Nat) (es : List Int) : List Value:=(es ++ List.replicate (n - es.length) 0).map (Value.int .i64)
theorem errsL_len {n : Nat} {es : List Int} (h : es.length ≤ n) : (errsL n es).length = n:=by simp [errsL]; omega
theorem errsL_set {n : Nat} {es : List Int} {x : Int} (h : es.length < n) : (errsL n es).set es.length (.int .i64 x) = errsL n (es ++ [x]):=by
 unfold errsL
 obtain ⟨m,hm⟩ : ∃ m,n - es.length = m + 1:=⟨n - es.length - 1,by omega⟩
 have h2 : n - (es ++ [x]).length = m:=by simp; omega
 rw [hm,h2,List.replicate_succ]
 simp
theorem errsL_zero {n : Nat} {es : List Int} (h : es.length < n) : errsL n es = errsL n (es ++ [0]):=by
 unfold errsL
 obtain ⟨m,hm⟩ : ∃ m,n - es.length = m + 1:=⟨n - es.length - 1,by omega⟩
 have h2 : n - (es ++ [0]).length = m:=by simp; omega
 rw [hm,h2,List.replicate_succ]
 simp
theorem errsL_all {n : Nat} {es : List Int} (h : es.length = n) : errsL n es = es.map (Value.int .i64):=by
 unfold errsL; rw [h,Nat.sub_self]; simp
theorem KeptT.wideN {ts : List TypeId} {B : Bd} {n : Nat} {w w' : World} (h : KeptT ts B w w') (hB : B.n = n) : KeptT ts (Bd.of n) w w':=h.wider (fun k hk=>⟨by rw [← hB]; exact hk.1,fun h=>h⟩)
theorem info_err : (Tryz.prog.info? 41).map (fun i=>(i.zero,i.size,i.bytes)) = some (some (.int .i64 0),1,8):=by kernel_rfl
theorem made_one (z : Value) (n : Nat) : (madeCells #[z] n).toList = List.replicate n z:=by
 apply List.ext_getElem?
 intro j
 by_cases hj : j < n
 ·rw [List.getElem?_replicate,if_pos hj]
  unfold madeCells
  simp [hj,Nat.mod_one]
 ·rw [List.getElem?_replicate,if_neg hj,List.getElem?_eq_none (by rw [Array.length_toList,size_madeCells]; omega)]
section
variable {w w' : World} {n q pw : Nat} {g : Geo} {qs : List Nat} {m : MS}
def AllPost (w : World) (n pw : Nat) (g : Geo) (qs : List Nat) (x : MS × List Int) (e : Ending) (w' : World) : Prop:=
 ∃ A c,e = .returned (.slice A x.2.length c) ∧ w'.ownsRow w.heap.size 41 1 (.slice A x.2.length c) x.2.length (x.2.map (Value.int .i64)) ∧ ManyM w' n pw g qs x.1 ∧ KeptT DAT (Bd.of n) w w'
set_option maxRecDepth 100000 in
set_option maxHeartbeats 4000000 in
theorem wall_any {key at_ : Int} {no : Nat → Bool} {ss : List Sl} {A PA : Option Addr} {c pc N : Nat} (h : ManyM w n pw g qs m) (hok : m.Ok N) (hN : N + 9 * ss.length ≤ 99000) (ha0 : -1000000 ≤ at_) (ha1 : at_ ≤ 1000000)
  (hp : ∀ W,KeptT DAT (Bd.of n) w W → Rd W W.heap.size PA (ptrs qs no)) (hq : qs.length ≤ 1000)
  (hr : ∀ W,KeptT DAT (Bd.of n) w W → SlsR W W.heap.size A ss) (hx : ∀ s ∈ ss,s.xs.length ≤ 100000 ∧ s.xs.length ≤ s.c) (hl : ss.length ≤ 100000) :
  Calls Tryz.prog 51 #[.slice PA qs.length pc,.int .u64 key,.int .i64 at_,.slice A ss.length c] w (AllPost w n pw g qs (allD g key at_ (ss.map Sl.xs) no m)):=by
 obtain ⟨i0,hi,hz0,hz1,hz2⟩:=info_parts info_err
 have hlen:=h.len
 have hmk : ∀ W : World,(Instr.makeSlice 44 (.int .i64 (qs.length : Int)) (.int .i64 (qs.length : Int))).run Tryz.prog W = .ok (.slice (some ⟨W.heap.size,0,none⟩) qs.length qs.length) (W.alloc (.cells (madeCells _ (qs.length * 1)) 41)):=fun W=>by
  have:=run_make (P:=Tryz.prog) W 44 41 i0 _ Tryz.underlying44 hi hz0 .i64 .i64 (qs.length : Int) (qs.length : Int) (by omega) (Int.le_refl _) (by rw [hz2]; omega) (by omega)
  rw [Int.toNat_natCast,hz1] at this
  exact this
 have hrow:=World.ownsRow_lit (base:=w.heap.size) (e:=41) (size:=1) w (madeCells #[.int .i64 0] qs.length) qs.length (Nat.le_refl _) (by unfold maxLen; omega) (by rw [size_madeCells]; omega)
 rw [made_one] at hrow
 have hb0 : Below w.heap.size w (w.alloc (.cells (madeCells #[.int .i64 0] qs.length) 41)):=(Below.refl _ _).alloc (Nat.le_refl _) _
 have H0 : Hid ((w.alloc (.cells (madeCells #[.int .i64 0] qs.length) 41)).ownsRow w.heap.size 41 1 (.slice (some ⟨w.heap.size,0,none⟩) qs.length qs.length) qs.length (errsL qs.length (allK g key at_ (ss.map Sl.xs) no m 0).2) ∧
   ManyM (w.alloc (.cells (madeCells #[.int .i64 0] qs.length) 41)) n pw g qs (allK g key at_ (ss.map Sl.xs) no m 0).1 ∧ KeptT DAT (Bd.of n) w (w.alloc (.cells (madeCells #[.int .i64 0] qs.length) 41))):=by
  refine ⟨?_,h.below0 hb0,KeptT.bel hb0⟩
  have e : errsL qs.length (allK g key at_ (ss.map Sl.xs) no m 0).2 = List.replicate qs.length (.int .i64 0):=by simp [errsL,allK]
  rw [e]; exact hrow
 have HP:=Lib.hid hp
 have HR:=Lib.hid hr
 have HX:=Lib.hid hx
 have HO:=Lib.hid hok
 have HL:=Lib.hid hlen
 have HKL:=Lib.hid (fun k hk=>allK_len g key at_ (ss.map Sl.xs) no m k hk)
 have HKR:=Lib.hid (fun k=>allK_rest g key at_ (ss.map Sl.xs) no m k k (Nat.le_refl _))
 have HKO:=Lib.hid (fun k=>allK_ok (g:=g) (key:=key) (a:=at_) (ls:=ss.map Sl.xs) (no:=no) hok k)
 clear h hp hr hx hok hz0 hz1 hz2 hi hlen hrow hb0
 go_enter Tryz.func51,Tryz.ntmps51
 go_wp2
 go_loopw [17] (fun i wr=>∃ k : Nat,k ≤ qs.length ∧ i = .int .i64 k ∧ Hid (wr.ownsRow w.heap.size 41 1 (.slice (some ⟨w.heap.size,0,none⟩) qs.length qs.length) qs.length (errsL qs.length (allK g key at_ (ss.map Sl.xs) no m k).2) ∧
   ManyM wr n pw g qs (allK g key at_ (ss.map Sl.xs) no m k).1 ∧ KeptT DAT (Bd.of n) w wr)) (fun i _=>qs.length - (intOf i).toNat)
 case atStart=>exact ⟨0,Nat.zero_le _,rfl,H0⟩
 case round=>
  obtain ⟨k,hk,rfl,HW⟩:=hrel
  by_cases hlt : k < qs.length
  ·obtain ⟨q,hq⟩ : ∃ q,qs[k]? = some q:=⟨qs[k],List.getElem?_eq_getElem hlt⟩
   have hkd : k < m.ds.length:=by rw [← HL.out]; exact hlt
   obtain ⟨v,hv⟩ : ∃ v,(allK g key at_ (ss.map Sl.xs) no m k).1.ds[k]? = some v:=⟨_,List.getElem?_eq_getElem (by rw [(HKL.out k (by omega)).1]; exact hkd)⟩
   have hel:=(HKL.out k (by omega)).2
   obtain ⟨g1,o1,rfl,hg1,j1⟩:=(HP.out wr HW.out.2.2) k _ (ptrs_get hq)
   have ho:=HW.out.1
   have hfz:=ho.frozenAt k
   have hidx : k < (errsL qs.length (allK g key at_ (ss.map Sl.xs) no m k).2).length:=by rw [errsL_len (by omega)]; exact hlt
   cases hno : no k
   ·rw [hno] at j1
    simp only [Bool.false_eq_true,if_false] at j1
    obtain ⟨B,hB,hd,hback⟩:=HW.out.2.1.at_ hv hq
    have hOk:=HKO.out k k v hv
    have hv':=hv
    rw [HKR.out k] at hv'
    have hO2:=(HO.out k v hv').2.2
    have hkw:=HW.out.2.2
    have HC:=Lib.hid (wwrite_any (key:=key) (c:=c) hd hOk.1 hOk.2.1 (by show v.O.length + _ ≤ _; omega) ha0 ha1 (fun W hW=>HR.out W (hkw.trans (hW.wideN hB))) HX.out hl)
    have HN : Hid (allK g key at_ (ss.map Sl.xs) no m (k + 1) = ((allK g key at_ (ss.map Sl.xs) no m k).1.put k v.F (wrD g v.F key at_ (ss.map Sl.xs) ((allK g key at_ (ss.map Sl.xs) no m k).1.dc v)).1,(allK g key at_ (ss.map Sl.xs) no m k).2 ++ [(wrD g v.F key at_ (ss.map Sl.xs) ((allK g key at_ (ss.map Sl.xs) no m k).1.dc v)).2])):=by
     unfold Hid
     rw [allK,hv]
     simp only [hno,Bool.false_eq_true,if_false]
    have HBK:=Lib.hid hback
    generalize wrD g v.F key at_ (ss.map Sl.xs) ((allK g key at_ (ss.map Sl.xs) no m k).1.dc v) = T at *
    clear hd hback hOk hv hv' hO2 ho hkw
    go_wp2_with fail
    refine HC.out.mono ?_
    rintro e w2 ⟨rfl,hd2,hk2⟩
    obtain ⟨T1,er⟩:=T
    simp only at *
    have ho2:=own_ty HW.out.1 hk2 (by unfold DAT; decide)
    have hfz2:=ho2.frozenAt k
    have hst:=(World.ownsRow.stored ho2 k (.int .i64 er)).1
    have hkk : KeptT [41] (Bd.of 0) w2 (w2.setCell ⟨w.heap.size,k,none⟩ (.int .i64 er)):=KeptT.of ((Kept.refl (fun j=>j = w.heap.size) w2).setCell (p:=⟨w.heap.size,k,none⟩) (fun _=>rfl) _) (fun j _ e=>by have e' : j = w.heap.size:=e; subst e'; exact ⟨⟨Nat.zero_le _,fun h=>h⟩,HasT.mem (own_isT ho2 (by omega)) (by simp)⟩)
    have hm2:=(HBK.out w2 T1 hd2 hk2).types hkk (by decide) (by decide) (by decide) (by decide)
    have hkw2 : KeptT DAT (Bd.of n) w (w2.setCell ⟨w.heap.size,k,none⟩ (.int .i64 er)):=Kept.trans (HW.out.2.2.trans (hk2.wideN hB)) ((Kept.refl (fun j=>j = w.heap.size) w2).setCell (p:=⟨w.heap.size,k,none⟩) (fun _=>rfl) _) (fun i hi e=>by have e' : i = w.heap.size:=e; omega)
    have HD : Hid ((w2.setCell ⟨w.heap.size,k,none⟩ (.int .i64 er)).ownsRow w.heap.size 41 1 (.slice (some ⟨w.heap.size,0,none⟩) qs.length qs.length) qs.length (errsL qs.length (allK g key at_ (ss.map Sl.xs) no m (k + 1)).2) ∧
      ManyM (w2.setCell ⟨w.heap.size,k,none⟩ (.int .i64 er)) n pw g qs (allK g key at_ (ss.map Sl.xs) no m (k + 1)).1 ∧ KeptT DAT (Bd.of n) w (w2.setCell ⟨w.heap.size,k,none⟩ (.int .i64 er))):=by
     unfold Hid
     rw [HN.out]
     refine ⟨?_,hm2,hkw2⟩
     have h9:=errsL_set (n:=qs.length) (es:=(allK g key at_ (ss.map Sl.xs) no m k).2) (x:=er) (by omega)
     rw [hel] at h9
     rw [← h9]; exact hst
    have c9:=(World.ownsRow.cellAt ho2 k (by omega))
    clear hd2 hk2 HC ho2 hst hkk hm2 hkw2 HBK HW
    go_wp2
    go_roundw
    case rel=>exact ⟨k + 1,hlt,by go_num,HD⟩
    case measure=>simp [intOf]; omega
   ·rw [hno] at j1
    simp only [if_true] at j1
    have HN : Hid (allK g key at_ (ss.map Sl.xs) no m (k + 1) = ((allK g key at_ (ss.map Sl.xs) no m k).1,(allK g key at_ (ss.map Sl.xs) no m k).2 ++ [0])):=by
     unfold Hid
     rw [allK,hv]
     simp only [hno,if_true]
    have HD : Hid (wr.ownsRow w.heap.size 41 1 (.slice (some ⟨w.heap.size,0,none⟩) qs.length qs.length) qs.length (errsL qs.length (allK g key at_ (ss.map Sl.xs) no m (k + 1)).2) ∧
      ManyM wr n pw g qs (allK g key at_ (ss.map Sl.xs) no m (k + 1)).1 ∧ KeptT DAT (Bd.of n) w wr):=by
     unfold Hid
     rw [HN.out]
     refine ⟨?_,HW.out.2.1,HW.out.2.2⟩
     rw [← errsL_zero (by omega)]; exact HW.out.1
    clear HW hv ho
    go_wp2
    go_roundw
    case rel=>exact ⟨k + 1,hlt,by go_num,HD⟩
    case measure=>simp [intOf]; omega
  ·obtain rfl : k = qs.length:=by omega
   have hel:=(HKL.out qs.length (by rw [HL.out]; exact Nat.le_refl _)).2
   have HD : Hid (AllPost w n pw g qs (allD g key at_ (ss.map Sl.xs) no m) (.returned (.slice (some ⟨w.heap.size,0,none⟩) qs.length qs.length)) wr):=by
    have e : allD g key at_ (ss.map Sl.xs) no m = allK g key at_ (ss.map Sl.xs) no m qs.length:=by unfold allD; rw [HL.out]
    unfold Hid AllPost
    rw [e,hel]
    have ho:=HW.out.1
    rw [errsL_all hel] at ho
    exact ⟨_,_,rfl,ho,HW.out.2.1,HW.out.2.2⟩
   go_wp2
   go_ret
   exact HD.out
end
end Go.Proofs.YtaggiceejcegdaaGreat
namespace Go.Proofs.YtaggiceejcegdaaGreat
set_option linter.unusedVariables false
open Go.RowKit
structure LogS where
 gen : Nat
 fr : Int
 sec : Int
 used : Int
 l : List Rec
def LogS.num (S : LogS) (r : Rec) : Rec:=⟨S.gen,S.l.length + 1,r.ws,r.ms,r.note⟩
def logObj (S : LogS) (A : Option Addr) (m c : Nat) : List Value:=[.int .u64 S.gen,.int .i64 S.fr,.int .i64 S.sec,.slice A m c,.int .i64 S.used]
structure LogMem (w : World) (n b : Nat) (A : Option Addr) (c : Nat) (xs : List RS) (S : LogS) : Prop where
 obj : w.ownsRow n 103 5 (.slice (some ⟨b,0,none⟩) 1 1) 1 (logObj S A xs.length c)
 rec_ : xs.map RS.r = S.l
 own : RcsO w n A c xs
def LogM (w : World) (n b : Nat) (V : Option Nat) (S : LogS) : Prop:=∃ A c xs,LogMem w n b A c xs S ∧ (Value.slice A xs.length c).ownBlock = V
section
variable {w w' : World} {n b : Nat} {A : Option Addr} {c : Nat} {xs : List RS} {S : LogS} {V : Option Nat}
theorem LogMem.cells (h : LogMem w n b A c xs S) : w.cell? ⟨b,0,none⟩ = some (.int .u64 S.gen) ∧ w.cell? ⟨b,1,none⟩ = some (.int .i64 S.fr) ∧ w.cell? ⟨b,2,none⟩ = some (.int .i64 S.sec) ∧ w.cell? ⟨b,3,none⟩ = some (.slice A xs.length c) ∧ w.cell? ⟨b,4,none⟩ = some (.int .i64 S.used):=
 ⟨(World.ownsRow.cellAt h.obj 0 (by decide)).trans rfl,(World.ownsRow.cellAt h.obj 1 (by decide)).trans rfl,(World.ownsRow.cellAt h.obj 2 (by decide)).trans rfl,(World.ownsRow.cellAt h.obj 3 (by decide)).trans rfl,(World.ownsRow.cellAt h.obj 4 (by decide)).trans rfl⟩
theorem LogMem.len (h : LogMem w n b A c xs S) : xs.length = S.l.length:=by rw [← h.rec_,List.length_map]
theorem LogMem.kept {T : Nat → Prop} (h : LogMem w n b A c xs S) (hk : Kept T w w') (hb : ¬ T b) (hv : ∀ k,(Value.slice A xs.length c).ownBlock = some k → ¬ T k) (h1 : Free w 151 T) (h2 : Free w 156 T) (h3 : Free w 5 T) : LogMem w' n b A c xs S:=by
 have ok : ∀ {t : TypeId} {sz m : Nat} {v : Value} {ys : List Value},Free w t T → w.ownsRow 0 t sz v m ys → w'.ownsRow 0 t sz v m ys:=fun hf ho=>own_kept ho hk (fun k e hT=>by
  rcases ho.2 with ⟨e2,_⟩ | ⟨g,cap,cur,e2,_,h4,_⟩
  ·rw [e2] at e; cases e
  ·rw [e2] at e
   obtain rfl : g = k:=by simpa [Value.ownBlock] using e
   exact hf g hT (lt_of_block h4) _ _ h4)
 exact ⟨own_kept h.obj hk (fun k e=>by simp [Value.ownBlock] at e; subst e; exact hb),h.rec_,own_kept h.own.own hk hv,fun x hx=>⟨ok h1 (h.own.each x hx).ws,ok h2 (h.own.each x hx).ms,(h.own.each x hx).note.kept hk h3⟩⟩
theorem LogM.below0 (h : LogM w n b V S) (hb : Below w.heap.size w w') : LogM w' n b V S:=by
 obtain ⟨A,c,xs,h,e⟩:=h
 exact ⟨A,c,xs,h.kept (belKept0 (S:=fun _=>False) hb) (fun h=>h) (fun _ _ h=>h) (Free.none _ _) (Free.none _ _) (Free.none _ _),e⟩
theorem LogM.types {ts : List TypeId} {B : Bd} (h : LogM w n b V S) (hk : KeptT ts B w w') (h0 : 103 ∉ ts) (h1 : 28 ∉ ts) (h2 : 151 ∉ ts) (h3 : 156 ∉ ts) (h4 : 5 ∉ ts) : LogM w' n b V S:=by
 obtain ⟨A,c,xs,h,e⟩:=h
 refine ⟨A,c,xs,h.kept hk (KeptT.no (IsT.own h.obj) h0) (fun k e hT=>?_) (KeptT.free h2) (KeptT.free h3) (KeptT.free h4),e⟩
 rcases h.own.own.2 with ⟨e2,_⟩ | ⟨g,cap,cur,e2,_,h4,_⟩
 ·rw [e2] at e; cases e
 ·rw [e2] at e
  obtain rfl : g = k:=by simpa [Value.ownBlock] using e
  exact KeptT.no (IsT.of h4) h1 hT
set_option maxRecDepth 100000 in
set_option maxHeartbeats 1000000 in
theorem wnext_any (h : LogM w n b V S) (hl : S.l.length ≤ 1000) (hg : S.gen < 2 ^ 64) : Calls Tryz.prog 25 #[.pointer (some ⟨b,0,none⟩)] w fun e w'=>e = .returned (.int .u64 (nextN S.l.length S.gen : Nat)) ∧ Below w.heap.size w w':=by
 obtain ⟨A,c,xs,h,_⟩:=h
 obtain ⟨c0,_,_,c3,_⟩:=h.cells
 have HL:=Lib.hid h.len
 have HN : Hid (∀ W,Calls Tryz.prog 65 #[.slice A xs.length c,.int .u64 S.gen] W fun e w'=>e = .returned (.int .u64 (nextN S.l.length S.gen : Nat)) ∧ w' = W):=by
  unfold Hid; intro W; have:=next_any xs.length (by rw [h.len]; omega) S.gen hg A c W; rw [h.len] at this ⊢; exact this
 clear h
 go_enter Tryz.func25,Tryz.ntmps25
 go_wp2
 go_quiet ((go_at_call 65; exact Calls.quiet_of_same (HN.out _)))
 go_wp2
 go_ret
 exact ⟨rfl,below_drewN' (Below.refl _ _) _⟩
set_option maxRecDepth 100000 in
set_option maxHeartbeats 4000000 in
theorem wnumbered_any (r : Rec) (A1 D1 N1 : Option Addr) (c1 d1 n1 : Nat) (h : LogM w n b V S) (hl : S.l.length ≤ 1000) (q : Nat) (hq : q = S.l.length + 1) :
  Calls Tryz.prog 49 #[.pointer (some ⟨b,0,none⟩),.agg #[.int .u64 r.gen,.int .u64 r.seq,.slice A1 r.ws.length c1,.slice D1 r.ms.length d1,.slice N1 r.note.length n1]] w fun e w'=>e = .returned (.agg #[.int .u64 S.gen,.int .u64 q,.slice A1 r.ws.length c1,.slice D1 r.ms.length d1,.slice N1 r.note.length n1]) ∧ Below w.heap.size w w':=by
 obtain ⟨A,c,xs,h,_⟩:=h
 obtain ⟨c0,_,_,c3,_⟩:=h.cells
 have hlen:=h.len
 have hw : IntKind.u64.wrap ((xs.length : Int) + 1) = (q : Int):=by rw [IntKind.wrap_u64]; omega
 have hw0 : IntKind.u64.wrap (xs.length : Int) = (xs.length : Int):=by rw [IntKind.wrap_u64]; omega
 clear h hlen hq
 go_enter Tryz.func49,Tryz.ntmps49
 go_wp2
 go_region_held3 (fun W=>W.cell? ⟨b,0,none⟩ = some (.int .u64 S.gen) ∧ W.cell? ⟨b,3,none⟩ = some (.slice A xs.length c))
  (first | (refine ⟨?_,?_⟩ <;> assumption) | (simp (maxDischargeDepth:=20) [World.cell?_alloc_some, *]; done))
  (fail)
 go_wp2
 exact bodyPost_ret (v:=.agg #[.int .u64 S.gen,.int .u64 q,.slice A1 r.ws.length c1,.slice D1 r.ms.length d1,.slice N1 r.note.length n1]) (by simp [results,Tryz.results49,go_sem, *]) rfl ⟨rfl,(((Below.refl _ _).alloc (Nat.le_refl _) _).alloc (by simp) _).drew⟩
end
end Go.Proofs.YtaggiceejcegdaaGreat
namespace Go.Proofs.YtaggiceejcegdaaGreat
set_option linter.unusedVariables false
open Go.RowKit
section
variable {w w' : World} {n b : Nat} {A : Option Addr} {c : Nat} {xs : List RS} {S : LogS} {V : Option Nat}
def RecsPost (w : World) (l : List Rec) (e : Ending) (w' : World) : Prop:=∃ A c ys,e = .returned (.slice A ys.length c) ∧ ys.map RS.r = l ∧ RcsO w' w.heap.size A c ys ∧ Below w.heap.size w w'
end
end Go.Proofs.YtaggiceejcegdaaGreat
namespace Go.Proofs.YtaggiceejcegdaaGreat
set_option linter.unusedVariables false
open Go.RowKit
structure LogS.Ok (S : LogS) : Prop where
 g : S.gen < 2 ^ 64
 f0 : 0 ≤ S.fr
 f1 : S.fr ≤ 1000
 u0 : 0 ≤ S.used
 u1 : S.used ≤ S.sec
 s1 : S.sec ≤ 1000
 l : S.l.length ≤ 100
 t : ∀ r ∈ S.l,Tiny r ∧ r.Ok
def appE (S : LogS) (r : Rec) : Int:=if validR (S.num r) then (if ((encR (S.num r)).length : Int) ≤ S.sec - S.used then 0 else 11) else 1
def appS (S : LogS) (r : Rec) : LogS:=if appE S r = 0 then ⟨S.gen,S.fr,S.sec,S.used + (encR (S.num r)).length,S.l ++ [S.num r]⟩ else S
def appM (g : Geo) (key : Int) (no : Nat → Bool) (S : LogS) (r : Rec) (m : MS) : MS × List Int:=if appE S r = 0 then allD g key (S.fr + S.used) (encR (S.num r)) no m else (m,[])
def LDT : List TypeId:=[216,180,182,127,120,103]
theorem dat_ldt : ∀ t,t ∈ DAT → t ∈ LDT:=by unfold DAT LDT; decide
def KeptA (n : Nat) (V : Option Nat) (w w' : World) : Prop:=Kept (fun k=>n ≤ k ∧ (HasT LDT w k ∨ V = some k)) w w'
def AppPost (w : World) (n b pw : Nat) (g : Geo) (qs : List Nat) (V : Option Nat) (S' : LogS) (x : MS × List Int) (er : Int) (e : Ending) (w' : World) : Prop:=
 ∃ A c V',e = .returned (.tuple #[.slice A x.2.length c,.int .i64 er]) ∧ w'.ownsRow w.heap.size 41 1 (.slice A x.2.length c) x.2.length (x.2.map (Value.int .i64)) ∧ (V' = V ∨ ∃ k,V' = some k ∧ w.heap.size ≤ k) ∧ LogM w' n b V' S' ∧ ManyM w' n pw g qs x.1 ∧ KeptA n V w w'
theorem box_five {w w3 : World} {v0 v1 v2 v3 v4 : Value} (u0 u1 u2 u3 u4 : Value) (h : w3.ownsRow w.heap.size 28 5 (.slice (some ⟨w.heap.size,0,none⟩) 1 1) 1 [v0,v1,v2,v3,v4]) (hb : Below w.heap.size w w3) :
  (((((w3.setCell ⟨w.heap.size,0,none⟩ u0).setCell ⟨w.heap.size,1,none⟩ u1).setCell ⟨w.heap.size,2,none⟩ u2).setCell ⟨w.heap.size,3,none⟩ u3).setCell ⟨w.heap.size,4,none⟩ u4).ownsRow w.heap.size 28 5 (.slice (some ⟨w.heap.size,0,none⟩) 1 1) 1 [u0,u1,u2,u3,u4] ∧
  Kept (fun k=>k = w.heap.size) w3 (((((w3.setCell ⟨w.heap.size,0,none⟩ u0).setCell ⟨w.heap.size,1,none⟩ u1).setCell ⟨w.heap.size,2,none⟩ u2).setCell ⟨w.heap.size,3,none⟩ u3).setCell ⟨w.heap.size,4,none⟩ u4) ∧
  Below w.heap.size w (((((w3.setCell ⟨w.heap.size,0,none⟩ u0).setCell ⟨w.heap.size,1,none⟩ u1).setCell ⟨w.heap.size,2,none⟩ u2).setCell ⟨w.heap.size,3,none⟩ u3).setCell ⟨w.heap.size,4,none⟩ u4):=by
 have s0:=(World.ownsRow.stored h 0 u0).1
 have s1:=(World.ownsRow.stored s0 1 u1).1
 have s2:=(World.ownsRow.stored s1 2 u2).1
 have s3:=(World.ownsRow.stored s2 3 u3).1
 have s4:=(World.ownsRow.stored s3 4 u4).1
 exact ⟨s4,(((((Kept.refl (fun k=>k = w.heap.size) w3).setCell (p:=⟨w.heap.size,0,none⟩) (fun _=>rfl) _).setCell (p:=⟨w.heap.size,1,none⟩) (fun _=>rfl) _).setCell (p:=⟨w.heap.size,2,none⟩) (fun _=>rfl) _).setCell (p:=⟨w.heap.size,3,none⟩) (fun _=>rfl) _).setCell (p:=⟨w.heap.size,4,none⟩) (fun _=>rfl) _,
  ((((hb.setCell (p:=⟨w.heap.size,0,none⟩) (Nat.le_refl _) _).setCell (p:=⟨w.heap.size,1,none⟩) (Nat.le_refl _) _).setCell (p:=⟨w.heap.size,2,none⟩) (Nat.le_refl _) _).setCell (p:=⟨w.heap.size,3,none⟩) (Nat.le_refl _) _).setCell (p:=⟨w.heap.size,4,none⟩) (Nat.le_refl _) _⟩
theorem qstep_append_own_at {P : Program} {w : World} {ops : Array Oper} {o : Oper} {a : Act} {K : Act → World → Prop} {Q : Exit → Act → World → Prop} {E : Prop} (hgd : o.guard = none) (s x : Operand) (t : TypeId)
  (ho : o.op = .call { callee:=.builtin .append,args:=#[s,x],argTypes:=#[t,t] })
  (base : Nat) (e : TypeId) (i : TypeInfo) (z : Value) (size bytes : Nat) (ht : P.underlying t = some (.slice e)) (hi : P.info? e = some i) (hz : i.zero = some z)
  (hsize : i.size = size) (hby : i.bytes = bytes) (hzs : z.cells.size = size) (hsz : 0 < size)
  (v : Value) (n : Nat) (xs : List Value) (hs : a.eval s = v) (hown : w.ownsRow base e size v n xs)
  (ad : Addr) (m c : Nat) (news : List Value) (hx : a.eval x = .slice (some ad) m c) (hl : news.length = m * size) (hnews : ∀ j u,news[j]? = some u → w.cell? (ad.add j) = some u) (h1 : ∀ u ∈ news,u.oneCell' = true)
  (h63 : n + m ≤ maxLen) (hbytes : (n + m) * bytes ≤ 140737488355328) (hbase : base ≤ w.heap.size)
  (h : ∀ v' w',w'.ownsRow base e size v' (n + m) (xs ++ news) → w.grownBy w' v.ownBlock → (v'.ownBlock = v.ownBlock ∨ v'.ownBlock = some w.heap.size) → K (a.put o.dst v') w') :
  if Region.wanted o (yielded ops a.tmps) = true then Oper.wp P o a w K Q else E:=by
 have hw : Region.wanted o (yielded ops a.tmps) = true:=by simp [Region.wanted,hgd]
 rw [if_pos hw]
 obtain ⟨v',w',hr,h2,h3,h4,h5⟩:=run_append_own_at (P:=P) w base t o.type e i z size bytes ht hi hz hsize hby hzs hsz v n xs hown ad m c news hl hnews h1 h63 hbytes hbase
 unfold Oper.wp execOp
 simp only [ho,resolve,invoke,builtin,Sem.run_bind,Sem.run_pure,Result.andThen_ok,List.map_toArray,List.map_cons,List.map_nil,hs,hx,hr]
 exact h v' w' h2 h3 h5
theorem grown_ty {w w' : World} {t : TypeId} {base size m : Nat} {v : Value} {xs : List Value} (hg : w.grownBy w' v.ownBlock) (ho : w.ownsRow base t size v m xs) : KeptT [t] (Bd.of 0) w w':=by
 have hk : Kept (fun k=>v.ownBlock = some k) w w':=⟨hg.os,hg.tape,hg.output,hg.size,fun k hk hS=>hg.block k hk (fun e=>hS e.symm)⟩
 refine KeptT.of hk (fun k _ e=>⟨⟨Nat.zero_le _,fun h=>h⟩,?_⟩)
 rcases ho.2 with ⟨h2,_⟩ | ⟨g,cap,cur,h2,_,h4,_⟩
 ·rw [h2] at e; cases e
 ·rw [h2] at e
  obtain rfl : g = k:=by simpa [Value.ownBlock] using e
  exact HasT.mem (IsT.of h4) (by simp)
theorem RecO.types {ts : List TypeId} {B : Bd} {w w' : World} {r : Rec} {A D N : Option Addr} {c d n : Nat} (h : RecO w r A c D d N n) (hk : KeptT ts B w w') (h2 : 151 ∉ ts) (h3 : 156 ∉ ts) (h4 : 5 ∉ ts) : RecO w' r A c D d N n:=
 ⟨own_ty h.ws hk h2,own_ty h.ms hk h3,h.note.kept hk (KeptT.free h4)⟩
theorem RcsO.types {ts : List TypeId} {B : Bd} {w w' : World} {base : Nat} {A : Option Addr} {c : Nat} {l : List RS} (h : RcsO w base A c l) (hk : KeptT ts B w w') (h1 : 28 ∉ ts) (h2 : 151 ∉ ts) (h3 : 156 ∉ ts) (h4 : 5 ∉ ts) : RcsO w' base A c l:=
 ⟨own_ty h.own hk h1,fun x hx=>(h.each x hx).types hk h2 h3 h4⟩
theorem SlsO.types {ts : List TypeId} {B : Bd} {w w' : World} {base : Nat} {A : Option Addr} {c : Nat} {l : List Sl} (h : SlsO w base A c l) (hk : KeptT ts B w w') (h1 : 26 ∉ ts) (h2 : 5 ∉ ts) : SlsO w' base A c l:=
 ⟨own_ty h.own hk h1,fun x hx=>own_ty (h.each x hx) hk h2⟩
theorem set_log {w : World} {b base : Nat} {xs : List Value} (h : w.ownsRow base 103 5 (.slice (some ⟨b,0,none⟩) 1 1) 1 xs) (j : Nat) (v : Value) : KeptT [103] (Bd.of base) w (w.setCell ⟨b,j,none⟩ v):=
 KeptT.of ((Kept.refl (fun k=>k = b) w).setCell (p:=⟨b,j,none⟩) (fun _=>rfl) _) (fun k _ e=>by have e' : k = b:=e; subst e'; exact ⟨⟨row_low h,fun h=>h⟩,HasT.mem (IsT.own h) (by simp)⟩)
theorem KeptA.trans {n : Nat} {V : Option Nat} {w w' w'' : World} (h : KeptA n V w w') (k : KeptT LDT (Bd.of n) w' w'') : KeptA n V w w'':=
 Kept.trans h k (fun i hi hs=>by
  by_cases hh : n ≤ i ∧ (HasT LDT w i ∨ V = some i)
  ·exact hh
  ·have e:=h.block i hi hh
   obtain ⟨h1,t,ht,cur,fr,h2⟩:=hs
   exact ⟨h1.1,.inl ⟨t,ht,cur,fr,e.symm.trans h2⟩⟩)
theorem KeptA.grown {n base size m : Nat} {t : TypeId} {v : Value} {xs : List Value} {w w' w'' : World} (h : KeptA n v.ownBlock w w') (hg : w'.grownBy w'' v.ownBlock) (ho : w'.ownsRow base t size v m xs) (hb : n ≤ base) : KeptA n v.ownBlock w w'':=by
 have hk : Kept (fun k=>v.ownBlock = some k) w' w'':=⟨hg.os,hg.tape,hg.output,hg.size,fun k hk hS=>hg.block k hk (fun e=>hS e.symm)⟩
 exact Kept.trans h hk (fun i _ e=>⟨Nat.le_trans hb (own_low ho e),.inr e⟩)
theorem LogMem.push {W w9 : World} {n b : Nat} {A A' : Option Addr} {c c' : Nat} {xs : List RS} {S : LogS} {x : RS} {tmp : Obj} (h : LogMem W n b A c xs S) (hx : RecO W x.r x.A x.c x.D x.d x.N x.n)
  (hown : w9.ownsRow n 28 5 (.slice A' (xs.length + 1) c') (xs.length + 1) (flatR xs ++ x.cells)) (hg : (W.alloc tmp).grownBy w9 (Value.slice A xs.length c).ownBlock) :
  LogMem (w9.setCell ⟨b,3,none⟩ (.slice A' (xs.length + 1) c')) n b A' c' (xs ++ [x]) ⟨S.gen,S.fr,S.sec,S.used,S.l ++ [x.r]⟩ ∧ w9.ownsRow n 103 5 (.slice (some ⟨b,0,none⟩) 1 1) 1 (logObj S A xs.length c):=by
 have o9:=(h.obj.alloc tmp).kept hg (own_apart (h.obj.alloc tmp) (h.own.own.alloc tmp) (by decide))
 have hp:=h.own.push hx hown hg
 have hk:=set_log o9 3 (.slice A' (xs.length + 1) c')
 have hst:=(World.ownsRow.stored o9 3 (.slice A' (xs.length + 1) c')).1
 refine ⟨⟨?_,by rw [List.map_append,h.rec_]; rfl,hp.types hk (by decide) (by decide) (by decide) (by decide)⟩,o9⟩
 rw [List.length_append]
 exact hst
theorem LogMem.spent {W : World} {n b : Nat} {A : Option Addr} {c : Nat} {xs : List RS} {S : LogS} (h : LogMem W n b A c xs S) (u : Int) : LogMem (W.setCell ⟨b,4,none⟩ (.int .i64 u)) n b A c xs ⟨S.gen,S.fr,S.sec,u,S.l⟩:=
 ⟨(World.ownsRow.stored h.obj 4 (.int .i64 u)).1,h.rec_,h.own.types (set_log h.obj 4 (.int .i64 u)) (by decide) (by decide) (by decide) (by decide)⟩
section
variable {w w' : World} {n b pw : Nat} {S : LogS} {V : Option Nat} {g : Geo} {qs : List Nat} {m : MS}
set_option maxRecDepth 100000 in
set_option maxHeartbeats 8000000 in
theorem wappend_any {key : Int} {no : Nat → Bool} {PA : Option Addr} {pc N : Nat} (r : Rec) (hok : r.Ok) (A1 D1 N1 : Option Addr) (c1 d1 n1 : Nat) (hr : RecR w w.heap.size r A1 c1 D1 d1 N1 n1) (ht : Tiny r) (h : LogM w n b V S) (hS : S.Ok)
  (hm : ManyM w n pw g qs m) (hmo : m.Ok N) (hN : N ≤ 80000) (hp : RdT w 52 PA (ptrs qs no)) (hq : qs.length ≤ 1000) :
  Calls Tryz.prog 13 #[.pointer (some ⟨b,0,none⟩),.slice PA qs.length pc,.int .u64 key,.agg #[.int .u64 r.gen,.int .u64 r.seq,.slice A1 r.ws.length c1,.slice D1 r.ms.length d1,.slice N1 r.note.length n1]] w (AppPost w n b pw g qs V (appS S r) (appM g key no S r m) (appE S r)):=by
 have hb0 : Below w.heap.size w (w.alloc (.cells #[.int .u64 r.gen,.int .u64 r.seq,.slice A1 r.ws.length c1,.slice D1 r.ms.length d1,.slice N1 r.note.length n1] 28)):=(Below.refl _ _).alloc (Nat.le_refl _) _
 obtain ⟨q,hq0⟩ : ∃ q : Nat,q = S.l.length + 1:=⟨_,rfl⟩
 have hln:=hS.l
 have HNB:=Lib.hid (wnumbered_any (w:=(w.alloc (.cells #[.int .u64 r.gen,.int .u64 r.seq,.slice A1 r.ws.length c1,.slice D1 r.ms.length d1,.slice N1 r.note.length n1] 28))) r A1 D1 N1 c1 d1 n1 (h.below0 hb0) (by omega) q hq0)
 have HCP : Hid (∀ W,Below w.heap.size w W → Calls Tryz.prog 48 #[.agg #[.int .u64 S.gen,.int .u64 q,.slice A1 r.ws.length c1,.slice D1 r.ms.length d1,.slice N1 r.note.length n1]] W fun e w'=>∃ (A : Option Addr) (c : Nat) (D : Option Addr) (d : Nat) (N : Option Addr) (n : Nat),e = .returned (.agg #[.int .u64 S.gen,.int .u64 q,.slice A r.ws.length c,.slice D r.ms.length d,.slice N r.note.length n]) ∧ RecO w' (S.num r) A c D d N n ∧ Below W.heap.size W w'):=by
  unfold Hid; intro W hW
  have:=copied_any (S.num r) A1 D1 N1 c1 d1 n1 W ⟨(hr.up hW).ws,(hr.up hW).ms,(hr.up hW).note⟩ ⟨ht.ws,ht.ms,ht.note⟩
  subst hq0
  exact this
 have HROW : Hid (∀ W,Below (w.heap.size + 1) (w.alloc (.cells #[.int .u64 r.gen,.int .u64 r.seq,.slice A1 r.ws.length c1,.slice D1 r.ms.length d1,.slice N1 r.note.length n1] 28)) W → W.ownsRow w.heap.size 28 5 (.slice (some ⟨w.heap.size,0,none⟩) 1 1) 1 [.int .u64 r.gen,.int .u64 r.seq,.slice A1 r.ws.length c1,.slice D1 r.ms.length d1,.slice N1 r.note.length n1]):=by
  unfold Hid; intro W hW
  have o1:=World.ownsRow_lit (base:=w.heap.size) (e:=28) (size:=5) w #[.int .u64 r.gen,.int .u64 r.seq,.slice A1 r.ws.length c1,.slice D1 r.ms.length d1,.slice N1 r.note.length n1] 1 (Nat.le_refl _) (by decide) rfl
  exact own_kept o1 (belKept hW) (fun k e=>by simp [Value.ownBlock] at e; subst e; show ¬ (w.heap.size + 1 ≤ w.heap.size); omega)
 have PB:=Cells5.new w 28 (.int .u64 r.gen) (.int .u64 r.seq) (.slice A1 r.ws.length c1) (.slice D1 r.ms.length d1) (.slice N1 r.note.length n1)
 have p0:=PB.c0; have p1:=PB.c1; have p2:=PB.c2; have p3:=PB.c3; have p4:=PB.c4
 have HB0:=Lib.hid hb0
 have hz0 : ((w.alloc (.cells #[.int .u64 r.gen,.int .u64 r.seq,.slice A1 r.ws.length c1,.slice D1 r.ms.length d1,.slice N1 r.note.length n1] 28))).heap.size = w.heap.size + 1:=by simp
 have HL:=Lib.hid h
 have HM:=Lib.hid hm
 have HP:=Lib.hid hp
 have HS:=Lib.hid hS
 have HMO:=Lib.hid hmo
 have hok2 : (S.num r).Ok:=⟨hS.g,by show S.l.length + 1 < 2 ^ 64; omega,hok.ws,hok.ms,hok.note⟩
 have HOK2:=Lib.hid hok2
 have HT:=Lib.hid ht
 have HQ:=Lib.hid hq0
 clear PB hb0 h hm hp hS hmo hok2 hr hok ht hq0 hln
 go_enter Tryz.func13,Tryz.ntmps13
 go_wp2_with fail
 refine HNB.out.mono ?_
 rintro e w2 ⟨rfl,hb2⟩
 rw [hz0] at hb2
 have hz2 : w.heap.size + 1 ≤ w2.heap.size:=by have:=hb2.size; rw [hz0] at this; exact this
 have HB2:=Lib.hid hb2
 clear p0 p1 p2 p3 p4 hb2
 go_wp2_with fail
 refine (HCP.out w2 (HB0.out.trans (HB2.out.mono (by omega)))).mono ?_
 rintro e w3 ⟨A3,c3,D3,d3,N3,n3,rfl,ho3,hb3⟩
 have HB3:=Lib.hid (HB2.out.trans (hb3.mono hz2))
 have hz3 : w.heap.size + 1 ≤ w3.heap.size:=Nat.le_trans hz2 hb3.size
 have HO3:=Lib.hid ho3
 have hrow:=HROW.out w3 HB3.out
 have p0:=(World.ownsRow.cellAt hrow 0 (by decide)).trans (show _ = some _ from rfl)
 have p1:=(World.ownsRow.cellAt hrow 1 (by decide)).trans (show _ = some _ from rfl)
 have p2:=(World.ownsRow.cellAt hrow 2 (by decide)).trans (show _ = some _ from rfl)
 have p3:=(World.ownsRow.cellAt hrow 3 (by decide)).trans (show _ = some _ from rfl)
 have p4:=(World.ownsRow.cellAt hrow 4 (by decide)).trans (show _ = some _ from rfl)
 have f0:=hrow.frozenAt 0
 have f1:=hrow.frozenAt 1
 have f2:=hrow.frozenAt 2
 have f3:=hrow.frozenAt 3
 have f4:=hrow.frozenAt 4
 obtain ⟨o4,k4,b4⟩:=box_five (.int .u64 S.gen) (.int .u64 q) (.slice A3 r.ws.length c3) (.slice D3 r.ms.length d3) (.slice N3 r.note.length n3) hrow (HB0.out.trans (HB3.out.mono (by omega)))
 obtain ⟨cur,hcur⟩:=qown_type hrow
 have r4:=HO3.out.kept k4 hcur
 have HENC : Hid (∀ W,RecO W (S.num r) A3 c3 D3 d3 N3 n3 → Calls Tryz.prog 50 #[.agg #[.int .u64 S.gen,.int .u64 q,.slice A3 r.ws.length c3,.slice D3 r.ms.length d3,.slice N3 r.note.length n3]] W (EncPost W (S.num r))):=by
  unfold Hid; intro W hW
  have hw:=HT.out.ws; have hm:=HT.out.ms; have hn:=HT.out.note
  have:=encode_any (S.num r) HOK2.out A3 D3 N3 c3 d3 n3 W hW.rec_ (by show r.ws.length ≤ _; omega) (by show r.ms.length ≤ _; omega) (by show r.note.length ≤ _; omega)
  rw [HQ.out]
  exact this
 clear ho3 hb3 HNB HCP hcur k4 hrow
 go_upto_region 4 with (fail)
 generalize (((((w3.setCell ⟨w.heap.size,0,none⟩ (.int .u64 S.gen)).setCell ⟨w.heap.size,1,none⟩ (.int .u64 q)).setCell ⟨w.heap.size,2,none⟩ (.slice A3 r.ws.length c3)).setCell ⟨w.heap.size,3,none⟩ (.slice D3 r.ms.length d3)).setCell ⟨w.heap.size,4,none⟩ (.slice N3 r.note.length n3)) = W4 at *
 have HO4:=Lib.hid o4
 have HR4:=Lib.hid r4
 have HB4:=Lib.hid b4
 have HEN:=Lib.hid (HENC.out W4 r4)
 clear p0 p1 p2 p3 p4 f0 f1 f2 f3 f4
 have p0:=(World.ownsRow.cellAt o4 0 (by decide)).trans (show _ = some _ from rfl)
 have p1:=(World.ownsRow.cellAt o4 1 (by decide)).trans (show _ = some _ from rfl)
 have p2:=(World.ownsRow.cellAt o4 2 (by decide)).trans (show _ = some _ from rfl)
 have p3:=(World.ownsRow.cellAt o4 3 (by decide)).trans (show _ = some _ from rfl)
 have p4:=(World.ownsRow.cellAt o4 4 (by decide)).trans (show _ = some _ from rfl)
 clear o4 r4 b4 HENC
 go_wp2_with fail
 refine HEN.out.mono ?_
 rintro e w5 ⟨A5,c5,ss,rfl,hss,ho5,hb5⟩
 have HB5:=Lib.hid (HB4.out.trans (hb5.mono HB4.out.size))
 have HSS5:=Lib.hid ho5
 have HR5:=Lib.hid (HR4.out.below0 hb5)
 have HO5:=Lib.hid (own_kept HO4.out (belKept0 (S:=fun _=>False) hb5) (fun _ _ h=>h))
 have HXS:=Lib.hid hss
 have HL5:=Lib.hid (HL.out.below0 HB5.out)
 have HM5:=Lib.hid (HM.out.below0 HB5.out)
 have HP5:=Lib.hid (HP.out.below0 HB5.out)
 clear p0 p1 p2 p3 p4 ho5 hb5 hss HEN HR4 HO4 HROW HO3 HB3 HB2 hz2 hz3
 cases hv : validR (S.num r)
 ·have HE : Hid (encE (S.num r) = 1):=by unfold Hid encE; rw [hv]; rfl
  have HAE : Hid (appE S r = 1):=by unfold Hid appE; rw [hv]; rfl
  have HD : Hid (AppPost w n b pw g qs V (appS S r) (appM g key no S r m) (appE S r) (.returned (.tuple #[.slice none 0 0,.int .i64 1])) w5):=by
   unfold Hid appS appM
   rw [HAE.out]
   exact ⟨none,0,V,rfl,World.ownsRow_nil _ _ _ _,.inl rfl,HL5.out,HM5.out,belKept0 HB5.out⟩
  rw [HE.out]
  clear hv
  go_wp2
  go_ret2
  exact HD.out
 ·have HE : Hid (encE (S.num r) = 0):=by unfold Hid encE; rw [hv]; rfl
  have HEL : Hid (ss.map Sl.xs = encR (S.num r)):=by unfold Hid; rw [HXS.out]; unfold encL; rw [hv]; rfl
  have hsl : (encR (S.num r)).length = ss.length:=by rw [← HEL.out,List.length_map]
  obtain ⟨A6,c6,xs,hlm,hV⟩:=HL5.out
  obtain ⟨l0,l1,l2,l3,l4⟩:=hlm.cells
  have hs0:=HS.out.u0
  have hs1:=HS.out.u1
  have hs2:=HS.out.s1
  have hw1 : IntKind.i64.wrap (S.sec - S.used) = S.sec - S.used:=by rw [IntKind.wrap_i64]; omega
  rw [HE.out]
  by_cases hle : (ss.length : Int) ≤ S.sec - S.used
  ·have HAE : Hid (appE S r = 0):=by unfold Hid appE; rw [hv,hsl,if_pos hle]; rfl
   have hs3:=HS.out.f0
   have hs4:=HS.out.f1
   have hw2 : IntKind.i64.wrap (S.fr + S.used) = S.fr + S.used:=by rw [IntKind.wrap_i64]; omega
   have hxl : xs.length ≤ 100:=by have:=hlm.len; have:=HS.out.l; omega
   have HLM:=Lib.hid hlm
   have HV:=Lib.hid hV
   clear hv hlm hV
   have HCE : Hid (∀ W,Below w5.heap.size w5 W → LogMem W n b A6 c6 xs S ∧ RecO W (S.num r) A3 c3 D3 d3 N3 n3 ∧ W.ownsRow w.heap.size 28 5 (.slice (some ⟨w.heap.size,0,none⟩) 1 1) 1 [.int .u64 S.gen,.int .u64 q,.slice A3 r.ws.length c3,.slice D3 r.ms.length d3,.slice N3 r.note.length n3] ∧ SlsO W w.heap.size A5 c5 ss ∧ ManyM W n pw g qs m ∧ RdT W 52 PA (ptrs qs no) ∧ Below w.heap.size w W):=by
    unfold Hid; intro W hW
    exact ⟨HLM.out.kept (belKept0 (S:=fun _=>False) hW) (fun h=>h) (fun _ _ h=>h) (Free.none _ _) (Free.none _ _) (Free.none _ _),HR5.out.below0 hW,own_kept HO5.out (belKept0 (S:=fun _=>False) hW) (fun _ _ h=>h),(HSS5.out.below hW).mono HB4.out.size,HM5.out.below0 hW,HP5.out.below0 hW,HB5.out.trans (hW.mono HB5.out.size)⟩
   go_wp2
   go_quiet (fail)
   have hb6 : Below w5.heap.size w5 (w5.drewN nq):=below_drewN' (Below.refl _ _) _
   generalize w5.drewN nq = w6 at *
   clear l0 l1 l2 l3 l4
   obtain ⟨l0,l1,l2,l3,l4⟩:=(HCE.out _ hb6).1.cells
   go_wp2
   go_quiet (fail)
   have hb7 : Below w5.heap.size w5 (w6.drewN nq):=below_drewN' hb6 _
   generalize w6.drewN nq = w7 at *
   clear l0 l1 l2 l3 l4 hb6
   go_upto_region 10 with (fail)
   obtain ⟨hlm7,hr7,ho7,hs7,hm7,hp7,hb0⟩:=HCE.out _ hb7
   have HHH:=Lib.hid (HCE.out _ hb7)
   obtain ⟨l0,l1,l2,l3,l4⟩:=hlm7.cells
   have p0:=(World.ownsRow.cellAt ho7 0 (by decide)).trans (show _ = some _ from rfl)
   have p1:=(World.ownsRow.cellAt ho7 1 (by decide)).trans (show _ = some _ from rfl)
   have p2:=(World.ownsRow.cellAt ho7 2 (by decide)).trans (show _ = some _ from rfl)
   have p3:=(World.ownsRow.cellAt ho7 3 (by decide)).trans (show _ = some _ from rfl)
   have p4:=(World.ownsRow.cellAt ho7 4 (by decide)).trans (show _ = some _ from rfl)
   have hown7 : w7.drew.ownsRow n 28 5 (.slice A6 xs.length c6) xs.length (flatR xs):=hlm7.own.own
   have hown8:=hown7.alloc (.cells #[.int .u64 S.gen,.int .u64 q,.slice A3 r.ws.length c3,.slice D3 r.ms.length d3,.slice N3 r.note.length n3] 28)
   have l3a:=((((Below.refl w7.heap.size w7).alloc (Nat.le_refl _) (.cells #[.int .u64 S.gen,.int .u64 q,.slice A3 r.ws.length c3,.slice D3 r.ms.length d3,.slice N3 r.note.length n3] 28)).cell (p:=⟨b,3,none⟩) (IsT.own hlm7.obj).lt)).trans l3
   have hnz : n ≤ w7.heap.size:=by have:=row_low hlm7.obj; have:=(IsT.own hlm7.obj).lt; omega
   obtain ⟨i0,hi,hz0',hz1,hz2⟩:=info_parts info_rec
   clear hlm7 hr7 ho7 hs7 hm7 hp7
   go_cut [] from 47 to 56 (fun wx=>Hid (∃ (A9 : Option Addr) (c9 : Nat),LogMem wx n b A9 c9 (xs ++ [(⟨S.num r,A3,c3,D3,d3,N3,n3⟩ : RS)]) ⟨S.gen,S.fr,S.sec,S.used,S.l ++ [S.num r]⟩ ∧ (((Value.slice A9 (xs.length + 1) c9).ownBlock = V) ∨ ∃ k,(Value.slice A9 (xs.length + 1) c9).ownBlock = some k ∧ w.heap.size ≤ k) ∧
    SlsO wx w.heap.size A5 c5 ss ∧ ManyM wx n pw g qs m ∧ RdT wx 52 PA (ptrs qs no) ∧ KeptA n V w wx ∧ w.heap.size ≤ wx.heap.size))
   case first=>
    go_region_law (
     (refine qstep_append_own_at rfl (.tmp 51) (.tmp 53) 22 rfl n 28 i0 _ 5 88 Tryz.underlying22 hi hz0' hz1 hz2 rfl (by decide) (.slice A6 xs.length c6) xs.length (flatR xs) rfl hown8 ⟨w7.heap.size,0,none⟩ 1 1 [.int .u64 S.gen,.int .u64 q,.slice A3 r.ws.length c3,.slice D3 r.ms.length d3,.slice N3 r.note.length n3] rfl rfl (World.news_of_block (heap_alloc_new _ _)) (RS.one ⟨⟨S.gen,q,r.ws,r.ms,r.note⟩,A3,c3,D3,d3,N3,n3⟩) ?d1 ?d2 ?d3 ?_
      case d1=>unfold maxLen; omega
      case d2=>omega
      case d3=>first | (simp; omega) | omega
      intro v' w9 hown hgrow hat
      obtain ⟨A9,c9,hv⟩:=own_form hown
      subst hv
      rw [HQ.out] at hown
      have hba : Below w7.heap.size w7 (w7.alloc (.cells #[.int .u64 S.gen,.int .u64 q,.slice A3 r.ws.length c3,.slice D3 r.ms.length d3,.slice N3 r.note.length n3] 28)):=(Below.refl _ _).alloc (Nat.le_refl _) _
      have hg : (w7.alloc (.cells #[.int .u64 S.gen,.int .u64 q,.slice A3 r.ws.length c3,.slice D3 r.ms.length d3,.slice N3 r.note.length n3] 28)).grownBy w9 (Value.slice A6 xs.length c6).ownBlock:=⟨hgrow.os,hgrow.tape,hgrow.output,hgrow.size,hgrow.block⟩
      obtain ⟨hpm,ho9⟩:=HHH.out.1.push (x:=⟨S.num r,A3,c3,D3,d3,N3,n3⟩) HHH.out.2.1 hown hg
      have fz:=ho9.frozenAt 3
      have cz:=(World.ownsRow.cellAt ho9 3 (by decide)).trans (show _ = some _ from rfl)
      have HFIN : Hid (∃ (A9' : Option Addr) (c9' : Nat),LogMem (w9.setCell ⟨b,3,none⟩ (.slice A9 (xs.length + 1) c9)) n b A9' c9' (xs ++ [(⟨S.num r,A3,c3,D3,d3,N3,n3⟩ : RS)]) ⟨S.gen,S.fr,S.sec,S.used,S.l ++ [S.num r]⟩ ∧ (((Value.slice A9' (xs.length + 1) c9').ownBlock = V) ∨ ∃ k,(Value.slice A9' (xs.length + 1) c9').ownBlock = some k ∧ w.heap.size ≤ k) ∧
        SlsO (w9.setCell ⟨b,3,none⟩ (.slice A9 (xs.length + 1) c9)) w.heap.size A5 c5 ss ∧ ManyM (w9.setCell ⟨b,3,none⟩ (.slice A9 (xs.length + 1) c9)) n pw g qs m ∧ RdT (w9.setCell ⟨b,3,none⟩ (.slice A9 (xs.length + 1) c9)) 52 PA (ptrs qs no) ∧ KeptA n V w (w9.setCell ⟨b,3,none⟩ (.slice A9 (xs.length + 1) c9)) ∧ w.heap.size ≤ (w9.setCell ⟨b,3,none⟩ (.slice A9 (xs.length + 1) c9)).heap.size):=by
       obtain ⟨hlm7,hr7,ho7,hs7,hm7,hp7,hbb⟩:=HHH.out
       have own8:=hlm7.own.own.alloc (.cells #[.int .u64 S.gen,.int .u64 q,.slice A3 r.ws.length c3,.slice D3 r.ms.length d3,.slice N3 r.note.length n3] 28)
       have kg:=grown_ty hg own8
       have ks:=set_log ho9 3 (.slice A9 (xs.length + 1) c9)
       have hka : KeptA n (Value.slice A6 xs.length c6).ownBlock w w9:=KeptA.grown (belKept0 (hbb.trans (hba.mono hbb.size))) hg own8 (Nat.le_refl _)
       rw [HV.out] at hka
       refine ⟨A9,c9,hpm,?_,((hs7.below hba).types kg (by decide) (by decide)).types ks (by decide) (by decide),((hm7.below0 hba).types kg (by decide) (by decide) (by decide) (by decide)).types ks (by decide) (by decide) (by decide) (by decide),
        ((hp7.below0 hba).kept kg (KeptT.free (by decide))).kept ks (KeptT.free (by decide)),hka.trans (ks.sub (by unfold LDT; decide)),?_⟩
       ·rcases hat with h | h
        ·left; exact h.trans HV.out
        ·right; exact ⟨_,h,by have:=hbb.size; have:=hba.size; first | omega | (simp; omega)⟩
       ·have:=hka.size; simpa using this
      clear hown hgrow hat hba hg hpm ho9))
    all_goals
     go_wp2_with fail
     go_meet
     exact HFIN.out
   case rest=>
    obtain ⟨A9,c9,hlm9,hV9,hs9,hm9,hp9,hka9,hz9⟩:=hcut.out
    have HC9:=Lib.hid hcut.out
    obtain ⟨l0,l1,l2,l3,l4⟩:=hlm9.cells
    have fz:=hlm9.obj.frozenAt 4
    have hl10:=hlm9.spent (S.used + ss.length)
    have ks:=set_log hlm9.obj 4 (.int .i64 (S.used + ss.length))
    have hs10:=hs9.types ks (by decide) (by decide)
    have hm10:=hm9.types ks (by decide) (by decide) (by decide) (by decide)
    have hp10:=hp9.kept ks (KeptT.free (by decide))
    have hka10:=hka9.trans (ks.sub (us:=LDT) (by unfold LDT; decide))
    have hss : ∀ s ∈ ss,s.xs.length ≤ 100000 ∧ s.xs.length ≤ s.c:=fun s hs=>by
     have h1 : s.xs ∈ encR (S.num r):=by rw [← HEL.out]; exact List.mem_map.2 ⟨s,hs,rfl⟩
     have h2:=encR_1k _ h1
     exact ⟨by omega,(own_cap0 (hs10.each s hs)).1⟩
    have hal:=wall_any (key:=key) (c:=c5) hm10 HMO.out (by omega) (show -1000000 ≤ S.fr + S.used by omega) (by omega) (fun W hW=>(hp10.kept hW (KeptT.free (by unfold DAT; decide))).rd) hq (pc:=pc) (fun W hW=>(hs10.types hW (by unfold DAT; decide) (by unfold DAT; decide)).rd) hss (by omega)
    rw [HEL.out] at hal
    have HAL:=Lib.hid hal
    have HFN : Hid (∀ W A' c' es m',W.ownsRow (wc.setCell ⟨b,4,none⟩ (.int .i64 (S.used + ss.length))).heap.size 41 1 (.slice A' es.length c') es.length (es.map (Value.int .i64)) → ManyM W n pw g qs m' → KeptT DAT (Bd.of n) (wc.setCell ⟨b,4,none⟩ (.int .i64 (S.used + ss.length))) W → allD g key (S.fr + S.used) (encR (S.num r)) no m = (m',es) →
      AppPost w n b pw g qs V (appS S r) (appM g key no S r m) (appE S r) (.returned (.tuple #[.slice A' es.length c',.int .i64 0])) W):=by
     unfold Hid
     intro W A' c' es m' h1 h2 h3 h4
     unfold appS appM
     rw [HAE.out,if_pos rfl,if_pos rfl,h4,hsl]
     refine ⟨A',c',_,rfl,own_mono h1 (by have:=hka10.size; exact this),?_,LogM.types ⟨A9,c9,_,hl10,rfl⟩ h3 (by unfold DAT; decide) (by unfold DAT; decide) (by unfold DAT; decide) (by unfold DAT; decide) (by unfold DAT; decide),h2,hka10.trans (h3.sub dat_ldt)⟩
     rw [List.length_append]
     exact hV9
    clear hcut hlm9 hV9 hs9 hm9 hp9 hka9 hl10 ks hs10 hm10 hp10 hka10 hss hal
    have hw3 : IntKind.i64.wrap (S.used + (ss.length : Int)) = S.used + ss.length:=by rw [IntKind.wrap_i64]; omega
    generalize allD g key (S.fr + S.used) (encR (S.num r)) no m = X at *
    go_wp2_with fail
    refine HAL.out.mono ?_
    rintro e w12 ⟨A12,c12,rfl,ho12,hm12,hk12⟩
    obtain ⟨m',es⟩:=X
    simp only at *
    have HD:=Lib.hid (HFN.out w12 A12 c12 es m' ho12 hm12 hk12 rfl)
    clear ho12 hm12 hk12 HFN
    go_wp2
    go_ret2
    exact HD.out
  ·have HAE : Hid (appE S r = 11):=by unfold Hid appE; rw [hv,hsl,if_neg hle]; rfl
   have HD : Hid (∀ k,AppPost w n b pw g qs V (appS S r) (appM g key no S r m) (appE S r) (.returned (.tuple #[.slice none 0 0,.int .i64 11])) (w5.drewN k)):=by
    unfold Hid appS appM
    intro k
    rw [HAE.out]
    have hbd : Below w5.heap.size w5 (w5.drewN k):=below_drewN' (Below.refl _ _) k
    exact ⟨none,0,V,rfl,World.ownsRow_nil _ _ _ _,.inl rfl,HL5.out.below0 hbd,HM5.out.below0 hbd,belKept0 (HB5.out.trans (hbd.mono HB5.out.size))⟩
   clear hv hsl hlm hV
   go_wp2
   go_quiet (fail)
   go_wp2
   go_ret2
   exact HD.out _
end
end Go.Proofs.YtaggiceejcegdaaGreat
