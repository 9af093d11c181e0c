/-
  WHAT IS SHOWN: more: what Decode of record and of tegularef27 returns, for use in walks; bounds on decoded records. what Scan of logarea and of tegularef28 returns. what Records and Rewrite of wal return. what geometry, brief and wrong of tegulalaw49 return. plain facts, of no program: disks without faults whose power may fail, and what lies on them behind writes in a row. disks of the program and of the reference side by side: what Write, Read and Flush of wal and of tegularef49 return and leave of one of them. what a walk is told of the parameters of tegulalaw27: bytes, sectors, records. what a walk is told of the parameters of tegulalaw28: lists of records, lists of lists of records. plain facts on a log that grows; what twins returns for disks without faults; how a log and its disks begin. the log of tegularef49 in memory; what its Numbered returns; what SameErrors returns for equal lists. what Append and Rewrite of the log of tegularef49 return and leave. what New of tegularef49 returns. two logs and their disks side by side: what Append and Rewrite of wal and of tegularef49 return and leave. plain facts, of no program: what lies on disks without faults while a log grows on them, the power fails, and they are restarted; what Scan reads then. Conditions: as each theorem names them.
-/
import Derived.Test.YtaggiceejcegdaaGreatNc35
import Derived.BigQuiet
import Derived.ChangeKeysEq
import Derived.ChangeOld
import Derived.Deep.AppendLies
import Derived.Deep.DeepCutAuto
import Derived.Deep.Draws
import Derived.Deep.Fields
import Derived.Deep.QuietTactic
import Derived.Deep.RegionHeld3
import Derived.Deep.RegionLaw
import Derived.Deep.Slices
import Derived.Handy
import Derived.Laws.AppendOwnNone
import Derived.Laws.BytesArg
import Derived.Laws.Cover3
import Derived.Laws.MakeOwn
import Derived.Laws.OwnMore
import Derived.Laws.Rows
import Derived.Lib.ConvBytes
import Derived.Lib.Hide
import Derived.Lib.SmallJoins
import Derived.Lib.VarintBits
import Derived.Lib.Zigzag
import Derived.LoopIn
import Derived.LoopNIn
import Derived.Maps.AppendAt
import Derived.OpenShut
import Derived.OwnWalkIn
import Derived.ProofKit
import Derived.RangeFuncBox
import Derived.RangeFuncLeaves
import Derived.Shelf.Abstract
import Derived.Sort.QuietIn
import Derived.TacticsInMore
import Derived.WalkKit
import Derived.WalkLawsBesides
import Derived.WalkMore
import Derived.WalkSpells
import Derived.Test.YtaggiceejcegdaaGreatOe00
import Derived.Test.YtaggiceejcegdaaGreatOe01
import Derived.Test.YtaggiceejcegdaaGreatOe02
import Derived.Test.YtaggiceejcegdaaGreatOe03
import Derived.Test.YtaggiceejcegdaaGreatOe04
import Derived.Test.YtaggiceejcegdaaGreatOe05
import Derived.Test.YtaggiceejcegdaaGreatOe06
namespace Go.Proofs.YtaggiceejcegdaaGreat
set_option linter.unusedVariables false
open Go.RowKit
theorem decode_r (ss : List Sl) (hss : ∀ s ∈ ss,SlOk s) (A : Option Addr) (c : Nat) (hc : ss.length ≤ c) (hcm : c ≤ 9223372036854775807) (hl : ss.length ≤ 100000) (w : World) (h : SlsR w w.heap.size A ss) :
  Calls Tryz.prog 71 #[.slice A ss.length c] w (DecR w (decD (ss.map Sl.xs))):=decode_any ss hss A c hc hcm hl w h
end Go.Proofs.YtaggiceejcegdaaGreat
namespace Go.Proofs.YtaggiceejcegdaaGreat
set_option linter.unusedVariables false
open Go.RowKit
set_option maxRecDepth 100000 in
set_option maxHeartbeats 4000000 in
theorem scan_any (ss : List Sl) (hss : ∀ s ∈ ss,SlOk s) (gen : Nat) (A : Option Addr) (c : Nat) (hc : ss.length ≤ c) (hcm : c ≤ 9223372036854775807) (hl : ss.length ≤ 100000) (w : World) (h : SlsR w w.heap.size A ss) :
  Calls Tryz.prog 40 #[.slice A ss.length c,.int .u64 gen] w (ScanPost w (scanD (ss.map Sl.xs) gen)):=by
 have HH:=Lib.hid h
 have HSS:=Lib.hid hss
 clear h hss
 obtain ⟨i0,hi,hz0,hz1,hz2⟩:=info_parts info_rec
 go_enter Tryz.func40,Tryz.ntmps40
 go_wp2
 go_step3
 go_wp2
 go_step3
 go_wp2
 go_loopw [6,7] (fun o a wr=>∃ (i at_ : Nat) (l : List RS) (DA : Option Addr) (dc : Nat),at_ ≤ ss.length ∧ a = .int .i64 at_ ∧ o = .slice DA l.length dc ∧ Hid (scanS (ss.map Sl.xs) gen i = (l.map RS.r,at_)) ∧ Hid (l.length = i) ∧ Hid (RcsO wr w.heap.size DA dc l) ∧ Hid (Below w.heap.size w wr)) (fun _ a _=>ss.length - (intOf a).toNat)
 case atStart=>exact ⟨0,0,[],none,0,Nat.zero_le _,rfl,rfl,rfl,rfl,RcsO.nil _ _,Below.refl _ _⟩
 case round=>
  obtain ⟨i,at_,l,DA,dc,hat,rfl,rfl,HX,HLI,HRO,HBR⟩:=hrel
  have hlb : l.length ≤ 100000:=by
   have h1:=scan_bound (ls:=ss.map Sl.xs) (gen:=gen) i (by rw [HX.out]; rw [List.length_map]; exact HLI.out)
   rw [HX.out,List.length_map] at h1
   have:=HLI.out
   have h2 : at_ ≤ ss.length:=h1.2
   have h3 : i ≤ at_:=h1.1
   omega
  by_cases hlt : at_ < ss.length
  ·obtain ⟨g,o,rfl,hg,_,_⟩:=sl_at (HH.out.up HBR.out) hlt
   have hdl : (ss.drop at_).length = ss.length - at_:=List.length_drop
   have HD:=Lib.hid (decode_r (ss.drop at_) (fun s hs=>HSS.out s (List.mem_of_mem_drop hs)) (some ⟨g,o + at_,none⟩) (c - at_) (by omega) (by omega) (by omega) wr ((HH.out.up HBR.out).dropk at_))
   rw [hdl,List.map_drop] at HD
   have HSM:=Lib.hid (dec_small' ((ss.map Sl.xs).drop at_))
   have HST : Hid (stepOk (ss.map Sl.xs) gen at_ l.length = (decide ((decD ((ss.map Sl.xs).drop at_)).er = 0) && decide ((decD ((ss.map Sl.xs).drop at_)).r.gen = gen) && decide ((decD ((ss.map Sl.xs).drop at_)).r.seq = l.length + 1))):=rfl
   have HNX : Hid (stepOk (ss.map Sl.xs) gen at_ l.length = true → scanS (ss.map Sl.xs) gen (i + 1) = (l.map RS.r ++ [(decD ((ss.map Sl.xs).drop at_)).r],at_ + (decD ((ss.map Sl.xs).drop at_)).n)):=fun h=>scan_next HX.out (by rw [List.length_map]; exact h)
   have HFI : Hid (stepOk (ss.map Sl.xs) gen at_ l.length = false → scanD (ss.map Sl.xs) gen = (l.map RS.r,at_)):=fun h=>scan_fin HX.out (by rw [List.length_map]; exact HLI.out) (by rw [List.length_map]; exact h)
   have HDN : Hid ((decD ((ss.map Sl.xs).drop at_)).er = 0 → 1 ≤ (decD ((ss.map Sl.xs).drop at_)).n ∧ (decD ((ss.map Sl.xs).drop at_)).n ≤ ss.length - at_):=fun h=>by have:=dec_n h; rw [List.length_drop,List.length_map] at this; exact this
   generalize decD ((ss.map Sl.xs).drop at_) = X at *
   generalize stepOk (ss.map Sl.xs) gen at_ l.length = sok at *
   obtain ⟨r,m,er⟩:=X
   simp only at HST HNX HFI HDN HSM
   clear hdl
   have hk1 : (at_ : Int) ≤ (ss.length : Int):=by omega
   have hk2 : (ss.length : Int) ≤ (c : Int):=by omega
   have hk3 : ¬ c = at_:=by omega
   go_wp2_with fail
   refine HD.out.mono ?_
   rintro e w2 ⟨A2,c2,D2,d2,N2,n2,rfl,hr2,hb2⟩
   simp only at hr2 ⊢
   have hbx : Below w2.heap.size w2 (w2.alloc (.cells #[.int .u64 r.gen,.int .u64 r.seq,.slice A2 r.ws.length c2,.slice D2 r.ms.length d2,.slice N2 r.note.length n2] 28)):=(Below.refl _ _).alloc (Nat.le_refl _) _
   have hb2x:=hb2.trans (hbx.mono hb2.size)
   have HB1:=Lib.hid (HBR.out.trans (hb2x.mono HBR.out.size))
   have HRO1:=Lib.hid (HRO.out.below hb2x)
   have HR1:=Lib.hid (hr2.below0 hbx)
   have PB:=(Cells5.new w2 28 (.int .u64 r.gen) (.int .u64 r.seq) (.slice A2 r.ws.length c2) (.slice D2 r.ms.length d2) (.slice N2 r.note.length n2))
   have p0:=PB.c0; have p1:=PB.c1; have p2:=PB.c2; have p3:=PB.c3; have p4:=PB.c4
   clear HD hr2 hb2 hbx hb2x PB
   by_cases he : er = 0
   ·subst he
    by_cases hg : r.gen = gen
    ·have hge : ((r.gen : Int) != (gen : Int)) = false:=by simp; omega
     by_cases hs : r.seq = l.length + 1
     ·have hse : ((r.seq : Int) != (l.length : Int) + 1) = false:=by simp; omega
      have hN:=HNX.out (by rw [HST.out,decide_eq_true rfl,decide_eq_true hg,decide_eq_true hs]; rfl)
      have hdn:=HDN.out rfl
      have HN:=Lib.hid hN
      have HSL:=Lib.hid HSM.out
      clear hN HST HNX HFI HDN hg hs
      go_upto_region 6 with fail
      generalize hW1 : (w2.alloc (.cells #[.int .u64 r.gen,.int .u64 r.seq,.slice A2 r.ws.length c2,.slice D2 r.ms.length d2,.slice N2 r.note.length n2] 28)) = W1 at *
      have hbz:=HB1.out.size
      go_wp2_with (at_builtin; go_loud (refine wpList_append_own _ rfl _ _ 22 rfl w.heap.size 28 i0 _ 5 88 Tryz.underlying22 hi hz0 hz1 hz2 rfl (by decide) (.slice DA l.length dc) l.length (flatR l) rfl (HRO1.out.own.alloc _) ⟨W1.heap.size,0,none⟩ 1 1 [.int .u64 r.gen,.int .u64 r.seq,.slice A2 r.ws.length c2,.slice D2 r.ms.length d2,.slice N2 r.note.length n2] rfl rfl (World.news_of_block (heap_alloc_new _ _)) (RS.one ⟨r,A2,c2,D2,d2,N2,n2⟩) ?c1 ?c2 ?c3 ?_))
      case c1=>unfold maxLen; omega
      case c2=>omega
      case c3=>first | omega | (simp; omega)
      intro v' w9 hown hgrow hiff
      obtain ⟨DA',dc',hv⟩:=own_form hown
      subst hv
      have HRO9 : Hid (RcsO w9 w.heap.size DA' dc' (l ++ [⟨r,A2,c2,D2,d2,N2,n2⟩])):=RcsO.push (x:=⟨r,A2,c2,D2,d2,N2,n2⟩) HRO1.out HR1.out hown hgrow
      have HB9 : Hid (Below w.heap.size w w9):=(HB1.out.alloc hbz _).grown hgrow (by simp; omega) (fun k hk=>own_low HRO1.out.own hk)
      clear hown hgrow hiff
      go_wp2
      go_roundw
      case rel=>exact ⟨i + 1,at_ + m,l ++ [⟨r,A2,c2,D2,d2,N2,n2⟩],DA',dc',by omega,by go_num,by rw [List.length_append]; rfl,by unfold Hid; rw [HN.out,List.map_append]; rfl,by unfold Hid; rw [List.length_append,HLI.out]; rfl,HRO9,HB9⟩
      case measure=>simp [intOf]; omega
     ·have hse : ((r.seq : Int) != (l.length : Int) + 1) = true:=by simp; omega
      have hf : sok = false:=by rw [HST.out,decide_eq_false hs]; simp
      clear hg hs HNX HDN HST
      have HD2 : Hid (scanD (ss.map Sl.xs) gen = (l.map RS.r,at_)):=HFI.out hf
      go_wp2
      go_ret2
      exact ⟨DA,dc,l,by rw [HD2.out]; rfl,by rw [HD2.out],HRO1.out,HB1.out⟩
    ·have hge : ((r.gen : Int) != (gen : Int)) = true:=by simp; omega
     have hf : sok = false:=by rw [HST.out,decide_eq_false hg]; simp
     clear hg HNX HDN HST
     have HD2 : Hid (scanD (ss.map Sl.xs) gen = (l.map RS.r,at_)):=HFI.out hf
     go_wp2
     go_ret2
     exact ⟨DA,dc,l,by rw [HD2.out]; rfl,by rw [HD2.out],HRO1.out,HB1.out⟩
   ·have he2 : (er != 0) = true:=by simpa using he
    have hf : sok = false:=by rw [HST.out,decide_eq_false he]; simp
    clear he HNX HDN HST
    have HD2 : Hid (scanD (ss.map Sl.xs) gen = (l.map RS.r,at_)):=HFI.out hf
    go_wp2
    go_ret2
    exact ⟨DA,dc,l,by rw [HD2.out]; rfl,by rw [HD2.out],HRO1.out,HB1.out⟩
  ·obtain rfl : at_ = ss.length:=by omega
   have HD : Hid (scanD (ss.map Sl.xs) gen = (l.map RS.r,ss.length)):=scan_fin HX.out (by rw [List.length_map]; exact HLI.out) (stepOk_end (by rw [List.length_map]; exact Nat.le_refl _))
   go_wp2
   go_ret2
   exact ⟨DA,dc,l,by rw [HD.out]; rfl,by rw [HD.out],HRO.out,HBR.out⟩
end Go.Proofs.YtaggiceejcegdaaGreat
namespace Go.Proofs.YtaggiceejcegdaaGreat
set_option linter.unusedVariables false
open Go.RowKit
section
variable {w w' : World} {n b : Nat} {A : Option Addr} {c : Nat} {xs : List RS} {S : LogS} {V : Option Nat}
set_option maxRecDepth 100000 in
set_option maxHeartbeats 4000000 in
theorem wrecords_any (h : LogM w n b V S) (hl : S.l.length ≤ 1000) (ht : ∀ r ∈ S.l,Tiny r) : Calls Tryz.prog 28 #[.pointer (some ⟨b,0,none⟩)] w (RecsPost w S.l):=by
 obtain ⟨i0,hi,hz0,hz1,hz2⟩:=info_parts info_rec
 obtain ⟨A,c,xs,h,_⟩:=h
 obtain ⟨_,_,_,c3,_⟩:=h.cells
 have HX:=Lib.hid h.own.rd
 have HL:=Lib.hid h.len
 have hxl : xs.length ≤ 1000:=by rw [h.len]; exact hl
 have HR:=Lib.hid h.rec_
 have HT:=Lib.hid ht
 have H0 : Hid (RcsO w w.heap.size none 0 [] ∧ Below w.heap.size w w ∧ ([] : List RS).map RS.r = (xs.map RS.r).take 0):=⟨RcsO.nil _ _,Below.refl _ _,rfl⟩
 clear h ht
 go_enter Tryz.func28,Tryz.ntmps28
 go_wp2
 go_loopw [3,13] (fun o i wr=>∃ (k : Nat) (DA : Option Addr) (dc : Nat) (ys : List RS),k ≤ xs.length ∧ o = .slice DA ys.length dc ∧ i = .int .i64 k ∧ Hid (ys.length = k) ∧ Hid (RcsO wr w.heap.size DA dc ys ∧ Below w.heap.size w wr ∧ ys.map RS.r = (xs.map RS.r).take k)) (fun _ i _=>xs.length - (intOf i).toNat)
 case atStart=>exact ⟨0,none,0,[],Nat.zero_le _,rfl,rfl,rfl,H0⟩
 case round=>
  obtain ⟨k,DA,dc,ys,hk,rfl,rfl,HYL,HW⟩:=hrel
  by_cases hlt : k < xs.length
  ·have hXW:=(HX.out.up HW.out.2.1)
   obtain ⟨g0,o0,rfl,hg0,j0,j1,j2,j3,j4⟩:=hXW.rd.rs hlt
   have hxr:=hXW.each _ (List.getElem_mem hlt)
   have hbx : Below wr.heap.size wr (wr.alloc (.cells #[.int .u64 xs[k].r.gen,.int .u64 xs[k].r.seq,.slice xs[k].A xs[k].r.ws.length xs[k].c,.slice xs[k].D xs[k].r.ms.length xs[k].d,.slice xs[k].N xs[k].r.note.length xs[k].n] 28)):=(Below.refl _ _).alloc (Nat.le_refl _) _
   have htk : Tiny xs[k].r:=HT.out _ (by rw [← HR.out]; exact List.mem_map.2 ⟨_,List.getElem_mem hlt,rfl⟩)
   have HC:=Lib.hid (copied_any xs[k].r xs[k].A xs[k].D xs[k].N xs[k].c xs[k].d xs[k].n (wr.alloc (.cells #[.int .u64 xs[k].r.gen,.int .u64 xs[k].r.seq,.slice xs[k].A xs[k].r.ws.length xs[k].c,.slice xs[k].D xs[k].r.ms.length xs[k].d,.slice xs[k].N xs[k].r.note.length xs[k].n] 28)) (hxr.up hbx) htk)
   have HE : Hid ((xs.map RS.r).take (k + 1) = (xs.map RS.r).take k ++ [xs[k].r]):=by
    unfold Hid
    rw [List.take_succ_eq_append_getElem (by simpa using hlt)]; simp
   have PB:=(Cells5.new wr 28 (.int .u64 xs[k].r.gen) (.int .u64 xs[k].r.seq) (.slice xs[k].A xs[k].r.ws.length xs[k].c) (.slice xs[k].D xs[k].r.ms.length xs[k].d) (.slice xs[k].N xs[k].r.note.length xs[k].n))
   have p0:=PB.c0; have p1:=PB.c1; have p2:=PB.c2; have p3:=PB.c3; have p4:=PB.c4
   have HBX:=Lib.hid hbx
   have hys : ys.length ≤ 1000:=by rw [HYL.out]; omega
   generalize xs[k] = x at *
   clear hXW hxr htk PB hbx
   go_wp2_with fail
   refine HC.out.mono ?_
   rintro e w2 ⟨A2,c2,D2,d2,N2,n2,rfl,ho2,hb2⟩
   have HB2:=Lib.hid (HBX.out.trans (hb2.mono HBX.out.size))
   have HO2:=Lib.hid ho2
   have HY2:=Lib.hid (HW.out.1.below HB2.out)
   have hzz : w.heap.size ≤ w2.heap.size:=Nat.le_trans HW.out.2.1.size HB2.out.size
   have own:=HY2.out
   clear ho2 hb2 HC p0 p1 p2 p3 p4
   go_wp2_with (at_builtin; go_loud (refine wpList_append_own _ rfl _ _ 22 rfl w.heap.size 28 i0 _ 5 88 Tryz.underlying22 hi hz0 hz1 hz2 rfl (by decide) (.slice DA ys.length dc) ys.length (flatR ys) rfl (own.own.alloc _) ⟨w2.heap.size,0,none⟩ 1 1 [.int .u64 x.r.gen,.int .u64 x.r.seq,.slice A2 x.r.ws.length c2,.slice D2 x.r.ms.length d2,.slice N2 x.r.note.length n2] rfl rfl (World.news_of_block (heap_alloc_new _ _)) (RS.one ⟨x.r,A2,c2,D2,d2,N2,n2⟩) ?c1 ?c2 ?c3 ?_))
   case c1=>unfold maxLen; omega
   case c2=>omega
   case c3=>first | omega | (simp; omega)
   intro v' w9 hown hgrow hiff
   obtain ⟨DA',dc',hv⟩:=own_form hown
   subst hv
   have HW9 : Hid (RcsO w9 w.heap.size DA' dc' (ys ++ [(⟨x.r,A2,c2,D2,d2,N2,n2⟩ : RS)]) ∧ Below w.heap.size w w9 ∧ (ys ++ [(⟨x.r,A2,c2,D2,d2,N2,n2⟩ : RS)]).map RS.r = (xs.map RS.r).take (k + 1)):=by
    refine ⟨own.push HO2.out hown hgrow,(((HW.out.2.1.trans (HB2.out.mono HW.out.2.1.size)).alloc hzz _).grown hgrow (by simp; omega) (fun k hk=>own_low own.own hk)),?_⟩
    rw [HE.out,List.map_append,HW.out.2.2]; rfl
   have HYL2 : Hid ((ys ++ [(⟨x.r,A2,c2,D2,d2,N2,n2⟩ : RS)]).length = k + 1):=by unfold Hid; rw [List.length_append,HYL.out]; rfl
   clear hown hgrow hiff own hzz
   go_wp2
   go_roundw
   case rel=>exact ⟨k + 1,DA',dc',ys ++ [(⟨x.r,A2,c2,D2,d2,N2,n2⟩ : RS)],hlt,by rw [List.length_append]; rfl,by go_num,HYL2,HW9⟩
   case measure=>simp [intOf]; omega
  ·obtain rfl : k = xs.length:=by omega
   have HD : Hid (RecsPost w S.l (.returned (.slice DA ys.length dc)) wr):=by
    have h9:=HW.out.2.2
    rw [List.take_of_length_le (by simp)] at h9
    exact ⟨DA,dc,ys,rfl,h9.trans HR.out,HW.out.1,HW.out.2.1⟩
   go_wp2
   go_ret
   exact HD.out
end
end Go.Proofs.YtaggiceejcegdaaGreat
namespace Go.Proofs.YtaggiceejcegdaaGreat
set_option linter.unusedVariables false
open Go.RowKit
set_option maxRecDepth 100000 in
set_option maxHeartbeats 1000000 in
theorem brief_any (r : Rec) (A D N : Option Addr) (c d n : Nat) (w : World) :
  Calls Tryz.prog 10 #[.agg #[.int .u64 r.gen,.int .u64 r.seq,.slice A r.ws.length c,.slice D r.ms.length d,.slice N r.note.length n]] w fun e w'=>e = .returned (.bool (briefR r)) ∧ Below w.heap.size w w':=by
 have hb0 : Below w.heap.size w (w.alloc (.cells #[.int .u64 r.gen,.int .u64 r.seq,.slice A r.ws.length c,.slice D r.ms.length d,.slice N r.note.length n] 28)):=(Below.refl _ _).alloc (Nat.le_refl _) _
 have HB:=Lib.hid hb0
 have HE : Hid (briefR r = (decide (r.ws.length ≤ 6) && decide (r.ms.length ≤ 6) && decide (r.note.length ≤ 300))):=rfl
 have e1 : decide ((r.ws.length : Int) ≤ 6) = decide (r.ws.length ≤ 6):=by simp; omega
 have e2 : decide ((r.ms.length : Int) ≤ 6) = decide (r.ms.length ≤ 6):=by simp; omega
 have e3 : decide ((r.note.length : Int) ≤ 300) = decide (r.note.length ≤ 300):=by simp; omega
 clear hb0
 cases h1 : decide (r.ws.length ≤ 6)
 ·rw [h1] at HE e1
  go_enter Tryz.func10,Tryz.ntmps10
  go_wp2
  go_ret
  exact ⟨by rw [HE.out]; rfl,HB.out⟩
 ·rw [h1] at HE e1
  cases h2 : decide (r.ms.length ≤ 6)
  ·rw [h2] at HE e2
   go_enter Tryz.func10,Tryz.ntmps10
   go_wp2
   go_ret
   exact ⟨by rw [HE.out]; rfl,HB.out⟩
  ·rw [h2] at HE e2
   cases h3 : decide (r.note.length ≤ 300)
   ·rw [h3] at HE e3
    go_enter Tryz.func10,Tryz.ntmps10
    go_wp2
    go_ret
    exact ⟨by rw [HE.out]; rfl,HB.out⟩
   ·rw [h3] at HE e3
    go_enter Tryz.func10,Tryz.ntmps10
    go_wp2
    go_ret
    exact ⟨by rw [HE.out]; rfl,HB.out⟩
end Go.Proofs.YtaggiceejcegdaaGreat
namespace Go.Proofs.YtaggiceejcegdaaGreat
set_option linter.unusedVariables false
open Go.RowKit
theorem opsAt_take : ∀ (xs : List (List Int)) (a n : Nat),(opsAt a xs).take n = opsAt a (xs.take n)
 | [],a,n=>by simp [opsAt]
 | x :: xs,a,0=>by simp [opsAt]
 | x :: xs,a,n + 1=>by rw [opsAt,List.take_succ_cons,List.take_succ_cons,opsAt,opsAt_take xs]
theorem setSeq_app : ∀ (xs ys : List (List Int)) (L : List Sec) (a : Nat),setSeq (setSeq L a xs) (a + xs.length) ys = setSeq L a (xs ++ ys)
 | [],ys,L,a=>rfl
 | x :: xs,ys,L,a=>by
   rw [List.cons_append,setSeq,setSeq,List.length_cons,show a + (xs.length + 1) = a + 1 + xs.length by omega,setSeq_app xs ys]
end Go.Proofs.YtaggiceejcegdaaGreat
namespace Go.Proofs.YtaggiceejcegdaaGreat
set_option linter.unusedVariables false
open Go.RowKit
section
variable {w W W' : World} {n pb pw rp : Nat} {PA RA : Option Addr} {pc rc : Nat} {qs rqs : List Nat} {no : Nat → Bool} {m mr : MS} {B : Bd}
section
variable {i q : Nat} {v : DX} {key at_ : Int}
end
end
theorem newMS_ok {fs : List (List Flt)} (h : ∀ F ∈ fs,(∀ f ∈ F,I64 f.to_) ∧ F.length ≤ 9223372036854775807) : (newMS fs).Ok 0:=by
 intro i v hv
 have hm:=List.mem_of_getElem? hv
 unfold newMS at hm
 obtain ⟨F,hF,rfl⟩:=List.mem_map.1 hm
 exact ⟨(h F hF).1,(h F hF).2,Nat.le_refl _⟩
end Go.Proofs.YtaggiceejcegdaaGreat
namespace Go.Proofs.YtaggiceejcegdaaGreat
set_option linter.unusedVariables false
open Go.ChangeShapes Go.WideShapes Go.ChangeAt Go.RowKit Go.Deep
theorem u64_of {x : Int} (h : (Lit.int .u64 x).wf = true) : 0 ≤ x ∧ x < 18446744073709551616:=by
 simp [Lit.wf,IntKind.min,IntKind.max,IntKind.signed,IntKind.bits] at h
 exact ⟨by omega,by omega⟩
theorem cellsU64 : Tryz.prog.cellsOf 23 = 1:=by kernel_rfl
theorem cellsBlock : Tryz.prog.cellsOf 149 = 8:=by kernel_rfl
theorem cellsPlace : Tryz.prog.cellsOf 154 = 2:=by kernel_rfl
theorem cellsPW : Tryz.prog.cellsOf 151 = 11:=by kernel_rfl
theorem cellsMv : Tryz.prog.cellsOf 156 = 4:=by kernel_rfl
theorem cellsPWs : Tryz.prog.cellsOf 24 = 1:=by kernel_rfl
theorem cellsMvs : Tryz.prog.cellsOf 25 = 1:=by kernel_rfl
theorem list8v {α : Type} {l : List α} (h : l.length = 8) : ∃ a0 a1 a2 a3 a4 a5 a6 a7,l = [a0,a1,a2,a3,a4,a5,a6,a7]:=by
 match l,h with
 | [a0,a1,a2,a3,a4,a5,a6,a7],_=>exact ⟨a0,a1,a2,a3,a4,a5,a6,a7,rfl⟩
section
variable {H : Type} {enc : TypeId × Value → H} {w : World} {base : Nat} {spare : Nat → Bool} {held : Bool}
theorem open_block {fuel : Nat} {cs : List Value} {y : DataW H × List MemPlace} (hcs : cs.length = 8) (h : DataW.trod enc Tryz.prog w base spare held fuel 149 cs = some y) : ∃ d0 d1 d2 d3 d4 d5 d6 d7,cs = [.int .u8 d0,.int .u8 d1,.int .u8 d2,.int .u8 d3,.int .u8 d4,.int .u8 d5,.int .u8 d6,.int .u8 d7] ∧ U8s [d0,d1,d2,d3,d4,d5,d6,d7]:=by
 obtain ⟨c0,c1,c2,c3,c4,c5,c6,c7,rfl⟩:=list8v hcs
 obtain ⟨xs,k,_,_,_,hxl,hf⟩:=DataW.trod_array Tryz.underlying149 h
 clear h
 have one : ∀ i,i < 8 → ∃ d,[c0,c1,c2,c3,c4,c5,c6,c7][i]? = some (.int .u8 d) ∧ 0 ≤ d ∧ d ≤ 255:=fun i hi=>by
  have h1:=hf i hi
  rw [cellsU8,Nat.mul_one,List.getElem?_eq_getElem (by rw [hxl]; exact hi)] at h1
  obtain ⟨d,e,_,wd⟩:=DataW.trod_int Tryz.underlying5 h1
  refine ⟨d,?_,u8_of wd⟩
  have h2 : (([c0,c1,c2,c3,c4,c5,c6,c7].drop i).take 1)[0]? = some (.int .u8 d):=by rw [e]; rfl
  rw [List.getElem?_take,if_pos (by omega),List.getElem?_drop] at h2
  exact h2
 ·obtain ⟨d0,e0,w0⟩:=one 0 (by omega)
  obtain ⟨d1,e1,w1⟩:=one 1 (by omega)
  obtain ⟨d2,e2,w2⟩:=one 2 (by omega)
  obtain ⟨d3,e3,w3⟩:=one 3 (by omega)
  obtain ⟨d4,e4,w4⟩:=one 4 (by omega)
  obtain ⟨d5,e5,w5⟩:=one 5 (by omega)
  obtain ⟨d6,e6,w6⟩:=one 6 (by omega)
  obtain ⟨d7,e7,w7⟩:=one 7 (by omega)
  have k0 : c0 = .int .u8 d0:=Option.some.inj e0
  have k1 : c1 = .int .u8 d1:=Option.some.inj e1
  have k2 : c2 = .int .u8 d2:=Option.some.inj e2
  have k3 : c3 = .int .u8 d3:=Option.some.inj e3
  have k4 : c4 = .int .u8 d4:=Option.some.inj e4
  have k5 : c5 = .int .u8 d5:=Option.some.inj e5
  have k6 : c6 = .int .u8 d6:=Option.some.inj e6
  have k7 : c7 = .int .u8 d7:=Option.some.inj e7
  clear e0 e1 e2 e3 e4 e5 e6 e7
  subst k0; subst k1; subst k2; subst k3; subst k4; subst k5; subst k6; subst k7
  refine ⟨d0,d1,d2,d3,d4,d5,d6,d7,rfl,fun x hx=>?_⟩
  simp only [List.mem_cons,List.not_mem_nil,or_false] at hx
  rcases hx with rfl | rfl | rfl | rfl | rfl | rfl | rfl | rfl <;> assumption
theorem open_pw {fuel : Nat} {cs : List Value} {y : DataW H × List MemPlace} (hcs : cs.length = 11) (h : DataW.trod enc Tryz.prog w base spare held fuel 151 cs = some y) : ∃ x : PW,cs = x.cells ∧ x.Ok:=by
 match cs,hcs with
 | [c0,c1,c2,c3,c4,c5,c6,c7,c8,c9,c10],_=>
   obtain ⟨xs,k,_,_,_,hxl,hf⟩:=DataW.trod_struct Tryz.underlying151 h
   match xs,hxl with
   | [x0,x1,x2,x3],_=>
     have f0 : DataW.trod enc Tryz.prog w base spare held k 3 (([c0,c1,c2,c3,c4,c5,c6,c7,c8,c9,c10].drop 0).take (Tryz.prog.cellsOf 3)) = some x0:=hf 0 _ rfl
     have f1 : DataW.trod enc Tryz.prog w base spare held k 3 (([c0,c1,c2,c3,c4,c5,c6,c7,c8,c9,c10].drop 1).take (Tryz.prog.cellsOf 3)) = some x1:=hf 1 _ rfl
     have f2 : DataW.trod enc Tryz.prog w base spare held k 23 (([c0,c1,c2,c3,c4,c5,c6,c7,c8,c9,c10].drop 2).take (Tryz.prog.cellsOf 23)) = some x2:=hf 2 _ rfl
     have f3 : DataW.trod enc Tryz.prog w base spare held k 149 (([c0,c1,c2,c3,c4,c5,c6,c7,c8,c9,c10].drop 3).take (Tryz.prog.cellsOf 149)) = some x3:=hf 3 _ rfl
     rw [cellsInt] at f0 f1
     rw [cellsU64] at f2
     rw [cellsBlock] at f3
     obtain ⟨n0,e0,_,w0⟩:=DataW.trod_int Tryz.underlying3 f0
     obtain ⟨n1,e1,_,w1⟩:=DataW.trod_int Tryz.underlying3 f1
     obtain ⟨n2,e2,_,w2⟩:=DataW.trod_int Tryz.underlying23 f2
     have f3' : DataW.trod enc Tryz.prog w base spare held k 149 [c3,c4,c5,c6,c7,c8,c9,c10] = some x3:=f3
     obtain ⟨d0,d1,d2,d3,d4,d5,d6,d7,e3,hu⟩:=open_block rfl f3'
     simp at e0 e1 e2 e3
     obtain ⟨e3,e4,e5,e6,e7,e8,e9,e10⟩:=e3
     subst e0; subst e1; subst e2; subst e3; subst e4; subst e5; subst e6; subst e7; subst e8; subst e9; subst e10
     have hn:=u64_of w2
     refine ⟨⟨n0,n1,n2.toNat,d0,d1,d2,d3,d4,d5,d6,d7⟩,?_,i64_of w0,i64_of w1,by show n2.toNat < 2 ^ 64; omega,hu⟩
     unfold PW.cells
     rw [show ((n2.toNat : Nat) : Int) = n2 from Int.toNat_of_nonneg hn.1]
theorem open_mv {fuel : Nat} {cs : List Value} {y : DataW H × List MemPlace} (hcs : cs.length = 4) (h : DataW.trod enc Tryz.prog w base spare held fuel 156 cs = some y) : ∃ x : Mv,cs = x.cells ∧ x.Ok:=by
 match cs,hcs with
 | [c0,c1,c2,c3],_=>
   obtain ⟨xs,k,_,_,_,hxl,hf⟩:=DataW.trod_struct Tryz.underlying156 h
   match xs,hxl with
   | [x0,x1,x2],_=>
     have f0 : DataW.trod enc Tryz.prog w base spare held k 3 (([c0,c1,c2,c3].drop 0).take (Tryz.prog.cellsOf 3)) = some x0:=hf 0 _ rfl
     have f1 : DataW.trod enc Tryz.prog w base spare held k 3 (([c0,c1,c2,c3].drop 1).take (Tryz.prog.cellsOf 3)) = some x1:=hf 1 _ rfl
     have f2 : DataW.trod enc Tryz.prog w base spare held k 154 (([c0,c1,c2,c3].drop 2).take (Tryz.prog.cellsOf 154)) = some x2:=hf 2 _ rfl
     rw [cellsInt] at f0 f1
     rw [cellsPlace] at f2
     obtain ⟨n0,e0,_,w0⟩:=DataW.trod_int Tryz.underlying3 f0
     obtain ⟨n1,e1,_,w1⟩:=DataW.trod_int Tryz.underlying3 f1
     have f2' : DataW.trod enc Tryz.prog w base spare held k 154 [c2,c3] = some x2:=f2
     obtain ⟨ys,k2,_,_,_,hyl,hg⟩:=DataW.trod_struct Tryz.underlying154 f2'
     match ys,hyl with
     | [y0,y1],_=>
       have g0 : DataW.trod enc Tryz.prog w base spare held k2 3 (([c2,c3].drop 0).take (Tryz.prog.cellsOf 3)) = some y0:=hg 0 _ rfl
       have g1 : DataW.trod enc Tryz.prog w base spare held k2 3 (([c2,c3].drop 1).take (Tryz.prog.cellsOf 3)) = some y1:=hg 1 _ rfl
       rw [cellsInt] at g0 g1
       obtain ⟨n2,e2,_,w2⟩:=DataW.trod_int Tryz.underlying3 g0
       obtain ⟨n3,e3,_,w3⟩:=DataW.trod_int Tryz.underlying3 g1
       simp at e0 e1 e2 e3
       subst e0; subst e1; subst e2; subst e3
       exact ⟨⟨n0,n1,n2,n3⟩,rfl,i64_of w0,i64_of w1,i64_of w2,i64_of w3⟩
theorem open_pws {fuel : Nat} {v : Value} {y : DataW H × List MemPlace} (h : DataW.trod enc Tryz.prog w base spare held fuel 24 [v] = some y) : ∃ (A : Option Addr) (l : List PW) (c : Nat),v = .slice A l.length c ∧ Rd w w.heap.size A (flatW l) ∧ (∀ x ∈ l,x.Ok) ∧ l.length ≤ 9223372036854775807:=by
 rcases open_slice Tryz.underlying24 h with ⟨hcs,_⟩ | ⟨a,len,cap,m,n,D,Pl,hcs,_,hl,hm,hmm,_,hel⟩
 ·simp at hcs
  subst hcs
  exact ⟨none,[],0,rfl,Rd.nil_ _ _ _,fun x hx=>by simp at hx,by simp⟩
 ·simp at hcs
  subst hcs
  have hlm : len ≤ m:=by rw [hmm]; split <;> omega
  obtain ⟨l,hll,hq⟩:=list_of (Q:=fun i (o : PW)=>o.Ok ∧ ∀ t u,o.cells[t]? = some u → w.cell? (a.add (i * 11 + t)) = some u) len (fun i hi=>by
   obtain ⟨cs',hc,ht⟩:=hel i (by omega)
   rw [cellsPW] at hc
   obtain ⟨_,hcl,hat⟩:=World.cells?_some hc
   obtain ⟨o,rfl,ho⟩:=open_pw hcl ht
   refine ⟨o,ho,fun t u hu=>?_⟩
   have ht3 : t < 11:=(List.getElem?_eq_some_iff.1 hu).1
   rw [← Go.Deep.add_add,hat t ht3]
   exact hu)
  refine ⟨some a,l,cap,by rw [hll],rd_of_add fun j u hu=>?_,fun b hb=>?_,by unfold maxLen at hm; omega⟩
  ·have hj : j < l.length * 11:=by rw [← flatW_len]; exact (List.getElem?_eq_some_iff.1 hu).1
   have e : (flatW l)[j / 11 * 11 + j % 11]? = (l[j / 11]?).bind fun b=>b.cells[j % 11]?:=flat_get _ 11 (fun _=>rfl) l (j / 11) (j % 11) (by omega)
   rw [show j / 11 * 11 + j % 11 = j by omega,hu,List.getElem?_eq_getElem (by omega : j / 11 < l.length)] at e
   have:=(hq (j / 11) _ (List.getElem?_eq_getElem (by omega))).2 (j % 11) u e.symm
   rw [show j / 11 * 11 + j % 11 = j by omega] at this
   exact this
  ·obtain ⟨i,hi⟩:=List.mem_iff_getElem?.1 hb
   exact (hq i b hi).1
theorem open_mvs {fuel : Nat} {v : Value} {y : DataW H × List MemPlace} (h : DataW.trod enc Tryz.prog w base spare held fuel 25 [v] = some y) : ∃ (A : Option Addr) (l : List Mv) (c : Nat),v = .slice A l.length c ∧ Rd w w.heap.size A (flatM l) ∧ (∀ x ∈ l,x.Ok) ∧ l.length ≤ 9223372036854775807:=by
 rcases open_slice Tryz.underlying25 h with ⟨hcs,_⟩ | ⟨a,len,cap,m,n,D,Pl,hcs,_,hl,hm,hmm,_,hel⟩
 ·simp at hcs
  subst hcs
  exact ⟨none,[],0,rfl,Rd.nil_ _ _ _,fun x hx=>by simp at hx,by simp⟩
 ·simp at hcs
  subst hcs
  have hlm : len ≤ m:=by rw [hmm]; split <;> omega
  obtain ⟨l,hll,hq⟩:=list_of (Q:=fun i (o : Mv)=>o.Ok ∧ ∀ t u,o.cells[t]? = some u → w.cell? (a.add (i * 4 + t)) = some u) len (fun i hi=>by
   obtain ⟨cs',hc,ht⟩:=hel i (by omega)
   rw [cellsMv] at hc
   obtain ⟨_,hcl,hat⟩:=World.cells?_some hc
   obtain ⟨o,rfl,ho⟩:=open_mv hcl ht
   refine ⟨o,ho,fun t u hu=>?_⟩
   have ht3 : t < 4:=(List.getElem?_eq_some_iff.1 hu).1
   rw [← Go.Deep.add_add,hat t ht3]
   exact hu)
  refine ⟨some a,l,cap,by rw [hll],rd_of_add fun j u hu=>?_,fun b hb=>?_,by unfold maxLen at hm; omega⟩
  ·have hj : j < l.length * 4:=by rw [← flatM_len]; exact (List.getElem?_eq_some_iff.1 hu).1
   have e : (flatM l)[j / 4 * 4 + j % 4]? = (l[j / 4]?).bind fun b=>b.cells[j % 4]?:=flat_get _ 4 (fun _=>rfl) l (j / 4) (j % 4) (by omega)
   rw [show j / 4 * 4 + j % 4 = j by omega,hu,List.getElem?_eq_getElem (by omega : j / 4 < l.length)] at e
   have:=(hq (j / 4) _ (List.getElem?_eq_getElem (by omega))).2 (j % 4) u e.symm
   rw [show j / 4 * 4 + j % 4 = j by omega] at this
   exact this
  ·obtain ⟨i,hi⟩:=List.mem_iff_getElem?.1 hb
   exact (hq i b hi).1
end
end Go.Proofs.YtaggiceejcegdaaGreat
namespace Go.Proofs.YtaggiceejcegdaaGreat
set_option linter.unusedVariables false
open Go.ChangeShapes Go.WideShapes Go.ChangeAt Go.RowKit Go.Deep
theorem cellsRec : Tryz.prog.cellsOf 28 = 5:=by kernel_rfl
section
variable {H : Type} {enc : TypeId × Value → H} {w : World} {base : Nat} {spare : Nat → Bool} {held : Bool}
set_option maxRecDepth 10000 in
theorem open_rs {fuel : Nat} {cs : List Value} {y : DataW H × List MemPlace} (hcs : cs.length = 5) (h : DataW.trod enc Tryz.prog w base spare held fuel 28 cs = some y) : ∃ x : RS,cs = x.cells ∧ RSIn w x:=by
 match cs,hcs with
 | [c0,c1,c2,c3,c4],_=>
   obtain ⟨xs,k,_,_,_,hxl,hf⟩:=DataW.trod_struct Tryz.underlying28 h
   match xs,hxl with
   | [x0,x1,x2,x3,x4],_=>
     have f0 : DataW.trod enc Tryz.prog w base spare held k 23 (([c0,c1,c2,c3,c4].drop 0).take (Tryz.prog.cellsOf 23)) = some x0:=hf 0 _ rfl
     have f1 : DataW.trod enc Tryz.prog w base spare held k 23 (([c0,c1,c2,c3,c4].drop 1).take (Tryz.prog.cellsOf 23)) = some x1:=hf 1 _ rfl
     have f2 : DataW.trod enc Tryz.prog w base spare held k 24 (([c0,c1,c2,c3,c4].drop 2).take (Tryz.prog.cellsOf 24)) = some x2:=hf 2 _ rfl
     have f3 : DataW.trod enc Tryz.prog w base spare held k 25 (([c0,c1,c2,c3,c4].drop 3).take (Tryz.prog.cellsOf 25)) = some x3:=hf 3 _ rfl
     have f4 : DataW.trod enc Tryz.prog w base spare held k 26 (([c0,c1,c2,c3,c4].drop 4).take (Tryz.prog.cellsOf 26)) = some x4:=hf 4 _ rfl
     rw [cellsU64] at f0 f1
     rw [cellsPWs] at f2
     rw [cellsMvs] at f3
     rw [cellsBytes] at f4
     obtain ⟨n0,e0,_,w0⟩:=DataW.trod_int Tryz.underlying23 f0
     obtain ⟨n1,e1,_,w1⟩:=DataW.trod_int Tryz.underlying23 f1
     have f2' : DataW.trod enc Tryz.prog w base spare held k 24 [c2] = some x2:=f2
     have f3' : DataW.trod enc Tryz.prog w base spare held k 25 [c3] = some x3:=f3
     have f4' : DataW.trod enc Tryz.prog w base spare held k 26 [c4] = some x4:=f4
     obtain ⟨A,ws,c,e2,hw,hwo,hwl⟩:=open_pws f2'
     obtain ⟨D,ms,d,e3,hm,hmo,hml⟩:=open_mvs f3'
     obtain ⟨s,hs⟩:=open_bytes f4'
     have e4:=hs.val
     simp at e0 e1
     subst e0; subst e1; subst e2; subst e3; subst e4
     have g0:=u64_of w0
     have g1:=u64_of w1
     have hcap:=hs.cap
     have hbig:=hs.big
     refine ⟨⟨⟨n0.toNat,n1.toNat,ws,ms,s.xs⟩,A,c,D,d,s.A,s.c⟩,?_,⟨hw,hm,hs.rd⟩,⟨by show n0.toNat < 2 ^ 64; omega,by show n1.toNat < 2 ^ 64; omega,hwo,hmo,hs.ok⟩,hwl,hml,by show s.xs.length ≤ _; omega⟩
     show _ = [Value.int .u64 (n0.toNat : Nat),.int .u64 (n1.toNat : Nat),_,_,_]
     rw [show ((n0.toNat : Nat) : Int) = n0 from Int.toNat_of_nonneg g0.1,show ((n1.toNat : Nat) : Int) = n1 from Int.toNat_of_nonneg g1.1]
     rfl
theorem open_recs {fuel : Nat} {v : Value} {y : DataW H × List MemPlace} (h : DataW.trod enc Tryz.prog w base spare held fuel 22 [v] = some y) : ∃ A l c,RcsIn w v A l c:=by
 rcases open_slice Tryz.underlying22 h with ⟨hcs,_⟩ | ⟨a,len,cap,m,n,D,Pl,hcs,hx1,hl,hm,hmm,hx2,hel⟩
 ·simp at hcs
  subst hcs
  exact ⟨none,[],0,rfl,RcsR.nil _ _ _,fun x hx=>by simp at hx,Nat.le_refl _,by omega⟩
 ·simp at hcs
  subst hcs
  have hlm : len ≤ m:=by rw [hmm]; split <;> omega
  obtain ⟨l,hll,hq⟩:=list_of (Q:=fun i (o : RS)=>RSIn w o ∧ ∀ t u,o.cells[t]? = some u → w.cell? (a.add (i * 5 + t)) = some u) len (fun i hi=>by
   obtain ⟨cs',hc,ht⟩:=hel i (by omega)
   rw [cellsRec] at hc
   obtain ⟨_,hcl,hat⟩:=World.cells?_some hc
   obtain ⟨o,rfl,ho⟩:=open_rs hcl ht
   refine ⟨o,ho,fun t u hu=>?_⟩
   have ht3 : t < 5:=(List.getElem?_eq_some_iff.1 hu).1
   rw [← Go.Deep.add_add,hat t ht3]
   exact hu)
  refine ⟨some a,l,cap,by rw [hll],⟨rd_of_add fun j u hu=>?_,fun b hb=>?_⟩,fun b hb=>?_,by omega,by unfold maxLen at hm; omega⟩
  ·have hj : j < l.length * 5:=by rw [← flatR_len]; exact (List.getElem?_eq_some_iff.1 hu).1
   have e : (flatR l)[j / 5 * 5 + j % 5]? = (l[j / 5]?).bind fun b=>b.cells[j % 5]?:=flat_get _ 5 (fun _=>rfl) l (j / 5) (j % 5) (by omega)
   rw [show j / 5 * 5 + j % 5 = j by omega,hu,List.getElem?_eq_getElem (by omega : j / 5 < l.length)] at e
   have:=(hq (j / 5) _ (List.getElem?_eq_getElem (by omega))).2 (j % 5) u e.symm
   rw [show j / 5 * 5 + j % 5 = j by omega] at this
   exact this
  ·obtain ⟨i,hi⟩:=List.mem_iff_getElem?.1 hb
   exact (hq i b hi).1.rd
  ·obtain ⟨i,hi⟩:=List.mem_iff_getElem?.1 hb
   exact (hq i b hi).1
end
end Go.Proofs.YtaggiceejcegdaaGreat
namespace Go.Proofs.YtaggiceejcegdaaGreat
set_option linter.unusedVariables false
open Go.RowKit
theorem appE_zero {S : LogS} {r : Rec} (h : appE S r = 0) : validR (S.num r) = true ∧ ((encR (S.num r)).length : Int) ≤ S.sec - S.used:=by
 unfold appE at h
 split at h
 ·rename_i h1
  split at h
  ·rename_i h2; exact ⟨h1,h2⟩
  ·omega
 ·omega
theorem num_ok {S : LogS} (hS : S.Ok) {r : Rec} (hok : r.Ok) : (S.num r).Ok:=⟨hS.g,by show S.l.length + 1 < 2 ^ 64; have:=hS.l; omega,hok.ws,hok.ms,hok.note⟩
theorem appS_ok {S : LogS} (hS : S.Ok) {r : Rec} (hok : r.Ok) (ht : Tiny r) (hl : S.l.length < 100) : (appS S r).Ok:=by
 unfold appS
 split
 ·rename_i h0
  obtain ⟨_,h2⟩:=appE_zero h0
  have h3:=hS.u0
  refine ⟨hS.g,hS.f0,hS.f1,?_,?_,hS.s1,?_,?_⟩
  ·show 0 ≤ S.used + ((encR (S.num r)).length : Int); omega
  ·show S.used + ((encR (S.num r)).length : Int) ≤ S.sec; omega
  ·show (S.l ++ [S.num r]).length ≤ 100; rw [List.length_append]; simp; omega
  ·intro x hx
   rcases List.mem_append.1 hx with h | h
   ·exact hS.t x h
   ·obtain rfl:=List.mem_singleton.1 h
    exact ⟨⟨ht.ws,ht.ms,ht.note⟩,num_ok hS hok⟩
 ·exact hS
theorem appS_len (S : LogS) (r : Rec) : (appS S r).l.length ≤ S.l.length + 1:=by
 unfold appS
 split
 ·show (S.l ++ [S.num r]).length ≤ _; simp
 ·omega
theorem appS_sec (S : LogS) (r : Rec) : (appS S r).sec = S.sec ∧ (appS S r).fr = S.fr ∧ (appS S r).gen = S.gen:=by
 unfold appS
 split <;> exact ⟨rfl,rfl,rfl⟩
theorem appM_ok {g : Geo} {key : Int} {no : Nat → Bool} {S : LogS} {r : Rec} {m : MS} {N : Nat} (hS : S.Ok) (h18 : S.sec ≤ 18) (h : m.Ok N) : (appM g key no S r m).1.Ok (N + 162):=by
 unfold appM
 split
 ·rename_i h0
  obtain ⟨_,h2⟩:=appE_zero h0
  have h3:=hS.u0
  exact (allD_ok h).mono (by omega)
 ·exact h.mono (by omega)
theorem brief_tiny {r : Rec} (h : briefR r = true) : Tiny r:=by
 unfold briefR at h
 simp only [Bool.and_eq_true,decide_eq_true_eq] at h
 exact ⟨by omega,by omega,by omega⟩
theorem newB_nil {gen : Nat} {fr sec : Int} (h0 : 0 ≤ fr) (h1 : 0 ≤ sec) : newB gen fr sec [] = true:=by
 unfold newB
 have e : logV [] = true:=rfl
 have e2 : ((secsL []).length : Int) = 0:=rfl
 rw [e,e2,decide_eq_true h0,decide_eq_true h1]; rfl
theorem S0L_ok {gen : Nat} {fr sec : Int} (hg : gen < 2 ^ 64) (h0 : 0 ≤ fr) (h1 : fr ≤ 1000) (h2 : 0 ≤ sec) (h3 : sec ≤ 1000) : (S0L gen fr sec).Ok:=⟨hg,h0,h1,Int.le_refl _,h2,h3,by show 0 ≤ 100; omega,fun r hr=>by simp [S0L] at hr⟩
theorem WS.start {w W0 W1 W3 : World} {b pw : Nat} {V : Option Nat} {v0 v1 v3 : Value} {PA : Option Addr} {pc : Nat} {qs : List Nat} {S : LogS} {m : MS} (hb0 : Below w.heap.size w W0)
  (hP : W1.ownsRow W0.heap.size 52 1 (.slice PA qs.length pc) qs.length (ptrs qs no0)) (hm : ManyM W1 W0.heap.size pw gW qs m) (hb1 : Below W0.heap.size W0 W1)
  (hlm : LogM W3 (W1.heap.size + 1) b V S) (hb3 : Below (W1.heap.size + 1) (W1.alloc (.cells #[v0,v1,.slice PA qs.length pc,v3] 36)) W3) : WS w W3 W0.heap.size W1.heap.size b pw V v0 v1 v3 PA pc qs no0 S m:=by
 have hz0:=hb0.size
 have hz1:=hb1.size
 have hbp : Below W1.heap.size W1 (W1.alloc (.cells #[v0,v1,.slice PA qs.length pc,v3] 36)):=(Below.refl _ _).alloc (Nat.le_refl _) _
 have orow:=World.ownsRow_lit (base:=w.heap.size) (e:=36) (size:=4) W1 #[v0,v1,.slice PA qs.length pc,v3] 1 (by omega) (by decide) rfl
 have hza : (W1.alloc (.cells #[v0,v1,.slice PA qs.length pc,v3] 36)).heap.size = W1.heap.size + 1:=by simp
 rw [← hza] at hb3
 have hk:=belKept0 (S:=fun _=>False) hb3
 have hkp:=belKept0 (S:=fun _=>False) hbp
 refine ⟨own_kept orow hk (fun _ _ h=>h),own_mono (own_kept (own_kept hP hkp (fun _ _ h=>h)) hk (fun _ _ h=>h)) hz0,hlm.mono (by omega),(hm.below0 hbp).below0 hb3,(hb0.trans (hb1.mono hz0)).trans ((hbp.mono (by omega)).trans (hb3.mono (by rw [hza]; omega))),hz0⟩
end Go.Proofs.YtaggiceejcegdaaGreat
namespace Go.Proofs.YtaggiceejcegdaaGreat
set_option linter.unusedVariables false
open Go.RowKit
def rlogObj (S : LogS) (A : Option Addr) (m c : Nat) : List Value:=[.int .u64 S.gen,.int .i64 S.fr,.int .i64 S.sec,.int .i64 S.used,.slice A m c]
structure RLogMem (w : World) (n b : Nat) (A : Option Addr) (c : Nat) (xs : List RS) (S : LogS) : Prop where
 obj : w.ownsRow n 68 5 (.slice (some ⟨b,0,none⟩) 1 1) 1 (rlogObj S A xs.length c)
 rec_ : xs.map RS.r = S.l
 own : w.ownsRow n 28 5 (.slice A xs.length c) xs.length (flatR xs)
 each : ∀ x ∈ xs,RecR w n x.r x.A x.c x.D x.d x.N x.n
def RLogM (w : World) (n b : Nat) (V : Option Nat) (S : LogS) : Prop:=∃ A c xs,RLogMem w n b A c xs S ∧ (Value.slice A xs.length c).ownBlock = V
section
variable {w w' : World} {n b : Nat} {A : Option Addr} {c : Nat} {xs : List RS} {S : LogS} {V : Option Nat}
end
end Go.Proofs.YtaggiceejcegdaaGreat
namespace Go.Proofs.YtaggiceejcegdaaGreat
set_option linter.unusedVariables false
open Go.RowKit
def RLDT : List TypeId:=[234,204,145,131,68]
def RKeptA (n : Nat) (V : Option Nat) (w w' : World) : Prop:=Kept (fun k=>n ≤ k ∧ (HasT RLDT w k ∨ V = some k)) w w'
def RAppPost (w : World) (n b rp : Nat) (g : Geo) (qs : List Nat) (V : Option Nat) (S' : LogS) (x : MS × List Int) (er : Int) (e : Ending) (w' : World) : Prop:=
 ∃ A c V',e = .returned (.tuple #[.slice A x.2.length c,.int .i64 er]) ∧ w'.ownsRow w.heap.size 41 1 (.slice A x.2.length c) x.2.length (x.2.map (Value.int .i64)) ∧ (V' = V ∨ ∃ k,V' = some k ∧ w.heap.size ≤ k) ∧ RLogM w' n b V' S' ∧ RManyM w' n rp g qs x.1 ∧ RKeptA n V w w'
def RAllPost (w : World) (n rp : Nat) (g : Geo) (qs : List Nat) (x : MS × List Int) (e : Ending) (w' : World) : Prop:=
 ∃ A c,e = .returned (.slice A x.2.length c) ∧ w'.ownsRow w.heap.size 41 1 (.slice A x.2.length c) x.2.length (x.2.map (Value.int .i64)) ∧ RManyM w' n rp g qs x.1 ∧ KeptT RDT (Bd.of n) w w'
def RAllW (w wr : World) (n rp : Nat) (g : Geo) (qs : List Nat) (x : MS × List Int) (A : Option Addr) (c : Nat) (es : List Int) : Prop:=
 es = x.2 ∧ wr.ownsRow w.heap.size 41 1 (.slice A es.length c) es.length (es.map (Value.int .i64)) ∧ RManyM wr n rp g qs x.1 ∧ KeptT RDT (Bd.of n) w wr
section
variable {w w' : World} {n b rp : Nat} {S : LogS} {V : Option Nat} {g : Geo} {qs : List Nat} {m : MS}
end
end Go.Proofs.YtaggiceejcegdaaGreat
namespace Go.Proofs.YtaggiceejcegdaaGreat
set_option linter.unusedVariables false
open Go.RowKit
def RLNewPost (w : World) (n gen : Nat) (fr sec : Int) (l : List Rec) (e : Ending) (w' : World) : Prop:=
 if newB gen fr sec l then ∃ b V,e = .returned (.tuple #[.pointer (some ⟨b,0,none⟩),.int .i64 0]) ∧ RLogM w' n b V ⟨gen,fr,sec,(secsL l).length,l⟩ ∧ Below w.heap.size w w' ∧ (∀ k,V = some k → w.heap.size ≤ k)
 else e = .returned (.tuple #[.pointer none,.int .i64 1]) ∧ Below w.heap.size w w'
end Go.Proofs.YtaggiceejcegdaaGreat
namespace Go.Proofs.YtaggiceejcegdaaGreat
set_option linter.unusedVariables false
open Go.RowKit
section
variable {w w' : World} {n n' b : Nat} {S : LogS} {V : Option Nat}
end
structure AS (w W : World) (n pb pw rp : Nat) (PA RA : Option Addr) (pc rc : Nat) (qs rqs : List Nat) (no : Nat → Bool) (b rb : Nat) (V RV : Option Nat) (S R : LogS) (m mr : MS) : Prop where
 ps : PS w W n pb pw rp PA RA pc rc qs rqs no m mr
 log : LogM W n b V S
 rlog : RLogM W n rb RV R
 dis : ∀ k,V = some k → RV = some k → False
section
variable {w W W' : World} {n pb pw rp : Nat} {PA RA : Option Addr} {pc rc : Nat} {qs rqs : List Nat} {no : Nat → Bool} {b rb : Nat} {V RV : Option Nat} {S R : LogS} {m mr : MS} {B : Bd}
end
structure LogS.Ok2 (S : LogS) : Prop where
 ok : S.Ok
 u : ((secsL S.l).length : Int) = S.used
 b : S.sec ≤ 18
theorem appS_ok2 {S : LogS} (hS : S.Ok2) {r : Rec} (hok : r.Ok) (ht : Tiny r) (hl : S.l.length < 100) : (appS S r).Ok2:=by
 refine ⟨appS_ok hS.ok hok ht hl,?_,by rw [(appS_sec S r).1]; exact hS.b⟩
 unfold appS
 split
 ·show ((secsL (S.l ++ [S.num r])).length : Int) = S.used + _
  rw [secsL_app,List.length_append]
  have h1 : secsL [S.num r] = encR (S.num r):=by unfold secsL; simp
  rw [h1,← hS.u]; simp
 ·exact hS.u
end Go.Proofs.YtaggiceejcegdaaGreat
namespace Go.Proofs.YtaggiceejcegdaaGreat
set_option linter.unusedVariables false
open Go.RowKit
theorem secs_mono (l : List Rec) {i j : Nat} (h : i ≤ j) : (secsL (l.take i)).length ≤ (secsL (l.take j)).length:=by
 have e : l.take j = l.take i ++ (l.drop i).take (j - i):=by
  rw [show j = i + (j - i) by omega,List.take_add]
  congr 2
  omega
 rw [e,secsL_app,List.length_append]
 omega
theorem cut_at (l : List Rec) (J : Nat) : ∀ k,k ≤ l.length → ∃ i,i ≤ k ∧ (secsL (l.take i)).length ≤ J ∧ (i = k ∨ J < (secsL (l.take (i + 1))).length)
 | 0,_=>⟨0,Nat.le_refl _,Nat.zero_le _,.inl rfl⟩
 | k + 1,hk=>by
   obtain ⟨i,h1,h2,h3⟩:=cut_at l J k (by omega)
   rcases h3 with h3 | h3
   ·subst h3
    by_cases hle : (secsL (l.take (i + 1))).length ≤ J
    ·exact ⟨i + 1,Nat.le_refl _,hle,.inl rfl⟩
    ·exact ⟨i,by omega,h2,.inr (by omega)⟩
   ·exact ⟨i,by omega,h2,.inr h3⟩
theorem insD_nil : ¬ (insD []).er = 0:=by
 have:=insD_short (b:=[]) (by decide)
 rw [this]; decide
theorem hd_first {ls : List (List Int)} {a : Rec} (hv : validR a = true) (hok : a.Ok) (h0 : ls[0]? = (encR a)[0]?) : (hdD ls).parts = (encR a).length:=by
 obtain ⟨s,ch,hs,hi,_⟩:=enc_get (k:=0) (encR_pos' a) hv hok
 rw [hs] at h0
 rw [hdD_get h0,hi]
theorem short_dec {a : Rec} (hv : validR a = true) (hok : a.Ok) {x m : Nat} (hx : x < (encR a).length) : ¬ (decD ((encR a).take x ++ List.replicate m [])).er = 0:=by
 intro h
 obtain ⟨h1,h2,_⟩:=dec_zero h
 have key : ∀ i,(((encR a).take x ++ List.replicate m [])[i]? = none ∨ ((encR a).take x ++ List.replicate m [])[i]? = some []) → ¬ partE ((encR a).take x ++ List.replicate m []) i = 0:=by
  intro i hi hp
  obtain ⟨b,hb,he,_⟩:=partE_get hp
  rcases hi with hi | hi
  ·rw [hi] at hb; cases hb
  ·rw [hi] at hb
   obtain rfl:=Option.some.inj hb
   exact insD_nil he
 have hl : ((encR a).take x).length = x:=by rw [List.length_take]; omega
 have tail : ∀ i,x ≤ i → (((encR a).take x ++ List.replicate m [])[i]? = none ∨ ((encR a).take x ++ List.replicate m [])[i]? = some []):=by
  intro i hi
  rw [List.getElem?_append_right (by omega),hl,List.getElem?_replicate]
  split
  ·exact .inr rfl
  ·exact .inl rfl
 by_cases h0 : x = 0
 ·exact key 0 (tail 0 (by omega)) h1
 ·have hh : ((encR a).take x ++ List.replicate m [])[0]? = (encR a)[0]?:=by
   rw [List.getElem?_append_left (by omega),List.getElem?_take,if_pos (by omega)]
  have hp:=hd_first hv hok hh
  exact key x (tail x (Nat.le_refl _)) (h2 x (by omega))
theorem blank_dec (m : Nat) : ¬ (decD (List.replicate m ([] : List Int))).er = 0:=by
 intro h
 obtain ⟨h1,_⟩:=dec_zero h
 obtain ⟨b,hb,he,_⟩:=partE_get h1
 rw [List.getElem?_replicate] at hb
 split at hb
 ·obtain rfl:=Option.some.inj hb
  exact insD_nil he
 ·cases hb
theorem scan_part {l : List Rec} {gen : Nat} (hv : LogG l gen) (hok : ∀ r ∈ l,r.Ok) {J m : Nat} (hJ : J ≤ (secsL l).length) :
  ∃ i,i ≤ l.length ∧ (∀ j,j ≤ l.length → (secsL (l.take j)).length ≤ J → j ≤ i) ∧ (scanD ((secsL l).take J ++ List.replicate m []) gen).1 = l.take i:=by
 obtain ⟨i,h1,h2,h3⟩:=cut_at l J l.length (Nat.le_refl _)
 refine ⟨i,h1,fun j hj hjl=>?_,?_⟩
 ·rcases h3 with h3 | h3
  ·omega
  ·by_cases e : j ≤ i
   ·exact e
   ·have:=secs_mono l (i:=i + 1) (j:=j) (by omega)
    omega
 ·have hti : (l.take i).length = i:=by rw [List.length_take]; omega
  by_cases hi : i < l.length
  ·have h4 : J < (secsL (l.take (i + 1))).length:=by
    rcases h3 with h3 | h3
    ·omega
    ·exact h3
   have e1 : secsL l = secsL (l.take i) ++ (encR l[i] ++ secsL (l.drop (i + 1))):=by
    have e2 : l = l.take i ++ (l[i] :: l.drop (i + 1)):=by rw [List.getElem_cons_drop,List.take_append_drop]
    have e3 : secsL (l[i] :: l.drop (i + 1)) = encR l[i] ++ secsL (l.drop (i + 1)):=rfl
    rw [← e3,← secsL_app,← e2]
   have e4:=secsL_take hi
   rw [e4,List.length_append] at h4
   have e5 : (secsL l).take J = secsL (l.take i) ++ (encR l[i]).take (J - (secsL (l.take i)).length):=by
    rw [e1,List.take_append,List.take_of_length_le h2,List.take_append,show J - (secsL (l.take i)).length - (encR l[i]).length = 0 by omega,List.take_zero,List.append_nil]
   rw [e5,List.append_assoc]
   have hg:=hv i hi
   have hb:=scan_Gb (hv.take i) (fun r hr=>hok r (List.mem_of_mem_take hr)) ((encR l[i]).take (J - (secsL (l.take i)).length) ++ List.replicate m []) (by
    rw [hti]
    have:=short_dec (m:=m) hg.1 (hok _ (List.getElem_mem hi)) (x:=J - (secsL (l.take i)).length) (by omega)
    unfold stepOk
    rw [List.drop_zero,decide_eq_false this]; rfl)
   rw [hb]
  ·have e : i = l.length:=by omega
   have ht : l.take i = l:=List.take_of_length_le (by omega)
   rw [ht] at h2 ⊢
   have e5 : (secsL l).take J = secsL l:=List.take_of_length_le h2
   rw [e5]
   have hb:=scan_Gb hv hok (List.replicate m []) (by
    have:=blank_dec m
    unfold stepOk
    rw [List.drop_zero,decide_eq_false this]; rfl)
   rw [hb]
def CutV (S : LogS) (sf : Nat) (on : Prop) (v : DX) : Prop:=
 v.F = [] ∧ GoodD v.s ∧ sf ≤ S.l.length ∧ ∃ dk tk,dk ≤ tk ∧ tk ≤ (secsL S.l).length ∧ v.L = setSeq (blankL gQ) 1 ((secsL S.l).take dk) ∧ v.O = opsAt (1 + dk) (((secsL S.l).take tk).drop dk) ∧ (on → tk = (secsL S.l).length) ∧ (secsL (S.l.take sf)).length ≤ dk
structure CutL (S : LogS) : Prop where
 ok : S.Ok2
 f : S.fr = 1
 g : LogG S.l 7
 e : S.sec = 18
 n : S.gen = 7
def CutM (S : LogS) (sf : List Nat) (m : MS) : Prop:=m.ds.length = sf.length ∧ (OnP m.P ∨ OffP m.P) ∧ ∀ (i : Nat) (v : DX) (s : Nat),m.ds[i]? = some v → sf[i]? = some s → CutV S s (OnP m.P) v
theorem CutV.mono {S : LogS} {sf : Nat} {on on' : Prop} {v : DX} (h : CutV S sf on v) (hh : on' → on) : CutV S sf on' v:=by
 obtain ⟨h1,h2,h3,dk,tk,a1,a2,a3,a4,a5,a6⟩:=h
 exact ⟨h1,h2,h3,dk,tk,a1,a2,a3,a4,fun h=>a5 (hh h),a6⟩
theorem on_off {P : Pow} (h : OnP P) (h' : OffP P) : False:=by have:=h.1; rw [h'.1] at this; cases this
theorem blank24 : (blankL gQ).length = 24:=by decide
theorem CutL.small {S : LogS} (h : CutL S) : (secsL S.l).length ≤ 18:=by have:=h.ok.u; have:=h.ok.ok.u1; have:=h.e; omega
theorem CutL.each {S : LogS} (h : CutL S) : ∀ x ∈ secsL S.l,x.length ≤ 64:=by
 intro x hx
 unfold secsL at hx
 obtain ⟨r,hr,hx⟩:=List.mem_flatMap.1 hx
 obtain ⟨i,hi,rfl⟩:=List.mem_iff_getElem.1 hr
 exact encR_64 (h.g i hi).1 (h.ok.ok.t _ hr).2 x hx
theorem CutL.app {S : LogS} (h : CutL S) {r : Rec} (hok : r.Ok) (ht : Tiny r) (hl : S.l.length < 100) : CutL (appS S r):=by
 obtain ⟨e1,e2,e3⟩:=appS_sec S r
 refine ⟨appS_ok2 h.ok hok ht hl,e2.trans h.f,?_,e1.trans h.e,e3.trans h.n⟩
 unfold appS
 split
 ·rename_i h0
  intro i hi
  have hi' : i < (S.l ++ [S.num r]).length:=hi
  rw [List.length_append] at hi'
  by_cases hlt : i < S.l.length
  ·have e : (S.l ++ [S.num r])[i] = S.l[i]:=List.getElem_append_left hlt
   show validR ((S.l ++ [S.num r])[i]) = true ∧ ((S.l ++ [S.num r])[i]).gen = 7 ∧ ((S.l ++ [S.num r])[i]).seq = i + 1
   rw [e]; exact h.g i hlt
  ·have hi2 : i = S.l.length:=by simp at hi'; omega
   subst hi2
   have e : (S.l ++ [S.num r])[S.l.length]'(by simp) = S.num r:=by simp
   show validR ((S.l ++ [S.num r])[S.l.length]'(by simp)) = true ∧ ((S.l ++ [S.num r])[S.l.length]'(by simp)).gen = 7 ∧ ((S.l ++ [S.num r])[S.l.length]'(by simp)).seq = S.l.length + 1
   rw [e]
   exact ⟨(appE_zero h0).1,h.n,rfl⟩
 ·exact h.g
theorem opsAt_app : ∀ (xs ys : List (List Int)) (a : Nat),opsAt a (xs ++ ys) = opsAt a xs ++ opsAt (a + xs.length) ys
 | [],ys,a=>rfl
 | x :: xs,ys,a=>by
   rw [List.cons_append,opsAt,opsAt,opsAt_app xs ys,List.cons_append,List.length_cons,show a + 1 + xs.length = a + (xs.length + 1) by omega]
theorem CutV.app {S : LogS} {sf : Nat} {v : DX} {P : Pow} {r : Rec} (hS : CutL S) (hok : r.Ok) (h0 : appE S r = 0) (h : CutV S sf (OnP P) v) (hP : OnP P ∨ OffP P) :
  ∃ x,wrD gW v.F 0 (S.fr + S.used) (encR (S.num r)) ⟨v.s,P,v.L,v.O⟩ = x ∧ (OnP x.1.P ∨ OffP x.1.P) ∧ (OnP x.1.P → OnP P) ∧ CutV (appS S r) sf (OnP x.1.P) ⟨v.F,x.1.s,x.1.L,x.1.O⟩:=by
 obtain ⟨hF,hg,hsl,dk,tk,a1,a2,a3,a4,a5,a6⟩:=h
 obtain ⟨hv,hle⟩:=appE_zero h0
 have hu:=hS.ok.u
 have hfr:=hS.f
 have hse:=hS.e
 have hL : v.L.length = 24:=by rw [a3,setSeq_len (secsL S.l).length]; exact blank24
 obtain ⟨j,hw⟩:=wrAllQ (d:=⟨v.s,P,v.L,v.O⟩) (a:=1 + (secsL S.l).length) (ls:=encR (S.num r)) hg hP (by omega) hL (encR_64 hv (num_ok hS.ok.ok hok)) (encR (S.num r)).length (Nat.le_refl _)
 have ecast : S.fr + S.used = ((1 + (secsL S.l).length : Nat) : Int):=by omega
 refine ⟨_,rfl,?_⟩
 rw [hF,ecast]
 have e : wrD gW [] 0 ((1 + (secsL S.l).length : Nat) : Int) (encR (S.num r)) ⟨v.s,P,v.L,v.O⟩ = wrAll gQ [] 0 ((1 + (secsL S.l).length : Nat) : Int) (encR (S.num r)) ⟨v.s,P,v.L,v.O⟩ (encR (S.num r)).length:=rfl
 rw [e]
 generalize wrAll gQ [] 0 ((1 + (secsL S.l).length : Nat) : Int) (encR (S.num r)) ⟨v.s,P,v.L,v.O⟩ (encR (S.num r)).length = x at *
 have hon : OnP x.1.P → OnP P:=fun h=>(hw.on h).1
 have hpp : OnP x.1.P ∨ OffP x.1.P:=by
  rcases hP with hp | hp
  ·exact hw.off hp
  ·right; rw [(hw.gone hp).2]; exact hp
 refine ⟨hpp,hon,rfl,hw.s,?_,?_⟩
 ·have:=hsl
  unfold appS; rw [if_pos h0]
  show sf ≤ (S.l ++ [S.num r]).length
  rw [List.length_append]; omega
 ·have es : secsL (appS S r).l = secsL S.l ++ encR (S.num r):=by
   unfold appS; rw [if_pos h0]
   show secsL (S.l ++ [S.num r]) = _
   rw [secsL_app]
   have : secsL [S.num r] = encR (S.num r):=by unfold secsL; simp
   rw [this]
  have et : secsL ((appS S r).l.take sf) = secsL (S.l.take sf):=by
   unfold appS; rw [if_pos h0]
   show secsL ((S.l ++ [S.num r]).take sf) = _
   rw [List.take_append_of_le_length hsl]
  rw [es,et]
  have hd1 : (secsL S.l ++ encR (S.num r)).take dk = (secsL S.l).take dk:=List.take_append_of_le_length (by omega)
  rcases hP with hp | hp
  ·have htk:=a5 hp
   refine ⟨dk,tk + j,by omega,by rw [List.length_append,htk]; have:=hw.jk; omega,by rw [hd1,hw.L]; exact a3,?_,fun hon2=>?_,a6⟩
   ·rw [hw.O]
    show v.O ++ _ = _
    rw [a4,htk,List.take_of_length_le (Nat.le_refl _)]
    have e1 : (secsL S.l ++ encR (S.num r)).take ((secsL S.l).length + j) = secsL S.l ++ (encR (S.num r)).take j:=by
     rw [List.take_append,List.take_of_length_le (by omega),show (secsL S.l).length + j - (secsL S.l).length = j by omega]
    rw [e1,List.drop_append_of_le_length (by omega),opsAt_app]
    congr 2
    rw [List.length_drop]; omega
   ·rw [List.length_append,htk,(hw.on hon2).2.1]
  ·have hj:=(hw.gone hp)
   have hj0 : j = 0:=hj.1
   refine ⟨dk,tk,a1,by rw [List.length_append]; omega,by rw [hd1,hw.L]; exact a3,?_,fun hon2=>absurd (hon hon2) (fun h=>on_off h hp),a6⟩
   rw [hw.O,hj0,List.take_zero]
   show v.O ++ opsAt _ [] = _
   rw [List.take_append_of_le_length (by omega)]
   show v.O ++ [] = _
   rw [List.append_nil]; exact a4
theorem CutM.app {S : LogS} {sf : List Nat} {m : MS} {r : Rec} (hS : CutL S) (hok : r.Ok) (h : CutM S sf m) : CutM (appS S r) sf (appM gW 0 no0 S r m).1:=by
 by_cases h0 : appE S r = 0
 ·have e : appM gW 0 no0 S r m = allD gW 0 (S.fr + S.used) (encR (S.num r)) no0 m:=by unfold appM; rw [if_pos h0]
  rw [e]
  obtain ⟨hl,hP,hv⟩:=h
  have key : ∀ k,k ≤ m.ds.length → (OnP (allK gW 0 (S.fr + S.used) (encR (S.num r)) no0 m k).1.P ∨ OffP (allK gW 0 (S.fr + S.used) (encR (S.num r)) no0 m k).1.P) ∧
    ∀ (i : Nat) (v : DX) (s : Nat),(allK gW 0 (S.fr + S.used) (encR (S.num r)) no0 m k).1.ds[i]? = some v → sf[i]? = some s → (i < k → CutV (appS S r) s (OnP (allK gW 0 (S.fr + S.used) (encR (S.num r)) no0 m k).1.P) v) ∧ (k ≤ i → CutV S s (OnP (allK gW 0 (S.fr + S.used) (encR (S.num r)) no0 m k).1.P) v):=by
   intro k
   induction k with
   | zero=>exact fun _=>⟨hP,fun i v s hi hs=>⟨fun h=>by omega,fun _=>hv i v s hi hs⟩⟩
   | succ k ih=>
     intro hk
     obtain ⟨i1,i2⟩:=ih (by omega)
     have hlen:=(allK_len gW 0 (S.fr + S.used) (encR (S.num r)) no0 m k (by omega)).1
     obtain ⟨v,hvk⟩ : ∃ v,(allK gW 0 (S.fr + S.used) (encR (S.num r)) no0 m k).1.ds[k]? = some v:=⟨_,List.getElem?_eq_getElem (by rw [hlen]; omega)⟩
     obtain ⟨s,hsk⟩ : ∃ s,sf[k]? = some s:=⟨_,List.getElem?_eq_getElem (by omega)⟩
     have eK : allK gW 0 (S.fr + S.used) (encR (S.num r)) no0 m (k + 1) = ((allK gW 0 (S.fr + S.used) (encR (S.num r)) no0 m k).1.put k v.F (wrD gW v.F 0 (S.fr + S.used) (encR (S.num r)) ((allK gW 0 (S.fr + S.used) (encR (S.num r)) no0 m k).1.dc v)).1,(allK gW 0 (S.fr + S.used) (encR (S.num r)) no0 m k).2 ++ [(wrD gW v.F 0 (S.fr + S.used) (encR (S.num r)) ((allK gW 0 (S.fr + S.used) (encR (S.num r)) no0 m k).1.dc v)).2]):=by
      rw [allK,hvk]; rfl
     rw [eK]
     generalize (allK gW 0 (S.fr + S.used) (encR (S.num r)) no0 m k).1 = M at *
     obtain ⟨x,hx,hp1,hp2,hc⟩:=((i2 k v s hvk hsk).2 (Nat.le_refl _)).app (P:=M.P) hS hok h0 i1
     have hx' : wrD gW v.F 0 (S.fr + S.used) (encR (S.num r)) (M.dc v) = x:=hx
     rw [hx']
     refine ⟨hp1,fun i u s' hi hs'=>?_⟩
     have hi' : (M.ds.set k ⟨v.F,x.1.s,x.1.L,x.1.O⟩)[i]? = some u:=hi
     by_cases ei : i = k
     ·subst ei
      rw [List.getElem?_set_self (by rw [hlen]; omega)] at hi'
      obtain rfl:=Option.some.inj hi'
      rw [hsk] at hs'
      obtain rfl:=Option.some.inj hs'
      exact ⟨fun _=>hc,fun h=>by omega⟩
     ·rw [List.getElem?_set_ne (fun e=>ei e.symm)] at hi'
      obtain ⟨g1,g2⟩:=i2 i u s' hi' hs'
      exact ⟨fun h=>(g1 (by omega)).mono hp2,fun h=>(g2 (by omega)).mono hp2⟩
  have hlen:=(allK_len gW 0 (S.fr + S.used) (encR (S.num r)) no0 m m.ds.length (Nat.le_refl _)).1
  obtain ⟨k1,k2⟩:=key m.ds.length (Nat.le_refl _)
  unfold allD
  exact ⟨by rw [hlen]; exact hl,k1,fun i v s hi hs=>(k2 i v s hi hs).1 (by have:=(List.getElem?_eq_some_iff.1 hi).1; rw [hlen] at this; exact this)⟩
 ·have e : appM gW 0 no0 S r m = (m,[]):=by unfold appM; rw [if_neg h0]
  have e2 : appS S r = S:=by unfold appS; rw [if_neg h0]
  rw [e,e2]
  exact h
theorem CutM.put {S : LogS} {sf : List Nat} {m : MS} {k s s' : Nat} {v : DX} {d : DC} (h : CutM S sf m) (hk : m.ds[k]? = some v) (hs : sf[k]? = some s) (hp1 : OnP d.P ∨ OffP d.P) (hp2 : OnP d.P → OnP m.P) (hc : CutV S s' (OnP d.P) ⟨v.F,d.s,d.L,d.O⟩) :
  CutM S (sf.set k s') (m.put k v.F d):=by
 obtain ⟨hl,hP,hv⟩:=h
 have hkl:=(List.getElem?_eq_some_iff.1 hk).1
 refine ⟨by show (m.ds.set k _).length = _; rw [List.length_set,List.length_set]; exact hl,hp1,fun i u r hi hr=>?_⟩
 have hi' : (m.ds.set k ⟨v.F,d.s,d.L,d.O⟩)[i]? = some u:=hi
 by_cases ei : i = k
 ·subst ei
  rw [List.getElem?_set_self hkl] at hi'
  rw [List.getElem?_set_self (by omega)] at hr
  obtain rfl:=Option.some.inj hi'
  obtain rfl:=Option.some.inj hr
  exact hc
 ·rw [List.getElem?_set_ne (fun e=>ei e.symm)] at hi' hr
  exact (hv i u r hi' hr).mono hp2
theorem CutV.flush {S : LogS} {sf : Nat} {v : DX} {P : Pow} (hS : CutL S) (h : CutV S sf (OnP P) v) (hP : OnP P ∨ OffP P) :
  ∃ x,tryD (fOne gW v.F 0) ⟨v.s,P,v.L,v.O⟩ = x ∧ (OnP x.1.P ∨ OffP x.1.P) ∧ (OnP x.1.P → OnP P) ∧ ((x.2.er = 0 ∧ CutV S S.l.length (OnP x.1.P) ⟨v.F,x.1.s,x.1.L,x.1.O⟩) ∨ (x.2.er = 13 ∧ CutV S sf (OnP x.1.P) ⟨v.F,x.1.s,x.1.L,x.1.O⟩)):=by
 obtain ⟨hF,hg,hsl,dk,tk,a1,a2,a3,a4,a5,a6⟩:=h
 refine ⟨_,rfl,?_⟩
 rw [hF]
 have hback : ∀ P',(OnP P' → OnP P) → CutV S sf (OnP P') ⟨[],v.s,v.L,v.O⟩:=fun P' hp=>⟨rfl,hg,hsl,dk,tk,a1,a2,a3,a4,fun h=>a5 (hp h),a6⟩
 rcases hP with hp | hp
 ·cases ht : trip P
  ·have hb:=begQ_on hg hp ht
   have hcall:=callQ_on hp ht
   have e1 : fOne gW [] 0 ⟨v.s,P,v.L,v.O⟩ = (⟨{ v.s with ops:=wrap64 (v.s.ops + 1),f:=wrap64 (v.s.f + 1) },callP P,playL gQ v.L (v.O.take v.O.length),[]⟩,⟨0,[]⟩):=by
    unfold fOne dFlS dFlLM dFlO
    simp only
    rw [hb]
    rfl
   rw [try_one (by rw [e1]; show ¬ (0 : Int) = 16; decide),e1]
   refine ⟨.inl hcall.1,fun _=>hp,.inl ⟨rfl,rfl,⟨hg.d,hg.k,hg.e⟩,Nat.le_refl _,(secsL S.l).length,(secsL S.l).length,Nat.le_refl _,Nat.le_refl _,?_,?_,fun _=>rfl,by rw [List.take_of_length_le (Nat.le_refl _)]; exact Nat.le_refl _⟩⟩
   ·have htk:=a5 hp
    show playL gQ v.L (v.O.take v.O.length) = _
    have hsm:=hS.small
    rw [List.take_of_length_le (Nat.le_refl _),a4,htk,List.take_of_length_le (Nat.le_refl _),playQ _ _ _ (by rw [List.length_drop]; omega) (by rw [a3,setSeq_len dk]; exact blank24) (fun y hy=>hS.each y (List.mem_of_mem_drop hy)),a3]
    have hd : ((secsL S.l).take dk).length = dk:=by rw [List.length_take]; omega
    have:=setSeq_app ((secsL S.l).take dk) ((secsL S.l).drop dk) (blankL gQ) 1
    rw [hd,List.take_append_drop] at this
    exact this
   ·show [] = _
    rw [List.take_of_length_le (Nat.le_refl _),List.drop_of_length_le (Nat.le_refl _)]; rfl
  ·have hb:=begQ_trip hg hp ht
   have hoff:=callQ_trip hp ht
   have e1 : fOne gW [] 0 ⟨v.s,P,v.L,v.O⟩ = (⟨v.s,callP P,v.L,v.O⟩,⟨13,[]⟩):=by
    unfold fOne dFlS dFlLM dFlO
    simp only
    rw [hb]
    rfl
   rw [try_one (by rw [e1]; show ¬ (13 : Int) = 16; decide),e1]
   exact ⟨.inr hoff,fun h=>absurd h (fun h=>on_off h hoff),.inr ⟨rfl,hback _ (fun h=>absurd h (fun h=>on_off h hoff))⟩⟩
 ·have hb:=begQ_off hg hp.1
  have e1 : fOne gW [] 0 ⟨v.s,P,v.L,v.O⟩ = (⟨v.s,P,v.L,v.O⟩,⟨13,[]⟩):=by
   unfold fOne dFlS dFlLM dFlO
   simp only
   rw [hb]
   rfl
  rw [try_one (by rw [e1]; show ¬ (13 : Int) = 16; decide),e1]
  exact ⟨.inr hp,fun h=>h,.inr ⟨rfl,hback _ (fun h=>h)⟩⟩
theorem CutM.flush {S : LogS} {sf : List Nat} {m : MS} {k s : Nat} {v : DX} (hS : CutL S) (h : CutM S sf m) (hk : m.ds[k]? = some v) (hs : sf[k]? = some s) :
  ((tryD (fOne gW v.F 0) (m.dc v)).2.er = 0 ∧ CutM S (sf.set k S.l.length) (m.put k v.F (tryD (fOne gW v.F 0) (m.dc v)).1)) ∨ ((tryD (fOne gW v.F 0) (m.dc v)).2.er = 13 ∧ CutM S sf (m.put k v.F (tryD (fOne gW v.F 0) (m.dc v)).1)):=by
 obtain ⟨x,hx,hp1,hp2,hc⟩:=(h.2.2 k v s hk hs).flush hS h.2.1
 have hx' : tryD (fOne gW v.F 0) (m.dc v) = x:=hx
 rw [hx']
 rcases hc with ⟨he,hc⟩ | ⟨he,hc⟩
 ·exact .inl ⟨he,h.put hk hs hp1 hp2 hc⟩
 ·right
  refine ⟨he,?_⟩
  have:=h.put hk hs hp1 hp2 hc
  have e : sf.set k s = sf:=by
   refine List.ext_getElem? (fun i=>?_)
   rw [List.getElem?_set]
   split
   ·rename_i e; subst e; rw [if_pos (List.getElem?_eq_some_iff.1 hs).1,hs]
   ·rfl
  rw [e] at this
  exact this
def RestV (S : LogS) (sf : Nat) (v : DX) : Prop:=v.F = [] ∧ v.s.dead = false ∧ v.s.key = 0 ∧ v.s.seen = 1 ∧ v.O = [] ∧ sf ≤ S.l.length ∧ ∃ J,J ≤ (secsL S.l).length ∧ v.L = setSeq (blankL gQ) 1 ((secsL S.l).take J) ∧ (secsL (S.l.take sf)).length ≤ J
theorem CutV.rest {S : LogS} {sf : Nat} {v : DX} {P : Pow} {on : Prop} (hS : CutL S) (h : CutV S sf on v) (hp : OffP P) (keep : Int) : rstE v.s P = 0 ∧ RestV S sf ⟨v.F,rstS v.s P,rstLM gW v.s P v.L v.O keep,rstO v.s P v.O⟩:=by
 obtain ⟨hF,hg,hsl,dk,tk,a1,a2,a3,a4,_,a6⟩:=h
 have he : rstE v.s P = 0:=by unfold rstE; rw [hg.d,hp.1]; rfl
 refine ⟨he,hF,?_⟩
 unfold rstS rstLM rstO
 rw [he,if_pos rfl,if_pos rfl,if_pos rfl]
 have hol : v.O.length = tk - dk:=by rw [a4,opsAt_len,List.length_drop,List.length_take]; omega
 have hcn:=cutN_le keep v.O.length
 generalize cutN keep v.O.length = c at *
 refine ⟨hg.d,hg.k,hp.2.1,rfl,hsl,dk + c,by omega,?_,by omega⟩
 have hsm:=hS.small
 show playL gQ v.L (v.O.take c) = _
 have e1 : (((secsL S.l).take tk).drop dk).take c = ((secsL S.l).drop dk).take c:=by
  rw [List.drop_take,List.take_take]
  congr 1
  omega
 rw [a4,opsAt_take,e1,playQ _ _ _ (by rw [List.length_take,List.length_drop]; omega) (by rw [a3,setSeq_len dk]; exact blank24) (fun y hy=>hS.each y (List.mem_of_mem_drop (List.mem_of_mem_take hy))),a3]
 have hd : ((secsL S.l).take dk).length = dk:=by rw [List.length_take]; omega
 have:=setSeq_app ((secsL S.l).take dk) (((secsL S.l).drop dk).take c) (blankL gQ) 1
 rw [hd] at this
 rw [this,← List.take_add]
theorem begD_calm {F : List Flt} {s : DS} {P : Pow} {key : Int} (h : P.armed = false) : (begD F s P key).P.fails = P.fails ∧ (begD F s P key).P.armed = false ∧ (begD F s P key).P.off = P.off:=by
 have ht : trip P = false:=by unfold trip; rw [h]; rfl
 have hc : callP P = ⟨P.off,P.armed,wrap64 (P.left - 1),P.fails⟩:=by unfold callP; rw [ht]; rfl
 unfold begD
 split
 ·exact ⟨rfl,h,rfl⟩
 ·split
  ·rw [hc]; exact ⟨rfl,h,rfl⟩
  ·split
   ·rw [hc]; exact ⟨rfl,h,rfl⟩
   ·split
    ·rw [hc]; exact ⟨rfl,h,rfl⟩
    ·split
     ·rw [hc]; exact ⟨rfl,h,rfl⟩
     ·rw [hc]; exact ⟨rfl,h,rfl⟩
theorem callN_calm {g : Geo} {F : List Flt} {key a : Int} {d : DC} (h : d.P.armed = false) : ∀ n,(callN (rOne g F key a) d n).P.fails = d.P.fails ∧ (callN (rOne g F key a) d n).P.armed = false ∧ (callN (rOne g F key a) d n).P.off = d.P.off
 | 0=>⟨rfl,h,rfl⟩
 | n + 1=>by
   obtain ⟨h1,h2,h3⟩:=callN_calm (g:=g) (F:=F) (key:=key) (a:=a) h n
   obtain ⟨g1,g2,g3⟩:=begD_calm (F:=F) (s:=(callN (rOne g F key a) d n).s) (key:=key) h2
   exact ⟨g1.trans h1,g2,g3.trans h3⟩
theorem rdAll_calm {g : Geo} {F : List Flt} {key a : Int} {d : DC} (h : d.P.armed = false) : ∀ n,(rdAll g F key a d n).1.P.fails = d.P.fails ∧ (rdAll g F key a d n).1.P.armed = false ∧ (rdAll g F key a d n).1.P.off = d.P.off
 | 0=>⟨rfl,h,rfl⟩
 | n + 1=>by
   obtain ⟨h1,h2,h3⟩:=rdAll_calm (g:=g) (F:=F) (key:=key) (a:=a) h n
   by_cases h0 : (rdAll g F key a d n).2.2 = 0
   ·rw [rdAll_yes h0,rdNext_one]
    obtain ⟨g1,g2,g3⟩:=callN_calm (g:=g) (F:=F) (key:=key) (a:=a + n) (d:=(rdAll g F key a d n).1) h2 (lastN (rOne g F key (a + n)) (rdAll g F key a d n).1 8 + 1)
    exact ⟨g1.trans h1,g2,g3.trans h3⟩
   ·rw [rdAll_no h0]; exact ⟨h1,h2,h3⟩
def CalmP (P : Pow) : Prop:=P.off = false ∧ P.armed = false ∧ P.fails = 1
def RestM (S : LogS) (sf : List Nat) (m : MS) : Prop:=m.ds.length = sf.length ∧ CalmP m.P ∧ ∀ (i : Nat) (v : DX) (s : Nat),m.ds[i]? = some v → sf[i]? = some s → RestV S s v
theorem RestM.read {S : LogS} {sf : List Nat} {m : MS} {k s : Nat} {v : DX} (hS : CutL S) (h : RestM S sf m) (hk : m.ds[k]? = some v) (hs : sf[k]? = some s) :
  (rdAll gW v.F 0 1 (m.dc v) 18).2.2 = 0 ∧ (∀ x ∈ (rdAll gW v.F 0 1 (m.dc v) 18).2.1,U8s x ∧ x.length ≤ 1000) ∧ RestM S sf (m.put k v.F (rdAll gW v.F 0 1 (m.dc v) 18).1) ∧
  ∃ i,s ≤ i ∧ i ≤ S.l.length ∧ (scanD (rdAll gW v.F 0 1 (m.dc v) 18).2.1 7).1 = S.l.take i:=by
 obtain ⟨hl,hP,hv⟩:=h
 obtain ⟨hF,hd,hky,hse,hO,hsl,J,hJ,hL,hsf⟩:=hv k v s hk hs
 have hsm:=hS.small
 have hL24 : v.L.length = 24:=by rw [hL,setSeq_len J]; exact blank24
 have e0 : rdAll gW v.F 0 1 (m.dc v) 18 = rdAll gQ [] 0 ((1 : Nat) : Int) (m.dc v) 18:=by rw [hF]; rfl
 obtain ⟨s',P',e,⟨c1,c2,c3⟩,c4,c5⟩:=rdAllQ (d:=m.dc v) (a:=1) ⟨hd,hky,by show v.s.seen = m.P.fails; rw [hse,hP.2.2]⟩ hP.1 hP.2.1 hL24 18 (by decide)
 have hcalm:=(rdAll_calm (g:=gQ) (F:=[]) (key:=0) (a:=((1 : Nat) : Int)) (d:=m.dc v) hP.2.1 18).1
 rw [e] at hcalm
 have hf1 : P'.fails = 1:=hcalm.trans hP.2.2
 have hpl : playL gQ (m.dc v).L (m.dc v).O = setSeq (blankL gQ) 1 ((secsL S.l).take J):=by
  show playL gQ v.L v.O = _
  rw [hO]; exact hL
 have hxl : ((secsL S.l).take J).length = J:=by rw [List.length_take]; omega
 have hrs:=readSeq (xs:=(secsL S.l).take J) (fun x hx=>hS.each x (List.mem_of_mem_take hx)) 18 (by omega) (by decide)
 rw [e0,e]
 rw [hpl,hrs]
 refine ⟨rfl,fun x hx=>?_,⟨?_,⟨c4,c5,hf1⟩,fun i u r hi hr=>?_⟩,?_⟩
 ·rcases List.mem_append.1 hx with hx | hx
  ·exact secs_ok (fun r hr=>(hS.ok.ok.t r hr).2) x (List.mem_of_mem_take hx)
  ·obtain rfl:=(List.mem_replicate.1 hx).2
   exact ⟨U8s.nil,by simp⟩
 ·show (m.ds.set k _).length = _
  rw [List.length_set]; exact hl
 ·have hi' : (m.ds.set k ⟨v.F,s',v.L,v.O⟩)[i]? = some u:=hi
  by_cases ei : i = k
  ·subst ei
   rw [List.getElem?_set_self (List.getElem?_eq_some_iff.1 hk).1] at hi'
   obtain rfl:=Option.some.inj hi'
   rw [hs] at hr
   obtain rfl:=Option.some.inj hr
   exact ⟨hF,c1,c2,c3.trans hf1,hO,hsl,J,hJ,hL,hsf⟩
  ·rw [List.getElem?_set_ne (fun e=>ei e.symm)] at hi'
   exact hv i u r hi' hr
 ·obtain ⟨i,g1,g2,g3⟩:=scan_part (m:=18 - ((secsL S.l).take J).length) hS.g (fun r hr=>(hS.ok.ok.t r hr).2) hJ
  exact ⟨i,g2 s hsl hsf,g1,g3⟩
end Go.Proofs.YtaggiceejcegdaaGreat
