/-
  WHAT IS SHOWN: what Decode of record and of tegularef27 returns, for use in walks; bounds on decoded records. what Scan of logarea and of tegularef28 returns. what Scan of tegularef28 returns. what Fits and Join of logarea and of tegularef28 return. awake of tegulalaw28 returns true. Conditions: as each theorem names them.
-/
import Derived.Test.YtaggiceejcegdaaGreatNc07
import Derived.Deep.DeepCutAuto
import Derived.ChangeKeysEq
import Derived.Test.YtaggiceejcegdaaGreatNc09
import Derived.Test.YtaggiceejcegdaaGreatNc14
import Derived.WalkMore
import Derived.Test.YtaggiceejcegdaaGreatNc06
namespace Go.Proofs.YtaggiceejcegdaaGreat
set_option linter.unusedVariables false
open Go.RowKit
theorem dec_small (ls : List (List Int)) : (decD ls).r.ws.length ≤ 64 ∧ (decD ls).r.ms.length ≤ 64 ∧ (decD ls).r.note.length ≤ 256:=by
 rcases dec_er ls with h | h
 ·obtain ⟨_,_,r,hr,_,hd⟩:=dec_zero h
  rw [hd]
  unfold recD at hr
  split at hr
  ·cases hr
  ·split at hr
   ·rename_i hv
    injection hr with hr; subst hr
    have:=validR_vld hv
    exact ⟨this.nw,this.nm,this.nn⟩
   ·cases hr
 ·have hz : (decD ls).r = zRec:=by
   have h1:=h.1
   unfold decD at h1 ⊢
   split
   ·rfl
   ·rename_i h2
    rw [if_neg h2] at h1
    cases h3 : scanE ls (hdD ls).parts with
    | some e=>rfl
    | none=>
      rw [h3] at h1
      simp only at h1 ⊢
      unfold decEnd at h1 ⊢
      split
      ·rfl
      ·rename_i h4
       rw [h4] at h1
       simp only at h1
       split
       ·rename_i h5
        rw [if_pos h5] at h1
        rcases h1 with h1 | h1 <;> exact absurd h1 (by show ¬ (0 : Int) = _; decide)
       ·rfl
  rw [hz]
  exact ⟨by decide,by decide,by decide⟩
def DecR (w : World) (x : Dec) (e : Ending) (w' : World) : Prop:=∃ (A : Option Addr) (c : Nat) (D : Option Addr) (d : Nat) (N : Option Addr) (n : Nat),e = .returned (.tuple #[.agg #[.int .u64 x.r.gen,.int .u64 x.r.seq,.slice A x.r.ws.length c,.slice D x.r.ms.length d,.slice N x.r.note.length n],.int .i64 x.n,.int .i64 x.er]) ∧ RecO w' x.r A c D d N n ∧ Below w.heap.size w w'
theorem rdecode_r (ss : List Sl) (hss : ∀ s ∈ ss,SlOk s) (A : Option Addr) (c : Nat) (hc : ss.length ≤ c) (hcm : c ≤ 9223372036854775807) (hl : ss.length ≤ 100000) (w : World) (h : SlsR w w.heap.size A ss) :
  Calls Tryz.prog 72 #[.slice A ss.length c] w (DecR w (decD (ss.map Sl.xs))):=rdecode_any ss hss A c hc hcm hl w h
structure Small (r : Rec) : Prop where
 ws : r.ws.length ≤ 64
 ms : r.ms.length ≤ 64
 note : r.note.length ≤ 256
theorem dec_small' (ls : List (List Int)) : Small (decD ls).r:=⟨(dec_small ls).1,(dec_small ls).2.1,(dec_small ls).2.2⟩
end Go.Proofs.YtaggiceejcegdaaGreat
namespace Go.Proofs.YtaggiceejcegdaaGreat
set_option linter.unusedVariables false
open Go.RowKit
def ScanPost (w : World) (X : List Rec × Nat) (e : Ending) (w' : World) : Prop:=∃ A c l,e = .returned (.tuple #[.slice A l.length c,.int .i64 X.2]) ∧ l.map RS.r = X.1 ∧ RcsO w' w.heap.size A c l ∧ Below w.heap.size w w'
theorem SlsR.dropk {w : World} {B b o : Nat} {ss : List Sl} (h : SlsR w B (some ⟨b,o,none⟩) ss) (n : Nat) : SlsR w B (some ⟨b,o + n,none⟩) (ss.drop n):=⟨by rw [List.map_drop]; exact h.rd.dropk n,fun s hs=>h.each s (List.mem_of_mem_drop hs)⟩
end Go.Proofs.YtaggiceejcegdaaGreat
namespace Go.Proofs.YtaggiceejcegdaaGreat
set_option linter.unusedVariables false
open Go.RowKit
set_option maxRecDepth 100000 in
set_option maxHeartbeats 4000000 in
theorem rscan_any (ss : List Sl) (hss : ∀ s ∈ ss,SlOk s) (gen : Nat) (A : Option Addr) (c : Nat) (hc : ss.length ≤ c) (hcm : c ≤ 9223372036854775807) (hl : ss.length ≤ 100000) (w : World) (h : SlsR w w.heap.size A ss) :
  Calls Tryz.prog 41 #[.slice A ss.length c,.int .u64 gen] w (ScanPost w (scanD (ss.map Sl.xs) gen)):=by
 have HH:=Lib.hid h
 have HSS:=Lib.hid hss
 clear h hss
 obtain ⟨i0,hi,hz0,hz1,hz2⟩:=info_parts info_rec
 go_enter Tryz.func41,Tryz.ntmps41
 go_wp2
 go_loopw [6,7] (fun o a wr=>∃ (i at_ : Nat) (l : List RS) (DA : Option Addr) (dc : Nat),at_ ≤ ss.length ∧ a = .int .i64 at_ ∧ o = .slice DA l.length dc ∧ Hid (scanS (ss.map Sl.xs) gen i = (l.map RS.r,at_)) ∧ Hid (l.length = i) ∧ Hid (RcsO wr w.heap.size DA dc l) ∧ Hid (Below w.heap.size w wr)) (fun _ a _=>ss.length - (intOf a).toNat)
 case atStart=>exact ⟨0,0,[],none,0,Nat.zero_le _,rfl,rfl,rfl,rfl,RcsO.nil _ _,Below.refl _ _⟩
 case round=>
  obtain ⟨i,at_,l,DA,dc,hat,rfl,rfl,HX,HLI,HRO,HBR⟩:=hrel
  have hlb : l.length ≤ 100000:=by
   have h1:=scan_bound (ls:=ss.map Sl.xs) (gen:=gen) i (by rw [HX.out]; rw [List.length_map]; exact HLI.out)
   rw [HX.out,List.length_map] at h1
   have:=HLI.out
   have h2 : at_ ≤ ss.length:=h1.2
   have h3 : i ≤ at_:=h1.1
   omega
  by_cases hlt : at_ < ss.length
  ·obtain ⟨g,o,rfl,hg,_,_⟩:=sl_at (HH.out.up HBR.out) hlt
   have hdl : (ss.drop at_).length = ss.length - at_:=List.length_drop
   have HD:=Lib.hid (rdecode_r (ss.drop at_) (fun s hs=>HSS.out s (List.mem_of_mem_drop hs)) (some ⟨g,o + at_,none⟩) (c - at_) (by omega) (by omega) (by omega) wr ((HH.out.up HBR.out).dropk at_))
   rw [hdl,List.map_drop] at HD
   have HSM:=Lib.hid (dec_small' ((ss.map Sl.xs).drop at_))
   have HST : Hid (stepOk (ss.map Sl.xs) gen at_ l.length = (decide ((decD ((ss.map Sl.xs).drop at_)).er = 0) && decide ((decD ((ss.map Sl.xs).drop at_)).r.gen = gen) && decide ((decD ((ss.map Sl.xs).drop at_)).r.seq = l.length + 1))):=rfl
   have HNX : Hid (stepOk (ss.map Sl.xs) gen at_ l.length = true → scanS (ss.map Sl.xs) gen (i + 1) = (l.map RS.r ++ [(decD ((ss.map Sl.xs).drop at_)).r],at_ + (decD ((ss.map Sl.xs).drop at_)).n)):=fun h=>scan_next HX.out (by rw [List.length_map]; exact h)
   have HFI : Hid (stepOk (ss.map Sl.xs) gen at_ l.length = false → scanD (ss.map Sl.xs) gen = (l.map RS.r,at_)):=fun h=>scan_fin HX.out (by rw [List.length_map]; exact HLI.out) (by rw [List.length_map]; exact h)
   have HDN : Hid ((decD ((ss.map Sl.xs).drop at_)).er = 0 → 1 ≤ (decD ((ss.map Sl.xs).drop at_)).n ∧ (decD ((ss.map Sl.xs).drop at_)).n ≤ ss.length - at_):=fun h=>by have:=dec_n h; rw [List.length_drop,List.length_map] at this; exact this
   generalize decD ((ss.map Sl.xs).drop at_) = X at *
   generalize stepOk (ss.map Sl.xs) gen at_ l.length = sok at *
   obtain ⟨r,m,er⟩:=X
   simp only at HST HNX HFI HDN HSM
   clear hdl
   have hk1 : (at_ : Int) ≤ (ss.length : Int):=by omega
   have hk2 : (ss.length : Int) ≤ (c : Int):=by omega
   have hk3 : ¬ c = at_:=by omega
   go_wp2_with fail
   refine HD.out.mono ?_
   rintro e w2 ⟨A2,c2,D2,d2,N2,n2,rfl,hr2,hb2⟩
   simp only at hr2 ⊢
   have hbx : Below w2.heap.size w2 (w2.alloc (.cells #[.int .u64 r.gen,.int .u64 r.seq,.slice A2 r.ws.length c2,.slice D2 r.ms.length d2,.slice N2 r.note.length n2] 28)):=(Below.refl _ _).alloc (Nat.le_refl _) _
   have hb2x:=hb2.trans (hbx.mono hb2.size)
   have HB1:=Lib.hid (HBR.out.trans (hb2x.mono HBR.out.size))
   have HRO1:=Lib.hid (HRO.out.below hb2x)
   have HR1:=Lib.hid (hr2.below0 hbx)
   have PB:=(Cells5.new w2 28 (.int .u64 r.gen) (.int .u64 r.seq) (.slice A2 r.ws.length c2) (.slice D2 r.ms.length d2) (.slice N2 r.note.length n2))
   have p0:=PB.c0; have p1:=PB.c1; have p2:=PB.c2; have p3:=PB.c3; have p4:=PB.c4
   clear HD hr2 hb2 hbx hb2x PB
   by_cases he : er = 0
   ·subst he
    by_cases hg : r.gen = gen
    ·have hge : ((r.gen : Int) != (gen : Int)) = false:=by simp; omega
     by_cases hs : r.seq = l.length + 1
     ·have hse : ((r.seq : Int) != (l.length : Int) + 1) = false:=by simp; omega
      have hN:=HNX.out (by rw [HST.out,decide_eq_true rfl,decide_eq_true hg,decide_eq_true hs]; rfl)
      have hdn:=HDN.out rfl
      have HN:=Lib.hid hN
      have HSL:=Lib.hid HSM.out
      clear hN HST HNX HFI HDN hg hs
      go_upto_region 6 with fail
      generalize hW1 : (w2.alloc (.cells #[.int .u64 r.gen,.int .u64 r.seq,.slice A2 r.ws.length c2,.slice D2 r.ms.length d2,.slice N2 r.note.length n2] 28)) = W1 at *
      have hbz:=HB1.out.size
      go_wp2_with (at_builtin; go_loud (refine wpList_append_own _ rfl _ _ 22 rfl w.heap.size 28 i0 _ 5 88 Tryz.underlying22 hi hz0 hz1 hz2 rfl (by decide) (.slice DA l.length dc) l.length (flatR l) rfl (HRO1.out.own.alloc _) ⟨W1.heap.size,0,none⟩ 1 1 [.int .u64 r.gen,.int .u64 r.seq,.slice A2 r.ws.length c2,.slice D2 r.ms.length d2,.slice N2 r.note.length n2] rfl rfl (World.news_of_block (heap_alloc_new _ _)) (RS.one ⟨r,A2,c2,D2,d2,N2,n2⟩) ?c1 ?c2 ?c3 ?_))
      case c1=>unfold maxLen; omega
      case c2=>omega
      case c3=>first | omega | (simp; omega)
      intro v' w9 hown hgrow hiff
      obtain ⟨DA',dc',hv⟩:=own_form hown
      subst hv
      have HRO9 : Hid (RcsO w9 w.heap.size DA' dc' (l ++ [⟨r,A2,c2,D2,d2,N2,n2⟩])):=RcsO.push (x:=⟨r,A2,c2,D2,d2,N2,n2⟩) HRO1.out HR1.out hown hgrow
      have HB9 : Hid (Below w.heap.size w w9):=(HB1.out.alloc hbz _).grown hgrow (by simp; omega) (fun k hk=>own_low HRO1.out.own hk)
      clear hown hgrow hiff
      go_wp2
      go_roundw
      case rel=>exact ⟨i + 1,at_ + m,l ++ [⟨r,A2,c2,D2,d2,N2,n2⟩],DA',dc',by omega,by go_num,by rw [List.length_append]; rfl,by unfold Hid; rw [HN.out,List.map_append]; rfl,by unfold Hid; rw [List.length_append,HLI.out]; rfl,HRO9,HB9⟩
      case measure=>simp [intOf]; omega
     ·have hse : ((r.seq : Int) != (l.length : Int) + 1) = true:=by simp; omega
      have hf : sok = false:=by rw [HST.out,decide_eq_false hs]; simp
      clear hg hs HNX HDN HST
      have HD2 : Hid (scanD (ss.map Sl.xs) gen = (l.map RS.r,at_)):=HFI.out hf
      go_wp2
      go_ret2
      exact ⟨DA,dc,l,by rw [HD2.out]; rfl,by rw [HD2.out],HRO1.out,HB1.out⟩
    ·have hge : ((r.gen : Int) != (gen : Int)) = true:=by simp; omega
     have hf : sok = false:=by rw [HST.out,decide_eq_false hg]; simp
     clear hg HNX HDN HST
     have HD2 : Hid (scanD (ss.map Sl.xs) gen = (l.map RS.r,at_)):=HFI.out hf
     go_wp2
     go_ret2
     exact ⟨DA,dc,l,by rw [HD2.out]; rfl,by rw [HD2.out],HRO1.out,HB1.out⟩
   ·have he2 : (er != 0) = true:=by simpa using he
    have hf : sok = false:=by rw [HST.out,decide_eq_false he]; simp
    clear he HNX HDN HST
    have HD2 : Hid (scanD (ss.map Sl.xs) gen = (l.map RS.r,at_)):=HFI.out hf
    go_wp2
    go_ret2
    exact ⟨DA,dc,l,by rw [HD2.out]; rfl,by rw [HD2.out],HRO1.out,HB1.out⟩
  ·obtain rfl : at_ = ss.length:=by omega
   have HD2 : Hid (scanD (ss.map Sl.xs) gen = (l.map RS.r,ss.length)):=scan_fin HX.out (by rw [List.length_map]; exact HLI.out) (stepOk_end (by rw [List.length_map]; exact Nat.le_refl _))
   have HD : Hid (∀ (A' : Option Addr) (c' : Nat),c' ≤ 9223372036854775807 → Calls Tryz.prog 72 #[.slice A' 0 c'] wr (DecR wr (Dec.bad 5))):=fun A' c' hc'=>by
    have:=rdecode_r [] (fun s hs=>by simp at hs) A' c' (by simp) hc' (by simp) wr ⟨Rd.nil_ _ _ _,fun s hs=>by simp at hs⟩
    rw [show ([] : List Sl).map Sl.xs = [] from rfl,decD_nil] at this
    exact this
   have hk2 : (ss.length : Int) ≤ (c : Int):=by omega
   go_wp2_with fail
   all_goals (
    refine (HD.out _ _ (by omega)).mono ?_
    rintro e w2 ⟨A2,c2,D2,d2,N2,n2,rfl,hr2,hb2⟩
    have hbx : Below w2.heap.size w2 (w2.alloc (.cells #[.int .u64 (Dec.bad 5).r.gen,.int .u64 (Dec.bad 5).r.seq,.slice A2 (Dec.bad 5).r.ws.length c2,.slice D2 (Dec.bad 5).r.ms.length d2,.slice N2 (Dec.bad 5).r.note.length n2] 28)):=(Below.refl _ _).alloc (Nat.le_refl _) _
    have hb2x:=hb2.trans (hbx.mono hb2.size)
    have HB1:=Lib.hid (HBR.out.trans (hb2x.mono HBR.out.size))
    have HRO1:=Lib.hid (HRO.out.below hb2x)
    have he2 : ((Dec.bad 5).er != 0) = true:=rfl
    clear hr2 hb2 hbx hb2x HD
    go_wp2
    go_ret2
    exact ⟨DA,dc,l,by rw [HD2.out]; rfl,by rw [HD2.out],HRO1.out,HB1.out⟩)
end Go.Proofs.YtaggiceejcegdaaGreat
namespace Go.Proofs.YtaggiceejcegdaaGreat
set_option linter.unusedVariables false
open Go.RowKit
def JoinPost (w : World) (b : LS) (e : Ending) (w' : World) : Prop:=∃ A c,e = .returned (.slice A b.l.length c) ∧ RcsR w' w'.heap.size A b.l ∧ Below w.heap.size w w'
end Go.Proofs.YtaggiceejcegdaaGreat
namespace Go.Proofs.YtaggiceejcegdaaGreat
set_option linter.unusedVariables false
open Go.RowKit
theorem encR_1k {r : Rec} : ∀ b ∈ encR r,b.length ≤ 1000:=fun b hb=>by
 unfold encR at hb
 obtain ⟨k,_,rfl⟩:=List.mem_map.1 hb
 unfold secB sealB
 have h1:=hdS_len r.gen r.seq k (nCh (payR r).length)
 have h2:=uintB_len (((payR r).drop (28 * k)).take 28).length
 have h3 : (((payR r).drop (28 * k)).take 28).length ≤ 28:=by rw [List.length_take]; omega
 have h4 : ∀ s,(be8 s).length = 8:=fun _=>rfl
 rw [List.length_append,List.length_append,List.length_append,h4]
 omega
theorem secs_ok {l : List Rec} (hok : ∀ r ∈ l,r.Ok) : ∀ b ∈ secsL l,U8s b ∧ b.length ≤ 1000:=fun b hb=>by
 unfold secsL at hb
 obtain ⟨r,hr,hb⟩:=List.mem_flatMap.1 hb
 exact ⟨encR_u8 (hok r hr) b hb,encR_1k b hb⟩
def r51 : Rec:=⟨5,1,[],[],[]⟩
def r52 : Rec:=⟨5,2,[],[],[]⟩
def r43 : Rec:=⟨4,3,[],[],[]⟩
def s51 : RS:=⟨r51,none,0,none,0,none,0⟩
def s52 : RS:=⟨r52,none,0,none,0,none,0⟩
theorem ok_plain {g s : Nat} (hg : g < 2 ^ 64) (hs : s < 2 ^ 64) : (⟨g,s,[],[],[]⟩ : Rec).Ok:=⟨hg,hs,fun x hx=>by simp at hx,fun x hx=>by simp at hx,fun x hx=>by simp at hx⟩
theorem enc1 (g s : Nat) (hg : g < 128) (hs : s < 128) : (encR ⟨g,s,[],[],[]⟩).length = 1:=by
 have hp : payR ⟨g,s,[],[],[]⟩ = [(g : Int),(s : Int),0,0,0]:=by
  unfold payR uintB
  rw [uintF_small hg,uintF_small hs]; rfl
 rw [encR_len,hp]; show nCh 5 = 1; rfl
end Go.Proofs.YtaggiceejcegdaaGreat
