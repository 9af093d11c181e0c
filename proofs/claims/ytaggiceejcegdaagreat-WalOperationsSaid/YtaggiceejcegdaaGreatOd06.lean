/-
  WHAT IS SHOWN: more: what Read of wal returns and leaves. what Write, Read and Flush of tegularef49 return and leave. what geometry, brief and wrong of tegulalaw49 return. disks of the program and of the reference side by side: what Write, Read and Flush of wal and of tegularef49 return and leave of one of them. what a walk is told of the parameters of tegulalaw27: bytes, sectors, records. what a walk is told of the parameters of tegulalaw49: faults, lists of faults, records. Conditions: as each theorem names them.
-/
import Derived.Test.YtaggiceejcegdaaGreatNc35
import Derived.BigQuiet
import Derived.ChangeKeysEq
import Derived.ChangeOld
import Derived.Deep.AppendLies
import Derived.Deep.DeepCutAuto
import Derived.Deep.Draws
import Derived.Deep.Fields
import Derived.Deep.QuietTactic
import Derived.Deep.RegionHeld3
import Derived.Deep.RegionLaw
import Derived.Deep.Slices
import Derived.Handy
import Derived.Laws.BytesArg
import Derived.Laws.Cover3
import Derived.Laws.MakeOwn
import Derived.Laws.OwnMore
import Derived.Laws.Rows
import Derived.Lib.ConvBytes
import Derived.Lib.Hide
import Derived.Lib.SmallJoins
import Derived.Lib.VarintBits
import Derived.Lib.Zigzag
import Derived.LoopIn
import Derived.LoopNIn
import Derived.Maps.AppendAt
import Derived.OpenShut
import Derived.OwnWalkIn
import Derived.ProofKit
import Derived.RangeFuncBox
import Derived.RangeFuncLeaves
import Derived.Shelf.Abstract
import Derived.Sort.QuietIn
import Derived.TacticsInMore
import Derived.WalkKit
import Derived.WalkLawsBesides
import Derived.WalkMore
import Derived.WalkSpells
import Derived.Test.YtaggiceejcegdaaGreatOd05
namespace Go.Proofs.YtaggiceejcegdaaGreat
set_option linter.unusedVariables false
open Go.RowKit
theorem SlsB.kept {ts : List TypeId} {B : Bd} {w w' : World} {base : Nat} {A : Option Addr} {c : Nat} {ss : List Sl} (h : SlsB w base A c ss) (hk : KeptT ts B w w') (h1 : 26 ∉ ts) (h2 : 5 ∉ ts) : SlsB w' base A c ss:=
 ⟨own_ty h.own hk h1,fun s hs=>⟨(h.each s hs).1.kept hk (KeptT.free h2),(h.each s hs).2⟩⟩
section
variable {w w' w0 : World} {B : Bd} {q pw p : Nat} {g : Geo} {F : List Flt} {s : DS} {P : Pow} {L : List Sec} {O : List OpV} {FA : Option Addr} {fc : Nat}
set_option maxRecDepth 100000 in
set_option maxHeartbeats 1000000 in
theorem wread_none {key at_ : Int} {d : DC} (n : Int) (h0 : n ≤ 0) (h : DM w B q pw g F d) :
  Calls Tryz.prog 20 #[.pointer (some ⟨q,0,none⟩),.int .u64 key,.int .i64 at_,.int .i64 n] w (RdsPost w B q pw g F (d,[],0)):=by
 have hb0 : Below w.heap.size w (((w.alloc (.cells #[.pointer (some ⟨q,0,none⟩)] 52)).alloc (.cells #[.int .u64 key] 23)).alloc (.cells #[.int .i64 at_] 3)):=(((Below.refl _ _).alloc (Nat.le_refl _) _).alloc (by simp) _).alloc (by first | (simp; done) | (simp; omega)) _
 have HD : Hid (RdsPost w B q pw g F (d,[],0) (.returned (.tuple #[.slice none 0 0,.int .i64 0])) (((w.alloc (.cells #[.pointer (some ⟨q,0,none⟩)] 52)).alloc (.cells #[.int .u64 key] 23)).alloc (.cells #[.int .i64 at_] 3))):=
  ⟨none,0,[],rfl,rfl,⟨World.ownsRow_nil _ _ _ _,fun s hs=>by simp at hs⟩,DPm.below0 h hb0,KeptT.bel hb0⟩
 clear h hb0
 go_enter Tryz.func20,Tryz.ntmps20
 go_wp2
 go_loopw [10,18] (fun o i wr=>o = .slice none 0 0 ∧ i = .int .i64 0 ∧ Hid (RdsPost w B q pw g F (d,[],0) (.returned (.tuple #[.slice none 0 0,.int .i64 0])) wr)) (fun _ _ _=>0)
 case atStart=>exact ⟨rfl,rfl,HD⟩
 case round=>
  obtain ⟨rfl,rfl,HW⟩:=hrel
  go_wp2
  go_ret2
  exact HW.out
end
end Go.Proofs.YtaggiceejcegdaaGreat
namespace Go.Proofs.YtaggiceejcegdaaGreat
set_option linter.unusedVariables false
open Go.RowKit
theorem Tried.next {f : DC → DC × Ans} {d : DC} {n : Nat} {er : Int} (h : Tried f d n er) (he : er = 16) : Tried f d (n + 1) (ansN f d n).er:=by
 refine .inr ⟨by omega,by simp,fun j hj=>?_⟩
 rcases h with ⟨h0,_⟩ | ⟨h0,h1,h2⟩
 ·omega
 ·by_cases e : j = n - 1
  ·rw [e,← h1]; exact he
  ·exact h2 j (by omega)
theorem Tried.done {f : DC → DC × Ans} {d : DC} {n : Nat} {er : Int} (h : Tried f d n er) (he : n = 9 ∨ ¬ er = 16) (hn : n ≤ 9) : 0 < n ∧ tryD f d = (callN f d n,ansN f d (n - 1)) ∧ er = (tryD f d).2.er:=by
 rcases h with ⟨h0,h1⟩ | ⟨h0,h1,h2⟩
 ·rcases he with he | he
  ·omega
  ·exact absurd h1 he
 ·have h3 : tryD f d = (callN f d (n - 1 + 1),ansN f d (n - 1)):=try_stop h2 (by
   rcases he with he | he
   ·exact .inl (by omega)
   ·exact .inr ⟨by omega,by rw [← h1]; exact he⟩)
  rw [show n - 1 + 1 = n by omega] at h3
  exact ⟨h0,h3,by rw [h3,h1]⟩
section
variable {w w' : World} {B : Bd} {q pw : Nat} {g : Geo} {F : List Flt} {d : DC}
set_option maxRecDepth 100000 in
set_option maxHeartbeats 2000000 in
theorem rwflush_any {key : Int} (h : RDM w B q pw g F d) (hn : F.length ≤ 9223372036854775807) (hon : d.O.length + 9 ≤ 99000) :
  Calls Tryz.prog 19 #[.pointer (some ⟨q,0,none⟩),.int .u64 key] w fun e w'=>e = .returned (.int .i64 (tryD (fOne g F key) d).2.er) ∧ RDM w' B q pw g F (tryD (fOne g F key) d).1 ∧ KeptT RDT B w w':=by
 have H0 : Hid (RDM w B q pw g F (callN (fOne g F key) d 0) ∧ KeptT RDT B w w ∧ Tried (fOne g F key) d 0 16):=⟨h,KeptT.refl _ _ _,.inl ⟨rfl,rfl⟩⟩
 clear h
 go_enter Tryz.func19,Tryz.ntmps19
 go_wp2
 go_loopw [5,6] (fun e n wr=>∃ (k : Nat) (er : Int),k ≤ 9 ∧ e = .int .i64 er ∧ n = .int .i64 k ∧ Hid (RDM wr B q pw g F (callN (fOne g F key) d k) ∧ KeptT RDT B w wr ∧ Tried (fOne g F key) d k er)) (fun _ n _=>10 - (intOf n).toNat)
 case atStart=>exact ⟨0,16,by omega,rfl,rfl,H0⟩
 case round=>
  obtain ⟨k,er,hk,rfl,rfl,HW⟩:=hrel
  by_cases hg : k < 9 ∧ er = 16
  ·obtain ⟨h9,rfl⟩:=hg
   have hl:=callN_len (fOne_len g F key) d k
   have HC:=Lib.hid (rdflush_any key HW.out.1 hn (by omega))
   have HT:=Lib.hid (HW.out.2.2.next rfl)
   have d1 : decide ((k : Int) < 9) = true:=decide_eq_true (by omega)
   have HE : Hid ((ansN (fOne g F key) d k).er = (begD F (callN (fOne g F key) d k).s (callN (fOne g F key) d k).P key).er):=rfl
   go_wp2_with fail
   refine HC.out.mono ?_
   rintro e w2 ⟨rfl,hd2,hk2⟩
   have HD:=Lib.hid (And.intro hd2 (HW.out.2.1.trans hk2))
   rw [← HE.out]
   clear hd2 hk2 HC
   go_wp2
   go_roundw
   case rel=>exact ⟨k + 1,_,by omega,rfl,by go_num,HD.out.1,HD.out.2,HT.out⟩
   case measure=>simp [intOf]; omega
  ·obtain ⟨_,h2,h3⟩:=HW.out.2.2.done (by by_cases e : k = 9; exact .inl e; exact .inr (fun e'=>hg ⟨by omega,e'⟩)) hk
   have HD : Hid (RDM wr B q pw g F (tryD (fOne g F key) d).1 ∧ KeptT RDT B w wr):=by rw [h2]; exact ⟨HW.out.1,HW.out.2.1⟩
   have HE:=Lib.hid h3
   clear h2 h3
   by_cases h9 : k < 9
   ·have d1 : decide ((k : Int) < 9) = true:=decide_eq_true (by omega)
    have d2 : (er == 16) = false:=by simpa using fun e=>hg ⟨h9,e⟩
    go_wp2
    go_ret
    rw [← HE.out]
    exact ⟨rfl,HD.out⟩
   ·have d1 : decide ((k : Int) < 9) = false:=decide_eq_false (by omega)
    go_wp2
    go_ret
    rw [← HE.out]
    exact ⟨rfl,HD.out⟩
set_option maxRecDepth 100000 in
set_option maxHeartbeats 4000000 in
theorem rwwrite_any {key at_ : Int} {ss : List Sl} {A : Option Addr} {c : Nat} (h : RDM w B q pw g F d) (hF : ∀ f ∈ F,I64 f.to_) (hn : F.length ≤ 9223372036854775807) (hon : d.O.length + 9 * ss.length ≤ 99000) (ha0 : -1000000 ≤ at_) (ha1 : at_ ≤ 1000000)
  (hr : ∀ W,KeptT RDT B w W → SlsR W W.heap.size A ss) (hx : ∀ s ∈ ss,s.xs.length ≤ 100000 ∧ s.xs.length ≤ s.c) (hl : ss.length ≤ 100000) :
  Calls Tryz.prog 17 #[.pointer (some ⟨q,0,none⟩),.int .u64 key,.int .i64 at_,.slice A ss.length c] w fun e w'=>e = .returned (.int .i64 (wrD g F key at_ (ss.map Sl.xs) d).2) ∧ RDM w' B q pw g F (wrD g F key at_ (ss.map Sl.xs) d).1 ∧ KeptT RDT B w w':=by
 have HR:=Lib.hid hr
 have HX:=Lib.hid hx
 have HF:=Lib.hid hF
 have H0 : Hid (RDM w B q pw g F (wrAll g F key at_ (ss.map Sl.xs) d 0).1 ∧ (wrAll g F key at_ (ss.map Sl.xs) d 0).2 = 0 ∧ KeptT RDT B w w):=⟨h,rfl,KeptT.refl _ _ _⟩
 clear hr hx hF h
 go_enter Tryz.func17,Tryz.ntmps17
 go_wp2
 go_loopw [9] (fun i wr=>∃ k : Nat,k ≤ ss.length ∧ i = .int .i64 k ∧ Hid (RDM wr B q pw g F (wrAll g F key at_ (ss.map Sl.xs) d k).1 ∧ (wrAll g F key at_ (ss.map Sl.xs) d k).2 = 0 ∧ KeptT RDT B w wr)) (fun i _=>ss.length - (intOf i).toNat)
 case atStart=>exact ⟨0,Nat.zero_le _,rfl,H0⟩
 case round=>
  obtain ⟨k,hk,rfl,HW⟩:=hrel
  by_cases hlt : k < ss.length
  ·have hol:=wrAll_len g F key at_ (ss.map Sl.xs) d k
   have HN : Hid (wrAll g F key at_ (ss.map Sl.xs) d (k + 1) = ((tryD (wOne g F key (at_ + k) ss[k].xs) (wrAll g F key at_ (ss.map Sl.xs) d k).1).1,(tryD (wOne g F key (at_ + k) ss[k].xs) (wrAll g F key at_ (ss.map Sl.xs) d k).1).2.er)):=by
    unfold Hid
    rw [wrAll,if_pos HW.out.2.1,show (ss.map Sl.xs).getD k [] = ss[k].xs by simp [List.getD,hlt]]
   have H1 : Hid (RDM wr B q pw g F (callN (wOne g F key (at_ + k) ss[k].xs) (wrAll g F key at_ (ss.map Sl.xs) d k).1 0) ∧ KeptT RDT B w wr ∧ Tried (wOne g F key (at_ + k) ss[k].xs) (wrAll g F key at_ (ss.map Sl.xs) d k).1 0 16):=⟨HW.out.1,HW.out.2.2,.inl ⟨rfl,rfl⟩⟩
   have hw : IntKind.i64.wrap (at_ + (k : Int)) = at_ + k:=by rw [IntKind.wrap_i64]; omega
   have hol2 : (wrAll g F key at_ (ss.map Sl.xs) d k).1.O.length + 9 ≤ 99000:=by omega
   generalize hD0 : (wrAll g F key at_ (ss.map Sl.xs) d k).1 = d0 at *
   go_wp2
   go_loopw [10,11] (fun e n wr=>∃ (j : Nat) (er : Int),j ≤ 9 ∧ e = .int .i64 er ∧ n = .int .i64 j ∧ Hid (RDM wr B q pw g F (callN (wOne g F key (at_ + k) ss[k].xs) d0 j) ∧ KeptT RDT B w wr ∧ Tried (wOne g F key (at_ + k) ss[k].xs) d0 j er)) (fun _ n _=>10 - (intOf n).toNat)
   case atStart=>exact ⟨0,16,by omega,rfl,rfl,H1⟩
   case round=>
    rename_i wr0 _ _ _
    obtain ⟨j,er,hj,rfl,rfl,HJ⟩:=hrel
    by_cases hg : j < 9 ∧ er = 16
    ·obtain ⟨h9,rfl⟩:=hg
     have hlc:=callN_len (wOne_len g F key (at_ + k) ss[k].xs) d0 j
     obtain ⟨g1,o1,rfl,hg1,j1,hr1⟩:=sl_at (HR.out wr HJ.out.2.1) hlt
     have hx1:=HX.out _ (List.getElem_mem hlt)
     have hkj:=HJ.out.2.1
     have HC:=Lib.hid (rdwrite_any key (at_ + k) ss[k].xs false ss[k].A ss[k].c HJ.out.1 hn (by omega) (by constructor <;> omega) (begD_to _ _ key HF.out) (fun W hW=>(HR.out W (hkj.trans hW)).each _ (List.getElem_mem hlt)) hx1.1 hx1.2)
     have HT:=Lib.hid (HJ.out.2.2.next rfl)
     have d1 : decide ((j : Int) < 9) = true:=decide_eq_true (by omega)
     have HE : Hid ((ansN (wOne g F key (at_ + k) ss[k].xs) d0 j).er = dWrE F (callN (wOne g F key (at_ + k) ss[k].xs) d0 j).s (callN (wOne g F key (at_ + k) ss[k].xs) d0 j).P (callN (wOne g F key (at_ + k) ss[k].xs) d0 j).L key (at_ + k) ss[k].xs):=rfl
     have HS : Hid (∀ W,RDPm W B q pw g F (dWrS F (callN (wOne g F key (at_ + k) ss[k].xs) d0 j).s (callN (wOne g F key (at_ + k) ss[k].xs) d0 j).P (callN (wOne g F key (at_ + k) ss[k].xs) d0 j).L key (at_ + k) ss[k].xs) (begD F (callN (wOne g F key (at_ + k) ss[k].xs) d0 j).s (callN (wOne g F key (at_ + k) ss[k].xs) d0 j).P key).P
       (dWrLM g F (callN (wOne g F key (at_ + k) ss[k].xs) d0 j).s (callN (wOne g F key (at_ + k) ss[k].xs) d0 j).P (callN (wOne g F key (at_ + k) ss[k].xs) d0 j).L (callN (wOne g F key (at_ + k) ss[k].xs) d0 j).O key (at_ + k) ss[k].xs false)
       (dWrO g F (callN (wOne g F key (at_ + k) ss[k].xs) d0 j).s (callN (wOne g F key (at_ + k) ss[k].xs) d0 j).P (callN (wOne g F key (at_ + k) ss[k].xs) d0 j).L (callN (wOne g F key (at_ + k) ss[k].xs) d0 j).O key (at_ + k) ss[k].xs false) → RDM W B q pw g F (callN (wOne g F key (at_ + k) ss[k].xs) d0 (j + 1))):=fun W h=>h
     clear hr1 hx1 hkj
     go_wp2_with fail
     refine HC.out.mono ?_
     rintro e w2 ⟨rfl,hd2,hk2⟩
     rw [← HE.out]
     have HD:=Lib.hid (And.intro (HS.out _ hd2) (HJ.out.2.1.trans hk2))
     clear hd2 hk2 HC
     go_wp2
     go_roundw
     case rel=>exact ⟨j + 1,_,by omega,rfl,by go_num,HD.out.1,HD.out.2,HT.out⟩
     case measure=>simp [intOf]; omega
    ·obtain ⟨_,h2,h3⟩:=HJ.out.2.2.done (by by_cases e : j = 9; exact .inl e; exact .inr (fun e'=>hg ⟨by omega,e'⟩)) hj
     have HD : Hid (RDM wr B q pw g F (tryD (wOne g F key (at_ + k) ss[k].xs) d0).1 ∧ KeptT RDT B w wr):=by rw [h2]; exact ⟨HJ.out.1,HJ.out.2.1⟩
     have HE:=Lib.hid h3
     clear h2 h3
     generalize tryD (wOne g F key (at_ + k) ss[k].xs) d0 = T at *
     obtain ⟨T1,⟨er',by_⟩⟩:=T
     have hee : er = er':=HE.out
     subst hee
     simp only at *
     by_cases h9 : j < 9
     ·have d1 : decide ((j : Int) < 9) = true:=decide_eq_true (by omega)
      have d2 : (er == 16) = false:=by simpa using fun e=>hg ⟨h9,e⟩
      by_cases he : er = 0
      ·subst he
       go_wp2
       go_roundw
       case rel=>exact ⟨k + 1,hlt,by go_num,by rw [HN.out]; exact HD.out.1,by rw [HN.out],HD.out.2⟩
       case measure=>simp [intOf]; omega
      ·have he' : (er != 0) = true:=by simpa using he
       have HE9 : Hid (wrD g F key at_ (ss.map Sl.xs) d = (T1,er)):=by
        unfold Hid wrD
        have h1:=wrAll_stay (g:=g) (F:=F) (key:=key) (a:=at_) (ls:=ss.map Sl.xs) (d:=d) (k:=k + 1) (by rw [HN.out]; exact he) (ss.length - (k + 1))
        rw [show k + 1 + (ss.length - (k + 1)) = (ss.map Sl.xs).length by rw [List.length_map]; omega] at h1
        rw [h1,HN.out]
       go_wp2
       go_ret
       rw [HE9.out]
       exact ⟨rfl,HD.out⟩
     ·have d1 : decide ((j : Int) < 9) = false:=decide_eq_false (by omega)
      by_cases he : er = 0
      ·subst he
       go_wp2
       go_roundw
       case rel=>exact ⟨k + 1,hlt,by go_num,by rw [HN.out]; exact HD.out.1,by rw [HN.out],HD.out.2⟩
       case measure=>simp [intOf]; omega
      ·have he' : (er != 0) = true:=by simpa using he
       have HE9 : Hid (wrD g F key at_ (ss.map Sl.xs) d = (T1,er)):=by
        unfold Hid wrD
        have h1:=wrAll_stay (g:=g) (F:=F) (key:=key) (a:=at_) (ls:=ss.map Sl.xs) (d:=d) (k:=k + 1) (by rw [HN.out]; exact he) (ss.length - (k + 1))
        rw [show k + 1 + (ss.length - (k + 1)) = (ss.map Sl.xs).length by rw [List.length_map]; omega] at h1
        rw [h1,HN.out]
       go_wp2
       go_ret
       rw [HE9.out]
       exact ⟨rfl,HD.out⟩
  ·obtain rfl : k = ss.length:=by omega
   have HD : Hid (wrD g F key at_ (ss.map Sl.xs) d = wrAll g F key at_ (ss.map Sl.xs) d ss.length):=by unfold Hid wrD; rw [List.length_map]
   go_wp2
   go_ret
   rw [HD.out]
   exact ⟨by rw [HW.out.2.1]; rfl,HW.out.1,HW.out.2.2⟩
theorem norm_u8 {xs : List Int} (h : U8s xs) : norm xs = xs:=by
 unfold norm
 have : ∀ x ∈ xs,((UInt8.ofNat x.toNat).toNat : Int) = x:=fun x hx=>by
  have:=h x hx
  simp only [UInt8.toNat_ofNat']
  omega
 induction xs with
 | nil=>rfl
 | cons a l ih=>rw [List.map_cons,this a (by simp),ih (fun x hx=>h x (by simp [hx])) (fun x hx=>this x (by simp [hx]))]
theorem grown_sl {base m : Nat} {v : Value} {xs : List Value} (hg : w.grownBy w' v.ownBlock) (ho : w.ownsRow base 26 1 v m xs) : KeptT [26] (Bd.of 0) w w':=by
 have hk : Kept (fun k=>v.ownBlock = some k) w w':=⟨hg.os,hg.tape,hg.output,hg.size,fun k hk hS=>hg.block k hk (fun e=>hS e.symm)⟩
 refine KeptT.of hk (fun k _ e=>⟨⟨Nat.zero_le _,fun h=>h⟩,?_⟩)
 rcases ho.2 with ⟨h2,_⟩ | ⟨g,cap,cur,h2,_,h4,_⟩
 ·rw [h2] at e; cases e
 ·rw [h2] at e
  obtain rfl : g = k:=by simpa [Value.ownBlock] using e
  exact HasT.mem (IsT.of h4) (by simp)
theorem grown_new {ts : List TypeId} {w0 : World} {base m : Nat} {v : Value} {xs : List Value} (hk : KeptT ts B w0 w) (hg : w.grownBy w' v.ownBlock) (ho : w.ownsRow base 26 1 v m xs) (hb : w0.heap.size ≤ base) : KeptT ts B w0 w':=by
 have hkk : Kept (fun k=>v.ownBlock = some k) w w':=⟨hg.os,hg.tape,hg.output,hg.size,fun k hk hS=>hg.block k hk (fun e=>hS e.symm)⟩
 refine Kept.trans hk hkk (fun i hi e=>?_)
 have:=own_low ho e
 omega
set_option maxRecDepth 100000 in
set_option maxHeartbeats 4000000 in
theorem rwread_any {key at_ : Int} {N : Nat} (n : Int) (hN : n.toNat = N) (hNl : N ≤ 1000) (h : RDM w B q pw g F d) (hu : d.U8) (hn : F.length ≤ 9223372036854775807) (hon : d.O.length ≤ 99000) (ha0 : -1000000 ≤ at_) (ha1 : at_ ≤ 1000000) :
  Calls Tryz.prog 21 #[.pointer (some ⟨q,0,none⟩),.int .u64 key,.int .i64 at_,.int .i64 n] w (RRdsPost w B q pw g F (rdAll g F key at_ d N)):=by
 obtain ⟨i0,hi0,hz0,hz1,hz2⟩:=info_parts info_sl
 have HU:=Lib.hid hu
 have H0 : Hid (RDM w B q pw g F (rdAll g F key at_ d 0).1 ∧ (rdAll g F key at_ d 0).2.2 = 0 ∧ ([] : List Sl).map Sl.xs = (rdAll g F key at_ d 0).2.1 ∧ SlsB w w.heap.size none 0 [] ∧ KeptT RDT B w w):=
  ⟨h,rfl,rfl,⟨World.ownsRow_nil _ _ _ _,fun s hs=>by simp at hs⟩,KeptT.refl _ _ _⟩
 clear h hu
 go_enter Tryz.func21,Tryz.ntmps21
 go_wp2
 go_loopw [10,11] (fun o i wr=>∃ (k : Nat) (A : Option Addr) (c : Nat) (ss : List Sl),k ≤ N ∧ o = .slice A ss.length c ∧ i = .int .i64 k ∧ Hid (RDM wr B q pw g F (rdAll g F key at_ d k).1 ∧ (rdAll g F key at_ d k).2.2 = 0 ∧ ss.map Sl.xs = (rdAll g F key at_ d k).2.1 ∧ SlsB wr w.heap.size A c ss ∧ KeptT RDT B w wr)) (fun _ i _=>N - (intOf i).toNat)
 case atStart=>exact ⟨0,none,0,[],Nat.zero_le _,rfl,rfl,H0⟩
 case round=>
  obtain ⟨k,A,c,ss,hk,rfl,rfl,HW⟩:=hrel
  by_cases hlt : k < N
  ·have d0 : decide ((k : Int) < n) = true:=decide_eq_true (by omega)
   have hLO:=rdAll_r (g:=g) (F:=F) (key:=key) (a:=at_) (d:=d) k
   have hUk:=(rdAll_u8 (g:=g) (F:=F) (key:=key) (a:=at_) HU.out k).1
   have HN:=Lib.hid (rdAll_yes (g:=g) (F:=F) (key:=key) (a:=at_) (d:=d) HW.out.2.1)
   have HXW:=Lib.hid HW.out.2.2.1
   have hsl : ss.length ≤ 1000:=by
    have:=congrArg List.length HW.out.2.2.1
    rw [List.length_map,rdAll_len k HW.out.2.1] at this
    omega
   have H1 : Hid (RDM wr B q pw g F (callN (rOne g F key (at_ + k)) (rdAll g F key at_ d k).1 0) ∧ KeptT RDT B wr wr ∧ Tried (rOne g F key (at_ + k)) (rdAll g F key at_ d k).1 0 16):=⟨HW.out.1,KeptT.refl _ _ _,.inl ⟨rfl,rfl⟩⟩
   have hw : IntKind.i64.wrap (at_ + (k : Int)) = at_ + k:=by rw [IntKind.wrap_i64]; omega
   have hO0 : (rdAll g F key at_ d k).1.O.length ≤ 99000:=by rw [hLO.2]; exact hon
   have HUk:=Lib.hid hUk
   have HWs:=Lib.hid HW.out.2.2.2
   generalize (rdAll g F key at_ d k).1 = d0 at *
   clear hLO hUk HW
   obtain ⟨wo,hwo⟩ : ∃ x : World,x = wr:=⟨wr,rfl⟩
   subst hwo
   go_wp2
   go_loopw [12,13,14] (fun b e n wi=>∃ (j : Nat) (er : Int) (A1 : Option Addr) (n1 c1 : Nat),j ≤ 9 ∧ b = .slice A1 n1 c1 ∧ e = .int .i64 er ∧ n = .int .i64 j ∧ Hid (RDM wi B q pw g F (callN (rOne g F key (at_ + k)) d0 j) ∧ KeptT RDT B wo wi ∧ Tried (rOne g F key (at_ + k)) d0 j er) ∧
    Hid (0 < j → (ansN (rOne g F key (at_ + k)) d0 (j - 1)).by_.length = n1 ∧ RdT wi 5 A1 ((ansN (rOne g F key (at_ + k)) d0 (j - 1)).by_.map (Value.int .u8)) ∧ CapOk A1 n1 c1)) (fun _ _ n _=>10 - (intOf n).toNat)
   case atStart=>exact ⟨0,16,none,0,0,by omega,rfl,rfl,rfl,H1,fun h=>absurd h (by omega)⟩
   case round=>
    obtain ⟨j,er,A1,n1,c1,hj,rfl,rfl,rfl,HJ,HBy⟩:=hrel
    by_cases hg : j < 9 ∧ er = 16
    ·obtain ⟨h9,rfl⟩:=hg
     have hcr:=callN_r (g:=g) (F:=F) (key:=key) (a:=at_ + k) (d:=d0) j
     have HC:=Lib.hid (rdread_any key (at_ + k) HJ.out.1 hn (by rw [hcr.2]; exact hO0))
     have HT:=Lib.hid (HJ.out.2.2.next rfl)
     have d1 : decide ((j : Int) < 9) = true:=decide_eq_true (by omega)
     have HE : Hid ((ansN (rOne g F key (at_ + k)) d0 j).er = dRdE F (callN (rOne g F key (at_ + k)) d0 j).s (callN (rOne g F key (at_ + k)) d0 j).P (callN (rOne g F key (at_ + k)) d0 j).L (playL g (callN (rOne g F key (at_ + k)) d0 j).L (callN (rOne g F key (at_ + k)) d0 j).O) key (at_ + k)):=rfl
     have HBB : Hid (norm (dRdB F (callN (rOne g F key (at_ + k)) d0 j).s (callN (rOne g F key (at_ + k)) d0 j).P (callN (rOne g F key (at_ + k)) d0 j).L (playL g (callN (rOne g F key (at_ + k)) d0 j).L (callN (rOne g F key (at_ + k)) d0 j).O) key (at_ + k)) = (ansN (rOne g F key (at_ + k)) d0 j).by_):=
      norm_u8 (rOne_u8 (callN_u8 (fun d hd=>(rOne_u8 hd).1) HUk.out j)).2
     have HS : Hid (∀ W,RDPm W B q pw g F (dRdS F (callN (rOne g F key (at_ + k)) d0 j).s (callN (rOne g F key (at_ + k)) d0 j).P (callN (rOne g F key (at_ + k)) d0 j).L (playL g (callN (rOne g F key (at_ + k)) d0 j).L (callN (rOne g F key (at_ + k)) d0 j).O) key (at_ + k)) (begD F (callN (rOne g F key (at_ + k)) d0 j).s (callN (rOne g F key (at_ + k)) d0 j).P key).P
       (callN (rOne g F key (at_ + k)) d0 j).L (callN (rOne g F key (at_ + k)) d0 j).O → RDM W B q pw g F (callN (rOne g F key (at_ + k)) d0 (j + 1))):=fun W h=>h
     clear hcr
     go_wp2_with fail
     refine HC.out.mono ?_
     rintro e w2 ⟨v,ys,rfl,hv,hys,hd2,hk2⟩
     rw [← HE.out]
     rw [HBB.out] at hys
     subst hys
     obtain ⟨A2,c2,rfl,hr2,hA2⟩:=hv
     have HD:=Lib.hid (And.intro (HS.out _ hd2) (HJ.out.2.1.trans hk2))
     have HB2 : Hid (0 < j + 1 → (ansN (rOne g F key (at_ + k)) d0 (j + 1 - 1)).by_.length = (ansN (rOne g F key (at_ + k)) d0 j).by_.length ∧ RdT w2 5 A2 ((ansN (rOne g F key (at_ + k)) d0 (j + 1 - 1)).by_.map (Value.int .u8)) ∧ CapOk A2 (ansN (rOne g F key (at_ + k)) d0 j).by_.length c2):=fun _=>⟨rfl,hr2,hA2⟩
     clear hd2 hk2 HC hr2 hA2
     go_wp2
     go_roundw
     case rel=>exact ⟨j + 1,_,A2,_,c2,by omega,rfl,rfl,by go_num,⟨HD.out.1,HD.out.2,HT.out⟩,HB2.out⟩
     case measure=>simp [intOf]; omega
    ·obtain ⟨hj0,h2,h3⟩:=HJ.out.2.2.done (by by_cases e : j = 9; exact .inl e; exact .inr (fun e'=>hg ⟨by omega,e'⟩)) hj
     have HD : Hid (RDM wr B q pw g F (tryD (rOne g F key (at_ + k)) d0).1 ∧ KeptT RDT B wo wr):=by rw [h2]; exact ⟨HJ.out.1,HJ.out.2.1⟩
     have HB3 : Hid ((tryD (rOne g F key (at_ + k)) d0).2.by_.length = n1 ∧ RdT wr 5 A1 ((tryD (rOne g F key (at_ + k)) d0).2.by_.map (Value.int .u8)) ∧ CapOk A1 n1 c1):=by rw [h2]; exact HBy.out hj0
     have HE:=Lib.hid h3
     have HS3:=Lib.hid (HWs.out.1.kept HJ.out.2.1 (by unfold RDT; decide) (by unfold RDT; decide))
     have HK3:=Lib.hid (HWs.out.2.trans HJ.out.2.1)
     clear h2 h3 HJ HBy
     generalize tryD (rOne g F key (at_ + k)) d0 = T at *
     obtain ⟨T1,⟨er',by_⟩⟩:=T
     have hee : er = er':=HE.out
     subst hee
     have hnn : by_.length = n1:=HB3.out.1
     subst hnn
     simp only at *
     by_cases h9 : j < 9
     ·have d1 : decide ((j : Int) < 9) = true:=decide_eq_true (by omega)
      have d2 : (er == 16) = false:=by simpa using fun e=>hg ⟨h9,e⟩
      by_cases he : er = 0
      ·subst he
       have HN2 : Hid (rdAll g F key at_ d (k + 1) = (T1,(rdAll g F key at_ d k).2.1 ++ [by_],0)):=by
        unfold Hid; rw [HN.out]; unfold rdNext; rw [if_pos rfl]
       have hO:=HS3.out.own
       go_wp2_with (at_builtin; go_loud (refine wpList_append_own _ rfl _ _ 49 rfl w.heap.size 26 i0 _ 1 24 Tryz.underlying49 hi0 hz0 hz1 hz2 rfl (by decide) (.slice A ss.length c) ss.length (ss.map Sl.v) rfl (hO.alloc _) ⟨wr.heap.size,0,none⟩ 1 1 [.slice A1 (by_).length c1] rfl rfl (World.news_of_block (heap_alloc_new _ _)) (by intro u hu; simp at hu; subst hu; rfl) ?c1 ?c2 ?c3 ?_))
       case c1=>unfold maxLen; omega
       case c2=>omega
       case c3=>have h71:=HK3.out.size; first | omega | (simp; omega)
       intro v' w9 hown hgrow hiff
       obtain ⟨A9,c9,hv⟩:=own_form hown
       subst hv
       have hba : Below wr.heap.size wr (wr.alloc (.cells #[.slice A1 (by_).length c1] 26)):=(Below.refl _ _).alloc (Nat.le_refl _) _
       have HW9 : Hid (RDM w9 B q pw g F (rdAll g F key at_ d (k + 1)).1 ∧ (rdAll g F key at_ d (k + 1)).2.2 = 0 ∧ (ss ++ [(⟨A1,by_,c1⟩ : Sl)]).map Sl.xs = (rdAll g F key at_ d (k + 1)).2.1 ∧ SlsB w9 w.heap.size A9 c9 (ss ++ [(⟨A1,by_,c1⟩ : Sl)]) ∧ KeptT RDT B w w9):=by
        rw [HN2.out]
        refine ⟨(RDPm.below0 HD.out.1 hba).types (grown_sl hgrow (hO.alloc _)) (by decide) (by decide) (by decide) (by decide),rfl,by rw [List.map_append,HXW.out]; rfl,HS3.out.push HB3.out.2 hown hgrow,grown_new (HK3.out.trans (KeptT.bel hba)) hgrow (hO.alloc _) (Nat.le_refl _)⟩
       clear hown hgrow hiff hO hba
       go_wp2
       go_roundw
       case rel=>exact ⟨k + 1,A9,c9,ss ++ [(⟨A1,by_,c1⟩ : Sl)],hlt,by rw [List.length_append]; rfl,by go_num,HW9⟩
       case measure=>simp [intOf]; omega
      ·by_cases h15 : er = 15
       ·subst h15
        have HN2 : Hid (rdAll g F key at_ d (k + 1) = (T1,(rdAll g F key at_ d k).2.1 ++ [[]],0)):=by
         unfold Hid; rw [HN.out]; unfold rdNext; rw [if_neg he,if_pos (.inl rfl)]
        have hO:=HS3.out.own
        go_wp2_with (at_builtin; go_loud (refine wpList_append_own _ rfl _ _ 49 rfl w.heap.size 26 i0 _ 1 24 Tryz.underlying49 hi0 hz0 hz1 hz2 rfl (by decide) (.slice A ss.length c) ss.length (ss.map Sl.v) rfl (hO.alloc _) ⟨wr.heap.size,0,none⟩ 1 1 [.slice none (([] : List Int)).length 0] rfl rfl (World.news_of_block (heap_alloc_new _ _)) (by intro u hu; simp at hu; subst hu; rfl) ?c1 ?c2 ?c3 ?_))
        case c1=>unfold maxLen; omega
        case c2=>omega
        case c3=>have h71:=HK3.out.size; first | omega | (simp; omega)
        intro v' w9 hown hgrow hiff
        obtain ⟨A9,c9,hv⟩:=own_form hown
        subst hv
        have hba : Below wr.heap.size wr (wr.alloc (.cells #[.slice none (([] : List Int)).length 0] 26)):=(Below.refl _ _).alloc (Nat.le_refl _) _
        have HW9 : Hid (RDM w9 B q pw g F (rdAll g F key at_ d (k + 1)).1 ∧ (rdAll g F key at_ d (k + 1)).2.2 = 0 ∧ (ss ++ [(⟨none,([] : List Int),0⟩ : Sl)]).map Sl.xs = (rdAll g F key at_ d (k + 1)).2.1 ∧ SlsB w9 w.heap.size A9 c9 (ss ++ [(⟨none,([] : List Int),0⟩ : Sl)]) ∧ KeptT RDT B w w9):=by
         rw [HN2.out]
         refine ⟨(RDPm.below0 HD.out.1 hba).types (grown_sl hgrow (hO.alloc _)) (by decide) (by decide) (by decide) (by decide),rfl,by rw [List.map_append,HXW.out]; rfl,HS3.out.push ⟨RdT.nil _ _ _,CapOk.nil⟩ hown hgrow,grown_new (HK3.out.trans (KeptT.bel hba)) hgrow (hO.alloc _) (Nat.le_refl _)⟩
        clear hown hgrow hiff hO hba
        go_wp2
        go_roundw
        case rel=>exact ⟨k + 1,A9,c9,ss ++ [(⟨none,([] : List Int),0⟩ : Sl)],hlt,by rw [List.length_append]; rfl,by go_num,HW9⟩
        case measure=>simp [intOf]; omega
       ·by_cases h16 : er = 16
        ·subst h16
         have HN2 : Hid (rdAll g F key at_ d (k + 1) = (T1,(rdAll g F key at_ d k).2.1 ++ [[]],0)):=by
          unfold Hid; rw [HN.out]; unfold rdNext; rw [if_neg he,if_pos (.inr rfl)]
         exact absurd d2 (by decide)
        ·have HDD : Hid (RRdsPost w B q pw g F (rdAll g F key at_ d N) (.returned (.tuple #[.slice none 0 0,.int .i64 er])) wr):=by
          have hN2 : rdAll g F key at_ d (k + 1) = (T1,[],er):=by rw [HN.out]; unfold rdNext; rw [if_neg he,if_neg (by rintro (h | h); exact h15 h; exact h16 h)]
          have hN3 : rdAll g F key at_ d N = (T1,[],er):=by
           have:=rdAll_stay (g:=g) (F:=F) (key:=key) (a:=at_) (d:=d) (k:=k + 1) (by rw [hN2]; exact he) (N - (k + 1))
           rw [show k + 1 + (N - (k + 1)) = N by omega,hN2] at this
           exact this
          rw [hN3]
          exact ⟨none,0,[],rfl,rfl,⟨World.ownsRow_nil _ _ _ _,fun s hs=>by simp at hs⟩,HD.out.1,HK3.out⟩
         have e0 : (er != 0) = true:=by simpa using he
         have e15 : (er != 15) = true:=by simpa using h15
         have e16 : (er != 16) = true:=by simpa using h16
         go_wp2
         go_ret2
         exact HDD.out
     ·have d1 : decide ((j : Int) < 9) = false:=decide_eq_false (by omega)
      by_cases he : er = 0
      ·subst he
       have HN2 : Hid (rdAll g F key at_ d (k + 1) = (T1,(rdAll g F key at_ d k).2.1 ++ [by_],0)):=by
        unfold Hid; rw [HN.out]; unfold rdNext; rw [if_pos rfl]
       have hO:=HS3.out.own
       go_wp2_with (at_builtin; go_loud (refine wpList_append_own _ rfl _ _ 49 rfl w.heap.size 26 i0 _ 1 24 Tryz.underlying49 hi0 hz0 hz1 hz2 rfl (by decide) (.slice A ss.length c) ss.length (ss.map Sl.v) rfl (hO.alloc _) ⟨wr.heap.size,0,none⟩ 1 1 [.slice A1 (by_).length c1] rfl rfl (World.news_of_block (heap_alloc_new _ _)) (by intro u hu; simp at hu; subst hu; rfl) ?c1 ?c2 ?c3 ?_))
       case c1=>unfold maxLen; omega
       case c2=>omega
       case c3=>have h71:=HK3.out.size; first | omega | (simp; omega)
       intro v' w9 hown hgrow hiff
       obtain ⟨A9,c9,hv⟩:=own_form hown
       subst hv
       have hba : Below wr.heap.size wr (wr.alloc (.cells #[.slice A1 (by_).length c1] 26)):=(Below.refl _ _).alloc (Nat.le_refl _) _
       have HW9 : Hid (RDM w9 B q pw g F (rdAll g F key at_ d (k + 1)).1 ∧ (rdAll g F key at_ d (k + 1)).2.2 = 0 ∧ (ss ++ [(⟨A1,by_,c1⟩ : Sl)]).map Sl.xs = (rdAll g F key at_ d (k + 1)).2.1 ∧ SlsB w9 w.heap.size A9 c9 (ss ++ [(⟨A1,by_,c1⟩ : Sl)]) ∧ KeptT RDT B w w9):=by
        rw [HN2.out]
        refine ⟨(RDPm.below0 HD.out.1 hba).types (grown_sl hgrow (hO.alloc _)) (by decide) (by decide) (by decide) (by decide),rfl,by rw [List.map_append,HXW.out]; rfl,HS3.out.push HB3.out.2 hown hgrow,grown_new (HK3.out.trans (KeptT.bel hba)) hgrow (hO.alloc _) (Nat.le_refl _)⟩
       clear hown hgrow hiff hO hba
       go_wp2
       go_roundw
       case rel=>exact ⟨k + 1,A9,c9,ss ++ [(⟨A1,by_,c1⟩ : Sl)],hlt,by rw [List.length_append]; rfl,by go_num,HW9⟩
       case measure=>simp [intOf]; omega
      ·by_cases h15 : er = 15
       ·subst h15
        have HN2 : Hid (rdAll g F key at_ d (k + 1) = (T1,(rdAll g F key at_ d k).2.1 ++ [[]],0)):=by
         unfold Hid; rw [HN.out]; unfold rdNext; rw [if_neg he,if_pos (.inl rfl)]
        have hO:=HS3.out.own
        go_wp2_with (at_builtin; go_loud (refine wpList_append_own _ rfl _ _ 49 rfl w.heap.size 26 i0 _ 1 24 Tryz.underlying49 hi0 hz0 hz1 hz2 rfl (by decide) (.slice A ss.length c) ss.length (ss.map Sl.v) rfl (hO.alloc _) ⟨wr.heap.size,0,none⟩ 1 1 [.slice none (([] : List Int)).length 0] rfl rfl (World.news_of_block (heap_alloc_new _ _)) (by intro u hu; simp at hu; subst hu; rfl) ?c1 ?c2 ?c3 ?_))
        case c1=>unfold maxLen; omega
        case c2=>omega
        case c3=>have h71:=HK3.out.size; first | omega | (simp; omega)
        intro v' w9 hown hgrow hiff
        obtain ⟨A9,c9,hv⟩:=own_form hown
        subst hv
        have hba : Below wr.heap.size wr (wr.alloc (.cells #[.slice none (([] : List Int)).length 0] 26)):=(Below.refl _ _).alloc (Nat.le_refl _) _
        have HW9 : Hid (RDM w9 B q pw g F (rdAll g F key at_ d (k + 1)).1 ∧ (rdAll g F key at_ d (k + 1)).2.2 = 0 ∧ (ss ++ [(⟨none,([] : List Int),0⟩ : Sl)]).map Sl.xs = (rdAll g F key at_ d (k + 1)).2.1 ∧ SlsB w9 w.heap.size A9 c9 (ss ++ [(⟨none,([] : List Int),0⟩ : Sl)]) ∧ KeptT RDT B w w9):=by
         rw [HN2.out]
         refine ⟨(RDPm.below0 HD.out.1 hba).types (grown_sl hgrow (hO.alloc _)) (by decide) (by decide) (by decide) (by decide),rfl,by rw [List.map_append,HXW.out]; rfl,HS3.out.push ⟨RdT.nil _ _ _,CapOk.nil⟩ hown hgrow,grown_new (HK3.out.trans (KeptT.bel hba)) hgrow (hO.alloc _) (Nat.le_refl _)⟩
        clear hown hgrow hiff hO hba
        go_wp2
        go_roundw
        case rel=>exact ⟨k + 1,A9,c9,ss ++ [(⟨none,([] : List Int),0⟩ : Sl)],hlt,by rw [List.length_append]; rfl,by go_num,HW9⟩
        case measure=>simp [intOf]; omega
       ·by_cases h16 : er = 16
        ·subst h16
         have HN2 : Hid (rdAll g F key at_ d (k + 1) = (T1,(rdAll g F key at_ d k).2.1 ++ [[]],0)):=by
          unfold Hid; rw [HN.out]; unfold rdNext; rw [if_neg he,if_pos (.inr rfl)]
         have hO:=HS3.out.own
         go_wp2_with (at_builtin; go_loud (refine wpList_append_own _ rfl _ _ 49 rfl w.heap.size 26 i0 _ 1 24 Tryz.underlying49 hi0 hz0 hz1 hz2 rfl (by decide) (.slice A ss.length c) ss.length (ss.map Sl.v) rfl (hO.alloc _) ⟨wr.heap.size,0,none⟩ 1 1 [.slice none (([] : List Int)).length 0] rfl rfl (World.news_of_block (heap_alloc_new _ _)) (by intro u hu; simp at hu; subst hu; rfl) ?c1 ?c2 ?c3 ?_))
         case c1=>unfold maxLen; omega
         case c2=>omega
         case c3=>have h71:=HK3.out.size; first | omega | (simp; omega)
         intro v' w9 hown hgrow hiff
         obtain ⟨A9,c9,hv⟩:=own_form hown
         subst hv
         have hba : Below wr.heap.size wr (wr.alloc (.cells #[.slice none (([] : List Int)).length 0] 26)):=(Below.refl _ _).alloc (Nat.le_refl _) _
         have HW9 : Hid (RDM w9 B q pw g F (rdAll g F key at_ d (k + 1)).1 ∧ (rdAll g F key at_ d (k + 1)).2.2 = 0 ∧ (ss ++ [(⟨none,([] : List Int),0⟩ : Sl)]).map Sl.xs = (rdAll g F key at_ d (k + 1)).2.1 ∧ SlsB w9 w.heap.size A9 c9 (ss ++ [(⟨none,([] : List Int),0⟩ : Sl)]) ∧ KeptT RDT B w w9):=by
          rw [HN2.out]
          refine ⟨(RDPm.below0 HD.out.1 hba).types (grown_sl hgrow (hO.alloc _)) (by decide) (by decide) (by decide) (by decide),rfl,by rw [List.map_append,HXW.out]; rfl,HS3.out.push ⟨RdT.nil _ _ _,CapOk.nil⟩ hown hgrow,grown_new (HK3.out.trans (KeptT.bel hba)) hgrow (hO.alloc _) (Nat.le_refl _)⟩
         clear hown hgrow hiff hO hba
         go_wp2
         go_roundw
         case rel=>exact ⟨k + 1,A9,c9,ss ++ [(⟨none,([] : List Int),0⟩ : Sl)],hlt,by rw [List.length_append]; rfl,by go_num,HW9⟩
         case measure=>simp [intOf]; omega
        ·have HDD : Hid (RRdsPost w B q pw g F (rdAll g F key at_ d N) (.returned (.tuple #[.slice none 0 0,.int .i64 er])) wr):=by
          have hN2 : rdAll g F key at_ d (k + 1) = (T1,[],er):=by rw [HN.out]; unfold rdNext; rw [if_neg he,if_neg (by rintro (h | h); exact h15 h; exact h16 h)]
          have hN3 : rdAll g F key at_ d N = (T1,[],er):=by
           have:=rdAll_stay (g:=g) (F:=F) (key:=key) (a:=at_) (d:=d) (k:=k + 1) (by rw [hN2]; exact he) (N - (k + 1))
           rw [show k + 1 + (N - (k + 1)) = N by omega,hN2] at this
           exact this
          rw [hN3]
          exact ⟨none,0,[],rfl,rfl,⟨World.ownsRow_nil _ _ _ _,fun s hs=>by simp at hs⟩,HD.out.1,HK3.out⟩
         have e0 : (er != 0) = true:=by simpa using he
         have e15 : (er != 15) = true:=by simpa using h15
         have e16 : (er != 16) = true:=by simpa using h16
         go_wp2
         go_ret2
         exact HDD.out
  ·obtain rfl : k = N:=by omega
   have d0 : decide ((k : Int) < n) = false:=decide_eq_false (by omega)
   have HD : Hid (RRdsPost w B q pw g F (rdAll g F key at_ d k) (.returned (.tuple #[.slice A ss.length c,.int .i64 0])) wr):=by
    obtain ⟨hm,h0,hx,hsb,hkw⟩:=HW.out
    exact ⟨A,c,ss,by rw [h0],hx,hsb,hm,hkw⟩
   go_wp2
   go_ret2
   exact HD.out
end
end Go.Proofs.YtaggiceejcegdaaGreat
namespace Go.Proofs.YtaggiceejcegdaaGreat
set_option linter.unusedVariables false
open Go.RowKit
theorem wrong_at {fs : List FL} {k : Nat} (hk : k < fs.length) (h : 40 < fs[k].F.length ∨ validF fs[k].F = false) : wrongL (fs.map FL.F) = true:=by
 have h1 : (fs.map FL.F).any (fun l=>decide (40 < l.length) || !validF l) = true:=by
  rw [List.any_eq_true]
  refine ⟨fs[k].F,List.mem_map.2 ⟨_,List.getElem_mem hk,rfl⟩,?_⟩
  rcases h with h | h
  ·rw [decide_eq_true h]; rfl
  ·rw [h]; simp
 unfold wrongL; rw [h1]; rfl
theorem wrong_end {fs : List FL} (h : ∀ i (hi : i < fs.length),fs[i].F.length ≤ 40 ∧ validF fs[i].F = true) : wrongL (fs.map FL.F) = decide (6 < fs.length):=by
 have h1 : (fs.map FL.F).any (fun l=>decide (40 < l.length) || !validF l) = false:=by
  rw [List.any_eq_false]
  intro l hl
  obtain ⟨x,hx,rfl⟩:=List.mem_map.1 hl
  obtain ⟨i,hi,rfl⟩:=List.getElem_of_mem hx
  obtain ⟨a,b⟩:=h i hi
  rw [b,decide_eq_false (by omega)]; simp
 unfold wrongL; rw [h1,List.length_map]; rfl
theorem wrong_no {fs : List (List Flt)} (h : wrongL fs = false) : fs.length ≤ 6 ∧ ∀ l ∈ fs,l.length ≤ 40 ∧ validF l = true:=by
 unfold wrongL at h
 rw [Bool.or_eq_false_iff] at h
 refine ⟨by simpa using h.2,fun l hl=>?_⟩
 have:=List.any_eq_false.1 h.1 l hl
 simpa using this
set_option maxRecDepth 100000 in
set_option maxHeartbeats 1000000 in
theorem wrong_any (fs : List FL) (A : Option Addr) (c : Nat) (w : World) (h : FlsR w w.heap.size A fs) (hl : fs.length ≤ 9223372036854775807) (hx : ∀ x ∈ fs,x.F.length ≤ 9223372036854775807) :
  Calls Tryz.prog 15 #[.slice A fs.length c] w fun e w'=>e = .returned (.bool (wrongL (fs.map FL.F))) ∧ Below w.heap.size w w':=by
 have HH:=Lib.hid h
 have HX:=Lib.hid hx
 have H0 : Hid (Below w.heap.size w w ∧ ∀ i (hi : i < fs.length),i < 0 → fs[i].F.length ≤ 40 ∧ validF fs[i].F = true):=⟨Below.refl _ _,fun i _ h=>by omega⟩
 clear h hx
 go_enter Tryz.func15,Tryz.ntmps15
 go_wp2
 go_loopw [7] (fun i wr=>∃ k : Nat,k ≤ fs.length ∧ i = .int .i64 k ∧ Hid (Below w.heap.size w wr ∧ ∀ i (hi : i < fs.length),i < k → fs[i].F.length ≤ 40 ∧ validF fs[i].F = true)) (fun i _=>fs.length - (intOf i).toNat)
 case atStart=>exact ⟨0,Nat.zero_le _,rfl,H0⟩
 case round=>
  obtain ⟨k,hk,rfl,HW⟩:=hrel
  by_cases hlt : k < fs.length
  ·obtain ⟨g0,o0,rfl,hg0,j0,hr0⟩:=fl_at (HH.out.up HW.out.1) hlt
   have hxx:=HX.out _ (List.getElem_mem hlt)
   by_cases h40 : 40 < fs[k].F.length
   ·have HD:=Lib.hid (wrong_at hlt (.inl h40))
    generalize fs[k] = x at *
    have d1 : decide ((40 : Int) < (x.F.length : Int)) = true:=decide_eq_true (by omega)
    clear hr0
    go_wp2
    go_ret
    exact ⟨by rw [HD.out]; rfl,HW.out.1⟩
   ·have HC:=Lib.hid (rfvalid_any fs[k].F fs[k].A fs[k].c wr hr0 hxx)
    cases hv : validF fs[k].F
    ·have HD:=Lib.hid (wrong_at hlt (.inr hv))
     rw [hv] at HC
     generalize fs[k] = x at *
     have d1 : decide ((40 : Int) < (x.F.length : Int)) = false:=decide_eq_false (by omega)
     clear hr0 hv
     go_wp2_with fail
     refine HC.out.mono ?_
     rintro e w1 ⟨rfl,hb1⟩
     go_wp2
     go_ret
     exact ⟨by rw [HD.out]; rfl,HW.out.1.trans (hb1.mono HW.out.1.size)⟩
    ·have HD : Hid (∀ i (hi : i < fs.length),i < k + 1 → fs[i].F.length ≤ 40 ∧ validF fs[i].F = true):=by
      intro i hi hik
      by_cases e : i = k
      ·subst e; exact ⟨by omega,hv⟩
      ·exact HW.out.2 i hi (by omega)
     rw [hv] at HC
     generalize fs[k] = x at *
     have d1 : decide ((40 : Int) < (x.F.length : Int)) = false:=decide_eq_false (by omega)
     clear hr0 hv
     go_wp2_with fail
     refine HC.out.mono ?_
     rintro e w1 ⟨rfl,hb1⟩
     have HB1:=Lib.hid (HW.out.1.trans (hb1.mono HW.out.1.size))
     clear hb1
     go_wp2
     go_roundw
     case rel=>exact ⟨k + 1,hlt,by go_num,HB1.out,HD.out⟩
     case measure=>simp [intOf]; omega
  ·obtain rfl : k = fs.length:=by omega
   have HD:=Lib.hid (wrong_end (fun i hi=>HW.out.2 i hi hi))
   have d6 : decide ((6 : Int) < (fs.length : Int)) = decide (6 < fs.length):=by simp; omega
   go_wp2
   go_ret
   exact ⟨by rw [HD.out]; first | rfl | simp [d6],HW.out.1⟩
end Go.Proofs.YtaggiceejcegdaaGreat
namespace Go.Proofs.YtaggiceejcegdaaGreat
set_option linter.unusedVariables false
open Go.RowKit
section
variable {w W W' : World} {n pb pw rp : Nat} {PA RA : Option Addr} {pc rc : Nat} {qs rqs : List Nat} {no : Nat → Bool} {m mr : MS} {B : Bd}
theorem PS.below (h : PS w W n pb pw rp PA RA pc rc qs rqs no m mr) (hb : Below W.heap.size W W') : PS w W' n pb pw rp PA RA pc rc qs rqs no m mr:=
 ⟨own_kept h.pair (belKept0 (S:=fun _=>False) hb) (fun _ _ h=>h),own_kept h.ptr (belKept0 (S:=fun _=>False) hb) (fun _ _ h=>h),own_kept h.rptr (belKept0 (S:=fun _=>False) hb) (fun _ _ h=>h),h.many.below0 hb,h.ref.below0 hb,h.bel.trans (hb.mono h.bel.size),h.le⟩
theorem PS.typed {m' : MS} (h : PS w W n pb pw rp PA RA pc rc qs rqs no m mr) (hm : ManyM W' n pw gW qs m') (hk : KeptT DAT B W W') (hB : B.n = n) : PS w W' n pb pw rp PA RA pc rc qs rqs no m' mr:=
 ⟨own_ty h.pair hk (by unfold DAT; decide),own_ty h.ptr hk (by unfold DAT; decide),own_ty h.rptr hk (by unfold DAT; decide),hm,h.ref.types hk (by unfold DAT; decide) (by unfold DAT; decide) (by unfold DAT; decide) (by unfold DAT; decide),h.bel.trans ((hk.below (by rw [hB]; exact h.many.low)).mono (by rw [hB]; exact h.le)),h.le⟩
theorem PS.rtyped {mr' : MS} (h : PS w W n pb pw rp PA RA pc rc qs rqs no m mr) (hm : RManyM W' n rp gW rqs mr') (hk : KeptT RDT B W W') (hB : B.n = n) : PS w W' n pb pw rp PA RA pc rc qs rqs no m mr':=
 ⟨own_ty h.pair hk (by unfold RDT; decide),own_ty h.ptr hk (by unfold RDT; decide),own_ty h.rptr hk (by unfold RDT; decide),h.many.types hk (by unfold RDT; decide) (by unfold RDT; decide) (by unfold RDT; decide) (by unfold RDT; decide),hm,h.bel.trans ((hk.below (by rw [hB]; exact h.many.low)).mono (by rw [hB]; exact h.le)),h.le⟩
theorem PS.c2 (h : PS w W n pb pw rp PA RA pc rc qs rqs no m mr) : W.cell? ⟨pb,2,none⟩ = some (.slice PA qs.length pc):=(World.ownsRow.cellAt h.pair 2 (by decide)).trans rfl
theorem PS.c3 (h : PS w W n pb pw rp PA RA pc rc qs rqs no m mr) : W.cell? ⟨pb,3,none⟩ = some (.slice RA rqs.length rc):=(World.ownsRow.cellAt h.pair 3 (by decide)).trans rfl
theorem PS.start {W0 W1 : World} {fs : Nat} (hb0 : Below w.heap.size w W0) (hql : qs.length = fs) (hrl : rqs.length = fs)
  (hP : W1.ownsRow W0.heap.size 52 1 (.slice PA fs pc) fs (ptrs qs no)) (hR : W1.ownsRow W0.heap.size 54 1 (.slice RA fs rc) fs (ptrs rqs no))
  (hm : ManyM W1 W0.heap.size pw gW qs m) (hmr : RManyM W1 W0.heap.size rp gW rqs mr) (hb1 : Below W0.heap.size W0 W1) :
  PS w (W1.alloc (.cells #[.pointer (some ⟨pw,0,none⟩),.pointer (some ⟨rp,0,none⟩),.slice PA fs pc,.slice RA fs rc] 36)) W0.heap.size W1.heap.size pw rp PA RA pc rc qs rqs no m mr:=by
 subst hql
 have hz0:=hb0.size
 have hz1:=hb1.size
 have hbp : Below W1.heap.size W1 (W1.alloc (.cells #[.pointer (some ⟨pw,0,none⟩),.pointer (some ⟨rp,0,none⟩),.slice PA qs.length pc,.slice RA qs.length rc] 36)):=(Below.refl _ _).alloc (Nat.le_refl _) _
 have orow:=World.ownsRow_lit (base:=w.heap.size) (e:=36) (size:=4) W1 #[.pointer (some ⟨pw,0,none⟩),.pointer (some ⟨rp,0,none⟩),.slice PA qs.length pc,.slice RA qs.length rc] 1 (by omega) (by decide) rfl
 have hkp:=belKept0 (S:=fun _=>False) hbp
 refine ⟨?_,own_mono (own_kept hP hkp (fun _ _ h=>h)) hz0,?_,hm.below0 hbp,hmr.below0 hbp,(hb0.trans (hb1.mono hz0)).trans (hbp.mono (by omega)),hz0⟩
 ·rw [hrl]; exact orow
 ·rw [hrl]; exact own_mono (own_kept hR hkp (fun _ _ h=>h)) hz0
theorem PS.sls {A : Option Addr} {ss : List Sl} {ts : List TypeId} (h : PS w W n pb pw rp PA RA pc rc qs rqs no m mr) (hs : SlsR w w.heap.size A ss) (hk : KeptT ts B W W') (hB : B.n = n) : SlsR W' W'.heap.size A ss:=by
 have hb : Below w.heap.size w W':=h.bel.trans ((hk.below (by rw [hB]; exact h.many.low)).mono (by rw [hB]; exact h.le))
 exact hs.up hb
section
variable {i q : Nat} {v : DX} {key at_ : Int}
theorem PS.write {A : Option Addr} {c : Nat} {ss : List Sl} (h : PS w W n pb pw rp PA RA pc rc qs rqs no m mr) (hv : m.ds[i]? = some v) (hq : qs[i]? = some q) (hF : ∀ f ∈ v.F,I64 f.to_) (hn : v.F.length ≤ 9223372036854775807) (hon : v.O.length + 9 * ss.length ≤ 99000) (ha0 : -1000000 ≤ at_) (ha1 : at_ ≤ 1000000)
  (hs : SlsR w w.heap.size A ss) (hx : ∀ s ∈ ss,s.xs.length ≤ 100000 ∧ s.xs.length ≤ s.c) (hl : ss.length ≤ 100000) :
  Calls Tryz.prog 16 #[.pointer (some ⟨q,0,none⟩),.int .u64 key,.int .i64 at_,.slice A ss.length c] W fun e w'=>e = .returned (.int .i64 (wrD gW v.F key at_ (ss.map Sl.xs) (m.dc v)).2) ∧ PS w w' n pb pw rp PA RA pc rc qs rqs no (m.put i v.F (wrD gW v.F key at_ (ss.map Sl.xs) (m.dc v)).1) mr ∧ KeptT DAT (Bd.of n) W w':=by
 obtain ⟨B,hB,hd,hback⟩:=h.many.at_ hv hq
 refine (wwrite_any (key:=key) (at_:=at_) (c:=c) hd hF hn hon ha0 ha1 (fun W hW=>h.sls hs hW hB) hx hl).mono ?_
 rintro e w' ⟨he,hd',hk⟩
 exact ⟨he,h.typed (hback w' _ hd' hk) hk hB,hk.wideN hB⟩
theorem PS.flush (h : PS w W n pb pw rp PA RA pc rc qs rqs no m mr) (hv : m.ds[i]? = some v) (hq : qs[i]? = some q) (hn : v.F.length ≤ 9223372036854775807) (hon : v.O.length + 9 ≤ 99000) :
  Calls Tryz.prog 18 #[.pointer (some ⟨q,0,none⟩),.int .u64 key] W fun e w'=>e = .returned (.int .i64 (tryD (fOne gW v.F key) (m.dc v)).2.er) ∧ PS w w' n pb pw rp PA RA pc rc qs rqs no (m.put i v.F (tryD (fOne gW v.F key) (m.dc v)).1) mr ∧ KeptT DAT (Bd.of n) W w':=by
 obtain ⟨B,hB,hd,hback⟩:=h.many.at_ hv hq
 refine (wflush_any (key:=key) hd hn hon).mono ?_
 rintro e w' ⟨he,hd',hk⟩
 exact ⟨he,h.typed (hback w' _ hd' hk) hk hB,hk.wideN hB⟩
theorem PS.read {N : Int} (h : PS w W n pb pw rp PA RA pc rc qs rqs no m mr) (hv : m.ds[i]? = some v) (hq : qs[i]? = some q) (hN : N ≤ 1000) (hn : v.F.length ≤ 9223372036854775807) (ha0 : -1000000 ≤ at_) (ha1 : at_ ≤ 1000000) :
  Calls Tryz.prog 20 #[.pointer (some ⟨q,0,none⟩),.int .u64 key,.int .i64 at_,.int .i64 N] W fun e w'=>∃ A c ss,e = .returned (.tuple #[.slice A ss.length c,.int .i64 (rdAll gW v.F key at_ (m.dc v) N.toNat).2.2]) ∧ ss.map Sl.xs = (rdAll gW v.F key at_ (m.dc v) N.toNat).2.1 ∧ SlsB w' W.heap.size A c ss ∧
   PS w w' n pb pw rp PA RA pc rc qs rqs no (m.put i v.F (rdAll gW v.F key at_ (m.dc v) N.toNat).1) mr ∧ KeptT DAT (Bd.of n) W w':=by
 obtain ⟨B,hB,hd,hback⟩:=h.many.at_ hv hq
 have hC : Calls Tryz.prog 20 #[.pointer (some ⟨q,0,none⟩),.int .u64 key,.int .i64 at_,.int .i64 N] W (RdsPost W B q pw gW v.F (rdAll gW v.F key at_ (m.dc v) N.toNat)):=by
  by_cases h0 : N ≤ 0
  ·have e : N.toNat = 0:=by omega
   rw [e]
   exact wread_none N h0 hd
  ·have e : ((N.toNat : Nat) : Int) = N:=by omega
   have:=wread_pos (key:=key) (at_:=at_) (N:=N.toNat) (by omega) (by omega) hd hn ha0 ha1
   rw [e] at this
   exact this
 refine hC.mono ?_
 rintro e w' ⟨A,c,ss,he,hx,hs,hd',hk⟩
 exact ⟨A,c,ss,he,hx,hs,h.typed (hback w' _ hd' hk) hk hB,hk.wideN hB⟩
theorem PS.rwrite {A : Option Addr} {c : Nat} {ss : List Sl} (h : PS w W n pb pw rp PA RA pc rc qs rqs no m mr) (hv : mr.ds[i]? = some v) (hq : rqs[i]? = some q) (hF : ∀ f ∈ v.F,I64 f.to_) (hn : v.F.length ≤ 9223372036854775807) (hon : v.O.length + 9 * ss.length ≤ 99000) (ha0 : -1000000 ≤ at_) (ha1 : at_ ≤ 1000000)
  (hs : SlsR w w.heap.size A ss) (hx : ∀ s ∈ ss,s.xs.length ≤ 100000 ∧ s.xs.length ≤ s.c) (hl : ss.length ≤ 100000) :
  Calls Tryz.prog 17 #[.pointer (some ⟨q,0,none⟩),.int .u64 key,.int .i64 at_,.slice A ss.length c] W fun e w'=>e = .returned (.int .i64 (wrD gW v.F key at_ (ss.map Sl.xs) (mr.dc v)).2) ∧ PS w w' n pb pw rp PA RA pc rc qs rqs no m (mr.put i v.F (wrD gW v.F key at_ (ss.map Sl.xs) (mr.dc v)).1) ∧ KeptT RDT (Bd.of n) W w':=by
 obtain ⟨B,hB,hd,hback⟩:=h.ref.at_ hv hq
 refine (rwwrite_any (key:=key) (at_:=at_) (c:=c) hd hF hn hon ha0 ha1 (fun W hW=>h.sls hs hW hB) hx hl).mono ?_
 rintro e w' ⟨he,hd',hk⟩
 exact ⟨he,h.rtyped (hback w' _ hd' hk) hk hB,hk.wideN hB⟩
theorem PS.rflush (h : PS w W n pb pw rp PA RA pc rc qs rqs no m mr) (hv : mr.ds[i]? = some v) (hq : rqs[i]? = some q) (hn : v.F.length ≤ 9223372036854775807) (hon : v.O.length + 9 ≤ 99000) :
  Calls Tryz.prog 19 #[.pointer (some ⟨q,0,none⟩),.int .u64 key] W fun e w'=>e = .returned (.int .i64 (tryD (fOne gW v.F key) (mr.dc v)).2.er) ∧ PS w w' n pb pw rp PA RA pc rc qs rqs no m (mr.put i v.F (tryD (fOne gW v.F key) (mr.dc v)).1) ∧ KeptT RDT (Bd.of n) W w':=by
 obtain ⟨B,hB,hd,hback⟩:=h.ref.at_ hv hq
 refine (rwflush_any (key:=key) hd hn hon).mono ?_
 rintro e w' ⟨he,hd',hk⟩
 exact ⟨he,h.rtyped (hback w' _ hd' hk) hk hB,hk.wideN hB⟩
theorem PS.rread {N : Int} (h : PS w W n pb pw rp PA RA pc rc qs rqs no m mr) (hv : mr.ds[i]? = some v) (hq : rqs[i]? = some q) (hN : N ≤ 1000) (hu : (mr.dc v).U8) (hn : v.F.length ≤ 9223372036854775807) (hon : v.O.length ≤ 99000) (ha0 : -1000000 ≤ at_) (ha1 : at_ ≤ 1000000) :
  Calls Tryz.prog 21 #[.pointer (some ⟨q,0,none⟩),.int .u64 key,.int .i64 at_,.int .i64 N] W fun e w'=>∃ A c ss,e = .returned (.tuple #[.slice A ss.length c,.int .i64 (rdAll gW v.F key at_ (mr.dc v) N.toNat).2.2]) ∧ ss.map Sl.xs = (rdAll gW v.F key at_ (mr.dc v) N.toNat).2.1 ∧ SlsB w' W.heap.size A c ss ∧
   PS w w' n pb pw rp PA RA pc rc qs rqs no m (mr.put i v.F (rdAll gW v.F key at_ (mr.dc v) N.toNat).1) ∧ KeptT RDT (Bd.of n) W w':=by
 obtain ⟨B,hB,hd,hback⟩:=h.ref.at_ hv hq
 refine (rwread_any (key:=key) (at_:=at_) N rfl (by omega) hd hu hn hon ha0 ha1).mono ?_
 rintro e w' ⟨A,c,ss,he,hx,hs,hd',hk⟩
 exact ⟨A,c,ss,he,hx,hs,h.rtyped (hback w' _ hd' hk) hk hB,hk.wideN hB⟩
end
end
theorem rdAll_bad {g : Geo} {F : List Flt} {key a : Int} {d : DC} : ∀ n,¬ (rdAll g F key a d n).2.2 = 0 → (rdAll g F key a d n).2.1.length ≤ 1000
 | 0,h=>absurd rfl h
 | n + 1,h=>by
   by_cases h0 : (rdAll g F key a d n).2.2 = 0
   ·rw [rdAll_yes h0] at h ⊢
    unfold rdNext at h ⊢
    split at h
    ·exact absurd rfl h
    ·rename_i h1
     rw [if_neg h1]
     split at h
     ·exact absurd rfl h
     ·rename_i h2
      rw [if_neg h2]
      simp
   ·rw [rdAll_no h0]; exact rdAll_bad n h0
theorem newMS_one (F : List Flt) : newMS [F] = oneD F d0W:=rfl
theorem d0W_u8 : d0W.U8:=⟨SecU.blank _,fun o ho=>absurd (show o ∈ ([] : List OpV) from ho) (by simp)⟩
theorem fl_one (x : FL) (W : World) (h : Rd W W.heap.size x.A (flatF x.F)) : FlsR (W.alloc (.cells #[.slice x.A x.F.length x.c] 48)) (W.alloc (.cells #[.slice x.A x.F.length x.c] 48)).heap.size (some ⟨W.heap.size,0,none⟩) [x]:=by
 refine ⟨fun j u hu=>?_,fun y hy=>?_⟩
 ·match j,hu with
  | 0,hu=>simp [FL.v] at hu; subst hu; exact ⟨W.heap.size,0,rfl,by simp,by simp⟩
  | j + 1,hu=>simp [FL.v] at hu
 ·simp at hy; subst hy; exact (h.alloc (Nat.le_refl _) _).more (by simp)
theorem twinsF (x : FL) (W : World) (h : Rd W W.heap.size x.A (flatF x.F)) (hv : x.F.length ≤ 40 ∧ validF x.F = true) : Calls Tryz.prog 11 #[.slice (some ⟨W.heap.size,0,none⟩) 1 1] (W.alloc (.cells #[.slice x.A x.F.length x.c] 48)) (TwPost (W.alloc (.cells #[.slice x.A x.F.length x.c] 48)) [x.F]):=by
 refine twins_any [x] (some ⟨W.heap.size,0,none⟩) 1 _ (fl_one x W h) (by simp) (fun y hy=>by simp at hy; subst hy; exact hv)
end Go.Proofs.YtaggiceejcegdaaGreat
namespace Go.Proofs.YtaggiceejcegdaaGreat
set_option linter.unusedVariables false
open Go.ChangeShapes Go.WideShapes Go.ChangeAt Go.RowKit Go.Deep
section
variable {H : Type} {enc : TypeId × Value → H} {w : World} {base : Nat} {spare : Nat → Bool} {held : Bool}
theorem open_secs {fuel : Nat} {v : Value} {y : DataW H × List MemPlace} (h : DataW.trod enc Tryz.prog w base spare held fuel 49 [v] = some y) : ∃ A ss c,SecsIn w v A ss c:=by
 rcases open_slice Tryz.underlying49 h with ⟨hcs,_⟩ | ⟨a,len,cap,m,n,D,Pl,hcs,hx1,hl,hm,hmm,hx2,hel⟩
 ·simp at hcs
  subst hcs
  exact ⟨none,[],0,rfl,⟨Rd.nil_ _ _ _,fun s hs=>by simp at hs⟩,fun s hs=>by simp at hs,Nat.le_refl _,by omega⟩
 ·simp at hcs
  subst hcs
  have hlm : len ≤ m:=by rw [hmm]; split <;> omega
  obtain ⟨l,hll,hq⟩:=list_of (Q:=fun i (s : Sl)=>BytesIn w s.v s ∧ w.cell? (a.add i) = some s.v) len (fun i hi=>by
   obtain ⟨cs',hc,ht⟩:=hel i (by omega)
   rw [cellsBytes] at hc
   obtain ⟨_,hcl,hat⟩:=World.cells?_some hc
   match cs',hcl with
   | [c0],_=>
     obtain ⟨s,hs⟩:=open_bytes ht
     have e:=hs.val
     subst e
     refine ⟨s,hs,?_⟩
     have:=hat 0 (by omega)
     simpa [Go.Deep.add_add] using this)
  refine ⟨some a,l,cap,by rw [hll],⟨rd_of_add fun j u hu=>?_,fun s hs=>?_⟩,fun s hs=>?_,by omega,by unfold maxLen at hm; omega⟩
  ·rw [List.getElem?_map] at hu
   obtain ⟨x,hx,rfl⟩:=Option.map_eq_some_iff.1 hu
   exact (hq j x hx).2
  ·obtain ⟨i,hi⟩:=List.mem_iff_getElem?.1 hs
   exact (hq i s hi).1.rd
  ·obtain ⟨i,hi⟩:=List.mem_iff_getElem?.1 hs
   have:=(hq i s hi).1
   exact ⟨this.ok,this.cap,this.big⟩
end
end Go.Proofs.YtaggiceejcegdaaGreat
namespace Go.Proofs.YtaggiceejcegdaaGreat
set_option linter.unusedVariables false
open Go.ChangeShapes Go.WideShapes Go.ChangeAt Go.RowKit Go.Deep
theorem cellsFltW : Tryz.prog.cellsOf 138 = 3:=by kernel_rfl
section
variable {H : Type} {enc : TypeId × Value → H} {w : World} {base : Nat} {spare : Nat → Bool} {held : Bool}
set_option maxRecDepth 100000 in
theorem open_fltW {fuel : Nat} {cs : List Value} {y : DataW H × List MemPlace} (hcs : cs.length = 3) (h : DataW.trod enc Tryz.prog w base spare held fuel 138 cs = some y) : ∃ f : Flt,cs = f.cells ∧ I64 f.to_:=by
 match cs,hcs with
 | [c0,c1,c2],_=>
   obtain ⟨xs,k,_,_,_,hxl,hf⟩:=DataW.trod_struct Tryz.underlying138 h
   match xs,hxl with
   | [x0,x1,x2],_=>
     have f0 : DataW.trod enc Tryz.prog w base spare held k 3 (([c0,c1,c2].drop 0).take (Tryz.prog.cellsOf 3)) = some x0:=hf 0 _ rfl
     have f1 : DataW.trod enc Tryz.prog w base spare held k 3 (([c0,c1,c2].drop 1).take (Tryz.prog.cellsOf 3)) = some x1:=hf 1 _ rfl
     have f2 : DataW.trod enc Tryz.prog w base spare held k 3 (([c0,c1,c2].drop 2).take (Tryz.prog.cellsOf 3)) = some x2:=hf 2 _ rfl
     rw [cellsInt] at f0 f1 f2
     obtain ⟨n0,e0,_,_⟩:=DataW.trod_int Tryz.underlying3 f0
     obtain ⟨n1,e1,_,_⟩:=DataW.trod_int Tryz.underlying3 f1
     obtain ⟨n2,e2,_,w2⟩:=DataW.trod_int Tryz.underlying3 f2
     simp at e0 e1 e2
     subst e0; subst e1; subst e2
     exact ⟨⟨n0,n1,n2⟩,rfl,i64_of w2⟩
set_option maxRecDepth 100000 in
theorem open_fltsW {fuel : Nat} {v : Value} {y : DataW H × List MemPlace} (h : DataW.trod enc Tryz.prog w base spare held fuel 48 [v] = some y) : ∃ A l c,v = .slice A l.length c ∧ FlsIn w A l:=by
 rcases open_slice Tryz.underlying48 h with ⟨hcs,_⟩ | ⟨a,len,cap,m,n,D,Pl,hcs,_,hl,hm,hmm,hx,hel⟩
 ·simp at hcs
  subst hcs
  exact ⟨none,[],0,rfl,Rd.nil_ _ _ _,by simp,by simp⟩
 ·simp at hcs
  subst hcs
  have hlm : len ≤ m:=by rw [hmm]; split <;> omega
  obtain ⟨l,hll,hq⟩:=list_of (Q:=fun i (o : Flt)=>I64 o.to_ ∧ ∀ t u,o.cells[t]? = some u → w.cell? (a.add (i * 3 + t)) = some u) len (fun i hi=>by
   obtain ⟨cs',hc,ht⟩:=hel i (by omega)
   rw [cellsFltW] at hc
   obtain ⟨_,hcl,hat⟩:=World.cells?_some hc
   obtain ⟨o,rfl,h1⟩:=open_fltW hcl ht
   refine ⟨o,h1,fun t u hu=>?_⟩
   have ht3 : t < 3:=(List.getElem?_eq_some_iff.1 hu).1
   rw [← Go.Deep.add_add,hat t ht3]
   exact hu)
  refine ⟨some a,l,cap,by rw [hll],rd_of_add fun j u hu=>?_,fun b hb=>?_,by unfold maxLen at hm; omega⟩
  ·have hj : j < l.length * 3:=by rw [← flatF_len]; exact (List.getElem?_eq_some_iff.1 hu).1
   have hj4 : j = j / 3 * 3 + j % 3:=by omega
   rw [hj4] at hu
   unfold flatF at hu
   rw [flat_get _ 3 fltcells_len l _ _ (by omega),List.getElem?_eq_getElem (show j / 3 < l.length by omega)] at hu
   have:=(hq (j / 3) _ (List.getElem?_eq_getElem (by omega))).2 (j % 3) u hu
   rw [hj4]; exact this
  ·obtain ⟨i,hi⟩:=List.mem_iff_getElem?.1 hb
   exact (hq i b hi).1
end
end Go.Proofs.YtaggiceejcegdaaGreat
