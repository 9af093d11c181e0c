/-
  WHAT IS SHOWN: more: what play of tegulalaw11 returns and makes of two media: the same. plain facts on memory, of no program: worlds that differ in blocks of some types alone; how a cache lies in memory, and what keeps it. what Contents, New, Clone, Cut and Flush of the reference's cache return and leave. plain facts, of no program: operations of a disk that are called again while it is busy; sectors that are written and read one after another. Conditions: as each theorem names them.
-/
import Derived.Test.YtaggiceejcegdaaGreatNc35
import Derived.BigQuiet
import Derived.ChangeKeysEq
import Derived.ChangeOld
import Derived.Deep.AppendLies
import Derived.Deep.DeepCutAuto
import Derived.Deep.Draws
import Derived.Deep.Fields
import Derived.Deep.QuietTactic
import Derived.Deep.RegionHeld3
import Derived.Deep.RegionLaw
import Derived.Deep.Slices
import Derived.Handy
import Derived.Laws.AppendOwnNone
import Derived.Laws.BytesArg
import Derived.Laws.Cover3
import Derived.Laws.MakeOwn
import Derived.Laws.OwnMore
import Derived.Laws.Rows
import Derived.Lib.ConvBytes
import Derived.Lib.Hide
import Derived.Lib.SmallJoins
import Derived.Lib.VarintBits
import Derived.Lib.Zigzag
import Derived.LoopIn
import Derived.LoopNIn
import Derived.Maps.AppendAt
import Derived.OpenShut
import Derived.OwnWalkIn
import Derived.ProofKit
import Derived.RangeFuncBox
import Derived.RangeFuncLeaves
import Derived.Shelf.Abstract
import Derived.Sort.QuietIn
import Derived.TacticsInMore
import Derived.WalkKit
import Derived.WalkLawsBesides
import Derived.WalkMore
import Derived.WalkSpells
import Derived.Test.YtaggiceejcegdaaGreatOf00
namespace Go.Proofs.YtaggiceejcegdaaGreat
set_option linter.unusedVariables false
open Go.RowKit
theorem ops_at {w : World} {B : Nat} {A : Option Addr} {l : List OpV} (h : Rd w B A (flatOps l)) {k : Nat} (hk : k < l.length) : ∃ g o,A = some ⟨g,o,none⟩ ∧ g < B ∧ w.cell? ⟨g,o + k * 3,none⟩ = some (.bool l[k].er) ∧ w.cell? ⟨g,o + k * 3 + 1,none⟩ = some (.int .i64 l[k].at_) ∧ w.cell? ⟨g,o + k * 3 + 2,none⟩ = some (.slice l[k].A l[k].xs.length l[k].c):=by
 have e : ∀ t,t < 3 → (flatOps l)[k * 3 + t]? = l[k].cells[t]?:=fun t ht=>by
  unfold flatOps; rw [flat_get _ 3 opcells_len l k t ht,List.getElem?_eq_getElem hk]; rfl
 obtain ⟨g,o,e0,hg,h0⟩:=h (k * 3 + 0) _ (e 0 (by omega))
 obtain ⟨g1,o1,e1,_,h1⟩:=h (k * 3 + 1) _ (e 1 (by omega))
 obtain ⟨g2,o2,e2,_,h2⟩:=h (k * 3 + 2) _ (e 2 (by omega))
 rw [e0] at e1 e2
 injection e1 with e1; injection e1 with e1 e1'; subst e1; subst e1'
 injection e2 with e2; injection e2 with e2 e2'; subst e2; subst e2'
 exact ⟨g,o,e0,hg,h0,h1,h2⟩
end Go.Proofs.YtaggiceejcegdaaGreat
namespace Go.Proofs.YtaggiceejcegdaaGreat
set_option linter.unusedVariables false
open Go.RowKit
section
variable {ts us : List TypeId} {B C : Bd} {w w' w'' : World} {S : Nat → Prop} {t t' : TypeId}
end
theorem doL_bare (g : Geo) (L : List Sec) (o : OpV) : doL g L o.bare = doL g L o:=rfl
theorem doE_bare (g : Geo) (L : List Sec) (o : OpV) : doE g L o.bare = doE g L o:=rfl
theorem playL_bare (g : Geo) : ∀ (l : List OpV) (L : List Sec),playL g L (l.map OpV.bare) = playL g L l
 | [],L=>rfl
 | o :: l,L=>by unfold playL; rw [List.map_cons,List.foldl_cons,List.foldl_cons,doL_bare]; exact playL_bare g l _
section
variable {w w' : World} {S : Nat → Prop} {B : Bd} {p : Nat} {g : Geo} {LM : List Sec} {ops : List OpV}
section
variable {m1 b1 m2 b2 : Nat} {A : Option Addr} {c : Nat} {F : List Value}
end
section
variable {m b : Nat} {A : Option Addr} {c : Nat} {l : List OpV}
theorem RCac.cells (h : RCac w B p g LM l m b A c) : w.cell? ⟨p,0,none⟩ = some (.pointer (some ⟨m,0,none⟩)) ∧ w.cell? ⟨p,1,none⟩ = some (.slice A l.length c):=
 ⟨(World.ownsRow.cellAt h.obj 0 (by decide)).trans rfl,(World.ownsRow.cellAt h.obj 1 (by decide)).trans rfl⟩
end
end
end Go.Proofs.YtaggiceejcegdaaGreat
namespace Go.Proofs.YtaggiceejcegdaaGreat
set_option linter.unusedVariables false
open Go.RowKit
section
variable {w w' : World} {S : Nat → Prop} {B : Bd} {p : Nat} {g : Geo} {LM : List Sec} {ops : List OpV}
theorem RCac.opok {l : List OpV} {m b : Nat} {A : Option Addr} {c : Nat} (h : RCac w B p g LM l m b A c) (hk : Below w.heap.size w w') {o : OpV} (ho : o ∈ l) : OpOk w' w.heap.size o:=by
 obtain ⟨h1,h2,h3⟩:=h.op o ho
 exact ⟨h1,h3.rd.below hk (Nat.le_refl _),h2⟩
set_option maxRecDepth 100000 in
set_option maxHeartbeats 1000000 in
theorem rcontents_any (h : RCacheM w B p g LM ops) (hf : Fit g LM) (hn : ops.length ≤ 100000) : Calls Tryz.prog 141 #[.pointer (some ⟨p,0,none⟩)] w (RClonePost w g (playL g LM ops)):=by
 obtain ⟨l,m,b,A,c,rfl,h⟩:=h
 rw [playL_bare]
 rw [List.length_map] at hn
 obtain ⟨c0,c1⟩:=h.cells
 have hlp:=h.lt
 have HC:=Lib.hid (rclone_any h.med hf)
 have HRD:=Lib.hid h.rd.rd
 have HOK : Hid (∀ W,Below w.heap.size w W → ∀ o ∈ l,OpOk W w.heap.size o):=by
  unfold Hid; intro W hW o ho; exact h.opok hW ho
 have HF:=Lib.hid hf
 clear h hf
 go_enter Tryz.func141,Tryz.ntmps141
 go_wp2_with fail
 refine HC.out.mono ?_
 rintro e w1 ⟨m1,b1,rfl,hm1,hmm1,hbb1,hb1⟩
 go_wp2
 go_loopw [4] (fun v wr=>∃ k : Nat,k ≤ l.length ∧ v = .int .i64 k ∧ RMed wr m1 b1 g (playL g LM (l.take k)) ∧ Kept (fun k=>k = b1) w1 wr) (fun v _=>l.length - (intOf v).toNat)
 case atStart=>exact ⟨0,Nat.zero_le _,rfl,hm1,Kept.refl _ _⟩
 case round=>
  obtain ⟨k,hk,rfl,hmr,hkr⟩:=hrel
  have hblr : Below w.heap.size w wr:=hb1.trans (hkr.below (B:=w.heap.size) (fun i hi=>by have e : i = b1:=hi; omega) hb1.size)
  have d0:=(hblr.cell (p:=⟨p,0,none⟩) hlp).trans c0
  have d1:=(hblr.cell (p:=⟨p,1,none⟩) hlp).trans c1
  by_cases hlt : k < l.length
  ·obtain ⟨go,oo,rfl,hgo,q0,q1,q2⟩:=ops_at (HRD.out.below hblr (Nat.le_refl _)) hlt
   have hT:=Lib.hid (playL_take g LM l k hlt)
   have HD:=Lib.hid (rdo_any l[k] hmr (HF.out.len (playL_len _ _ _)) (HOK.out wr hblr _ (List.getElem_mem hlt)) hblr.size)
   generalize playL g LM (l.take k) = X at *
   generalize l[k] = o at *
   have k0 : (0 : Int) ≤ k:=by omega
   have k1 : (k : Int) < l.length:=by omega
   clear hm1 hmr
   go_wp2_with fail
   refine HD.out.mono ?_
   rintro e w2 ⟨rfl,hm2,hk2⟩
   have hk3:=hkr.trans hk2 (fun _ _ h=>h)
   have HM2:=Lib.hid hm2
   clear hm2 hk2 d0 d1 q0 q1 q2
   go_wp2
   go_roundw
   case rel=>exact ⟨k + 1,by omega,by go_num,by rw [hT.out]; exact HM2.out,hk3⟩
   case measure=>simp [intOf]; omega
  ·obtain rfl : k = l.length:=by omega
   rw [List.take_of_length_le (Nat.le_refl _)] at hmr
   have HM:=Lib.hid hmr
   clear hm1 hmr
   go_wp2
   go_ret
   exact ⟨m1,b1,rfl,HM.out,hmm1,hbb1,hblr⟩
theorem rcac_cut {l : List OpV} {m b : Nat} {A : Option Addr} {c : Nat} {w1 : World} {L' : List Sec} (h : RCac w B p g LM l m b A c) (hm : RMed w1 m b g L') (hk : Kept (fun k=>k = b) w w1) :
  RCacheM (w1.setCell ⟨p,1,none⟩ (.slice none 0 0)) B p g L' [] ∧ KeptT RT B w (w1.setCell ⟨p,1,none⟩ (.slice none 0 0)):=by
 have t1:=h.med.types
 have tp:=h.typ
 have hlow:=h.low
 have hpb : ¬ (p = b):=tp.ne t1.2 (by decide)
 have hobj:=own_kept h.obj hk (fun k e=>by simp [Value.ownBlock] at e; subst e; exact hpb)
 have tp1 : IsT 204 w1 p:=IsT.own hobj
 have hk1 : Kept (fun k=>k = p) w1 (w1.setCell ⟨p,1,none⟩ (.slice none 0 0)):=(Kept.refl (fun k=>k = p) _).setCell (p:=⟨p,1,none⟩) (fun _=>rfl) _
 have hk2 : Kept (fun k=>k = b ∨ k = p) w (w1.setCell ⟨p,1,none⟩ (.slice none 0 0)):=
  (hk.more (T:=fun k=>k = b ∨ k = p) (fun _ _ h=>.inl h)).setCell (p:=⟨p,1,none⟩) (fun _=>.inr rfl) _
 refine ⟨⟨[],m,b,none,0,rfl,?_,h.px,h.lb,hm.kept hk1 (hm.types.1.ne tp1 (by decide)) (hm.types.2.ne tp1 (by decide)),RdT.nil _ _ _,fun o h=>by simp at h,fun _=>⟨rfl,rfl⟩⟩,KeptT.of hk2 (fun k _ hs=>?_)⟩
 ·have:=(World.ownsRow.stored hobj 1 (.slice none 0 0)).1
  simpa using this
 ·rcases hs with e | e
  ·subst e; exact ⟨h.lb,HasT.mem t1.2 (by simp [RT])⟩
  ·subst e; exact ⟨hlow,HasT.mem tp (by simp [RT])⟩
set_option maxRecDepth 100000 in
set_option maxHeartbeats 1000000 in
theorem rccut_any (keep : Int) (h : RCacheM w B p g LM ops) (hf : Fit g LM) (hB : B.top ≤ w.heap.size) (hn : ops.length ≤ 100000) :
  Calls Tryz.prog 143 #[.pointer (some ⟨p,0,none⟩),.int .i64 keep] w (RCutPost w B p g LM ops (cutN keep ops.length)):=by
 obtain ⟨l,m,b,A,c,rfl,h⟩:=h
 rw [List.length_map] at hn ⊢
 obtain ⟨c0,c1⟩:=h.cells
 have hlp:=h.lt
 have hnl:=cutN_le keep l.length
 have hn1 : Hid (∀ k : Nat,k < cutN keep l.length → (k : Int) < keep):=by unfold Hid cutN; intro k hk; omega
 have hn2 : Hid (cutN keep l.length < l.length → keep ≤ (cutN keep l.length : Nat)):=by unfold Hid cutN; intro hk; omega
 have hTK : (l.map OpV.bare).take (cutN keep l.length) = (l.take (cutN keep l.length)).map OpV.bare:=List.map_take.symm
 have HTK : Hid (playL g LM ((l.map OpV.bare).take (cutN keep l.length)) = playL g LM (l.take (cutN keep l.length))):=by unfold Hid; rw [hTK,playL_bare]
 generalize cutN keep l.length = n at *
 have hpb : ¬ (p = b):=h.typ.ne h.med.types.2 (by decide)
 have H:=Lib.hid h
 have HF:=Lib.hid hf
 have hmed:=h.med
 clear hf h hTK
 go_enter Tryz.func143,Tryz.ntmps143
 go_wp2
 go_loopw [4] (fun v wr=>∃ k : Nat,k ≤ n ∧ v = .int .i64 k ∧ RMed wr m b g (playL g LM (l.take k)) ∧ Kept (fun k=>k = b) w wr) (fun v _=>n - (intOf v).toNat)
 case atStart=>exact ⟨0,Nat.zero_le _,rfl,hmed,Kept.refl _ _⟩
 case round=>
  obtain ⟨k,hk,rfl,hmr,hkr⟩:=hrel
  have d0:=hkr.cell c0 hpb
  have d1:=hkr.cell c1 hpb
  by_cases hlt : k < n
  ·have hop : k < l.length:=by omega
   have hkk:=hn1.out k hlt
   have hfo : Free w 172 (fun k=>k = b):=by obtain ⟨cur,fr,hh⟩:=H.out.med.types.2; exact Free.one hh (by decide)
   have hfb : Free w 5 (fun k=>k = b):=by obtain ⟨cur,fr,hh⟩:=H.out.med.types.2; exact Free.one hh (by decide)
   obtain ⟨go,oo,rfl,hgo,q0,q1,q2⟩:=ops_at (H.out.rd.kept hkr hfo).rd hop
   have hgb : ¬ (go = b):=fun e=>by
    have:=H.out.rd (k * 3 + 0) (.bool l[k].er) (by unfold flatOps; rw [flat_get _ 3 opcells_len l k 0 (by decide),List.getElem?_eq_getElem hop]; rfl)
    obtain ⟨g1,o1,cur,fr,e1,h1,_⟩:=this
    injection e1 with e1; injection e1 with e1; subst e1; subst e
    exact absurd ((IsT.of h1).same H.out.med.types.2) (by decide)
   have hT:=Lib.hid (playL_take g LM l k hop)
   obtain ⟨a1,a2,a3⟩:=H.out.op _ (List.getElem_mem hop)
   have HD : Hid (∀ W,Below wr.heap.size wr W → Calls Tryz.prog 142 #[.pointer (some ⟨m,0,none⟩),.agg #[.bool l[k].er,.int .i64 l[k].at_,.slice l[k].A l[k].xs.length l[k].c]] W (RWritePost W m b g (doE g (playL g LM (l.take k)) l[k]) (doL g (playL g LM (l.take k)) l[k]))):=by
    unfold Hid; intro W hW
    exact rdo_any l[k] (hmr.below0 hW) (HF.out.len (playL_len _ _ _)) ⟨a1,(a3.kept hkr hfb).rd.below hW (Nat.le_refl _),a2⟩ hW.size
   generalize playL g LM (l.take k) = X at *
   generalize l[k] = o at *
   have k0 : (0 : Int) ≤ k:=by omega
   have k1 : (k : Int) < l.length:=by omega
   clear hmr a1 a2 a3 hmed hfo hfb
   go_wp2
   go_region_held3 (fun W=>W.cell? ⟨p,0,none⟩ = some (.pointer (some ⟨m,0,none⟩)) ∧ W.cell? ⟨p,1,none⟩ = some (.slice (some ⟨go,oo,none⟩) l.length c) ∧ W.cell? ⟨go,oo + k * 3,none⟩ = some (.bool o.er) ∧ W.cell? ⟨go,oo + k * 3 + 1,none⟩ = some (.int .i64 o.at_) ∧ W.cell? ⟨go,oo + k * 3 + 2,none⟩ = some (.slice o.A o.xs.length o.c))
    (first | (refine ⟨?_,?_,?_,?_,?_⟩ <;> assumption) | (simp [*]; done))
    ((go_at_call 142
      refine (HD.out _ ((Below.refl wr.heap.size wr).drew)).mono ?_
      rintro e w2 ⟨rfl,hm2,hk2⟩
      have hw2 : Kept (fun k=>k = b) wr w2:=((Kept.refl (fun k=>k = b) wr).drew).trans hk2 (fun _ _ h=>h)
      have r0:=hw2.cell d0 hpb
      have r1:=hw2.cell d1 hpb
      have r2:=hw2.cell q0 hgb
      have r3:=hw2.cell q1 hgb
      have r4:=hw2.cell q2 hgb))
   have hk3:=hkr.trans hw2 (fun _ _ h=>h)
   have HM2:=Lib.hid hm2
   clear hm2 d0 d1 q0 q1 q2 r0 r1 r2 r3 r4
   go_wp2
   go_roundw
   case rel=>exact ⟨k + 1,by omega,by go_num,by rw [hT.out]; exact HM2.out,hk3⟩
   case measure=>simp [intOf]; omega
  ·obtain rfl : k = n:=by omega
   have hobj:=own_kept H.out.obj hkr (fun k e=>by simp [Value.ownBlock] at e; subst e; exact hpb)
   have f1:=hobj.frozenAt 1
   have hC:=rcac_cut H.out hmr hkr
   have HC:=Lib.hid hC
   by_cases hl : k < l.length
   ·have hkk:=hn2.out hl
    clear hmr hmed hC hobj
    go_wp2
    go_end0
    unfold RCutPost
    rw [HTK.out]
    exact ⟨rfl,HC.out⟩
   ·have hkk : (l.length : Int) ≤ k:=by omega
    clear hmr hmed hC hobj
    go_wp2
    go_end0
    unfold RCutPost
    rw [HTK.out]
    exact ⟨rfl,HC.out⟩
set_option maxHeartbeats 400000 in
theorem rcflush_any (h : RCacheM w B p g LM ops) (hf : Fit g LM) (hB : B.top ≤ w.heap.size) (hn : ops.length ≤ 100000) :
  Calls Tryz.prog 98 #[.pointer (some ⟨p,0,none⟩)] w (RCutPost w B p g LM ops ops.length):=by
 have HC:=Lib.hid (rccut_any (ops.length : Int) h hf hB hn)
 have hnn : cutN (ops.length : Int) ops.length = ops.length:=cutN_all (by omega)
 rw [hnn] at HC
 obtain ⟨l,m,b,A,c,rfl,h⟩:=h
 rw [List.length_map] at *
 obtain ⟨c0,c1⟩:=h.cells
 clear h hf hnn
 go_enter Tryz.func98,Tryz.ntmps98
 go_wp2_with fail
 refine HC.out.mono ?_
 rintro e w1 ⟨rfl,h1,hk1⟩
 go_wp2
 go_end0
 exact ⟨rfl,h1,hk1⟩
end
end Go.Proofs.YtaggiceejcegdaaGreat
namespace Go.Proofs.YtaggiceejcegdaaGreat
set_option linter.unusedVariables false
theorem rdNext_mem {r : DC × List (List Int) × Int} {x : DC × Ans} {l : List Int} (h : l ∈ (rdNext r x).2.1) : l ∈ r.2.1 ∨ l = x.2.by_ ∨ l = []:=by
 unfold rdNext at h
 split at h
 ·rcases List.mem_append.1 h with h | h
  ·exact .inl h
  ·simp at h; exact .inr (.inl h)
 ·split at h
  ·rcases List.mem_append.1 h with h | h
   ·exact .inl h
   ·simp at h; exact .inr (.inr h)
  ·simp at h
theorem allD_ok {g : Geo} {key a : Int} {ls : List (List Int)} {no : Nat → Bool} {m : MS} {N : Nat} (h : m.Ok N) : (allD g key a ls no m).1.Ok (N + 9 * ls.length):=allK_ok h _
theorem SecU.set {L : List Sec} (h : SecU L) (i : Nat) (s : Sec) (hs : U8s s.by_) : SecU (L.set i s):=by
 intro t ht
 rcases List.mem_or_eq_of_mem_set ht with h1 | h1
 ·exact h t h1
 ·subst h1; exact hs
theorem SecU.destroy : ∀ (ss : List Int) {L : List Sec},SecU L → SecU (destroy ss L)
 | [],L,h=>h
 | s :: ss,L,h=>by unfold Go.Proofs.YtaggiceejcegdaaGreat.destroy; rw [List.foldl_cons]; exact SecU.destroy ss (h.set _ goneS U8s.nil)
theorem SecU.erase (L : List Sec) (f : Nat) (h : SecU L) : ∀ k,SecU (eraseTo L f k)
 | 0=>h
 | k + 1=>by rw [eraseTo_succ]; exact (SecU.erase L f h k).set _ blankS U8s.nil
theorem SecU.do_ {g : Geo} {L : List Sec} (h : SecU L) (o : OpV) (ho : U8s o.xs) : SecU (doL g L o):=by
 unfold doL; split
 ·unfold eraseL; split
  ·exact SecU.erase _ _ h _
  ·exact h
 ·unfold writeL; split
  ·exact SecU.destroy _ (h.set _ _ ho)
  ·exact h
theorem SecU.play {g : Geo} : ∀ (l : List OpV) {L : List Sec},SecU L → (∀ o ∈ l,U8s o.xs) → SecU (playL g L l)
 | [],L,h,_=>h
 | o :: l,L,h,ho=>by unfold playL; rw [List.foldl_cons]; exact SecU.play l (h.do_ o (ho o (by simp))) (fun x hx=>ho x (by simp [hx]))
theorem SecU.read {L : List Sec} (h : SecU L) (a : Int) : U8s (readB L a):=by
 unfold readB; split
 ·unfold List.getD
  cases e : L[a.toNat]? with
  | none=>exact U8s.nil
  | some s=>exact h s (List.mem_of_getElem? e)
 ·exact U8s.nil
theorem SecU.blank (n : Nat) : SecU (List.replicate n blankS):=by
 intro s hs; rw [(List.mem_replicate.1 hs).2]; exact U8s.nil
theorem wOne_u8 {g : Geo} {F : List Flt} {key a : Int} {xs : List Int} {d : DC} (h : d.U8) (hx : U8s xs) : (wOne g F key a xs d).1.U8:=by
 obtain ⟨h1,h2⟩:=h
 have hb : ∀ f,U8s (wOp a xs f).xs:=fun f=>by
  unfold wOp byO; simp only; split
  ·exact hx.take _
  ·exact hx
 have h3 : ∀ f,∀ o ∈ d.O ++ [wOp a xs f],U8s o.xs:=fun f o ho=>by
  rcases List.mem_append.1 ho with ho | ho
  ·exact h2 o ho
  ·simp at ho; subst ho; exact hb f
 unfold wOne DC.U8 dWrLM dWrO wrLM wrO
 simp only
 refine ⟨?_,?_⟩
 ·split
  ·split
   ·exact SecU.play _ h1 (fun o ho=>h3 _ o (List.mem_of_mem_take ho))
   ·exact h1
  ·exact h1
 ·intro o ho
  split at ho
  ·split at ho
   ·split at ho
    ·simp at ho
    ·exact h3 _ o ho
   ·exact h2 o ho
  ·exact h2 o ho
theorem rOne_u8 {g : Geo} {F : List Flt} {key a : Int} {d : DC} (h : d.U8) : (rOne g F key a d).1.U8 ∧ U8s (rOne g F key a d).2.by_:=by
 refine ⟨h,?_⟩
 unfold rOne dRdB rdB
 simp only
 repeat' split
 all_goals first | exact U8s.nil | exact SecU.read (SecU.play _ h.1 h.2) _
theorem callN_u8 {f : DC → DC × Ans} (h : ∀ d,d.U8 → (f d).1.U8) {d : DC} (hd : d.U8) : ∀ n,(callN f d n).U8
 | 0=>hd
 | n + 1=>h _ (callN_u8 h hd n)
theorem tryD_u8 {f : DC → DC × Ans} (h : ∀ d,d.U8 → (f d).1.U8) {d : DC} (hd : d.U8) : (tryD f d).1.U8:=callN_u8 h hd _
theorem wrAll_u8 {g : Geo} {F : List Flt} {key a : Int} {ls : List (List Int)} (hls : ∀ l ∈ ls,U8s l) {d : DC} (hd : d.U8) : ∀ k,(wrAll g F key a ls d k).1.U8
 | 0=>hd
 | k + 1=>by
   have ih:=wrAll_u8 (g:=g) (F:=F) (key:=key) (a:=a) hls hd k
   unfold wrAll
   split
   ·exact tryD_u8 (fun d hd=>wOne_u8 hd (by
     unfold List.getD
     cases e : ls[k]? with
     | none=>exact U8s.nil
     | some l=>exact hls l (List.mem_of_getElem? e))) ih
   ·exact ih
theorem rdAll_u8 {g : Geo} {F : List Flt} {key a : Int} {d : DC} (hd : d.U8) : ∀ k,(rdAll g F key a d k).1.U8 ∧ ∀ l ∈ (rdAll g F key a d k).2.1,U8s l
 | 0=>⟨hd,fun l hl=>by simp [rdAll] at hl⟩
 | k + 1=>by
   obtain ⟨i1,i2⟩:=rdAll_u8 (g:=g) (F:=F) (key:=key) (a:=a) hd k
   by_cases h0 : (rdAll g F key a d k).2.2 = 0
   ·have h1 : (tryD (rOne g F key (a + k)) (rdAll g F key a d k).1).1.U8:=tryD_u8 (fun d hd=>(rOne_u8 hd).1) i1
    have h2 : U8s (tryD (rOne g F key (a + k)) (rdAll g F key a d k).1).2.by_:=(rOne_u8 (callN_u8 (fun d hd=>(rOne_u8 hd).1) i1 _)).2
    rw [rdAll_yes h0]
    refine ⟨by rw [rdNext_one]; exact h1,fun l hl=>?_⟩
    rcases rdNext_mem hl with h | h | h
    ·exact i2 l h
    ·rw [h]; exact h2
    ·rw [h]; exact U8s.nil
   ·rw [rdAll_no h0]; exact ⟨i1,i2⟩
theorem MS.U8.put {m : MS} {k : Nat} {v : DX} {d : DC} (h : m.U8) (hv : m.ds[k]? = some v) (hd : d.U8) : (m.put k v.F d).U8:=by
 intro i u hu
 unfold MS.put at hu
 by_cases e : k = i
 ·subst e
  rw [List.getElem?_set_self (List.getElem?_eq_some_iff.1 hv).1] at hu
  injection hu with hu; subst hu
  exact hd
 ·rw [List.getElem?_set_ne e] at hu
  exact h i u hu
theorem allK_u8 {g : Geo} {key a : Int} {ls : List (List Int)} {no : Nat → Bool} {m : MS} (hls : ∀ l ∈ ls,U8s l) (h : m.U8) : ∀ k,(allK g key a ls no m k).1.U8
 | 0=>h
 | k + 1=>by
   have ih:=allK_u8 (g:=g) (key:=key) (a:=a) (no:=no) hls h k
   unfold allK
   split
   ·exact ih
   ·rename_i v hv
    split
    ·exact ih
    ·exact ih.put hv (wrAll_u8 hls (ih k v hv) _)
end Go.Proofs.YtaggiceejcegdaaGreat
