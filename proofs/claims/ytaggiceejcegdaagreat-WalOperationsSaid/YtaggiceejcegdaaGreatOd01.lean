/-
  WHAT IS SHOWN: more: plain facts on memory, of no program: worlds that differ in blocks of some types alone; how a cache lies in memory, and what keeps it. what Contents, New, Clone, Cut and Flush of the reference's cache return and leave. what the closures of Flush and Erase of disk return and leave, and perform with them. what perform of disk returns and leaves with the closures of Flush and Erase. what Flush and Erase of disk return and leave. plain facts, of no program: operations of a disk that are called again while it is busy; sectors that are written and read one after another. Conditions: as each theorem names them.
-/
import Derived.Test.YtaggiceejcegdaaGreatNc35
import Derived.BigQuiet
import Derived.ChangeKeysEq
import Derived.ChangeOld
import Derived.Deep.AppendLies
import Derived.Deep.DeepCutAuto
import Derived.Deep.Draws
import Derived.Deep.Fields
import Derived.Deep.QuietTactic
import Derived.Deep.RegionHeld3
import Derived.Deep.RegionLaw
import Derived.Deep.Slices
import Derived.Handy
import Derived.Laws.BytesArg
import Derived.Laws.Cover3
import Derived.Laws.MakeOwn
import Derived.Laws.OwnMore
import Derived.Laws.Rows
import Derived.Lib.ConvBytes
import Derived.Lib.Hide
import Derived.Lib.SmallJoins
import Derived.Lib.VarintBits
import Derived.Lib.Zigzag
import Derived.LoopIn
import Derived.LoopNIn
import Derived.Maps.AppendAt
import Derived.OpenShut
import Derived.OwnWalkIn
import Derived.ProofKit
import Derived.RangeFuncBox
import Derived.RangeFuncLeaves
import Derived.Shelf.Abstract
import Derived.Sort.QuietIn
import Derived.TacticsInMore
import Derived.WalkKit
import Derived.WalkLawsBesides
import Derived.WalkMore
import Derived.WalkSpells
import Derived.Test.YtaggiceejcegdaaGreatOd00
namespace Go.Proofs.YtaggiceejcegdaaGreat
set_option linter.unusedVariables false
open Go.RowKit
section
variable {ts us : List TypeId} {B C : Bd} {w w' w'' : World} {S : Nat → Prop} {t t' : TypeId}
end
theorem doL_bare (g : Geo) (L : List Sec) (o : OpV) : doL g L o.bare = doL g L o:=rfl
theorem doE_bare (g : Geo) (L : List Sec) (o : OpV) : doE g L o.bare = doE g L o:=rfl
theorem playL_bare (g : Geo) : ∀ (l : List OpV) (L : List Sec),playL g L (l.map OpV.bare) = playL g L l
 | [],L=>rfl
 | o :: l,L=>by unfold playL; rw [List.map_cons,List.foldl_cons,List.foldl_cons,doL_bare]; exact playL_bare g l _
section
variable {w w' : World} {S : Nat → Prop} {B : Bd} {p : Nat} {g : Geo} {LM : List Sec} {ops : List OpV}
section
variable {m1 b1 m2 b2 : Nat} {A : Option Addr} {c : Nat} {F : List Value}
end
section
variable {m b : Nat} {A : Option Addr} {c : Nat} {l : List OpV}
theorem RCac.cells (h : RCac w B p g LM l m b A c) : w.cell? ⟨p,0,none⟩ = some (.pointer (some ⟨m,0,none⟩)) ∧ w.cell? ⟨p,1,none⟩ = some (.slice A l.length c):=
 ⟨(World.ownsRow.cellAt h.obj 0 (by decide)).trans rfl,(World.ownsRow.cellAt h.obj 1 (by decide)).trans rfl⟩
end
end
end Go.Proofs.YtaggiceejcegdaaGreat
namespace Go.Proofs.YtaggiceejcegdaaGreat
set_option linter.unusedVariables false
open Go.RowKit
section
variable {w w' : World} {S : Nat → Prop} {B : Bd} {p : Nat} {g : Geo} {LM : List Sec} {ops : List OpV}
theorem RCac.opok {l : List OpV} {m b : Nat} {A : Option Addr} {c : Nat} (h : RCac w B p g LM l m b A c) (hk : Below w.heap.size w w') {o : OpV} (ho : o ∈ l) : OpOk w' w.heap.size o:=by
 obtain ⟨h1,h2,h3⟩:=h.op o ho
 exact ⟨h1,h3.rd.below hk (Nat.le_refl _),h2⟩
set_option maxRecDepth 100000 in
set_option maxHeartbeats 1000000 in
theorem rcontents_any (h : RCacheM w B p g LM ops) (hf : Fit g LM) (hn : ops.length ≤ 100000) : Calls Tryz.prog 141 #[.pointer (some ⟨p,0,none⟩)] w (RClonePost w g (playL g LM ops)):=by
 obtain ⟨l,m,b,A,c,rfl,h⟩:=h
 rw [playL_bare]
 rw [List.length_map] at hn
 obtain ⟨c0,c1⟩:=h.cells
 have hlp:=h.lt
 have HC:=Lib.hid (rclone_any h.med hf)
 have HRD:=Lib.hid h.rd.rd
 have HOK : Hid (∀ W,Below w.heap.size w W → ∀ o ∈ l,OpOk W w.heap.size o):=by
  unfold Hid; intro W hW o ho; exact h.opok hW ho
 have HF:=Lib.hid hf
 clear h hf
 go_enter Tryz.func141,Tryz.ntmps141
 go_wp2_with fail
 refine HC.out.mono ?_
 rintro e w1 ⟨m1,b1,rfl,hm1,hmm1,hbb1,hb1⟩
 go_wp2
 go_loopw [4] (fun v wr=>∃ k : Nat,k ≤ l.length ∧ v = .int .i64 k ∧ RMed wr m1 b1 g (playL g LM (l.take k)) ∧ Kept (fun k=>k = b1) w1 wr) (fun v _=>l.length - (intOf v).toNat)
 case atStart=>exact ⟨0,Nat.zero_le _,rfl,hm1,Kept.refl _ _⟩
 case round=>
  obtain ⟨k,hk,rfl,hmr,hkr⟩:=hrel
  have hblr : Below w.heap.size w wr:=hb1.trans (hkr.below (B:=w.heap.size) (fun i hi=>by have e : i = b1:=hi; omega) hb1.size)
  have d0:=(hblr.cell (p:=⟨p,0,none⟩) hlp).trans c0
  have d1:=(hblr.cell (p:=⟨p,1,none⟩) hlp).trans c1
  by_cases hlt : k < l.length
  ·obtain ⟨go,oo,rfl,hgo,q0,q1,q2⟩:=ops_at (HRD.out.below hblr (Nat.le_refl _)) hlt
   have hT:=Lib.hid (playL_take g LM l k hlt)
   have HD:=Lib.hid (rdo_any l[k] hmr (HF.out.len (playL_len _ _ _)) (HOK.out wr hblr _ (List.getElem_mem hlt)) hblr.size)
   generalize playL g LM (l.take k) = X at *
   generalize l[k] = o at *
   have k0 : (0 : Int) ≤ k:=by omega
   have k1 : (k : Int) < l.length:=by omega
   clear hm1 hmr
   go_wp2_with fail
   refine HD.out.mono ?_
   rintro e w2 ⟨rfl,hm2,hk2⟩
   have hk3:=hkr.trans hk2 (fun _ _ h=>h)
   have HM2:=Lib.hid hm2
   clear hm2 hk2 d0 d1 q0 q1 q2
   go_wp2
   go_roundw
   case rel=>exact ⟨k + 1,by omega,by go_num,by rw [hT.out]; exact HM2.out,hk3⟩
   case measure=>simp [intOf]; omega
  ·obtain rfl : k = l.length:=by omega
   rw [List.take_of_length_le (Nat.le_refl _)] at hmr
   have HM:=Lib.hid hmr
   clear hm1 hmr
   go_wp2
   go_ret
   exact ⟨m1,b1,rfl,HM.out,hmm1,hbb1,hblr⟩
theorem rcac_cut {l : List OpV} {m b : Nat} {A : Option Addr} {c : Nat} {w1 : World} {L' : List Sec} (h : RCac w B p g LM l m b A c) (hm : RMed w1 m b g L') (hk : Kept (fun k=>k = b) w w1) :
  RCacheM (w1.setCell ⟨p,1,none⟩ (.slice none 0 0)) B p g L' [] ∧ KeptT RT B w (w1.setCell ⟨p,1,none⟩ (.slice none 0 0)):=by
 have t1:=h.med.types
 have tp:=h.typ
 have hlow:=h.low
 have hpb : ¬ (p = b):=tp.ne t1.2 (by decide)
 have hobj:=own_kept h.obj hk (fun k e=>by simp [Value.ownBlock] at e; subst e; exact hpb)
 have tp1 : IsT 204 w1 p:=IsT.own hobj
 have hk1 : Kept (fun k=>k = p) w1 (w1.setCell ⟨p,1,none⟩ (.slice none 0 0)):=(Kept.refl (fun k=>k = p) _).setCell (p:=⟨p,1,none⟩) (fun _=>rfl) _
 have hk2 : Kept (fun k=>k = b ∨ k = p) w (w1.setCell ⟨p,1,none⟩ (.slice none 0 0)):=
  (hk.more (T:=fun k=>k = b ∨ k = p) (fun _ _ h=>.inl h)).setCell (p:=⟨p,1,none⟩) (fun _=>.inr rfl) _
 refine ⟨⟨[],m,b,none,0,rfl,?_,h.px,h.lb,hm.kept hk1 (hm.types.1.ne tp1 (by decide)) (hm.types.2.ne tp1 (by decide)),RdT.nil _ _ _,fun o h=>by simp at h,fun _=>⟨rfl,rfl⟩⟩,KeptT.of hk2 (fun k _ hs=>?_)⟩
 ·have:=(World.ownsRow.stored hobj 1 (.slice none 0 0)).1
  simpa using this
 ·rcases hs with e | e
  ·subst e; exact ⟨h.lb,HasT.mem t1.2 (by simp [RT])⟩
  ·subst e; exact ⟨hlow,HasT.mem tp (by simp [RT])⟩
set_option maxRecDepth 100000 in
set_option maxHeartbeats 1000000 in
theorem rccut_any (keep : Int) (h : RCacheM w B p g LM ops) (hf : Fit g LM) (hB : B.top ≤ w.heap.size) (hn : ops.length ≤ 100000) :
  Calls Tryz.prog 143 #[.pointer (some ⟨p,0,none⟩),.int .i64 keep] w (RCutPost w B p g LM ops (cutN keep ops.length)):=by
 obtain ⟨l,m,b,A,c,rfl,h⟩:=h
 rw [List.length_map] at hn ⊢
 obtain ⟨c0,c1⟩:=h.cells
 have hlp:=h.lt
 have hnl:=cutN_le keep l.length
 have hn1 : Hid (∀ k : Nat,k < cutN keep l.length → (k : Int) < keep):=by unfold Hid cutN; intro k hk; omega
 have hn2 : Hid (cutN keep l.length < l.length → keep ≤ (cutN keep l.length : Nat)):=by unfold Hid cutN; intro hk; omega
 have hTK : (l.map OpV.bare).take (cutN keep l.length) = (l.take (cutN keep l.length)).map OpV.bare:=List.map_take.symm
 have HTK : Hid (playL g LM ((l.map OpV.bare).take (cutN keep l.length)) = playL g LM (l.take (cutN keep l.length))):=by unfold Hid; rw [hTK,playL_bare]
 generalize cutN keep l.length = n at *
 have hpb : ¬ (p = b):=h.typ.ne h.med.types.2 (by decide)
 have H:=Lib.hid h
 have HF:=Lib.hid hf
 have hmed:=h.med
 clear hf h hTK
 go_enter Tryz.func143,Tryz.ntmps143
 go_wp2
 go_loopw [4] (fun v wr=>∃ k : Nat,k ≤ n ∧ v = .int .i64 k ∧ RMed wr m b g (playL g LM (l.take k)) ∧ Kept (fun k=>k = b) w wr) (fun v _=>n - (intOf v).toNat)
 case atStart=>exact ⟨0,Nat.zero_le _,rfl,hmed,Kept.refl _ _⟩
 case round=>
  obtain ⟨k,hk,rfl,hmr,hkr⟩:=hrel
  have d0:=hkr.cell c0 hpb
  have d1:=hkr.cell c1 hpb
  by_cases hlt : k < n
  ·have hop : k < l.length:=by omega
   have hkk:=hn1.out k hlt
   have hfo : Free w 172 (fun k=>k = b):=by obtain ⟨cur,fr,hh⟩:=H.out.med.types.2; exact Free.one hh (by decide)
   have hfb : Free w 5 (fun k=>k = b):=by obtain ⟨cur,fr,hh⟩:=H.out.med.types.2; exact Free.one hh (by decide)
   obtain ⟨go,oo,rfl,hgo,q0,q1,q2⟩:=ops_at (H.out.rd.kept hkr hfo).rd hop
   have hgb : ¬ (go = b):=fun e=>by
    have:=H.out.rd (k * 3 + 0) (.bool l[k].er) (by unfold flatOps; rw [flat_get _ 3 opcells_len l k 0 (by decide),List.getElem?_eq_getElem hop]; rfl)
    obtain ⟨g1,o1,cur,fr,e1,h1,_⟩:=this
    injection e1 with e1; injection e1 with e1; subst e1; subst e
    exact absurd ((IsT.of h1).same H.out.med.types.2) (by decide)
   have hT:=Lib.hid (playL_take g LM l k hop)
   obtain ⟨a1,a2,a3⟩:=H.out.op _ (List.getElem_mem hop)
   have HD : Hid (∀ W,Below wr.heap.size wr W → Calls Tryz.prog 142 #[.pointer (some ⟨m,0,none⟩),.agg #[.bool l[k].er,.int .i64 l[k].at_,.slice l[k].A l[k].xs.length l[k].c]] W (RWritePost W m b g (doE g (playL g LM (l.take k)) l[k]) (doL g (playL g LM (l.take k)) l[k]))):=by
    unfold Hid; intro W hW
    exact rdo_any l[k] (hmr.below0 hW) (HF.out.len (playL_len _ _ _)) ⟨a1,(a3.kept hkr hfb).rd.below hW (Nat.le_refl _),a2⟩ hW.size
   generalize playL g LM (l.take k) = X at *
   generalize l[k] = o at *
   have k0 : (0 : Int) ≤ k:=by omega
   have k1 : (k : Int) < l.length:=by omega
   clear hmr a1 a2 a3 hmed hfo hfb
   go_wp2
   go_region_held3 (fun W=>W.cell? ⟨p,0,none⟩ = some (.pointer (some ⟨m,0,none⟩)) ∧ W.cell? ⟨p,1,none⟩ = some (.slice (some ⟨go,oo,none⟩) l.length c) ∧ W.cell? ⟨go,oo + k * 3,none⟩ = some (.bool o.er) ∧ W.cell? ⟨go,oo + k * 3 + 1,none⟩ = some (.int .i64 o.at_) ∧ W.cell? ⟨go,oo + k * 3 + 2,none⟩ = some (.slice o.A o.xs.length o.c))
    (first | (refine ⟨?_,?_,?_,?_,?_⟩ <;> assumption) | (simp [*]; done))
    ((go_at_call 142
      refine (HD.out _ ((Below.refl wr.heap.size wr).drew)).mono ?_
      rintro e w2 ⟨rfl,hm2,hk2⟩
      have hw2 : Kept (fun k=>k = b) wr w2:=((Kept.refl (fun k=>k = b) wr).drew).trans hk2 (fun _ _ h=>h)
      have r0:=hw2.cell d0 hpb
      have r1:=hw2.cell d1 hpb
      have r2:=hw2.cell q0 hgb
      have r3:=hw2.cell q1 hgb
      have r4:=hw2.cell q2 hgb))
   have hk3:=hkr.trans hw2 (fun _ _ h=>h)
   have HM2:=Lib.hid hm2
   clear hm2 d0 d1 q0 q1 q2 r0 r1 r2 r3 r4
   go_wp2
   go_roundw
   case rel=>exact ⟨k + 1,by omega,by go_num,by rw [hT.out]; exact HM2.out,hk3⟩
   case measure=>simp [intOf]; omega
  ·obtain rfl : k = n:=by omega
   have hobj:=own_kept H.out.obj hkr (fun k e=>by simp [Value.ownBlock] at e; subst e; exact hpb)
   have f1:=hobj.frozenAt 1
   have hC:=rcac_cut H.out hmr hkr
   have HC:=Lib.hid hC
   by_cases hl : k < l.length
   ·have hkk:=hn2.out hl
    clear hmr hmed hC hobj
    go_wp2
    go_end0
    unfold RCutPost
    rw [HTK.out]
    exact ⟨rfl,HC.out⟩
   ·have hkk : (l.length : Int) ≤ k:=by omega
    clear hmr hmed hC hobj
    go_wp2
    go_end0
    unfold RCutPost
    rw [HTK.out]
    exact ⟨rfl,HC.out⟩
set_option maxHeartbeats 400000 in
theorem rcflush_any (h : RCacheM w B p g LM ops) (hf : Fit g LM) (hB : B.top ≤ w.heap.size) (hn : ops.length ≤ 100000) :
  Calls Tryz.prog 98 #[.pointer (some ⟨p,0,none⟩)] w (RCutPost w B p g LM ops ops.length):=by
 have HC:=Lib.hid (rccut_any (ops.length : Int) h hf hB hn)
 have hnn : cutN (ops.length : Int) ops.length = ops.length:=cutN_all (by omega)
 rw [hnn] at HC
 obtain ⟨l,m,b,A,c,rfl,h⟩:=h
 rw [List.length_map] at *
 obtain ⟨c0,c1⟩:=h.cells
 clear h hf hnn
 go_enter Tryz.func98,Tryz.ntmps98
 go_wp2_with fail
 refine HC.out.mono ?_
 rintro e w1 ⟨rfl,h1,hk1⟩
 go_wp2
 go_end0
 exact ⟨rfl,h1,hk1⟩
end
end Go.Proofs.YtaggiceejcegdaaGreat
namespace Go.Proofs.YtaggiceejcegdaaGreat
set_option linter.unusedVariables false
open Go.RowKit
section
variable {w w' : World} {B : Bd} {q pw p : Nat} {g : Geo} {F : List Flt} {s : DS} {P : Pow} {LM : List Sec} {O : List OpV} {FA : Option Addr} {fc : Nat}
set_option maxRecDepth 100000 in
set_option maxHeartbeats 2000000 in
theorem flushcl_any (f : Flt) (bd : Nat) (fd : Nat × Nat) (h : Dsk w B q pw g F s LM O p FA fc) (hf : Fit g LM) (hB : B.top ≤ w.heap.size) (hn : O.length ≤ 99000) (hd : w.heap[bd]? = some (.cells #[.pointer (some ⟨q,0,none⟩)] 52 fd)) :
  Calls Tryz.prog 99 #[f.val,.pointer (some ⟨bd,0,none⟩)] w (WriteCl w B q pw g F p FA fc 0 { s with f:=wrap64 (s.f + 1) } (playL g LM (O.take O.length)) []):=by
 have hb0 : Below w.heap.size w (w.alloc (.cells #[.int .i64 f.at_,.int .i64 f.kind,.int .i64 f.to_] 138)):=(Below.refl _ _).alloc (Nat.le_refl _) _
 have ld:=lt_of_block hd
 have b0 : (w.alloc (.cells #[.int .i64 f.at_,.int .i64 f.kind,.int .i64 f.to_] 138)).cell? ⟨bd,0,none⟩ = some (.pointer (some ⟨q,0,none⟩)):=by rw [cell_of_row _ _ _ _ _ _ (belObj hb0 hd ld)]; rfl
 have h0:=h.below0 hb0
 have c10:=(h0.cell 10 (by decide)).trans (show _ = some (Value.pointer (some ⟨p,0,none⟩)) from rfl)
 have HC:=Lib.hid (cflush_any h0.c hf (Nat.le_trans hB hb0.size) (by omega))
 have HFX : Hid (∀ W,CacheM W B p g (playL g LM (O.take O.length)) [] → KeptT CT B (w.alloc (.cells #[.int .i64 f.at_,.int .i64 f.kind,.int .i64 f.to_] 138)) W → (W.cell? ⟨bd,0,none⟩ = some (.pointer (some ⟨q,0,none⟩)) ∧ W.cell? ⟨q,3,none⟩ = some (.int .i64 s.f) ∧ W.frozen? ⟨q,3,none⟩ = false) ∧
   Dsk (W.setCell ⟨q,3,none⟩ (.int .i64 (wrap64 (s.f + 1)))) B q pw g F { s with f:=wrap64 (s.f + 1) } (playL g LM (O.take O.length)) [] p FA fc ∧ KeptT DT B w (W.setCell ⟨q,3,none⟩ (.int .i64 (wrap64 (s.f + 1))))):=by
  unfold Hid; intro W hc hk
  have h1:=h0.withC hk hc
  have h2:=h1.store 3 (.int .i64 (wrap64 (s.f + 1))) { s with f:=wrap64 (s.f + 1) } rfl
  have q':=Kept.obj hk (belObj hb0 hd ld) (KeptT.no (IsT.of (belObj hb0 hd ld)) (by unfold CT; decide))
  exact ⟨⟨by rw [cell_of_row _ _ _ _ _ _ q']; rfl,(h1.cell 3 (by decide)).trans rfl,h1.free 3⟩,h2.1,(((KeptT.bel hb0).trans hk).sub ct_dt).trans (h2.2.sub d_dt)⟩
 clear h h0 hf hd
 obtain ⟨fat,fk,fto⟩:=f
 unfold Flt.val
 simp only at *
 go_enter Tryz.func99,Tryz.ntmps99
 go_wp2_with fail
 refine HC.out.mono ?_
 rintro e w1 ⟨rfl,hc1,hk1⟩
 obtain ⟨⟨d0,d3,f3⟩,hfin⟩:=HFX.out w1 hc1 hk1
 have HF:=Lib.hid hfin
 clear hc1 hk1 hfin b0 c10
 go_wp2
 go_ret
 exact ⟨rfl,HF.out⟩
end
end Go.Proofs.YtaggiceejcegdaaGreat
namespace Go.Proofs.YtaggiceejcegdaaGreat
set_option linter.unusedVariables false
open Go.RowKit
section
variable {w w' : World} {B : Bd} {q pw p : Nat} {g : Geo} {F : List Flt} {s : DS} {P : Pow} {LM : List Sec} {O : List OpV} {FA : Option Addr} {fc : Nat}
set_option maxRecDepth 100000 in
set_option maxHeartbeats 4000000 in
theorem flushperf_any {w0 : World} (key : Int) (bd : Nat) (Q : Int → World → Prop) (ho : w.ownsRow B.n 127 16 (.slice (some ⟨q,0,none⟩) 1 1) 1 (dObj g s p pw FA F.length fc)) (hqx : ¬ B.X q) (hp : PowM w B pw P) (hk : KeptT DPT B w0 w) (hc : CacheM w0 B p g LM O) (hfl : RdT w0 138 FA (flatF F)) (hn : F.length ≤ 9223372036854775807) (hB : B.top ≤ w.heap.size)
  (HW : ∀ W,Mid w0 W B q pw g F.length fc p FA (begD F s P key).s (begD F s P key).P → KeptT DPT B w W → (begD F s P key).er = 0 → Calls Tryz.prog 99 #[(begD F s P key).f.val,.pointer (some ⟨bd,0,none⟩)] W fun e w'=>∃ er,e = .returned (.int .i64 er) ∧ Q er w') :
  Calls Tryz.prog 90 #[.pointer (some ⟨q,0,none⟩),.int .u64 key,.func (.func 99) #[] #[.pointer (some ⟨bd,0,none⟩)]] w (PerfPost w0 w B q pw g F.length fc p FA (begD F s P key) Q):=by
 have h:=Dsk.of ho hqx hc hfl hk
 have HST:=Lib.hid (dstate_any h hp)
 have HSK : Hid (∀ W,Below w.heap.size w W → Mid w0 W B q pw g F.length fc p FA s P ∧ KeptT DPT B w W):=by
  unfold Hid; intro W hW; exact ⟨⟨(h.below0 hW).obj,hp.below0 hW,hk.thenBelow hW,hqx⟩,KeptT.bel hW⟩
 have HPC : Hid (∀ W,Below w.heap.size w W → Calls Tryz.prog 133 #[.pointer (some ⟨pw,0,none⟩)] W fun e w'=>e = .returned (.bool (!(callP P).off)) ∧ Mid w0 w' B q pw g F.length fc p FA s (callP P) ∧ KeptT DPT B w w'):=by
  unfold Hid; intro W hW
  refine (pcall_any (hp.below0 hW)).mono ?_
  rintro e w' ⟨rfl,hp',hk'⟩
  have hkd : KeptT DPT B W w':=hk'.sub (by unfold DPT; decide)
  exact ⟨rfl,⟨own_kept (h.below0 hW).obj hk' (fun k e=>by simp [Value.ownBlock] at e; subst e; exact KeptT.no (IsT.own (h.below0 hW).obj) (by decide)),hp',(hk.thenBelow hW).trans hkd,hqx⟩,(KeptT.bel hW).trans hkd⟩
 have HCE : Hid (∀ W s' P',Mid w0 W B q pw g F.length fc p FA s' P' → W.cell? ⟨q,4,none⟩ = some (.int .i64 s'.ops) ∧ W.cell? ⟨q,11,none⟩ = some (.slice FA F.length fc) ∧ W.cell? ⟨q,12,none⟩ = some (.pointer (some ⟨pw,0,none⟩)) ∧ W.cell? ⟨q,14,none⟩ = some (.int .u64 s'.key) ∧ W.cell? ⟨q,15,none⟩ = some (.bool s'.dead) ∧ W.frozen? ⟨q,4,none⟩ = false ∧ W.frozen? ⟨q,15,none⟩ = false):=by
  unfold Hid; intro W s' P' hm
  have h':=Dsk.of hm.o hm.x hc hfl hm.k
  exact ⟨(h'.cell 4 (by decide)).trans rfl,(h'.cell 11 (by decide)).trans rfl,(h'.cell 12 (by decide)).trans rfl,(h'.cell 14 (by decide)).trans rfl,(h'.cell 15 (by decide)).trans rfl,h'.free 4,h'.free 15⟩
 have HAT : Hid (∀ W s' P',Mid w0 W B q pw g F.length fc p FA s' P' → Calls Tryz.prog 134 #[.slice FA F.length fc,.int .i64 s'.ops] W (AtPost W (atF F s'.ops))):=by
  unfold Hid; intro W s' P' hm; exact fat_any F s'.ops FA fc W (Dsk.of hm.o hm.x hc hfl hm.k).fl.rd hn
 have HBM : Hid (∀ W W' s' P',Mid w0 W B q pw g F.length fc p FA s' P' → Below W.heap.size W W' → Mid w0 W' B q pw g F.length fc p FA s' P'):=by
  unfold Hid; intro W W' s' P' hm hb; exact ⟨((Dsk.of hm.o hm.x hc hfl hm.k).below0 hb).obj,hm.p.below0 hb,hm.k.thenBelow hb,hm.x⟩
 have HSO : Hid (∀ W s' P' j v s'',Mid w0 W B q pw g F.length fc p FA s' P' → (dObj g s' p pw FA F.length fc).set j v = dObj g s'' p pw FA F.length fc → Mid w0 (W.setCell ⟨q,j,none⟩ v) B q pw g F.length fc p FA s'' P' ∧ KeptT DPT B W (W.setCell ⟨q,j,none⟩ v)):=by
  unfold Hid; intro W s' P' j v s'' hm he
  have h':=(Dsk.of hm.o hm.x hc hfl hm.k).store j v s'' he
  have hkd : KeptT DPT B W (W.setCell ⟨q,j,none⟩ v):=h'.2.sub (by unfold DPT; decide)
  exact ⟨⟨h'.1.obj,hm.p.keptT h'.2 (by decide),hm.k.trans hkd,hm.x⟩,hkd⟩
 have c0:=HCE.out w s P ⟨ho,hp,hk,hqx⟩
 have HW':=Lib.hid HW
 clear h ho hp hk hc hfl HW
 by_cases h1 : stE s P ≠ 0
 ·have HB : Hid (begD F s P key = ⟨stE s P,s,P,noF⟩):=by unfold Hid begD; rw [if_pos h1]
  have e1 : (stE s P != 0) = true:=by simpa using h1
  generalize hE : stE s P = E at *
  clear hE
  go_enter Tryz.func90,Tryz.ntmps90
  go_wp2_with fail
  refine HST.out.mono ?_
  rintro e w1 ⟨rfl,hb1⟩
  have HM:=Lib.hid (HSK.out w1 hb1)
  go_wp2
  go_ret
  rw [HB.out]
  unfold PerfPost
  rw [if_neg h1]
  exact ⟨rfl,HM.out.1,HM.out.2⟩
 have h1' : stE s P = 0:=by simpa using h1
 rw [h1'] at HST
 by_cases h2 : (callP P).off = true
 ·have HB : Hid (begD F s P key = ⟨13,s,callP P,noF⟩):=by unfold Hid begD; rw [if_neg h1,if_pos h2]
  rw [h2] at HPC
  clear h1 h1'
  skip
  go_enter Tryz.func90,Tryz.ntmps90
  go_wp2_with fail
  refine HST.out.mono ?_
  rintro e w1 ⟨rfl,hb1⟩
  obtain ⟨hm1,hk1⟩:=HSK.out w1 hb1
  obtain ⟨_,_,d12,_⟩:=HCE.out w1 s P hm1
  clear c0 hm1
  go_wp2_with fail
  refine (HPC.out _ hb1).mono ?_
  rintro e w2 ⟨rfl,hm2,hk2⟩
  clear d12
  have HM:=Lib.hid hm2
  clear hm2
  go_wp2
  go_ret
  rw [HB.out]
  unfold PerfPost
  rw [if_neg (show ¬ ((13 : Int) = 0) by decide)]
  exact ⟨rfl,HM.out,hk2⟩
 have h2' : (callP P).off = false:=by simpa using h2
 rw [h2'] at HPC
 by_cases h3 : key ≠ s.key
 ·have HB : Hid (begD F s P key = ⟨17,s,callP P,noF⟩):=by unfold Hid begD; rw [if_neg h1,if_neg h2,if_pos h3]
  have e3 : (key != s.key) = true:=by simpa using h3
  clear h1 h1' h3
  skip
  go_enter Tryz.func90,Tryz.ntmps90
  go_wp2_with fail
  refine HST.out.mono ?_
  rintro e w1 ⟨rfl,hb1⟩
  obtain ⟨hm1,hk1⟩:=HSK.out w1 hb1
  obtain ⟨_,_,d12,_⟩:=HCE.out w1 s P hm1
  clear c0 hm1
  go_wp2_with fail
  refine (HPC.out _ hb1).mono ?_
  rintro e w2 ⟨rfl,hm2,hk2⟩
  clear d12
  obtain ⟨_,_,_,d14,_⟩:=HCE.out w2 _ _ hm2
  have HM:=Lib.hid hm2
  clear hm2
  go_wp2
  go_ret
  rw [HB.out]
  unfold PerfPost
  rw [if_neg (show ¬ ((17 : Int) = 0) by decide)]
  exact ⟨rfl,HM.out,hk2⟩
 have h3' : key = s.key:=by simpa using h3
 subst h3'
 have hBB : begD F s P s.key = if (atF F s.ops).kind = 7 then ⟨14,{ s with ops:=wrap64 (s.ops + 1),dead:=true },callP P,noF⟩ else if (atF F s.ops).kind = 6 then ⟨16,{ s with ops:=wrap64 (s.ops + 1) },callP P,noF⟩ else ⟨0,{ s with ops:=wrap64 (s.ops + 1) },callP P,atF F s.ops⟩:=by unfold begD; rw [if_neg h1,if_neg h2,if_neg h3]
 have HBB:=Lib.hid hBB
 clear h1 h1' h2 h3 hBB
 generalize hG : atF F s.ops = f at *
 have HAT2 : Hid (∀ W,Mid w0 W B q pw g F.length fc p FA s (callP P) → Calls Tryz.prog 134 #[.slice FA F.length fc,.int .i64 s.ops] W (fun e w'=>∃ b : Bool,e = .returned (.tuple #[.agg #[.int .i64 f.at_,.int .i64 f.kind,.int .i64 f.to_],.bool b]) ∧ Below W.heap.size W w')):=by unfold Hid; intro W hm; have:=HAT.out W s _ hm; rw [hG] at this; exact this
 clear hG
 skip
 go_enter Tryz.func90,Tryz.ntmps90
 go_wp2_with fail
 refine HST.out.mono ?_
 rintro e w1 ⟨rfl,hb1⟩
 obtain ⟨hm1,hk1⟩:=HSK.out w1 hb1
 obtain ⟨_,_,d12,_⟩:=HCE.out w1 s P hm1
 clear c0 hm1
 go_wp2_with fail
 refine (HPC.out _ hb1).mono ?_
 rintro e w2 ⟨rfl,hm2,hk2⟩
 clear d12
 obtain ⟨d4,d11,_,d14,d15,f4,f15⟩:=HCE.out w2 _ _ hm2
 have HM2:=Lib.hid hm2
 have hq2:=block_lt_of_cell d4
 simp only at hq2
 have hne2 : ¬ (w2.heap.size = q):=by omega
 have hA0 : Below w2.heap.size w2 w2.drew:=(Below.refl _ _).drew
 have hB0 : Below w2.heap.size w2 (w2.drew.alloc (.cells #[.int .i64 0,.int .i64 0,.int .i64 0] 138)):=((Below.refl w2.heap.size w2).drew).alloc (Nat.le_refl _) _
 have HMA:=Lib.hid (HBM.out w2 _ _ _ hm2 hA0)
 have HMB:=Lib.hid (HBM.out w2 _ _ _ hm2 hB0)
 have HRW : Hid ((w2.drew.alloc (.cells #[.int .i64 0,.int .i64 0,.int .i64 0] 138)).ownsRow w2.heap.size 138 3 (.slice (some ⟨w2.heap.size,0,none⟩) 1 1) 1 [.int .i64 0,.int .i64 0,.int .i64 0]):=World.ownsRow_lit (base:=w2.heap.size) (e:=138) (size:=3) w2.drew #[.int .i64 0,.int .i64 0,.int .i64 0] 1 (Nat.le_refl _) (by decide) rfl
 clear hm2
 go_upto_region 8 with fail
 go_cut [8,9] (fun s8 s9 wx=>∃ T : Nat,s8 = .pointer (some ⟨T,0,none⟩) ∧ Below w2.heap.size w2 wx ∧ Cells3 wx T (.int .i64 f.at_) (.int .i64 f.kind) (.int .i64 f.to_) ∧ w2.heap.size ≤ T)
 case first=>
  have d4B:=(hB0.cell (p:=⟨q,4,none⟩) hq2).trans d4
  have d11B:=(hB0.cell (p:=⟨q,11,none⟩) hq2).trans d11
  go_region_held3 (fun W=>W.cell? ⟨q,11,none⟩ = some (.slice FA F.length fc) ∧ W.cell? ⟨q,4,none⟩ = some (.int .i64 s.ops))
   (first | (refine ⟨?_,?_⟩ <;> assumption) | (simp (maxDischargeDepth:=20) [World.cell?_alloc_some,World.cell?_setCell_far, *]; done))
   ((go_at_call 134
     first
     | (refine (HAT2.out _ HMA.out).mono ?_
        rintro e w3 ⟨b9,rfl,hb3⟩
        have hw3 : Below w2.heap.size w2 w3:=hA0.trans hb3
        have g4:=(hw3.cell (p:=⟨q,4,none⟩) hq2).trans d4
        have g11:=(hw3.cell (p:=⟨q,11,none⟩) hq2).trans d11
        have hrw:=World.ownsRow_lit (base:=w3.heap.size) (e:=138) (size:=3) w3 #[.int .i64 0,.int .i64 0,.int .i64 0] 1 (Nat.le_refl _) (by decide) rfl
        have z0 : (w3.alloc (.cells #[.int .i64 0,.int .i64 0,.int .i64 0] 138)).cell? ⟨w3.heap.size,0,none⟩ = some (.int .i64 0):=(World.ownsRow.cellAt hrw 0 (by decide)).trans rfl
        have z1 : (w3.alloc (.cells #[.int .i64 0,.int .i64 0,.int .i64 0] 138)).cell? ⟨w3.heap.size,1,none⟩ = some (.int .i64 0):=(World.ownsRow.cellAt hrw 1 (by decide)).trans rfl
        have z2 : (w3.alloc (.cells #[.int .i64 0,.int .i64 0,.int .i64 0] 138)).cell? ⟨w3.heap.size,2,none⟩ = some (.int .i64 0):=(World.ownsRow.cellAt hrw 2 (by decide)).trans rfl
        have y0:=hrw.frozenAt 0
        have y1:=hrw.frozenAt 1
        have y2:=hrw.frozenAt 2
        have HRW3:=Lib.hid hrw
        have hne3 : ¬ (w3.heap.size = q):=by have:=hw3.size; omega
        have HW3:=Lib.hid hw3
        clear hrw)
     | (refine (HAT2.out _ HMB.out).mono ?_
        rintro e w3 ⟨b9,rfl,hb3⟩
        have hw3 : Below w2.heap.size w2 w3:=hB0.trans (hb3.mono (by simp))
        have g4:=(hw3.cell (p:=⟨q,4,none⟩) hq2).trans d4
        have g11:=(hw3.cell (p:=⟨q,11,none⟩) hq2).trans d11
        have hrw:=own_kept HRW.out (belKept0 (S:=fun _=>False) hb3) (fun _ _ h=>h)
        have z0 : w3.cell? ⟨w2.heap.size,0,none⟩ = some (.int .i64 0):=(World.ownsRow.cellAt hrw 0 (by decide)).trans rfl
        have z1 : w3.cell? ⟨w2.heap.size,1,none⟩ = some (.int .i64 0):=(World.ownsRow.cellAt hrw 1 (by decide)).trans rfl
        have z2 : w3.cell? ⟨w2.heap.size,2,none⟩ = some (.int .i64 0):=(World.ownsRow.cellAt hrw 2 (by decide)).trans rfl
        have y0:=hrw.frozenAt 0
        have y1:=hrw.frozenAt 1
        have y2:=hrw.frozenAt 2
        have HRW3:=Lib.hid hrw
        have HW3:=Lib.hid hw3
        clear hrw)))
  all_goals go_wp2_with fail
  all_goals go_meet
  ·exact ⟨_,rfl,HW3.out.alloc HW3.out.size _,Cells3.new_at _ _ _ _ _ _ rfl,HW3.out.size⟩
  ·exact ⟨_,rfl,((HW3.out.setCell (p:=⟨w2.heap.size,0,none⟩) (Nat.le_refl _) _).setCell (p:=⟨w2.heap.size,1,none⟩) (Nat.le_refl _) _).setCell (p:=⟨w2.heap.size,2,none⟩) (Nat.le_refl _) _,row3_set HRW3.out _ _ _,Nat.le_refl _⟩
 case rest=>
  obtain ⟨T,rfl,hbc,hC,hT⟩:=hcut
  have hmc:=HBM.out w2 _ _ _ HM2.out hbc
  obtain ⟨x4,_,_,_,_,y4,_⟩:=HCE.out wc _ _ hmc
  obtain ⟨hm3,hk3⟩:=HSO.out wc s _ 4 (.int .i64 (wrap64 (s.ops + 1))) { s with ops:=wrap64 (s.ops + 1) } hmc rfl
  have hTq : ¬ (T = q):=by omega
  have hkx : Kept (fun k=>k = q) wc (wc.setCell ⟨q,4,none⟩ (.int .i64 (wrap64 (s.ops + 1)))):=(Kept.refl (fun k=>k = q) wc).setCell (p:=⟨q,4,none⟩) (fun _=>rfl) _
  have k0:=hkx.cell hC.c0 hTq
  have k1:=hkx.cell hC.c1 hTq
  have k2:=hkx.cell hC.c2 hTq
  have hk13:=(hk2.thenBelow hbc).trans hk3
  obtain ⟨_,_,_,_,z15,_,y15⟩:=HCE.out _ _ _ hm3
  have HM3:=Lib.hid hm3
  clear hm3 hmc hk3 hkx d4 d11 d14 d15 f4 f15
  by_cases h7 : f.kind = 7
  ·have HB : Hid (begD F s P s.key = ⟨14,{ s with ops:=wrap64 (s.ops + 1),dead:=true },callP P,noF⟩):=by unfold Hid; rw [HBB.out,if_pos h7]
   have n7 : (f.kind == 7) = true:=by simpa using h7
   clear h7
   have hm4:=(HSO.out _ _ _ 15 (.bool true) { s with ops:=wrap64 (s.ops + 1),dead:=true } HM3.out rfl)
   have HM4:=Lib.hid hm4.1
   have hk14:=hk13.trans hm4.2
   clear hm4
   go_wp2
   go_ret
   rw [HB.out]
   unfold PerfPost
   rw [if_neg (show ¬ ((14 : Int) = 0) by decide)]
   exact ⟨rfl,HM4.out,hk14⟩
  have n7 : (f.kind == 7) = false:=by simpa using h7
  by_cases h6 : f.kind = 6
  ·have HB : Hid (begD F s P s.key = ⟨16,{ s with ops:=wrap64 (s.ops + 1) },callP P,noF⟩):=by unfold Hid; rw [HBB.out,if_neg h7,if_pos h6]
   have n6 : (f.kind == 6) = true:=by simpa using h6
   clear h7 h6
   go_wp2
   go_ret
   rw [HB.out]
   unfold PerfPost
   rw [if_neg (show ¬ ((16 : Int) = 0) by decide)]
   exact ⟨rfl,HM3.out,hk13⟩
  have n6 : (f.kind == 6) = false:=by simpa using h6
  have HB : Hid (begD F s P s.key = ⟨0,{ s with ops:=wrap64 (s.ops + 1) },callP P,f⟩):=by unfold Hid; rw [HBB.out,if_neg h7,if_neg h6]
  clear h7 h6
  have HCL:=HW'.out _ (by rw [HB.out]; exact HM3.out) hk13 (by rw [HB.out])
  rw [HB.out] at HCL
  have HCL2:=Lib.hid HCL
  clear HCL
  unfold Flt.val at HCL2
  go_wp2_with fail
  refine HCL2.out.mono ?_
  rintro e w5 ⟨er,rfl,hQ⟩
  have HQ:=Lib.hid hQ
  clear hQ
  go_wp2
  go_ret
  rw [HB.out]
  unfold PerfPost
  rw [if_pos rfl]
  exact ⟨er,rfl,HQ.out⟩
end
end Go.Proofs.YtaggiceejcegdaaGreat
namespace Go.Proofs.YtaggiceejcegdaaGreat
set_option linter.unusedVariables false
open Go.RowKit
section
variable {w w' : World} {B : Bd} {q pw : Nat} {g : Geo} {F : List Flt} {s : DS} {P : Pow} {LM : List Sec} {O : List OpV}
set_option maxRecDepth 100000 in
set_option maxHeartbeats 2000000 in
theorem dflush_any (key : Int) (h : DPm w B q pw g F s P LM O) (hn : F.length ≤ 9223372036854775807) (hon : O.length ≤ 99000) :
  Calls Tryz.prog 59 #[.pointer (some ⟨q,0,none⟩),.int .u64 key] w (DFlushPost w B q pw g F s P LM O key):=by
 obtain ⟨⟨p,FA,fc,hd⟩,hp,hf,hs,hB⟩:=h
 have hb0 : Below w.heap.size w (w.alloc (.cells #[.pointer (some ⟨q,0,none⟩)] 52)):=(Below.refl _ _).alloc (Nat.le_refl _) _
 have o0:=heap_alloc_new w (.cells #[.pointer (some ⟨q,0,none⟩)] 52)
 have hd3:=hd.below0 hb0
 have hp3:=hp.below0 hb0
 have HPF:=flushperf_any (LM:=LM) (O:=O) (FA:=FA) (fc:=fc) key w.heap.size
  (fun er w'=>er = 0 ∧ Dsk w' B q pw g F { (begD F s P key).s with f:=wrap64 ((begD F s P key).s.f + 1) } (playL g LM (O.take O.length)) [] p FA fc ∧ PowM w' B pw (begD F s P key).P ∧ KeptT DAT B w w')
  hd3.obj hd3.px hp3 (KeptT.bel hb0) hd.c hd.fl hn (Nat.le_trans hB hb0.size) (fun W hm hk he=>by
   refine (flushcl_any (begD F s P key).f w.heap.size _ (Dsk.of hm.o hm.x hd.c hd.fl hm.k) hf (Nat.le_trans hB hm.k.size) hon (Kept.obj hk o0 (KeptT.no (IsT.of o0) (by unfold DPT; decide)))).mono ?_
   rintro e w' ⟨rfl,hdd,hkw⟩
   exact ⟨_,rfl,rfl,hdd,hm.p.keptT hkw (by unfold DT; decide),(hm.k.sub dpt_dat).trans (hkw.sub dt_dat)⟩)
 have HMD : Hid (∀ W s' P',Mid w W B q pw g F.length fc p FA s' P' → DPm W B q pw g F s' P' LM O ∧ KeptT DAT B w W):=by
  unfold Hid; intro W s' P' hm
  exact ⟨⟨⟨p,FA,fc,Dsk.of hm.o hm.x hd.c hd.fl hm.k⟩,hm.p,hf,hs,Nat.le_trans hB hm.k.size⟩,hm.k.sub dpt_dat⟩
 have HF2:=Lib.hid hf
 have HS2:=Lib.hid hs
 have HP:=Lib.hid HPF
 clear HPF hd hp hf hs hd3 hp3 o0
 by_cases he : (begD F s P key).er = 0
 ·have HDS : Hid (dFlS F s P key = { (begD F s P key).s with f:=wrap64 ((begD F s P key).s.f + 1) }):=by unfold Hid dFlS; rw [if_pos he]
  have HDL : Hid (dFlLM g F s P LM O key = playL g LM (O.take O.length)):=by unfold Hid dFlLM; rw [if_pos he]
  have HDO : Hid (dFlO F s P O key = []):=by unfold Hid dFlO; rw [if_pos he]
  have HE0:=Lib.hid he
  clear he
  go_enter Tryz.func59,Tryz.ntmps59
  go_wp2_with fail
  refine HP.out.mono ?_
  intro e w1 hpp
  unfold PerfPost at hpp
  rw [if_pos HE0.out] at hpp
  obtain ⟨er,rfl,rfl,hdd,hpw,hk'⟩:=hpp
  have HMM:=Lib.hid (show DPm w1 B q pw g F { (begD F s P key).s with f:=wrap64 ((begD F s P key).s.f + 1) } (begD F s P key).P (playL g LM (O.take O.length)) [] from ⟨⟨p,FA,fc,hdd⟩,hpw,HF2.out.len (playL_len _ _ _),short_play _ HS2.out,Nat.le_trans hB hk'.size⟩)
  clear hdd hpw
  go_wp2
  go_ret
  unfold DFlushPost
  rw [HE0.out,HDS.out,HDL.out,HDO.out]
  exact ⟨rfl,HMM.out,hk'⟩
 ·have HDS : Hid (dFlS F s P key = (begD F s P key).s):=by unfold Hid dFlS; rw [if_neg he]
  have HDL : Hid (dFlLM g F s P LM O key = LM):=by unfold Hid dFlLM; rw [if_neg he]
  have HDO : Hid (dFlO F s P O key = O):=by unfold Hid dFlO; rw [if_neg he]
  have HE0:=Lib.hid he
  clear he
  go_enter Tryz.func59,Tryz.ntmps59
  go_wp2_with fail
  refine HP.out.mono ?_
  intro e w1 hpp
  unfold PerfPost at hpp
  rw [if_neg HE0.out] at hpp
  obtain ⟨rfl,hm,hkw⟩:=hpp
  have HMM:=Lib.hid (HMD.out w1 _ _ hm)
  clear hm hkw
  go_wp2
  go_ret
  unfold DFlushPost
  rw [HDS.out,HDL.out,HDO.out]
  exact ⟨rfl,HMM.out.1,HMM.out.2⟩
end
end Go.Proofs.YtaggiceejcegdaaGreat
namespace Go.Proofs.YtaggiceejcegdaaGreat
set_option linter.unusedVariables false
theorem fOne_len (g : Geo) (F : List Flt) (key : Int) (d : DC) : (fOne g F key d).1.O.length ≤ d.O.length + 1:=by
 unfold fOne dFlO
 simp only
 repeat' split
 all_goals simp
theorem rdNext_mem {r : DC × List (List Int) × Int} {x : DC × Ans} {l : List Int} (h : l ∈ (rdNext r x).2.1) : l ∈ r.2.1 ∨ l = x.2.by_ ∨ l = []:=by
 unfold rdNext at h
 split at h
 ·rcases List.mem_append.1 h with h | h
  ·exact .inl h
  ·simp at h; exact .inr (.inl h)
 ·split at h
  ·rcases List.mem_append.1 h with h | h
   ·exact .inl h
   ·simp at h; exact .inr (.inr h)
  ·simp at h
theorem SecU.set {L : List Sec} (h : SecU L) (i : Nat) (s : Sec) (hs : U8s s.by_) : SecU (L.set i s):=by
 intro t ht
 rcases List.mem_or_eq_of_mem_set ht with h1 | h1
 ·exact h t h1
 ·subst h1; exact hs
theorem SecU.destroy : ∀ (ss : List Int) {L : List Sec},SecU L → SecU (destroy ss L)
 | [],L,h=>h
 | s :: ss,L,h=>by unfold Go.Proofs.YtaggiceejcegdaaGreat.destroy; rw [List.foldl_cons]; exact SecU.destroy ss (h.set _ goneS U8s.nil)
theorem SecU.erase (L : List Sec) (f : Nat) (h : SecU L) : ∀ k,SecU (eraseTo L f k)
 | 0=>h
 | k + 1=>by rw [eraseTo_succ]; exact (SecU.erase L f h k).set _ blankS U8s.nil
theorem SecU.do_ {g : Geo} {L : List Sec} (h : SecU L) (o : OpV) (ho : U8s o.xs) : SecU (doL g L o):=by
 unfold doL; split
 ·unfold eraseL; split
  ·exact SecU.erase _ _ h _
  ·exact h
 ·unfold writeL; split
  ·exact SecU.destroy _ (h.set _ _ ho)
  ·exact h
theorem SecU.play {g : Geo} : ∀ (l : List OpV) {L : List Sec},SecU L → (∀ o ∈ l,U8s o.xs) → SecU (playL g L l)
 | [],L,h,_=>h
 | o :: l,L,h,ho=>by unfold playL; rw [List.foldl_cons]; exact SecU.play l (h.do_ o (ho o (by simp))) (fun x hx=>ho x (by simp [hx]))
theorem SecU.read {L : List Sec} (h : SecU L) (a : Int) : U8s (readB L a):=by
 unfold readB; split
 ·unfold List.getD
  cases e : L[a.toNat]? with
  | none=>exact U8s.nil
  | some s=>exact h s (List.mem_of_getElem? e)
 ·exact U8s.nil
theorem SecU.blank (n : Nat) : SecU (List.replicate n blankS):=by
 intro s hs; rw [(List.mem_replicate.1 hs).2]; exact U8s.nil
theorem wOne_u8 {g : Geo} {F : List Flt} {key a : Int} {xs : List Int} {d : DC} (h : d.U8) (hx : U8s xs) : (wOne g F key a xs d).1.U8:=by
 obtain ⟨h1,h2⟩:=h
 have hb : ∀ f,U8s (wOp a xs f).xs:=fun f=>by
  unfold wOp byO; simp only; split
  ·exact hx.take _
  ·exact hx
 have h3 : ∀ f,∀ o ∈ d.O ++ [wOp a xs f],U8s o.xs:=fun f o ho=>by
  rcases List.mem_append.1 ho with ho | ho
  ·exact h2 o ho
  ·simp at ho; subst ho; exact hb f
 unfold wOne DC.U8 dWrLM dWrO wrLM wrO
 simp only
 refine ⟨?_,?_⟩
 ·split
  ·split
   ·exact SecU.play _ h1 (fun o ho=>h3 _ o (List.mem_of_mem_take ho))
   ·exact h1
  ·exact h1
 ·intro o ho
  split at ho
  ·split at ho
   ·split at ho
    ·simp at ho
    ·exact h3 _ o ho
   ·exact h2 o ho
  ·exact h2 o ho
theorem rOne_u8 {g : Geo} {F : List Flt} {key a : Int} {d : DC} (h : d.U8) : (rOne g F key a d).1.U8 ∧ U8s (rOne g F key a d).2.by_:=by
 refine ⟨h,?_⟩
 unfold rOne dRdB rdB
 simp only
 repeat' split
 all_goals first | exact U8s.nil | exact SecU.read (SecU.play _ h.1 h.2) _
theorem fOne_u8 {g : Geo} {F : List Flt} {key : Int} {d : DC} (h : d.U8) : (fOne g F key d).1.U8:=by
 obtain ⟨h1,h2⟩:=h
 unfold fOne DC.U8 dFlLM dFlO
 simp only
 refine ⟨?_,?_⟩
 ·split
  ·exact SecU.play _ h1 (fun o ho=>h2 o (List.mem_of_mem_take ho))
  ·exact h1
 ·intro o ho
  split at ho
  ·simp at ho
  ·exact h2 o ho
theorem callN_u8 {f : DC → DC × Ans} (h : ∀ d,d.U8 → (f d).1.U8) {d : DC} (hd : d.U8) : ∀ n,(callN f d n).U8
 | 0=>hd
 | n + 1=>h _ (callN_u8 h hd n)
theorem tryD_u8 {f : DC → DC × Ans} (h : ∀ d,d.U8 → (f d).1.U8) {d : DC} (hd : d.U8) : (tryD f d).1.U8:=callN_u8 h hd _
theorem wrAll_u8 {g : Geo} {F : List Flt} {key a : Int} {ls : List (List Int)} (hls : ∀ l ∈ ls,U8s l) {d : DC} (hd : d.U8) : ∀ k,(wrAll g F key a ls d k).1.U8
 | 0=>hd
 | k + 1=>by
   have ih:=wrAll_u8 (g:=g) (F:=F) (key:=key) (a:=a) hls hd k
   unfold wrAll
   split
   ·exact tryD_u8 (fun d hd=>wOne_u8 hd (by
     unfold List.getD
     cases e : ls[k]? with
     | none=>exact U8s.nil
     | some l=>exact hls l (List.mem_of_getElem? e))) ih
   ·exact ih
theorem rdAll_u8 {g : Geo} {F : List Flt} {key a : Int} {d : DC} (hd : d.U8) : ∀ k,(rdAll g F key a d k).1.U8 ∧ ∀ l ∈ (rdAll g F key a d k).2.1,U8s l
 | 0=>⟨hd,fun l hl=>by simp [rdAll] at hl⟩
 | k + 1=>by
   obtain ⟨i1,i2⟩:=rdAll_u8 (g:=g) (F:=F) (key:=key) (a:=a) hd k
   by_cases h0 : (rdAll g F key a d k).2.2 = 0
   ·have h1 : (tryD (rOne g F key (a + k)) (rdAll g F key a d k).1).1.U8:=tryD_u8 (fun d hd=>(rOne_u8 hd).1) i1
    have h2 : U8s (tryD (rOne g F key (a + k)) (rdAll g F key a d k).1).2.by_:=(rOne_u8 (callN_u8 (fun d hd=>(rOne_u8 hd).1) i1 _)).2
    rw [rdAll_yes h0]
    refine ⟨by rw [rdNext_one]; exact h1,fun l hl=>?_⟩
    rcases rdNext_mem hl with h | h | h
    ·exact i2 l h
    ·rw [h]; exact h2
    ·rw [h]; exact U8s.nil
   ·rw [rdAll_no h0]; exact ⟨i1,i2⟩
end Go.Proofs.YtaggiceejcegdaaGreat
