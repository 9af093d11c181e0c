/-
  WHAT IS SHOWN: more: what begin of the reference's disk returns and leaves. Conditions: as each theorem names them.
-/
import Derived.Test.YtaggiceejcegdaaGreatNc35
import Derived.BigQuiet
import Derived.ChangeKeysEq
import Derived.ChangeOld
import Derived.Deep.AppendLies
import Derived.Deep.DeepCutAuto
import Derived.Deep.Draws
import Derived.Deep.Fields
import Derived.Deep.QuietTactic
import Derived.Deep.RegionHeld3
import Derived.Deep.RegionLaw
import Derived.Deep.Slices
import Derived.Handy
import Derived.Laws.AppendOwnNone
import Derived.Laws.BytesArg
import Derived.Laws.Cover3
import Derived.Laws.MakeOwn
import Derived.Laws.OwnMore
import Derived.Laws.Rows
import Derived.Lib.ConvBytes
import Derived.Lib.Hide
import Derived.Lib.SmallJoins
import Derived.Lib.VarintBits
import Derived.Lib.Zigzag
import Derived.LoopIn
import Derived.LoopNIn
import Derived.Maps.AppendAt
import Derived.OpenShut
import Derived.OwnWalkIn
import Derived.ProofKit
import Derived.RangeFuncBox
import Derived.RangeFuncLeaves
import Derived.Shelf.Abstract
import Derived.Sort.QuietIn
import Derived.TacticsInMore
import Derived.WalkKit
import Derived.WalkLawsBesides
import Derived.WalkMore
import Derived.WalkSpells
import Derived.Test.YtaggiceejcegdaaGreatOf03
namespace Go.Proofs.YtaggiceejcegdaaGreat
set_option linter.unusedVariables false
open Go.RowKit
section
variable {w w' : World} {B C : Bd} {q pw p : Nat} {g : Geo} {F : List Flt} {s : DS} {P R : Pow} {LM : List Sec} {O : List OpV} {FA : Option Addr} {fc : Nat}
theorem rel_ready (s : DS) (h : RelP P R) (hd : s.dead = false) : (stE s P = 0 ↔ readyB s R = true) ∧ (stE s P ≠ 0 → stE s P = 13):=by
 obtain ⟨h1,_,h3,_⟩:=h
 unfold stE readyB
 rw [hd,h1,h3]
 cases R.off
 ·by_cases e : s.seen = R.fails <;> simp [e]
 ·simp
theorem rel_pass (h : RelP P R) (ho : P.off = false) : (callP P).off = !(passP R):=by
 obtain ⟨h1,h2,_,h4⟩:=h
 have ha : R.armed = P.armed:=h2.symm
 unfold callP trip passP
 rw [ha]
 cases hp : P.armed
 ·simp [ho]
 ·rw [← h4 hp]
  by_cases hl : P.left = 0 <;> simp [hl,ho]
theorem stE_off (hs : stE s P = 0) : P.off = false:=by
 unfold stE at hs
 cases ho : P.off
 ·rfl
 ·rw [ho] at hs; cases hd : s.dead <;> simp [hd] at hs
theorem RDsk.of {w0 : World} (ho : w.ownsRow B.n 145 16 (.slice (some ⟨q,0,none⟩) 1 1) 1 (rObj g s p pw FA F.length fc)) (hqx : ¬ B.X q) (hc : RCacheM w0 B p g LM O) (hfl : RdT w0 138 FA (flatF F)) (hk : KeptT RDPT B w0 w) : RDsk w B q pw g F s LM O p FA fc:=
 ⟨ho,hqx,hc.keptT hk (by unfold RDPT; decide),hfl.kept hk (KeptT.free (by unfold RDPT; decide))⟩
theorem RMid.below {w0 : World} {n : Nat} (h : RMid w0 w B q pw g n fc p FA s R) (hb : Below w.heap.size w w') : RMid w0 w' B q pw g n fc p FA s R:=
 ⟨own_kept h.o (belKept0 (S:=fun _=>False) hb) (fun _ _ h=>h),h.p.below0 hb,h.k.thenBelow hb,h.x,own_kept h.z (belKept0 (S:=fun _=>False) hb) (fun _ _ h=>h)⟩
theorem RMid.store {w0 : World} {n : Nat} (h : RMid w0 w B q pw g n fc p FA s R) (j : Nat) (v : Value) (s' : DS) (e : (rObj g s p pw FA n fc).set j v = rObj g s' p pw FA n fc) : RMid w0 (w.setCell ⟨q,j,none⟩ v) B q pw g n fc p FA s' R:=by
 have tq:=IsT.own h.o
 have tz:=IsT.own h.z
 have hk : Kept (fun k=>k = q) w (w.setCell ⟨q,j,none⟩ v):=(Kept.refl (fun k=>k = q) w).setCell (p:=⟨q,j,none⟩) (fun _=>rfl) _
 have hkT : KeptT RDPT B w (w.setCell ⟨q,j,none⟩ v):=KeptT.of hk (fun k _ e=>by have e' : k = q:=e; subst e'; exact ⟨⟨row_low h.o,h.x⟩,HasT.mem tq (by simp [RDPT])⟩)
 have hkD : KeptT [145] B w (w.setCell ⟨q,j,none⟩ v):=KeptT.of hk (fun k _ e=>by have e' : k = q:=e; subst e'; exact ⟨⟨row_low h.o,h.x⟩,HasT.mem tq (by simp)⟩)
 have:=(World.ownsRow.stored h.o j v).1
 rw [e] at this
 exact ⟨this,h.p.keptT hkD (by decide),h.k.trans hkT,h.x,own_kept h.z hk (fun k e=>by simp [Value.ownBlock] at e; subst e; exact tz.ne tq (by decide))⟩
theorem RMid.power {w0 : World} {n : Nat} {R' : Pow} (h : RMid w0 w B q pw g n fc p FA s R) (hp : RPow w' B pw R') (hk : KeptT [131] B w w') : RMid w0 w' B q pw g n fc p FA s R':=
 ⟨own_kept h.o hk (fun k e=>by simp [Value.ownBlock] at e; subst e; exact KeptT.no (IsT.own h.o) (by decide)),hp,h.k.trans (hk.sub (by unfold RDPT; decide)),h.x,own_kept h.z hk (fun k e=>by simp [Value.ownBlock] at e; subst e; exact KeptT.no (IsT.own h.z) (by decide))⟩
theorem RMid.fin {w0 : World} (h : RMid w0 w B q pw g F.length fc p FA s R) (hc : RCacheM w0 B p g LM O) (hfl : RdT w0 138 FA (flatF F)) (a b c : Value) :
  RDsk (((w.setCell ⟨w0.heap.size,0,none⟩ a).setCell ⟨w0.heap.size,1,none⟩ b).setCell ⟨w0.heap.size,2,none⟩ c) B q pw g F s LM O p FA fc ∧ RPow (((w.setCell ⟨w0.heap.size,0,none⟩ a).setCell ⟨w0.heap.size,1,none⟩ b).setCell ⟨w0.heap.size,2,none⟩ c) B pw R ∧
  KeptT RDPT B w0 (((w.setCell ⟨w0.heap.size,0,none⟩ a).setCell ⟨w0.heap.size,1,none⟩ b).setCell ⟨w0.heap.size,2,none⟩ c):=by
 have tq:=IsT.own h.o
 have tp:=IsT.own h.p.obj
 have tz:=IsT.own h.z
 have hk : Kept (fun k=>k = w0.heap.size) w (((w.setCell ⟨w0.heap.size,0,none⟩ a).setCell ⟨w0.heap.size,1,none⟩ b).setCell ⟨w0.heap.size,2,none⟩ c):=
  (((Kept.refl (fun k=>k = w0.heap.size) w).setCell (p:=⟨w0.heap.size,0,none⟩) (fun _=>rfl) _).setCell (p:=⟨w0.heap.size,1,none⟩) (fun _=>rfl) _).setCell (p:=⟨w0.heap.size,2,none⟩) (fun _=>rfl) _
 have hk1 : KeptT RDPT B w0 (((w.setCell ⟨w0.heap.size,0,none⟩ a).setCell ⟨w0.heap.size,1,none⟩ b).setCell ⟨w0.heap.size,2,none⟩ c):=Kept.trans h.k hk (fun i hi e=>by have e' : i = w0.heap.size:=e; omega)
 exact ⟨RDsk.of (own_kept h.o hk (fun k e=>by simp [Value.ownBlock] at e; subst e; exact tq.ne tz (by decide))) h.x hc hfl hk1,⟨own_kept h.p.obj hk (fun k e=>by simp [Value.ownBlock] at e; subst e; exact tp.ne tz (by decide)),h.p.px⟩,hk1⟩
theorem RMid.fin0 {w0 : World} (h : RMid w0 w B q pw g F.length fc p FA s R) (hc : RCacheM w0 B p g LM O) (hfl : RdT w0 138 FA (flatF F)) : RDsk w B q pw g F s LM O p FA fc ∧ RPow w B pw R ∧ KeptT RDPT B w0 w:=⟨RDsk.of h.o h.x hc hfl h.k,h.p,h.k⟩
theorem RMid.res {w0 : World} {n : Nat} (h : RMid w0 w B q pw g n fc p FA s R) : (w.cell? ⟨w0.heap.size,0,none⟩ = some (.int .i64 0) ∧ w.cell? ⟨w0.heap.size,1,none⟩ = some (.int .i64 0) ∧ w.cell? ⟨w0.heap.size,2,none⟩ = some (.int .i64 0)) ∧ w.frozen? ⟨w0.heap.size,0,none⟩ = false ∧ w.frozen? ⟨w0.heap.size,1,none⟩ = false ∧ w.frozen? ⟨w0.heap.size,2,none⟩ = false:=
 ⟨⟨(World.ownsRow.cellAt h.z 0 (by decide)).trans rfl,(World.ownsRow.cellAt h.z 1 (by decide)).trans rfl,(World.ownsRow.cellAt h.z 2 (by decide)).trans rfl⟩,h.z.frozenAt 0,h.z.frozenAt 1,h.z.frozenAt 2⟩
set_option maxRecDepth 100000 in
set_option maxHeartbeats 4000000 in
theorem rbegin_any (key : Int) (h : RDsk w B q pw g F s LM O p FA fc) (hp : RPow w B pw R) (hr : RelP P R) (hn : F.length ≤ 9223372036854775807) :
  Calls Tryz.prog 95 #[.pointer (some ⟨q,0,none⟩),.int .u64 key] w (RBegPost w B q pw g F LM O p FA fc (begD F s P key)):=by
 have hb0 : Below w.heap.size w (w.alloc (.cells #[.int .i64 0,.int .i64 0,.int .i64 0] 138)):=(Below.refl _ _).alloc (Nat.le_refl _) _
 have hz:=World.ownsRow_lit (base:=w.heap.size) (e:=138) (size:=3) w #[.int .i64 0,.int .i64 0,.int .i64 0] 1 (Nat.le_refl _) (by decide) rfl
 have hm0 : RMid w (w.alloc (.cells #[.int .i64 0,.int .i64 0,.int .i64 0] 138)) B q pw g F.length fc p FA s R:=⟨(h.below0 hb0).obj,hp.below0 hb0,KeptT.bel hb0,h.px,hz⟩
 have HFIN:=Lib.hid (fun W s' R' (hm : RMid w W B q pw g F.length fc p FA s' R') a b c=>RMid.fin (a:=a) (b:=b) (c:=c) hm h.c h.fl)
 have HFI0:=Lib.hid (fun W s' R' (hm : RMid w W B q pw g F.length fc p FA s' R')=>RMid.fin0 hm h.c h.fl)
 have HCE : Hid (∀ W s' R',RMid w W B q pw g F.length fc p FA s' R' → W.cell? ⟨q,6,none⟩ = some (.slice FA F.length fc) ∧ W.cell? ⟨q,7,none⟩ = some (.pointer (some ⟨pw,0,none⟩)) ∧ W.cell? ⟨q,8,none⟩ = some (.int .u64 s'.key) ∧ W.cell? ⟨q,9,none⟩ = some (.bool s'.dead) ∧ W.cell? ⟨q,11,none⟩ = some (.int .i64 s'.ops) ∧ W.frozen? ⟨q,9,none⟩ = false ∧ W.frozen? ⟨q,11,none⟩ = false):=by
  unfold Hid; intro W s' R' hm
  exact ⟨(World.ownsRow.cellAt hm.o 6 (by decide)).trans rfl,(World.ownsRow.cellAt hm.o 7 (by decide)).trans rfl,(World.ownsRow.cellAt hm.o 8 (by decide)).trans rfl,(World.ownsRow.cellAt hm.o 9 (by decide)).trans rfl,(World.ownsRow.cellAt hm.o 11 (by decide)).trans rfl,hm.o.frozenAt 9,hm.o.frozenAt 11⟩
 have HBM:=Lib.hid (fun W W' s' R' (hm : RMid w W B q pw g F.length fc p FA s' R') (hb : Below W.heap.size W W')=>hm.below hb)
 have HSO:=Lib.hid (fun W s' R' j v s'' (hm : RMid w W B q pw g F.length fc p FA s' R') e=>hm.store j v s'' e)
 have HRY : Hid (∀ W,RMid w W B q pw g F.length fc p FA s R → Calls Tryz.prog 138 #[.pointer (some ⟨q,0,none⟩)] W fun e w'=>e = .returned (.bool (readyB s R)) ∧ Below W.heap.size W w'):=by
  unfold Hid; intro W hm; exact rready_any (RDsk.of hm.o hm.x h.c h.fl hm.k) hm.p
 have HPC : Hid (∀ W,RMid w W B q pw g F.length fc p FA s R → Calls Tryz.prog 139 #[.pointer (some ⟨pw,0,none⟩)] W fun e w'=>e = .returned (.bool (passP R)) ∧ RMid w w' B q pw g F.length fc p FA s (rcallP R)):=by
  unfold Hid; intro W hm
  refine (rcall_any hm.p).mono ?_
  rintro e w' ⟨rfl,hp',hk'⟩
  exact ⟨rfl,hm.power hp' hk'⟩
 have HAT : Hid (∀ W s' R',RMid w W B q pw g F.length fc p FA s' R' → Calls Tryz.prog 140 #[.slice FA F.length fc,.int .i64 s'.ops] W (AtPost W (atF F s'.ops))):=by
  unfold Hid; intro W s' R' hm; exact rfat_any F s'.ops FA fc W (RDsk.of hm.o hm.x h.c h.fl hm.k).fl.rd hn
 have HRL:=Lib.hid hr
 have HM0:=Lib.hid hm0
 have hce0:=HCE.out _ _ _ hm0
 obtain ⟨_,_,_,c9,_⟩:=hce0
 obtain ⟨⟨r0,r1,r2⟩,g0,g1,g2⟩:=hm0.res
 have HRES:=Lib.hid (fun W s' R' (hm : RMid w W B q pw g F.length fc p FA s' R')=>hm.res)
 clear h hp hr hb0 hz hm0
 cases hdd : s.dead
 ·rw [hdd] at c9
  have hsr:=rel_ready s HRL.out hdd
  cases hrd : readyB s R
  ·rw [hrd] at HRY hsr
   have hne : stE s P ≠ 0:=fun e=>by have:=hsr.1.1 e; cases this
   have HB : Hid (begD F s P key = ⟨13,s,P,noF⟩):=by unfold Hid begD; rw [if_pos hne,hsr.2 hne]
   clear hdd hrd hsr hne
   go_enter Tryz.func95,Tryz.ntmps95
   go_wp2_with fail
   refine (HRY.out _ HM0.out).mono ?_
   rintro e w1 ⟨rfl,hb1⟩
   have HM1:=Lib.hid (HBM.out _ _ _ _ HM0.out hb1)
   obtain ⟨⟨q0,q1,q2⟩,x0,x1,x2⟩:=HRES.out _ _ _ HM1.out
   have HF:=Lib.hid (HFIN.out _ _ _ HM1.out (.int .i64 0) (.int .i64 0) (.int .i64 0))
   go_wp2
   exact bodyPost_ret (by simp [results,Tryz.results95,go_sem, *]; rfl) rfl ⟨noF,R,by rw [HB.out]; rfl,fun h=>by first | (rw [HB.out]; done) | (rw [HB.out] at h; simp at h),by rw [HB.out]; exact HF.out.1,HF.out.2.1,by rw [HB.out]; exact HRL.out,HF.out.2.2⟩
  rw [hrd] at HRY hsr
  have hst : stE s P = 0:=hsr.1.2 rfl
  have hof:=stE_off hst
  have hpp:=rel_pass HRL.out hof
  cases hpa : passP R
  ·rw [hpa] at HPC hpp
   have HB : Hid (begD F s P key = ⟨13,s,callP P,noF⟩):=by unfold Hid begD; rw [if_neg (by simp [hst]),if_pos (show (callP P).off = true by rw [hpp]; rfl)]
   clear hdd hrd hsr hst hof hpp hpa
   skip
   go_enter Tryz.func95,Tryz.ntmps95
   go_wp2_with fail
   refine (HRY.out _ HM0.out).mono ?_
   rintro e w1 ⟨rfl,hb1⟩
   have hm1:=HBM.out _ _ _ _ HM0.out hb1
   obtain ⟨_,d7,_⟩:=HCE.out _ _ _ hm1
   have HPC1:=Lib.hid (HPC.out _ hm1)
   clear hm1 r0 r1 r2 g0 g1 g2 c9
   go_wp2_with fail
   refine HPC1.out.mono ?_
   rintro e w2 ⟨rfl,hm2⟩
   clear d7 HPC1
   have HM2:=Lib.hid hm2
   obtain ⟨⟨q0,q1,q2⟩,x0,x1,x2⟩:=HRES.out _ _ _ hm2
   have HF:=Lib.hid (HFIN.out _ _ _ hm2 (.int .i64 0) (.int .i64 0) (.int .i64 0))
   clear hm2
   go_wp2
   exact bodyPost_ret (by simp [results,Tryz.results95,go_sem, *]; rfl) rfl ⟨noF,(rcallP R),by rw [HB.out]; rfl,fun h=>by first | (rw [HB.out]; done) | (rw [HB.out] at h; simp at h),by rw [HB.out]; exact HF.out.1,HF.out.2.1,by rw [HB.out]; exact HRL.out.call,HF.out.2.2⟩
  rw [hpa] at HPC hpp
  have hpo : ¬ (callP P).off = true:=by rw [hpp]; decide
  by_cases h3 : key ≠ s.key
  ·have HB : Hid (begD F s P key = ⟨17,s,callP P,noF⟩):=by unfold Hid begD; rw [if_neg (by simp [hst]),if_neg hpo,if_pos h3]
   have e3 : (key != s.key) = true:=by simpa using h3
   clear hdd hrd hsr hst hof hpp hpa hpo h3
   skip
   go_enter Tryz.func95,Tryz.ntmps95
   go_wp2_with fail
   refine (HRY.out _ HM0.out).mono ?_
   rintro e w1 ⟨rfl,hb1⟩
   have hm1:=HBM.out _ _ _ _ HM0.out hb1
   obtain ⟨_,d7,_⟩:=HCE.out _ _ _ hm1
   have HPC1:=Lib.hid (HPC.out _ hm1)
   clear hm1 r0 r1 r2 g0 g1 g2 c9
   go_wp2_with fail
   refine HPC1.out.mono ?_
   rintro e w2 ⟨rfl,hm2⟩
   clear d7 HPC1
   have HM2:=Lib.hid hm2
   obtain ⟨_,_,d8,_⟩:=HCE.out _ _ _ hm2
   obtain ⟨⟨q0,q1,q2⟩,x0,x1,x2⟩:=HRES.out _ _ _ hm2
   have HF:=Lib.hid (HFIN.out _ _ _ hm2 (.int .i64 0) (.int .i64 0) (.int .i64 0))
   clear hm2
   go_wp2
   exact bodyPost_ret (by simp [results,Tryz.results95,go_sem, *]; rfl) rfl ⟨noF,(rcallP R),by rw [HB.out]; rfl,fun h=>by first | (rw [HB.out]; done) | (rw [HB.out] at h; simp at h),by rw [HB.out]; exact HF.out.1,HF.out.2.1,by rw [HB.out]; exact HRL.out.call,HF.out.2.2⟩
  have h3' : key = s.key:=by simpa using h3
  subst h3'
  have hBB : begD F s P s.key = if (atF F s.ops).kind = 7 then ⟨14,{ s with ops:=wrap64 (s.ops + 1),dead:=true },callP P,noF⟩ else if (atF F s.ops).kind = 6 then ⟨16,{ s with ops:=wrap64 (s.ops + 1) },callP P,noF⟩ else ⟨0,{ s with ops:=wrap64 (s.ops + 1) },callP P,atF F s.ops⟩:=by unfold begD; rw [if_neg (by simp [hst]),if_neg hpo,if_neg h3]
  have HBB:=Lib.hid hBB
  clear hdd hrd hsr hst hof hpp hpa hpo h3 hBB
  generalize hG : atF F s.ops = f at *
  have HAT2 : Hid (∀ W,RMid w W B q pw g F.length fc p FA s (rcallP R) → Calls Tryz.prog 140 #[.slice FA F.length fc,.int .i64 s.ops] W (fun e w'=>∃ b : Bool,e = .returned (.tuple #[.agg #[.int .i64 f.at_,.int .i64 f.kind,.int .i64 f.to_],.bool b]) ∧ Below W.heap.size W w')):=by unfold Hid; intro W hm; have:=HAT.out W s _ hm; rw [hG] at this; exact this
  clear hG
  skip
  go_enter Tryz.func95,Tryz.ntmps95
  go_wp2_with fail
  refine (HRY.out _ HM0.out).mono ?_
  rintro e w1 ⟨rfl,hb1⟩
  have hm1:=HBM.out _ _ _ _ HM0.out hb1
  obtain ⟨_,d7,_⟩:=HCE.out _ _ _ hm1
  have HPC1:=Lib.hid (HPC.out _ hm1)
  clear hm1 r0 r1 r2 g0 g1 g2 c9
  go_wp2_with fail
  refine HPC1.out.mono ?_
  rintro e w2 ⟨rfl,hm2⟩
  clear d7 HPC1
  obtain ⟨d6,_,d8,d9,d11,f9,f11⟩:=HCE.out w2 _ _ hm2
  have HM2:=Lib.hid hm2
  have hq2:=block_lt_of_cell d11
  simp only at hq2
  have hne2 : ¬ (w2.heap.size = q):=by omega
  have hA0 : Below w2.heap.size w2 w2.drew:=(Below.refl _ _).drew
  have hB0 : Below w2.heap.size w2 (w2.drew.alloc (.cells #[.int .i64 0,.int .i64 0,.int .i64 0] 138)):=((Below.refl w2.heap.size w2).drew).alloc (Nat.le_refl _) _
  have HMA:=Lib.hid (HBM.out w2 _ _ _ hm2 hA0)
  have HMB:=Lib.hid (HBM.out w2 _ _ _ hm2 hB0)
  have HRW : Hid ((w2.drew.alloc (.cells #[.int .i64 0,.int .i64 0,.int .i64 0] 138)).ownsRow w2.heap.size 138 3 (.slice (some ⟨w2.heap.size,0,none⟩) 1 1) 1 [.int .i64 0,.int .i64 0,.int .i64 0]):=World.ownsRow_lit (base:=w2.heap.size) (e:=138) (size:=3) w2.drew #[.int .i64 0,.int .i64 0,.int .i64 0] 1 (Nat.le_refl _) (by decide) rfl
  clear hm2
  go_upto_region 7 with fail
  go_cut [6,7] (fun s8 s9 wx=>∃ T : Nat,s8 = .pointer (some ⟨T,0,none⟩) ∧ Below w2.heap.size w2 wx ∧ Cells3 wx T (.int .i64 f.at_) (.int .i64 f.kind) (.int .i64 f.to_) ∧ w2.heap.size ≤ T)
  case first=>
   have d6B:=(hB0.cell (p:=⟨q,6,none⟩) hq2).trans d6
   have d11B:=(hB0.cell (p:=⟨q,11,none⟩) hq2).trans d11
   go_region_held3 (fun W=>W.cell? ⟨q,6,none⟩ = some (.slice FA F.length fc) ∧ W.cell? ⟨q,11,none⟩ = some (.int .i64 s.ops))
    (first | (refine ⟨?_,?_⟩ <;> assumption) | (simp (maxDischargeDepth:=20) [World.cell?_alloc_some,World.cell?_setCell_far, *]; done))
    ((go_at_call 140
      first
      | (refine (HAT2.out _ HMA.out).mono ?_
         rintro e w3 ⟨b9,rfl,hb3⟩
         have hw3 : Below w2.heap.size w2 w3:=hA0.trans hb3
         have g6:=(hw3.cell (p:=⟨q,6,none⟩) hq2).trans d6
         have g11:=(hw3.cell (p:=⟨q,11,none⟩) hq2).trans d11
         have hrw:=World.ownsRow_lit (base:=w3.heap.size) (e:=138) (size:=3) w3 #[.int .i64 0,.int .i64 0,.int .i64 0] 1 (Nat.le_refl _) (by decide) rfl
         have z0 : (w3.alloc (.cells #[.int .i64 0,.int .i64 0,.int .i64 0] 138)).cell? ⟨w3.heap.size,0,none⟩ = some (.int .i64 0):=(World.ownsRow.cellAt hrw 0 (by decide)).trans rfl
         have z1 : (w3.alloc (.cells #[.int .i64 0,.int .i64 0,.int .i64 0] 138)).cell? ⟨w3.heap.size,1,none⟩ = some (.int .i64 0):=(World.ownsRow.cellAt hrw 1 (by decide)).trans rfl
         have z2 : (w3.alloc (.cells #[.int .i64 0,.int .i64 0,.int .i64 0] 138)).cell? ⟨w3.heap.size,2,none⟩ = some (.int .i64 0):=(World.ownsRow.cellAt hrw 2 (by decide)).trans rfl
         have y0:=hrw.frozenAt 0
         have y1:=hrw.frozenAt 1
         have y2:=hrw.frozenAt 2
         have HRW3:=Lib.hid hrw
         have hne3 : ¬ (w3.heap.size = q):=by have:=hw3.size; omega
         have HW3:=Lib.hid hw3
         clear hrw)
      | (refine (HAT2.out _ HMB.out).mono ?_
         rintro e w3 ⟨b9,rfl,hb3⟩
         have hw3 : Below w2.heap.size w2 w3:=hB0.trans (hb3.mono (by simp))
         have g6:=(hw3.cell (p:=⟨q,6,none⟩) hq2).trans d6
         have g11:=(hw3.cell (p:=⟨q,11,none⟩) hq2).trans d11
         have hrw:=own_kept HRW.out (belKept0 (S:=fun _=>False) hb3) (fun _ _ h=>h)
         have z0 : w3.cell? ⟨w2.heap.size,0,none⟩ = some (.int .i64 0):=(World.ownsRow.cellAt hrw 0 (by decide)).trans rfl
         have z1 : w3.cell? ⟨w2.heap.size,1,none⟩ = some (.int .i64 0):=(World.ownsRow.cellAt hrw 1 (by decide)).trans rfl
         have z2 : w3.cell? ⟨w2.heap.size,2,none⟩ = some (.int .i64 0):=(World.ownsRow.cellAt hrw 2 (by decide)).trans rfl
         have y0:=hrw.frozenAt 0
         have y1:=hrw.frozenAt 1
         have y2:=hrw.frozenAt 2
         have HRW3:=Lib.hid hrw
         have HW3:=Lib.hid hw3
         clear hrw)))
   all_goals go_wp2_with fail
   all_goals go_meet
   ·exact ⟨_,rfl,HW3.out.alloc HW3.out.size _,Cells3.new_at _ _ _ _ _ _ rfl,HW3.out.size⟩
   ·exact ⟨_,rfl,((HW3.out.setCell (p:=⟨w2.heap.size,0,none⟩) (Nat.le_refl _) _).setCell (p:=⟨w2.heap.size,1,none⟩) (Nat.le_refl _) _).setCell (p:=⟨w2.heap.size,2,none⟩) (Nat.le_refl _) _,row3_set HRW3.out _ _ _,Nat.le_refl _⟩
  case rest=>
   obtain ⟨T,rfl,hbc,hC,hT⟩:=hcut
   have hmc:=HBM.out w2 _ _ _ HM2.out hbc
   obtain ⟨_,_,_,_,x11,_,y11⟩:=HCE.out wc _ _ hmc
   have hm3:=HSO.out wc s _ 11 (.int .i64 (wrap64 (s.ops + 1))) { s with ops:=wrap64 (s.ops + 1) } hmc rfl
   have hTq : ¬ (T = q):=by omega
   have hkx : Kept (fun k=>k = q) wc (wc.setCell ⟨q,11,none⟩ (.int .i64 (wrap64 (s.ops + 1)))):=(Kept.refl (fun k=>k = q) wc).setCell (p:=⟨q,11,none⟩) (fun _=>rfl) _
   have k0:=hkx.cell hC.c0 hTq
   have k1:=hkx.cell hC.c1 hTq
   have k2:=hkx.cell hC.c2 hTq
   obtain ⟨_,_,_,z9,_,y9,_⟩:=HCE.out _ _ _ hm3
   have HM3:=Lib.hid hm3
   clear hm3 hmc hkx d6 d8 d9 d11 f9 f11
   by_cases h7 : f.kind = 7
   ·have HB : Hid (begD F s P s.key = ⟨14,{ s with ops:=wrap64 (s.ops + 1),dead:=true },callP P,noF⟩):=by unfold Hid; rw [HBB.out,if_pos h7]
    have n7 : (f.kind == 7) = true:=by simpa using h7
    have hm4:=HSO.out _ _ _ 9 (.bool true) { s with ops:=wrap64 (s.ops + 1),dead:=true } HM3.out rfl
    have hky : Kept (fun k=>k = q) (wc.setCell ⟨q,11,none⟩ (.int .i64 (wrap64 (s.ops + 1)))) ((wc.setCell ⟨q,11,none⟩ (.int .i64 (wrap64 (s.ops + 1)))).setCell ⟨q,9,none⟩ (.bool true)):=(Kept.refl (fun k=>k = q) _).setCell (p:=⟨q,9,none⟩) (fun _=>rfl) _
    have l0:=hky.cell k0 hTq
    have l1:=hky.cell k1 hTq
    have l2:=hky.cell k2 hTq
    obtain ⟨⟨q0,q1,q2⟩,x0,x1,x2⟩:=HRES.out _ _ _ hm4
    have HF:=Lib.hid (HFIN.out _ _ _ hm4 (.int .i64 f.at_) (.int .i64 f.kind) (.int .i64 f.to_))
    clear h7 hm4 hky
    go_wp2
    exact bodyPost_ret (by simp [results,Tryz.results95,go_sem, *]; rfl) rfl ⟨f,(rcallP R),by rw [HB.out]; rfl,fun h=>by first | (rw [HB.out]; done) | (rw [HB.out] at h; simp at h),by rw [HB.out]; exact HF.out.1,HF.out.2.1,by rw [HB.out]; exact HRL.out.call,HF.out.2.2⟩
   have n7 : (f.kind == 7) = false:=by simpa using h7
   obtain ⟨⟨q0,q1,q2⟩,x0,x1,x2⟩:=HRES.out _ _ _ HM3.out
   have HF:=Lib.hid (HFIN.out _ _ _ HM3.out (.int .i64 f.at_) (.int .i64 f.kind) (.int .i64 f.to_))
   by_cases h6 : f.kind = 6
   ·have HB : Hid (begD F s P s.key = ⟨16,{ s with ops:=wrap64 (s.ops + 1) },callP P,noF⟩):=by unfold Hid; rw [HBB.out,if_neg h7,if_pos h6]
    have n6 : (f.kind == 6) = true:=by simpa using h6
    clear h7 h6
    go_wp2
    exact bodyPost_ret (by simp [results,Tryz.results95,go_sem, *]; rfl) rfl ⟨f,(rcallP R),by rw [HB.out]; rfl,fun h=>by first | (rw [HB.out]; done) | (rw [HB.out] at h; simp at h),by rw [HB.out]; exact HF.out.1,HF.out.2.1,by rw [HB.out]; exact HRL.out.call,HF.out.2.2⟩
   have n6 : (f.kind == 6) = false:=by simpa using h6
   have HB : Hid (begD F s P s.key = ⟨0,{ s with ops:=wrap64 (s.ops + 1) },callP P,f⟩):=by unfold Hid; rw [HBB.out,if_neg h7,if_neg h6]
   clear h7 h6
   go_wp2
   exact bodyPost_ret (by simp [results,Tryz.results95,go_sem, *]; rfl) rfl ⟨f,(rcallP R),by rw [HB.out]; rfl,fun h=>by first | (rw [HB.out]; done) | (rw [HB.out] at h; simp at h),by rw [HB.out]; exact HF.out.1,HF.out.2.1,by rw [HB.out]; exact HRL.out.call,HF.out.2.2⟩
 ·have HB : Hid (begD F s P key = ⟨14,s,P,noF⟩):=by unfold Hid begD stE; rw [hdd]; rfl
  rw [hdd] at c9
  clear hdd
  have HF:=Lib.hid (HFI0.out _ _ _ HM0.out)
  go_enter Tryz.func95,Tryz.ntmps95
  go_wp2
  exact bodyPost_ret (by simp [results,Tryz.results95,go_sem, *]; rfl) rfl ⟨noF,R,by rw [HB.out]; rfl,fun h=>by first | (rw [HB.out]; done) | (rw [HB.out] at h; simp at h),by rw [HB.out]; exact HF.out.1,HF.out.2.1,by rw [HB.out]; exact HRL.out,HF.out.2.2⟩
end
end Go.Proofs.YtaggiceejcegdaaGreat
