/-
  WHAT IS SHOWN: more: what NewPower, Arm, Off and New of disk return and leave, and the methods that only read. what Acquire, Restart, Kill, Dead and On of disk return and leave. what the closures of Flush and Erase of disk return and leave, and perform with them. what perform of disk returns and leaves with the closures of Flush and Erase. what Flush and Erase of disk return and leave. plain facts, of no program: operations of a disk that are called again while it is busy; sectors that are written and read one after another. what try of wal returns and leaves: the operation is called as long as it is busy. Conditions: as each theorem names them.
-/
import Derived.Test.YtaggiceejcegdaaGreatNc35
import Derived.BigQuiet
import Derived.ChangeKeysEq
import Derived.ChangeOld
import Derived.Deep.AppendLies
import Derived.Deep.DeepCutAuto
import Derived.Deep.Draws
import Derived.Deep.Fields
import Derived.Deep.QuietTactic
import Derived.Deep.RegionHeld3
import Derived.Deep.RegionLaw
import Derived.Deep.Slices
import Derived.Handy
import Derived.Laws.AppendOwnNone
import Derived.Laws.BytesArg
import Derived.Laws.Cover3
import Derived.Laws.MakeOwn
import Derived.Laws.OwnMore
import Derived.Laws.Rows
import Derived.Lib.ConvBytes
import Derived.Lib.Hide
import Derived.Lib.SmallJoins
import Derived.Lib.VarintBits
import Derived.Lib.Zigzag
import Derived.LoopIn
import Derived.LoopNIn
import Derived.Maps.AppendAt
import Derived.OpenShut
import Derived.OwnWalkIn
import Derived.ProofKit
import Derived.RangeFuncBox
import Derived.RangeFuncLeaves
import Derived.Shelf.Abstract
import Derived.Sort.QuietIn
import Derived.TacticsInMore
import Derived.WalkKit
import Derived.WalkLawsBesides
import Derived.WalkMore
import Derived.WalkSpells
namespace Go.Proofs.YtaggiceejcegdaaGreat
set_option linter.unusedVariables false
open Go.RowKit
section
variable {w w' : World} {B : Bd} {q pw : Nat} {g : Geo} {F : List Flt} {s : DS} {P : Pow} {LM : List Sec} {O : List OpV}
set_option maxHeartbeats 1000000 in
theorem arm_any (n : Int) (hp : PowM w B pw P) : Calls Tryz.prog 36 #[.pointer (some ⟨pw,0,none⟩),.int .i64 n] w fun e w'=>e = .returned (.tuple #[]) ∧ PowM w' B pw (armP P n) ∧ KeptT [120] B w w':=by
 obtain ⟨p0,p1,p2,p3⟩:=hp.cells
 have f0:=hp.obj.frozenAt 0
 have f1:=hp.obj.frozenAt 1
 have f2:=hp.obj.frozenAt 2
 obtain ⟨off,armed,left,fails⟩:=P
 simp only at p0 p1 p2 p3
 cases off
 ·obtain ⟨hp1,hk1⟩:=hp.store 1 (.bool (decide (0 ≤ n))) ⟨false,decide (0 ≤ n),left,fails⟩ rfl
  obtain ⟨hp2,hk2⟩:=hp1.store 2 (.int .i64 n) ⟨false,decide (0 ≤ n),n,fails⟩ rfl
  have HP:=Lib.hid hp2
  have HK:=Lib.hid (hk1.trans hk2)
  clear hp hp1 hp2 hk1 hk2
  go_enter Tryz.func36,Tryz.ntmps36
  go_wp2
  go_end0
  exact ⟨rfl,HP.out,HK.out⟩
 ·have HP:=Lib.hid hp
  clear hp
  go_enter Tryz.func36,Tryz.ntmps36
  go_wp2
  first | go_end0 | refine bodyPost_ret (results_none rfl _ _ _) rfl ?_
  exact ⟨rfl,HP.out,KeptT.refl _ _ _⟩
theorem off_any (hp : PowM w B pw P) : Calls Tryz.prog 37 #[.pointer (some ⟨pw,0,none⟩)] w fun e w'=>e = .returned (.bool P.off) ∧ w = w':=by
 obtain ⟨p0,_,_,_⟩:=hp.cells
 clear hp
 go_enter Tryz.func37,Tryz.ntmps37
 go_wp2
 go_ret
 exact ⟨rfl,rfl⟩
end
end Go.Proofs.YtaggiceejcegdaaGreat
namespace Go.Proofs.YtaggiceejcegdaaGreat
set_option linter.unusedVariables false
open Go.RowKit
section
variable {w w' : World} {B : Bd} {q pw : Nat} {g : Geo} {F : List Flt} {s : DS} {P : Pow} {LM : List Sec} {O : List OpV}
theorem don_any (hp : PowM w B pw P) : Calls Tryz.prog 39 #[.pointer (some ⟨pw,0,none⟩)] w fun e w'=>e = .returned (.tuple #[]) ∧ PowM w' B pw { P with off:=false } ∧ KeptT [120] B w w':=by
 obtain ⟨p0,_,_,_⟩:=hp.cells
 have f0:=hp.obj.frozenAt 0
 have h':=hp.store 0 (.bool false) { P with off:=false } rfl
 have HF:=Lib.hid h'
 clear hp h'
 go_enter Tryz.func39,Tryz.ntmps39
 go_wp2
 go_end0
 exact ⟨rfl,HF.out⟩
set_option maxHeartbeats 1000000 in
theorem drestart_any (keep : Int) (h : DPm w B q pw g F s P LM O) (hn : O.length ≤ 100000) : Calls Tryz.prog 38 #[.pointer (some ⟨q,0,none⟩),.int .i64 keep] w fun e w'=>e = .returned (.int .i64 (rstE s P)) ∧ DPm w' B q pw g F (rstS s P) P (rstLM g s P LM O keep) (rstO s P O) ∧ KeptT DAT B w w':=by
 have H0:=Lib.hid h
 obtain ⟨⟨p,FA,fc,hd⟩,hp,hf,hs,hB⟩:=h
 have c10:=(hd.cell 10 (by decide)).trans (show _ = some (Value.pointer (some ⟨p,0,none⟩)) from rfl)
 have c12:=(hd.cell 12 (by decide)).trans (show _ = some (Value.pointer (some ⟨pw,0,none⟩)) from rfl)
 have c15:=(hd.cell 15 (by decide)).trans (show _ = some (Value.bool s.dead) from rfl)
 obtain ⟨p0,_,_,p3⟩:=hp.cells
 have HC:=Lib.hid (ccut_any keep hd.c hf hB hn)
 have HFX : Hid (∀ W,CacheM W B p g (playL g LM (O.take (cutN keep O.length))) [] → KeptT CT B w W → (W.cell? ⟨q,12,none⟩ = some (.pointer (some ⟨pw,0,none⟩)) ∧ W.cell? ⟨q,13,none⟩ = some (.int .i64 s.seen) ∧ W.frozen? ⟨q,13,none⟩ = false ∧ W.cell? ⟨pw,3,none⟩ = some (.int .i64 P.fails)) ∧
   DPm (W.setCell ⟨q,13,none⟩ (.int .i64 P.fails)) B q pw g F { s with seen:=P.fails } P (playL g LM (O.take (cutN keep O.length))) [] ∧ KeptT DAT B w (W.setCell ⟨q,13,none⟩ (.int .i64 P.fails))):=by
  unfold Hid; intro W hc hk
  have h1:=hd.withC hk hc
  have hp1:=hp.keptT hk (by unfold CT; decide)
  have h2:=h1.store 13 (.int .i64 P.fails) { s with seen:=P.fails } rfl
  exact ⟨⟨(h1.cell 12 (by decide)).trans rfl,(h1.cell 13 (by decide)).trans rfl,h1.free 13,hp1.cells.2.2.2⟩,⟨⟨p,FA,fc,h2.1⟩,hp1.keptT h2.2 (by decide),hf.len (playL_len _ _ _),short_play _ hs,Nat.le_trans hB (Nat.le_trans hk.size h2.2.size)⟩,(hk.sub (by unfold CT DAT; decide)).trans (h2.2.sub (by unfold DAT; decide))⟩
 clear hd hp hf hs
 cases hdd : s.dead
 ·rw [hdd] at c15
  cases ho : P.off
  ·have HE : Hid (rstE s P = 8):=by unfold Hid rstE; simp [hdd,ho]
   rw [ho] at p0
   clear hdd ho
   go_enter Tryz.func38,Tryz.ntmps38
   go_wp2
   go_ret
   unfold rstS rstLM rstO
   rw [HE.out]
   exact ⟨rfl,H0.out,KeptT.refl _ _ _⟩
  ·have HE : Hid (rstE s P = 0):=by unfold Hid rstE; simp [hdd,ho]
   rw [ho] at p0
   clear hdd ho
   go_enter Tryz.func38,Tryz.ntmps38
   go_wp2_with fail
   refine HC.out.mono ?_
   rintro e w1 ⟨rfl,hc1,hk1⟩
   obtain ⟨⟨d12,d13,f13,e3⟩,hfin⟩:=HFX.out w1 hc1 hk1
   have HF:=Lib.hid hfin
   clear hc1 hk1 c10 c12 c15 p0 p3 hfin
   go_wp2
   go_ret
   unfold rstS rstLM rstO
   rw [HE.out]
   exact ⟨rfl,HF.out⟩
 ·have HE : Hid (rstE s P = 14):=by unfold Hid rstE; simp [hdd]
  rw [hdd] at c15
  clear hdd
  go_enter Tryz.func38,Tryz.ntmps38
  go_wp2
  go_ret
  unfold rstS rstLM rstO
  rw [HE.out]
  exact ⟨rfl,H0.out,KeptT.refl _ _ _⟩
end
end Go.Proofs.YtaggiceejcegdaaGreat
namespace Go.Proofs.YtaggiceejcegdaaGreat
set_option linter.unusedVariables false
open Go.RowKit
section
variable {w w' : World} {B : Bd} {q pw p : Nat} {g : Geo} {F : List Flt} {s : DS} {P : Pow} {LM : List Sec} {O : List OpV} {FA : Option Addr} {fc : Nat}
set_option maxRecDepth 100000 in
set_option maxHeartbeats 2000000 in
theorem flushcl_any (f : Flt) (bd : Nat) (fd : Nat × Nat) (h : Dsk w B q pw g F s LM O p FA fc) (hf : Fit g LM) (hB : B.top ≤ w.heap.size) (hn : O.length ≤ 99000) (hd : w.heap[bd]? = some (.cells #[.pointer (some ⟨q,0,none⟩)] 52 fd)) :
  Calls Tryz.prog 99 #[f.val,.pointer (some ⟨bd,0,none⟩)] w (WriteCl w B q pw g F p FA fc 0 { s with f:=wrap64 (s.f + 1) } (playL g LM (O.take O.length)) []):=by
 have hb0 : Below w.heap.size w (w.alloc (.cells #[.int .i64 f.at_,.int .i64 f.kind,.int .i64 f.to_] 138)):=(Below.refl _ _).alloc (Nat.le_refl _) _
 have ld:=lt_of_block hd
 have b0 : (w.alloc (.cells #[.int .i64 f.at_,.int .i64 f.kind,.int .i64 f.to_] 138)).cell? ⟨bd,0,none⟩ = some (.pointer (some ⟨q,0,none⟩)):=by rw [cell_of_row _ _ _ _ _ _ (belObj hb0 hd ld)]; rfl
 have h0:=h.below0 hb0
 have c10:=(h0.cell 10 (by decide)).trans (show _ = some (Value.pointer (some ⟨p,0,none⟩)) from rfl)
 have HC:=Lib.hid (cflush_any h0.c hf (Nat.le_trans hB hb0.size) (by omega))
 have HFX : Hid (∀ W,CacheM W B p g (playL g LM (O.take O.length)) [] → KeptT CT B (w.alloc (.cells #[.int .i64 f.at_,.int .i64 f.kind,.int .i64 f.to_] 138)) W → (W.cell? ⟨bd,0,none⟩ = some (.pointer (some ⟨q,0,none⟩)) ∧ W.cell? ⟨q,3,none⟩ = some (.int .i64 s.f) ∧ W.frozen? ⟨q,3,none⟩ = false) ∧
   Dsk (W.setCell ⟨q,3,none⟩ (.int .i64 (wrap64 (s.f + 1)))) B q pw g F { s with f:=wrap64 (s.f + 1) } (playL g LM (O.take O.length)) [] p FA fc ∧ KeptT DT B w (W.setCell ⟨q,3,none⟩ (.int .i64 (wrap64 (s.f + 1))))):=by
  unfold Hid; intro W hc hk
  have h1:=h0.withC hk hc
  have h2:=h1.store 3 (.int .i64 (wrap64 (s.f + 1))) { s with f:=wrap64 (s.f + 1) } rfl
  have q':=Kept.obj hk (belObj hb0 hd ld) (KeptT.no (IsT.of (belObj hb0 hd ld)) (by unfold CT; decide))
  exact ⟨⟨by rw [cell_of_row _ _ _ _ _ _ q']; rfl,(h1.cell 3 (by decide)).trans rfl,h1.free 3⟩,h2.1,(((KeptT.bel hb0).trans hk).sub ct_dt).trans (h2.2.sub d_dt)⟩
 clear h h0 hf hd
 obtain ⟨fat,fk,fto⟩:=f
 unfold Flt.val
 simp only at *
 go_enter Tryz.func99,Tryz.ntmps99
 go_wp2_with fail
 refine HC.out.mono ?_
 rintro e w1 ⟨rfl,hc1,hk1⟩
 obtain ⟨⟨d0,d3,f3⟩,hfin⟩:=HFX.out w1 hc1 hk1
 have HF:=Lib.hid hfin
 clear hc1 hk1 hfin b0 c10
 go_wp2
 go_ret
 exact ⟨rfl,HF.out⟩
end
end Go.Proofs.YtaggiceejcegdaaGreat
namespace Go.Proofs.YtaggiceejcegdaaGreat
set_option linter.unusedVariables false
open Go.RowKit
section
variable {w w' : World} {B : Bd} {q pw p : Nat} {g : Geo} {F : List Flt} {s : DS} {P : Pow} {LM : List Sec} {O : List OpV} {FA : Option Addr} {fc : Nat}
set_option maxRecDepth 100000 in
set_option maxHeartbeats 4000000 in
theorem flushperf_any {w0 : World} (key : Int) (bd : Nat) (Q : Int → World → Prop) (ho : w.ownsRow B.n 127 16 (.slice (some ⟨q,0,none⟩) 1 1) 1 (dObj g s p pw FA F.length fc)) (hqx : ¬ B.X q) (hp : PowM w B pw P) (hk : KeptT DPT B w0 w) (hc : CacheM w0 B p g LM O) (hfl : RdT w0 138 FA (flatF F)) (hn : F.length ≤ 9223372036854775807) (hB : B.top ≤ w.heap.size)
  (HW : ∀ W,Mid w0 W B q pw g F.length fc p FA (begD F s P key).s (begD F s P key).P → KeptT DPT B w W → (begD F s P key).er = 0 → Calls Tryz.prog 99 #[(begD F s P key).f.val,.pointer (some ⟨bd,0,none⟩)] W fun e w'=>∃ er,e = .returned (.int .i64 er) ∧ Q er w') :
  Calls Tryz.prog 90 #[.pointer (some ⟨q,0,none⟩),.int .u64 key,.func (.func 99) #[] #[.pointer (some ⟨bd,0,none⟩)]] w (PerfPost w0 w B q pw g F.length fc p FA (begD F s P key) Q):=by
 have h:=Dsk.of ho hqx hc hfl hk
 have HST:=Lib.hid (dstate_any h hp)
 have HSK : Hid (∀ W,Below w.heap.size w W → Mid w0 W B q pw g F.length fc p FA s P ∧ KeptT DPT B w W):=by
  unfold Hid; intro W hW; exact ⟨⟨(h.below0 hW).obj,hp.below0 hW,hk.thenBelow hW,hqx⟩,KeptT.bel hW⟩
 have HPC : Hid (∀ W,Below w.heap.size w W → Calls Tryz.prog 133 #[.pointer (some ⟨pw,0,none⟩)] W fun e w'=>e = .returned (.bool (!(callP P).off)) ∧ Mid w0 w' B q pw g F.length fc p FA s (callP P) ∧ KeptT DPT B w w'):=by
  unfold Hid; intro W hW
  refine (pcall_any (hp.below0 hW)).mono ?_
  rintro e w' ⟨rfl,hp',hk'⟩
  have hkd : KeptT DPT B W w':=hk'.sub (by unfold DPT; decide)
  exact ⟨rfl,⟨own_kept (h.below0 hW).obj hk' (fun k e=>by simp [Value.ownBlock] at e; subst e; exact KeptT.no (IsT.own (h.below0 hW).obj) (by decide)),hp',(hk.thenBelow hW).trans hkd,hqx⟩,(KeptT.bel hW).trans hkd⟩
 have HCE : Hid (∀ W s' P',Mid w0 W B q pw g F.length fc p FA s' P' → W.cell? ⟨q,4,none⟩ = some (.int .i64 s'.ops) ∧ W.cell? ⟨q,11,none⟩ = some (.slice FA F.length fc) ∧ W.cell? ⟨q,12,none⟩ = some (.pointer (some ⟨pw,0,none⟩)) ∧ W.cell? ⟨q,14,none⟩ = some (.int .u64 s'.key) ∧ W.cell? ⟨q,15,none⟩ = some (.bool s'.dead) ∧ W.frozen? ⟨q,4,none⟩ = false ∧ W.frozen? ⟨q,15,none⟩ = false):=by
  unfold Hid; intro W s' P' hm
  have h':=Dsk.of hm.o hm.x hc hfl hm.k
  exact ⟨(h'.cell 4 (by decide)).trans rfl,(h'.cell 11 (by decide)).trans rfl,(h'.cell 12 (by decide)).trans rfl,(h'.cell 14 (by decide)).trans rfl,(h'.cell 15 (by decide)).trans rfl,h'.free 4,h'.free 15⟩
 have HAT : Hid (∀ W s' P',Mid w0 W B q pw g F.length fc p FA s' P' → Calls Tryz.prog 134 #[.slice FA F.length fc,.int .i64 s'.ops] W (AtPost W (atF F s'.ops))):=by
  unfold Hid; intro W s' P' hm; exact fat_any F s'.ops FA fc W (Dsk.of hm.o hm.x hc hfl hm.k).fl.rd hn
 have HBM : Hid (∀ W W' s' P',Mid w0 W B q pw g F.length fc p FA s' P' → Below W.heap.size W W' → Mid w0 W' B q pw g F.length fc p FA s' P'):=by
  unfold Hid; intro W W' s' P' hm hb; exact ⟨((Dsk.of hm.o hm.x hc hfl hm.k).below0 hb).obj,hm.p.below0 hb,hm.k.thenBelow hb,hm.x⟩
 have HSO : Hid (∀ W s' P' j v s'',Mid w0 W B q pw g F.length fc p FA s' P' → (dObj g s' p pw FA F.length fc).set j v = dObj g s'' p pw FA F.length fc → Mid w0 (W.setCell ⟨q,j,none⟩ v) B q pw g F.length fc p FA s'' P' ∧ KeptT DPT B W (W.setCell ⟨q,j,none⟩ v)):=by
  unfold Hid; intro W s' P' j v s'' hm he
  have h':=(Dsk.of hm.o hm.x hc hfl hm.k).store j v s'' he
  have hkd : KeptT DPT B W (W.setCell ⟨q,j,none⟩ v):=h'.2.sub (by unfold DPT; decide)
  exact ⟨⟨h'.1.obj,hm.p.keptT h'.2 (by decide),hm.k.trans hkd,hm.x⟩,hkd⟩
 have c0:=HCE.out w s P ⟨ho,hp,hk,hqx⟩
 have HW':=Lib.hid HW
 clear h ho hp hk hc hfl HW
 by_cases h1 : stE s P ≠ 0
 ·have HB : Hid (begD F s P key = ⟨stE s P,s,P,noF⟩):=by unfold Hid begD; rw [if_pos h1]
  have e1 : (stE s P != 0) = true:=by simpa using h1
  generalize hE : stE s P = E at *
  clear hE
  go_enter Tryz.func90,Tryz.ntmps90
  go_wp2_with fail
  refine HST.out.mono ?_
  rintro e w1 ⟨rfl,hb1⟩
  have HM:=Lib.hid (HSK.out w1 hb1)
  go_wp2
  go_ret
  rw [HB.out]
  unfold PerfPost
  rw [if_neg h1]
  exact ⟨rfl,HM.out.1,HM.out.2⟩
 have h1' : stE s P = 0:=by simpa using h1
 rw [h1'] at HST
 by_cases h2 : (callP P).off = true
 ·have HB : Hid (begD F s P key = ⟨13,s,callP P,noF⟩):=by unfold Hid begD; rw [if_neg h1,if_pos h2]
  rw [h2] at HPC
  clear h1 h1'
  skip
  go_enter Tryz.func90,Tryz.ntmps90
  go_wp2_with fail
  refine HST.out.mono ?_
  rintro e w1 ⟨rfl,hb1⟩
  obtain ⟨hm1,hk1⟩:=HSK.out w1 hb1
  obtain ⟨_,_,d12,_⟩:=HCE.out w1 s P hm1
  clear c0 hm1
  go_wp2_with fail
  refine (HPC.out _ hb1).mono ?_
  rintro e w2 ⟨rfl,hm2,hk2⟩
  clear d12
  have HM:=Lib.hid hm2
  clear hm2
  go_wp2
  go_ret
  rw [HB.out]
  unfold PerfPost
  rw [if_neg (show ¬ ((13 : Int) = 0) by decide)]
  exact ⟨rfl,HM.out,hk2⟩
 have h2' : (callP P).off = false:=by simpa using h2
 rw [h2'] at HPC
 by_cases h3 : key ≠ s.key
 ·have HB : Hid (begD F s P key = ⟨17,s,callP P,noF⟩):=by unfold Hid begD; rw [if_neg h1,if_neg h2,if_pos h3]
  have e3 : (key != s.key) = true:=by simpa using h3
  clear h1 h1' h3
  skip
  go_enter Tryz.func90,Tryz.ntmps90
  go_wp2_with fail
  refine HST.out.mono ?_
  rintro e w1 ⟨rfl,hb1⟩
  obtain ⟨hm1,hk1⟩:=HSK.out w1 hb1
  obtain ⟨_,_,d12,_⟩:=HCE.out w1 s P hm1
  clear c0 hm1
  go_wp2_with fail
  refine (HPC.out _ hb1).mono ?_
  rintro e w2 ⟨rfl,hm2,hk2⟩
  clear d12
  obtain ⟨_,_,_,d14,_⟩:=HCE.out w2 _ _ hm2
  have HM:=Lib.hid hm2
  clear hm2
  go_wp2
  go_ret
  rw [HB.out]
  unfold PerfPost
  rw [if_neg (show ¬ ((17 : Int) = 0) by decide)]
  exact ⟨rfl,HM.out,hk2⟩
 have h3' : key = s.key:=by simpa using h3
 subst h3'
 have hBB : begD F s P s.key = if (atF F s.ops).kind = 7 then ⟨14,{ s with ops:=wrap64 (s.ops + 1),dead:=true },callP P,noF⟩ else if (atF F s.ops).kind = 6 then ⟨16,{ s with ops:=wrap64 (s.ops + 1) },callP P,noF⟩ else ⟨0,{ s with ops:=wrap64 (s.ops + 1) },callP P,atF F s.ops⟩:=by unfold begD; rw [if_neg h1,if_neg h2,if_neg h3]
 have HBB:=Lib.hid hBB
 clear h1 h1' h2 h3 hBB
 generalize hG : atF F s.ops = f at *
 have HAT2 : Hid (∀ W,Mid w0 W B q pw g F.length fc p FA s (callP P) → Calls Tryz.prog 134 #[.slice FA F.length fc,.int .i64 s.ops] W (fun e w'=>∃ b : Bool,e = .returned (.tuple #[.agg #[.int .i64 f.at_,.int .i64 f.kind,.int .i64 f.to_],.bool b]) ∧ Below W.heap.size W w')):=by unfold Hid; intro W hm; have:=HAT.out W s _ hm; rw [hG] at this; exact this
 clear hG
 skip
 go_enter Tryz.func90,Tryz.ntmps90
 go_wp2_with fail
 refine HST.out.mono ?_
 rintro e w1 ⟨rfl,hb1⟩
 obtain ⟨hm1,hk1⟩:=HSK.out w1 hb1
 obtain ⟨_,_,d12,_⟩:=HCE.out w1 s P hm1
 clear c0 hm1
 go_wp2_with fail
 refine (HPC.out _ hb1).mono ?_
 rintro e w2 ⟨rfl,hm2,hk2⟩
 clear d12
 obtain ⟨d4,d11,_,d14,d15,f4,f15⟩:=HCE.out w2 _ _ hm2
 have HM2:=Lib.hid hm2
 have hq2:=block_lt_of_cell d4
 simp only at hq2
 have hne2 : ¬ (w2.heap.size = q):=by omega
 have hA0 : Below w2.heap.size w2 w2.drew:=(Below.refl _ _).drew
 have hB0 : Below w2.heap.size w2 (w2.drew.alloc (.cells #[.int .i64 0,.int .i64 0,.int .i64 0] 138)):=((Below.refl w2.heap.size w2).drew).alloc (Nat.le_refl _) _
 have HMA:=Lib.hid (HBM.out w2 _ _ _ hm2 hA0)
 have HMB:=Lib.hid (HBM.out w2 _ _ _ hm2 hB0)
 have HRW : Hid ((w2.drew.alloc (.cells #[.int .i64 0,.int .i64 0,.int .i64 0] 138)).ownsRow w2.heap.size 138 3 (.slice (some ⟨w2.heap.size,0,none⟩) 1 1) 1 [.int .i64 0,.int .i64 0,.int .i64 0]):=World.ownsRow_lit (base:=w2.heap.size) (e:=138) (size:=3) w2.drew #[.int .i64 0,.int .i64 0,.int .i64 0] 1 (Nat.le_refl _) (by decide) rfl
 clear hm2
 go_upto_region 8 with fail
 go_cut [8,9] (fun s8 s9 wx=>∃ T : Nat,s8 = .pointer (some ⟨T,0,none⟩) ∧ Below w2.heap.size w2 wx ∧ Cells3 wx T (.int .i64 f.at_) (.int .i64 f.kind) (.int .i64 f.to_) ∧ w2.heap.size ≤ T)
 case first=>
  have d4B:=(hB0.cell (p:=⟨q,4,none⟩) hq2).trans d4
  have d11B:=(hB0.cell (p:=⟨q,11,none⟩) hq2).trans d11
  go_region_held3 (fun W=>W.cell? ⟨q,11,none⟩ = some (.slice FA F.length fc) ∧ W.cell? ⟨q,4,none⟩ = some (.int .i64 s.ops))
   (first | (refine ⟨?_,?_⟩ <;> assumption) | (simp (maxDischargeDepth:=20) [World.cell?_alloc_some,World.cell?_setCell_far, *]; done))
   ((go_at_call 134
     first
     | (refine (HAT2.out _ HMA.out).mono ?_
        rintro e w3 ⟨b9,rfl,hb3⟩
        have hw3 : Below w2.heap.size w2 w3:=hA0.trans hb3
        have g4:=(hw3.cell (p:=⟨q,4,none⟩) hq2).trans d4
        have g11:=(hw3.cell (p:=⟨q,11,none⟩) hq2).trans d11
        have hrw:=World.ownsRow_lit (base:=w3.heap.size) (e:=138) (size:=3) w3 #[.int .i64 0,.int .i64 0,.int .i64 0] 1 (Nat.le_refl _) (by decide) rfl
        have z0 : (w3.alloc (.cells #[.int .i64 0,.int .i64 0,.int .i64 0] 138)).cell? ⟨w3.heap.size,0,none⟩ = some (.int .i64 0):=(World.ownsRow.cellAt hrw 0 (by decide)).trans rfl
        have z1 : (w3.alloc (.cells #[.int .i64 0,.int .i64 0,.int .i64 0] 138)).cell? ⟨w3.heap.size,1,none⟩ = some (.int .i64 0):=(World.ownsRow.cellAt hrw 1 (by decide)).trans rfl
        have z2 : (w3.alloc (.cells #[.int .i64 0,.int .i64 0,.int .i64 0] 138)).cell? ⟨w3.heap.size,2,none⟩ = some (.int .i64 0):=(World.ownsRow.cellAt hrw 2 (by decide)).trans rfl
        have y0:=hrw.frozenAt 0
        have y1:=hrw.frozenAt 1
        have y2:=hrw.frozenAt 2
        have HRW3:=Lib.hid hrw
        have hne3 : ¬ (w3.heap.size = q):=by have:=hw3.size; omega
        have HW3:=Lib.hid hw3
        clear hrw)
     | (refine (HAT2.out _ HMB.out).mono ?_
        rintro e w3 ⟨b9,rfl,hb3⟩
        have hw3 : Below w2.heap.size w2 w3:=hB0.trans (hb3.mono (by simp))
        have g4:=(hw3.cell (p:=⟨q,4,none⟩) hq2).trans d4
        have g11:=(hw3.cell (p:=⟨q,11,none⟩) hq2).trans d11
        have hrw:=own_kept HRW.out (belKept0 (S:=fun _=>False) hb3) (fun _ _ h=>h)
        have z0 : w3.cell? ⟨w2.heap.size,0,none⟩ = some (.int .i64 0):=(World.ownsRow.cellAt hrw 0 (by decide)).trans rfl
        have z1 : w3.cell? ⟨w2.heap.size,1,none⟩ = some (.int .i64 0):=(World.ownsRow.cellAt hrw 1 (by decide)).trans rfl
        have z2 : w3.cell? ⟨w2.heap.size,2,none⟩ = some (.int .i64 0):=(World.ownsRow.cellAt hrw 2 (by decide)).trans rfl
        have y0:=hrw.frozenAt 0
        have y1:=hrw.frozenAt 1
        have y2:=hrw.frozenAt 2
        have HRW3:=Lib.hid hrw
        have HW3:=Lib.hid hw3
        clear hrw)))
  all_goals go_wp2_with fail
  all_goals go_meet
  ·exact ⟨_,rfl,HW3.out.alloc HW3.out.size _,Cells3.new_at _ _ _ _ _ _ rfl,HW3.out.size⟩
  ·exact ⟨_,rfl,((HW3.out.setCell (p:=⟨w2.heap.size,0,none⟩) (Nat.le_refl _) _).setCell (p:=⟨w2.heap.size,1,none⟩) (Nat.le_refl _) _).setCell (p:=⟨w2.heap.size,2,none⟩) (Nat.le_refl _) _,row3_set HRW3.out _ _ _,Nat.le_refl _⟩
 case rest=>
  obtain ⟨T,rfl,hbc,hC,hT⟩:=hcut
  have hmc:=HBM.out w2 _ _ _ HM2.out hbc
  obtain ⟨x4,_,_,_,_,y4,_⟩:=HCE.out wc _ _ hmc
  obtain ⟨hm3,hk3⟩:=HSO.out wc s _ 4 (.int .i64 (wrap64 (s.ops + 1))) { s with ops:=wrap64 (s.ops + 1) } hmc rfl
  have hTq : ¬ (T = q):=by omega
  have hkx : Kept (fun k=>k = q) wc (wc.setCell ⟨q,4,none⟩ (.int .i64 (wrap64 (s.ops + 1)))):=(Kept.refl (fun k=>k = q) wc).setCell (p:=⟨q,4,none⟩) (fun _=>rfl) _
  have k0:=hkx.cell hC.c0 hTq
  have k1:=hkx.cell hC.c1 hTq
  have k2:=hkx.cell hC.c2 hTq
  have hk13:=(hk2.thenBelow hbc).trans hk3
  obtain ⟨_,_,_,_,z15,_,y15⟩:=HCE.out _ _ _ hm3
  have HM3:=Lib.hid hm3
  clear hm3 hmc hk3 hkx d4 d11 d14 d15 f4 f15
  by_cases h7 : f.kind = 7
  ·have HB : Hid (begD F s P s.key = ⟨14,{ s with ops:=wrap64 (s.ops + 1),dead:=true },callP P,noF⟩):=by unfold Hid; rw [HBB.out,if_pos h7]
   have n7 : (f.kind == 7) = true:=by simpa using h7
   clear h7
   have hm4:=(HSO.out _ _ _ 15 (.bool true) { s with ops:=wrap64 (s.ops + 1),dead:=true } HM3.out rfl)
   have HM4:=Lib.hid hm4.1
   have hk14:=hk13.trans hm4.2
   clear hm4
   go_wp2
   go_ret
   rw [HB.out]
   unfold PerfPost
   rw [if_neg (show ¬ ((14 : Int) = 0) by decide)]
   exact ⟨rfl,HM4.out,hk14⟩
  have n7 : (f.kind == 7) = false:=by simpa using h7
  by_cases h6 : f.kind = 6
  ·have HB : Hid (begD F s P s.key = ⟨16,{ s with ops:=wrap64 (s.ops + 1) },callP P,noF⟩):=by unfold Hid; rw [HBB.out,if_neg h7,if_pos h6]
   have n6 : (f.kind == 6) = true:=by simpa using h6
   clear h7 h6
   go_wp2
   go_ret
   rw [HB.out]
   unfold PerfPost
   rw [if_neg (show ¬ ((16 : Int) = 0) by decide)]
   exact ⟨rfl,HM3.out,hk13⟩
  have n6 : (f.kind == 6) = false:=by simpa using h6
  have HB : Hid (begD F s P s.key = ⟨0,{ s with ops:=wrap64 (s.ops + 1) },callP P,f⟩):=by unfold Hid; rw [HBB.out,if_neg h7,if_neg h6]
  clear h7 h6
  have HCL:=HW'.out _ (by rw [HB.out]; exact HM3.out) hk13 (by rw [HB.out])
  rw [HB.out] at HCL
  have HCL2:=Lib.hid HCL
  clear HCL
  unfold Flt.val at HCL2
  go_wp2_with fail
  refine HCL2.out.mono ?_
  rintro e w5 ⟨er,rfl,hQ⟩
  have HQ:=Lib.hid hQ
  clear hQ
  go_wp2
  go_ret
  rw [HB.out]
  unfold PerfPost
  rw [if_pos rfl]
  exact ⟨er,rfl,HQ.out⟩
end
end Go.Proofs.YtaggiceejcegdaaGreat
namespace Go.Proofs.YtaggiceejcegdaaGreat
set_option linter.unusedVariables false
open Go.RowKit
section
variable {w w' : World} {B : Bd} {q pw : Nat} {g : Geo} {F : List Flt} {s : DS} {P : Pow} {LM : List Sec} {O : List OpV}
set_option maxRecDepth 100000 in
set_option maxHeartbeats 2000000 in
theorem dflush_any (key : Int) (h : DPm w B q pw g F s P LM O) (hn : F.length ≤ 9223372036854775807) (hon : O.length ≤ 99000) :
  Calls Tryz.prog 59 #[.pointer (some ⟨q,0,none⟩),.int .u64 key] w (DFlushPost w B q pw g F s P LM O key):=by
 obtain ⟨⟨p,FA,fc,hd⟩,hp,hf,hs,hB⟩:=h
 have hb0 : Below w.heap.size w (w.alloc (.cells #[.pointer (some ⟨q,0,none⟩)] 52)):=(Below.refl _ _).alloc (Nat.le_refl _) _
 have o0:=heap_alloc_new w (.cells #[.pointer (some ⟨q,0,none⟩)] 52)
 have hd3:=hd.below0 hb0
 have hp3:=hp.below0 hb0
 have HPF:=flushperf_any (LM:=LM) (O:=O) (FA:=FA) (fc:=fc) key w.heap.size
  (fun er w'=>er = 0 ∧ Dsk w' B q pw g F { (begD F s P key).s with f:=wrap64 ((begD F s P key).s.f + 1) } (playL g LM (O.take O.length)) [] p FA fc ∧ PowM w' B pw (begD F s P key).P ∧ KeptT DAT B w w')
  hd3.obj hd3.px hp3 (KeptT.bel hb0) hd.c hd.fl hn (Nat.le_trans hB hb0.size) (fun W hm hk he=>by
   refine (flushcl_any (begD F s P key).f w.heap.size _ (Dsk.of hm.o hm.x hd.c hd.fl hm.k) hf (Nat.le_trans hB hm.k.size) hon (Kept.obj hk o0 (KeptT.no (IsT.of o0) (by unfold DPT; decide)))).mono ?_
   rintro e w' ⟨rfl,hdd,hkw⟩
   exact ⟨_,rfl,rfl,hdd,hm.p.keptT hkw (by unfold DT; decide),(hm.k.sub dpt_dat).trans (hkw.sub dt_dat)⟩)
 have HMD : Hid (∀ W s' P',Mid w W B q pw g F.length fc p FA s' P' → DPm W B q pw g F s' P' LM O ∧ KeptT DAT B w W):=by
  unfold Hid; intro W s' P' hm
  exact ⟨⟨⟨p,FA,fc,Dsk.of hm.o hm.x hd.c hd.fl hm.k⟩,hm.p,hf,hs,Nat.le_trans hB hm.k.size⟩,hm.k.sub dpt_dat⟩
 have HF2:=Lib.hid hf
 have HS2:=Lib.hid hs
 have HP:=Lib.hid HPF
 clear HPF hd hp hf hs hd3 hp3 o0
 by_cases he : (begD F s P key).er = 0
 ·have HDS : Hid (dFlS F s P key = { (begD F s P key).s with f:=wrap64 ((begD F s P key).s.f + 1) }):=by unfold Hid dFlS; rw [if_pos he]
  have HDL : Hid (dFlLM g F s P LM O key = playL g LM (O.take O.length)):=by unfold Hid dFlLM; rw [if_pos he]
  have HDO : Hid (dFlO F s P O key = []):=by unfold Hid dFlO; rw [if_pos he]
  have HE0:=Lib.hid he
  clear he
  go_enter Tryz.func59,Tryz.ntmps59
  go_wp2_with fail
  refine HP.out.mono ?_
  intro e w1 hpp
  unfold PerfPost at hpp
  rw [if_pos HE0.out] at hpp
  obtain ⟨er,rfl,rfl,hdd,hpw,hk'⟩:=hpp
  have HMM:=Lib.hid (show DPm w1 B q pw g F { (begD F s P key).s with f:=wrap64 ((begD F s P key).s.f + 1) } (begD F s P key).P (playL g LM (O.take O.length)) [] from ⟨⟨p,FA,fc,hdd⟩,hpw,HF2.out.len (playL_len _ _ _),short_play _ HS2.out,Nat.le_trans hB hk'.size⟩)
  clear hdd hpw
  go_wp2
  go_ret
  unfold DFlushPost
  rw [HE0.out,HDS.out,HDL.out,HDO.out]
  exact ⟨rfl,HMM.out,hk'⟩
 ·have HDS : Hid (dFlS F s P key = (begD F s P key).s):=by unfold Hid dFlS; rw [if_neg he]
  have HDL : Hid (dFlLM g F s P LM O key = LM):=by unfold Hid dFlLM; rw [if_neg he]
  have HDO : Hid (dFlO F s P O key = O):=by unfold Hid dFlO; rw [if_neg he]
  have HE0:=Lib.hid he
  clear he
  go_enter Tryz.func59,Tryz.ntmps59
  go_wp2_with fail
  refine HP.out.mono ?_
  intro e w1 hpp
  unfold PerfPost at hpp
  rw [if_neg HE0.out] at hpp
  obtain ⟨rfl,hm,hkw⟩:=hpp
  have HMM:=Lib.hid (HMD.out w1 _ _ hm)
  clear hm hkw
  go_wp2
  go_ret
  unfold DFlushPost
  rw [HDS.out,HDL.out,HDO.out]
  exact ⟨rfl,HMM.out.1,HMM.out.2⟩
end
end Go.Proofs.YtaggiceejcegdaaGreat
namespace Go.Proofs.YtaggiceejcegdaaGreat
set_option linter.unusedVariables false
theorem fOne_len (g : Geo) (F : List Flt) (key : Int) (d : DC) : (fOne g F key d).1.O.length ≤ d.O.length + 1:=by
 unfold fOne dFlO
 simp only
 repeat' split
 all_goals simp
theorem allD_ok {g : Geo} {key a : Int} {ls : List (List Int)} {no : Nat → Bool} {m : MS} {N : Nat} (h : m.Ok N) : (allD g key a ls no m).1.Ok (N + 9 * ls.length):=allK_ok h _
end Go.Proofs.YtaggiceejcegdaaGreat
namespace Go.Proofs.YtaggiceejcegdaaGreat
set_option linter.unusedVariables false
open Go.RowKit
set_option maxRecDepth 100000 in
set_option maxHeartbeats 4000000 in
theorem tryflush_any {w : World} (bd bk : Nat) (J : Nat → World → Prop) (er : Nat → Int) (h0 : J 0 w) (HC : ∀ n W,n ≤ 8 → J n W → Calls Tryz.prog 58 #[.pointer (some ⟨bd,0,none⟩),.pointer (some ⟨bk,0,none⟩)] W fun e w'=>e = .returned (.int .i64 (er n)) ∧ J (n + 1) w') :
  Calls Tryz.prog 54 #[.func (.func 58) #[] #[.pointer (some ⟨bd,0,none⟩),.pointer (some ⟨bk,0,none⟩)]] w fun e w'=>∃ k,e = .returned (.int .i64 (er k)) ∧ J (k + 1) w' ∧ (∀ j,j < k → er j = 16) ∧ (k = 8 ∨ (k ≤ 8 ∧ ¬ er k = 16)):=by
 have HC':=Lib.hid HC
 clear HC
 go_enter Tryz.func54,Tryz.ntmps54
 go_wp2_with fail
 refine (HC'.out 0 w (by omega) h0).mono ?_
 rintro e w1 ⟨rfl,h1⟩
 go_wp2
 go_loopw [3,4] (fun e n wr=>∃ k : Nat,k ≤ 8 ∧ e = .int .i64 (er k) ∧ n = .int .i64 ((k + 1 : Nat) : Int) ∧ J (k + 1) wr ∧ Hid (∀ j,j < k → er j = 16)) (fun _ n _=>10 - (intOf n).toNat)
 case atStart=>exact ⟨0,by omega,rfl,rfl,h1,by unfold Hid; intro j hj; omega⟩
 case round=>
  obtain ⟨k,hk,rfl,rfl,hJ,HJ⟩:=hrel
  generalize hE : er k = E at *
  by_cases h8 : k < 8
  ·by_cases h16 : E = 16
   ·subst h16
    have d1 : decide (((k + 1 : Nat) : Int) < 9) = true:=decide_eq_true (by omega)
    have hw : IntKind.i64.wrap (((k + 1 : Nat) : Int) + 1) = ((k + 1 + 1 : Nat) : Int):=by rw [IntKind.wrap_i64]; omega
    have HJ2 : Hid (∀ j,j < k + 1 → er j = 16):=by
     unfold Hid; intro j hj
     by_cases e : j = k
     ·subst e; exact hE
     ·exact HJ.out j (by omega)
    go_wp2_with fail
    refine (HC'.out (k + 1) wr (by omega) hJ).mono ?_
    rintro e w2 ⟨rfl,h2⟩
    go_wp2
    go_roundw
    case rel=>exact ⟨k + 1,by omega,rfl,by go_num,h2,HJ2⟩
    case measure=>simp [intOf]; omega
   ·have d1 : decide (((k + 1 : Nat) : Int) < 9) = true:=decide_eq_true (by omega)
    have d2 : (E == 16) = false:=by simpa using h16
    go_wp2
    go_ret
    exact ⟨k,by rw [hE]; rfl,hJ,HJ.out,.inr ⟨hk,by rw [hE]; exact h16⟩⟩
  ·have d1 : decide (((k + 1 : Nat) : Int) < 9) = false:=decide_eq_false (by omega)
   go_wp2
   go_ret
   exact ⟨k,by rw [hE]; rfl,hJ,HJ.out,.inl (by omega)⟩
end Go.Proofs.YtaggiceejcegdaaGreat
