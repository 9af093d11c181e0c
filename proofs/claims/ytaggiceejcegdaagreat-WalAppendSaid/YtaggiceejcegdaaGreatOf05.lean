/-
  WHAT IS SHOWN: more: what Read of the reference's cache and of its disk return and leave. what Write of the reference's disk returns and leaves. plain facts on memory, of no program: two disks of the reference that share a power supply. plain facts on memory, of no program: several disks of the reference that share a power supply. what Read of wal returns and leaves. what Write, Read and Flush of tegularef49 return and leave. Conditions: as each theorem names them.
-/
import Derived.Test.YtaggiceejcegdaaGreatNc35
import Derived.BigQuiet
import Derived.ChangeKeysEq
import Derived.ChangeOld
import Derived.Deep.AppendLies
import Derived.Deep.DeepCutAuto
import Derived.Deep.Draws
import Derived.Deep.Fields
import Derived.Deep.QuietTactic
import Derived.Deep.RegionHeld3
import Derived.Deep.RegionLaw
import Derived.Deep.Slices
import Derived.Handy
import Derived.Laws.AppendOwnNone
import Derived.Laws.BytesArg
import Derived.Laws.Cover3
import Derived.Laws.MakeOwn
import Derived.Laws.OwnMore
import Derived.Laws.Rows
import Derived.Lib.ConvBytes
import Derived.Lib.Hide
import Derived.Lib.SmallJoins
import Derived.Lib.VarintBits
import Derived.Lib.Zigzag
import Derived.LoopIn
import Derived.LoopNIn
import Derived.Maps.AppendAt
import Derived.OpenShut
import Derived.OwnWalkIn
import Derived.ProofKit
import Derived.RangeFuncBox
import Derived.RangeFuncLeaves
import Derived.Shelf.Abstract
import Derived.Sort.QuietIn
import Derived.TacticsInMore
import Derived.WalkKit
import Derived.WalkLawsBesides
import Derived.WalkMore
import Derived.WalkSpells
import Derived.Test.YtaggiceejcegdaaGreatOf04
namespace Go.Proofs.YtaggiceejcegdaaGreat
set_option linter.unusedVariables false
open Go.RowKit
section
variable {w w' : World} {B C : Bd} {q pw p : Nat} {g : Geo} {F : List Flt} {s : DS} {P R : Pow} {LM : List Sec} {O : List OpV} {FA : Option Addr} {fc : Nat}
set_option maxHeartbeats 1000000 in
theorem rcread_any (a : Int) (h : RCacheM w B p g LM O) (hf : Fit g LM) (hn : O.length ≤ 100000) : Calls Tryz.prog 102 #[.pointer (some ⟨p,0,none⟩),.int .i64 a] w (ReadPost w (norm (readB (playL g LM O) a)) (readE (playL g LM O) a)):=by
 have HC:=Lib.hid (rcontents_any h hf hn)
 have HF:=Lib.hid (hf.len (playL_len g O LM))
 have HR : Hid (∀ W m bs,RMed W m bs g (playL g LM O) → Calls Tryz.prog 145 #[.pointer (some ⟨m,0,none⟩),.int .i64 a] W (ReadPost W (norm (readB (playL g LM O) a)) (readE (playL g LM O) a))):=by
  unfold Hid; intro W m bs hm; exact rread_any a hm HF.out
 generalize playL g LM O = X at *
 clear h hf
 go_enter Tryz.func102,Tryz.ntmps102
 go_wp2_with fail
 refine HC.out.mono ?_
 rintro e w1 ⟨m,bs,rfl,hm,_,_,hb1⟩
 have HR1:=Lib.hid (HR.out w1 m bs hm)
 clear hm
 go_wp2_with fail
 refine HR1.out.mono ?_
 rintro e w2 ⟨v,rfl,hv,hb2⟩
 have HV:=Lib.hid hv
 clear hv
 go_wp2
 go_ret2
 exact ⟨v,rfl,HV.out,hb1.trans (hb2.mono hb1.size)⟩
theorem rdx_some {f : Flt} {t a : Int} {bs : DS} (hin : inL LM a = true) (h4 : ¬ f.kind = 4) (hfo : frO a f = t) :
  (readE (playL g LM O) t = 0 → rdE LM (playL g LM O) a f = 0 ∧ rdB LM (playL g LM O) a f = readB (playL g LM O) t ∧ rdS LM (playL g LM O) a f bs = { bs with r:=wrap64 (bs.r + 1) }) ∧
  (¬ readE (playL g LM O) t = 0 → rdE LM (playL g LM O) a f = 15 ∧ rdB LM (playL g LM O) a f = [] ∧ rdS LM (playL g LM O) a f bs = bs):=by
 unfold rdB rdS rdE
 rw [hin,hfo,if_pos rfl,if_neg h4]
 refine ⟨fun h=>?_,fun h=>?_⟩
 ·rw [if_pos h]; exact ⟨rfl,rfl,rfl⟩
 ·rw [if_neg h]; exact ⟨rfl,rfl,rfl⟩
theorem rdp_rdt : ∀ t,t ∈ [145,131] → t ∈ RDT:=by unfold RDT; decide
set_option maxRecDepth 100000 in
set_option maxHeartbeats 4000000 in
theorem rdread_any (key a : Int) (h : RDPm w B q pw g F s P LM O) (hn : F.length ≤ 9223372036854775807) (hon : O.length ≤ 99000) : Calls Tryz.prog 63 #[.pointer (some ⟨q,0,none⟩),.int .u64 key,.int .i64 a] w (RDReadPost w B q pw g F s P LM O key a):=by
 obtain ⟨⟨p,FA,fc,hd⟩,⟨R,hrel,hp⟩,hf,hs,hB⟩:=h
 have HBG:=Lib.hid (rbegin_any key hd hp hrel hn)
 have HF:=Lib.hid hf
 have HMK : Hid (∀ W s' R',RDsk W B q pw g F s' LM O p FA fc → RPow W B pw R' → RelP (begD F s P key).P R' → w.heap.size ≤ W.heap.size → RDPm W B q pw g F s' (begD F s P key).P LM O):=by
  unfold Hid; intro W s' R' h1 h2 h3 h4; exact ⟨⟨p,FA,fc,h1⟩,⟨R',h3,h2⟩,hf,hs,Nat.le_trans hB h4⟩
 clear hd hp hrel hf hs hB
 by_cases he : (begD F s P key).er = 0
 ·have HE : Hid (dRdE F s P LM (playL g LM O) key a = rdE LM (playL g LM O) a (begD F s P key).f):=by unfold Hid dRdE; rw [if_pos he]
  have HBY : Hid (dRdB F s P LM (playL g LM O) key a = rdB LM (playL g LM O) a (begD F s P key).f):=by unfold Hid dRdB; rw [if_pos he]
  have HDS : Hid (dRdS F s P LM (playL g LM O) key a = rdS LM (playL g LM O) a (begD F s P key).f (begD F s P key).s):=by unfold Hid dRdS; rw [if_pos he]
  have HE0:=Lib.hid he
  clear he
  go_enter Tryz.func63,Tryz.ntmps63
  go_wp2_with fail
  refine HBG.out.mono ?_
  rintro e w1 ⟨f,R',rfl,hfe,hd,hp,hrl,hk⟩
  obtain rfl:=hfe HE0.out
  rw [HE0.out]
  have HMK1:=Lib.hid (fun W s' h1 h2 h4=>HMK.out W s' R' h1 h2 hrl h4)
  generalize hbe : begD F s P key = b at *
  have HPE:=Lib.hid hbe
  clear hbe
  obtain ⟨ber,bs,bP,f⟩:=b
  unfold Flt.val
  simp only at *
  have HHAS:=Lib.hid (fun W (hb : Below w1.heap.size w1 W)=>r14has_any a (hd.below0 hb) HF.out)
  have HCR:=Lib.hid (fun W t (hb : Below w1.heap.size w1 W)=>rcread_any t (hd.below0 hb).c HF.out (Nat.le_trans hon (by decide)))
  have HCE : Hid (∀ W,Below w1.heap.size w1 W → W.cell? ⟨q,5,none⟩ = some (.pointer (some ⟨p,0,none⟩)) ∧ W.cell? ⟨q,12,none⟩ = some (.int .i64 bs.r) ∧ W.frozen? ⟨q,12,none⟩ = false):=by
   unfold Hid; intro W hb; exact ⟨((hd.below0 hb).cell 5 (by decide)).trans rfl,((hd.below0 hb).cell 12 (by decide)).trans rfl,(hd.below0 hb).free 12⟩
  have HFI : Hid (∀ W,Below w1.heap.size w1 W → RDPm W B q pw g F bs bP LM O ∧ KeptT RDT B w W):=by
   unfold Hid; intro W hb; exact ⟨HMK1.out W bs (hd.below0 hb) (hp.below0 hb) (Nat.le_trans hk.size hb.size),(hk.sub rdp_rdt).thenBelow hb⟩
  have HFS : Hid (∀ W,Below w1.heap.size w1 W → RDPm (W.setCell ⟨q,12,none⟩ (.int .i64 (wrap64 (bs.r + 1)))) B q pw g F { bs with r:=wrap64 (bs.r + 1) } bP LM O ∧ KeptT RDT B w (W.setCell ⟨q,12,none⟩ (.int .i64 (wrap64 (bs.r + 1)))) ∧ KeptT [145] B W (W.setCell ⟨q,12,none⟩ (.int .i64 (wrap64 (bs.r + 1))))):=by
   unfold Hid; intro W hb
   have h':=(hd.below0 hb).store 12 (.int .i64 (wrap64 (bs.r + 1))) { bs with r:=wrap64 (bs.r + 1) } rfl
   exact ⟨HMK1.out _ _ h'.1 ((hp.below0 hb).keptT h'.2 (by decide)) (Nat.le_trans (Nat.le_trans hk.size hb.size) h'.2.size),((hk.sub rdp_rdt).thenBelow hb).trans (h'.2.sub rd_rdt),h'.2⟩
  clear hd hp hk
  have hbF : Below w1.heap.size w1 (w1.alloc (.cells #[.int .i64 f.at_,.int .i64 f.kind,.int .i64 f.to_] 138)):=(Below.refl _ _).alloc (Nat.le_refl _) _
  have hTT:=heap_alloc_new w1 (.cells #[.int .i64 f.at_,.int .i64 f.kind,.int .i64 f.to_] 138)
  go_wp2_with fail
  refine (HHAS.out _ hbF).mono ?_
  rintro e w2 ⟨rfl,hb2⟩
  have hbl2:=hbF.trans (hb2.mono hbF.size)
  have hT2:=belObj hb2 hTT (by simp)
  have t1 : w2.cell? ⟨w1.heap.size,1,none⟩ = some (.int .i64 f.kind):=by rw [cell_of_row _ _ _ _ _ _ hT2]; rfl
  have t2 : w2.cell? ⟨w1.heap.size,2,none⟩ = some (.int .i64 f.to_):=by rw [cell_of_row _ _ _ _ _ _ hT2]; rfl
  obtain ⟨q5,q12,f12⟩:=HCE.out w2 hbl2
  have HFI2:=Lib.hid (HFI.out w2 hbl2)
  have HC2:=Lib.hid (fun t=>HCR.out w2 t hbl2)
  clear hTT hT2
  cases hin : inL LM a
  ·have HX : Hid (rdE LM (playL g LM O) a f = 2 ∧ rdB LM (playL g LM O) a f = [] ∧ rdS LM (playL g LM O) a f bs = bs):=by unfold Hid rdB rdS rdE; rw [hin]; exact ⟨rfl,rfl,rfl⟩
   clear hin
   go_wp2
   go_ret2
   exact ⟨_,[],by rw [HE.out,HX.out.1]; rfl,Bys.nil _ _,by rw [HBY.out,HX.out.2.1]; rfl,by rw [HPE.out,HDS.out,HX.out.2.2]; exact HFI2.out.1,HFI2.out.2⟩
  ·by_cases h4 : f.kind = 4
   ·have HX : Hid (rdE LM (playL g LM O) a f = 15 ∧ rdB LM (playL g LM O) a f = [] ∧ rdS LM (playL g LM O) a f bs = bs):=by unfold Hid rdB rdS rdE; rw [hin,if_pos h4]; exact ⟨rfl,rfl,rfl⟩
    have n4 : (f.kind == 4) = true:=by simpa using h4
    clear hin h4
    go_wp2
    go_ret2
    exact ⟨_,[],by rw [HE.out,HX.out.1]; rfl,Bys.nil _ _,by rw [HBY.out,HX.out.2.1]; rfl,by rw [HPE.out,HDS.out,HX.out.2.2]; exact HFI2.out.1,HFI2.out.2⟩
   ·have n4 : (f.kind == 4) = false:=by simpa using h4
    by_cases h5 : f.kind = 5
    ·have n5 : (f.kind == 5) = true:=by simpa using h5
     have hfo : frO a f = f.to_:=by unfold frO; rw [if_pos h5]
     skip
     have HX:=Lib.hid (rdx_some (g:=g) (O:=O) (bs:=bs) hin h4 hfo)
     clear hin h4 h5 hfo
     by_cases hre : readE (playL g LM O) (f.to_) = 0
     ·have HX1:=Lib.hid (HX.out.1 hre)
      have hR:=HC2.out (f.to_)
      rw [hre] at hR
      have HR:=Lib.hid hR
      generalize readB (playL g LM O) (f.to_) = xs at *
      clear hre hR
      go_wp2_with fail
      refine HR.out.mono ?_
      rintro e w3 ⟨v,rfl,hv,hb3⟩
      have hbl3:=hbl2.trans (hb3.mono hbl2.size)
      clear q5 q12 f12 t1 t2
      obtain ⟨q5,q12,f12⟩:=HCE.out w3 hbl3
      have HS:=Lib.hid (HFS.out w3 hbl3)
      have HV:=Lib.hid (hv.kept HS.out.2.2 (KeptT.free (by decide)))
      clear hv
      go_wp2
      go_ret2
      exact ⟨v,_,by rw [HE.out,HX1.out.1]; rfl,HV.out,by rw [HBY.out,HX1.out.2.1],by rw [HPE.out,HDS.out,HX1.out.2.2]; exact HS.out.1,HS.out.2.1⟩
     ·have HX1:=Lib.hid (HX.out.2 hre)
      have e3 : (readE (playL g LM O) (f.to_) != 0) = true:=by simpa using hre
      have HR:=Lib.hid (HC2.out (f.to_))
      generalize readE (playL g LM O) (f.to_) = er3 at *
      clear hre
      go_wp2_with fail
      refine HR.out.mono ?_
      rintro e w3 ⟨v,rfl,hv,hb3⟩
      have hbl3:=hbl2.trans (hb3.mono hbl2.size)
      have HFI3:=Lib.hid (HFI.out w3 hbl3)
      clear hv q5 q12 f12 t1 t2
      go_wp2
      go_ret2
      exact ⟨_,[],by rw [HE.out,HX1.out.1]; rfl,Bys.nil _ _,by rw [HBY.out,HX1.out.2.1]; rfl,by rw [HPE.out,HDS.out,HX1.out.2.2]; exact HFI3.out.1,HFI3.out.2⟩
    ·have n5 : (f.kind == 5) = false:=by simpa using h5
     have hfo : frO a f = a:=by unfold frO; rw [if_neg h5]
     skip
     have HX:=Lib.hid (rdx_some (g:=g) (O:=O) (bs:=bs) hin h4 hfo)
     clear hin h4 h5 hfo
     by_cases hre : readE (playL g LM O) (a) = 0
     ·have HX1:=Lib.hid (HX.out.1 hre)
      have hR:=HC2.out (a)
      rw [hre] at hR
      have HR:=Lib.hid hR
      generalize readB (playL g LM O) (a) = xs at *
      clear hre hR
      go_wp2_with fail
      refine HR.out.mono ?_
      rintro e w3 ⟨v,rfl,hv,hb3⟩
      have hbl3:=hbl2.trans (hb3.mono hbl2.size)
      clear q5 q12 f12 t1 t2
      obtain ⟨q5,q12,f12⟩:=HCE.out w3 hbl3
      have HS:=Lib.hid (HFS.out w3 hbl3)
      have HV:=Lib.hid (hv.kept HS.out.2.2 (KeptT.free (by decide)))
      clear hv
      go_wp2
      go_ret2
      exact ⟨v,_,by rw [HE.out,HX1.out.1]; rfl,HV.out,by rw [HBY.out,HX1.out.2.1],by rw [HPE.out,HDS.out,HX1.out.2.2]; exact HS.out.1,HS.out.2.1⟩
     ·have HX1:=Lib.hid (HX.out.2 hre)
      have e3 : (readE (playL g LM O) (a) != 0) = true:=by simpa using hre
      have HR:=Lib.hid (HC2.out (a))
      generalize readE (playL g LM O) (a) = er3 at *
      clear hre
      go_wp2_with fail
      refine HR.out.mono ?_
      rintro e w3 ⟨v,rfl,hv,hb3⟩
      have hbl3:=hbl2.trans (hb3.mono hbl2.size)
      have HFI3:=Lib.hid (HFI.out w3 hbl3)
      clear hv q5 q12 f12 t1 t2
      go_wp2
      go_ret2
      exact ⟨_,[],by rw [HE.out,HX1.out.1]; rfl,Bys.nil _ _,by rw [HBY.out,HX1.out.2.1]; rfl,by rw [HPE.out,HDS.out,HX1.out.2.2]; exact HFI3.out.1,HFI3.out.2⟩
 ·have HE : Hid (dRdE F s P LM (playL g LM O) key a = (begD F s P key).er):=by unfold Hid dRdE; rw [if_neg he]
  have HBY : Hid (dRdB F s P LM (playL g LM O) key a = []):=by unfold Hid dRdB; rw [if_neg he]
  have HDS : Hid (dRdS F s P LM (playL g LM O) key a = (begD F s P key).s):=by unfold Hid dRdS; rw [if_neg he]
  have e1 : ((begD F s P key).er != 0) = true:=by simpa using he
  clear he
  go_enter Tryz.func63,Tryz.ntmps63
  go_wp2_with fail
  refine HBG.out.mono ?_
  rintro e w1 ⟨f,R',rfl,_,hd,hp,hrl,hk⟩
  unfold Flt.val
  have hbF : Below w1.heap.size w1 (w1.alloc (.cells #[.int .i64 f.at_,.int .i64 f.kind,.int .i64 f.to_] 138)):=(Below.refl _ _).alloc (Nat.le_refl _) _
  have HFI2:=Lib.hid (And.intro (HMK.out _ _ _ (hd.below0 hbF) (hp.below0 hbF) hrl (Nat.le_trans hk.size hbF.size)) ((hk.sub rdp_rdt).thenBelow hbF))
  clear hd hp hk hbF
  generalize hbe : begD F s P key = b at *
  have HPE:=Lib.hid hbe
  clear hbe
  obtain ⟨ber,bs,bP,fb⟩:=b
  simp only at *
  go_wp2
  go_ret2
  exact ⟨_,[],by rw [HE.out]; rfl,Bys.nil _ _,by rw [HBY.out]; rfl,by rw [HPE.out,HDS.out]; exact HFI2.out.1,HFI2.out.2⟩
end
end Go.Proofs.YtaggiceejcegdaaGreat
namespace Go.Proofs.YtaggiceejcegdaaGreat
set_option linter.unusedVariables false
open Go.RowKit
section
variable {w w' : World} {B C : Bd} {q pw p : Nat} {g : Geo} {F : List Flt} {s : DS} {P R : Pow} {LM : List Sec} {O : List OpV} {FA : Option Addr} {fc : Nat}
theorem wr_hit {f : Flt} {a tt : Int} {xs ys : List Int} {force : Bool} (he : wrE LM a xs = 0) (h1 : ¬ f.kind = 1) (ho : wOp a xs f = ⟨false,tt,ys,none,0⟩) (hy : ys.length ≤ 64) :
  (inL LM tt = false → wrLM g LM O a xs force f = LM ∧ wrO g LM O a xs force f = O) ∧
  (inL LM tt = true → doE g (playL g LM O) ⟨false,tt,ys,none,0⟩ = 0 ∧ wrLM g LM O a xs force f = (if force then playL g LM ((O ++ [(⟨false,tt,ys,none,0⟩ : OpV)]).take (O ++ [(⟨false,tt,ys,none,0⟩ : OpV)]).length) else LM) ∧ wrO g LM O a xs force f = (if force then [] else O ++ [(⟨false,tt,ys,none,0⟩ : OpV)])):=by
 have hin : inL (playL g LM O) tt = inL LM tt:=by unfold inL; rw [playL_len]
 have hd : doE g (playL g LM O) ⟨false,tt,ys,none,0⟩ = if inL LM tt then 0 else 2:=by
  unfold doE; rw [if_neg (by simp)]; unfold writeE; simp only; rw [hin,if_pos hy]
 unfold wrLM wrO wHit
 rw [ho,he,hd]
 refine ⟨fun h=>?_,fun h=>?_⟩
 ·rw [h]; simp
 ·rw [h]; simp [h1]
theorem wr_drop {f : Flt} {a : Int} {xs : List Int} {force : Bool} (h1 : f.kind = 1) : wrLM g LM O a xs force f = LM ∧ wrO g LM O a xs force f = O:=by
 unfold wrLM wrO wHit; simp [h1]
set_option maxRecDepth 100000 in
set_option maxHeartbeats 8000000 in
theorem rdwrite_any (key a : Int) (xs : List Int) (force : Bool) (A : Option Addr) (c : Nat) (h : RDPm w B q pw g F s P LM O) (hn : F.length ≤ 9223372036854775807) (hon : O.length ≤ 99000) (hai : I64 a) (hfi : I64 (begD F s P key).f.to_) (hr : ∀ W,KeptT RDT B w W → Rd W W.heap.size A (xs.map (Value.int .u8))) (hx : xs.length ≤ 100000) (hc : xs.length ≤ c) :
  Calls Tryz.prog 57 #[.pointer (some ⟨q,0,none⟩),.int .u64 key,.int .i64 a,.slice A xs.length c,.bool force] w (RDWritePost w B q pw g F s P LM O key a xs force):=by
 obtain ⟨⟨p,FA,fc,hd⟩,⟨R,hrel,hp⟩,hf,hs,hBt⟩:=h
 have HBG:=Lib.hid (rbegin_any key hd hp hrel hn)
 have HF:=Lib.hid hf
 have HS:=Lib.hid hs
 have HMK : Hid (∀ W s' R' L' O',RDsk W B q pw g F s' L' O' p FA fc → RPow W B pw R' → RelP (begD F s P key).P R' → L'.length = LM.length → ShortB L' → w.heap.size ≤ W.heap.size → RDPm W B q pw g F s' (begD F s P key).P L' O'):=by
  unfold Hid; intro W s' R' L' O' h1 h2 h3 h4 h5 h6; exact ⟨⟨p,FA,fc,h1⟩,⟨R',h3,h2⟩,hf.len h4,h5,Nat.le_trans hBt h6⟩
 clear hd hp hrel hf hs
 by_cases he : (begD F s P key).er = 0
 ·have HE : Hid (dWrE F s P LM key a xs = wrE LM a xs):=by unfold Hid dWrE; rw [if_pos he]
  have HDS : Hid (dWrS F s P LM key a xs = wrS LM a xs (begD F s P key).s):=by unfold Hid dWrS; rw [if_pos he]
  have HDL : Hid (dWrLM g F s P LM O key a xs force = wrLM g LM O a xs force (begD F s P key).f):=by unfold Hid dWrLM; rw [if_pos he]
  have HDO : Hid (dWrO g F s P LM O key a xs force = wrO g LM O a xs force (begD F s P key).f):=by unfold Hid dWrO; rw [if_pos he]
  skip
  have HE0:=Lib.hid he
  clear he
  go_enter Tryz.func57,Tryz.ntmps57
  go_wp2_with fail
  refine HBG.out.mono ?_
  rintro e w1 ⟨f,R',rfl,hfe,hd,hp,hrl,hk⟩
  obtain rfl:=hfe HE0.out
  rw [HE0.out]
  have HMK1:=Lib.hid (fun W s' L' O' h1 h2 h4 h5 h6=>HMK.out W s' R' L' O' h1 h2 hrl h4 h5 h6)
  generalize hbe : begD F s P key = b at *
  have HPE:=Lib.hid hbe
  clear hbe
  obtain ⟨ber,bs,bP,f⟩:=b
  unfold Flt.val
  have hez : ber = 0:=HE0.out
  subst hez
  simp only at *
  have hbF : Below w1.heap.size w1 (w1.alloc (.cells #[.int .i64 f.at_,.int .i64 f.kind,.int .i64 f.to_] 138)):=(Below.refl _ _).alloc (Nat.le_refl _) _
  have hkF : KeptT RDT B w (w1.alloc (.cells #[.int .i64 f.at_,.int .i64 f.kind,.int .i64 f.to_] 138)):=(hk.sub rdp_rdt).thenBelow hbF
  have HHAS:=Lib.hid (r14has_any a (hd.below0 hbF) HF.out)
  have HD1:=Lib.hid (fun W (hb : Below w1.heap.size w1 W)=>(⟨hd.below0 hb,hp.below0 hb,(hk.sub rdp_rdt).thenBelow hb⟩ : RDsk W B q pw g F bs LM O p FA fc ∧ RPow W B pw R' ∧ KeptT RDT B w W))
  have hql : q < w1.heap.size:=(IsT.own hd.obj).lt
  have hTq : ¬ (w1.heap.size = q):=by omega
  have hTT:=heap_alloc_new w1 (.cells #[.int .i64 f.at_,.int .i64 f.kind,.int .i64 f.to_] 138)
  have HRR:=Lib.hid hr
  clear hd hp hk hkF hr
  go_wp2_with fail
  refine HHAS.out.mono ?_
  rintro e w2 ⟨rfl,hb2⟩
  have hbl2:=hbF.trans (hb2.mono hbF.size)
  have hT2:=belObj hb2 hTT (by simp)
  have t1 : w2.cell? ⟨w1.heap.size,1,none⟩ = some (.int .i64 f.kind):=by rw [cell_of_row _ _ _ _ _ _ hT2]; rfl
  have t2 : w2.cell? ⟨w1.heap.size,2,none⟩ = some (.int .i64 f.to_):=by rw [cell_of_row _ _ _ _ _ _ hT2]; rfl
  obtain ⟨hd2,hp2,hk2⟩:=HD1.out w2 hbl2
  clear hTT hT2
  cases hin : inL LM a
  ·have HX : Hid (wrE LM a xs = 2):=by unfold Hid wrE; rw [hin]; rfl
   have HNH : Hid (wrLM g LM O a xs force f = LM ∧ wrO g LM O a xs force f = O ∧ wrS LM a xs bs = bs):=by
    have e0 : ¬ (wrE LM a xs = 0):=by rw [HX.out]; decide
    have e1 : wHit g LM O a xs f = false:=by unfold wHit; rw [decide_eq_false e0]; rfl
    unfold Hid wrLM wrO wrS; rw [e1,if_neg e0]; exact ⟨rfl,rfl,rfl⟩
   have HFF:=Lib.hid (And.intro (HMK1.out _ _ _ _ hd2 hp2 rfl HS.out hk2.size) hk2)
   clear hin hd2 hp2 hk2
   go_wp2
   go_ret
   unfold RDWritePost
   rw [HE.out,HDS.out,HDL.out,HDO.out,HPE.out,HX.out,HNH.out.1,HNH.out.2.1,HNH.out.2.2]
   exact ⟨rfl,HFF.out⟩
  by_cases h64 : xs.length ≤ 64
  ·have h64i : ¬ ((64 : Int) < (xs.length : Int)):=by omega
   have HX : Hid (wrE LM a xs = 0):=by unfold Hid wrE; rw [hin,if_pos h64]; rfl
   have HXS : Hid (wrS LM a xs bs = { bs with w:=wrap64 (bs.w + 1) }):=by unfold Hid wrS; rw [HX.out,if_pos rfl]
   have q13 : w2.cell? ⟨q,13,none⟩ = some (.int .i64 bs.w):=(hd2.cell 13 (by decide)).trans rfl
   have f13:=hd2.free 13
   have h':=hd2.store 13 (.int .i64 (wrap64 (bs.w + 1))) { bs with w:=wrap64 (bs.w + 1) } rfl
   have hkx : Kept (fun k=>k = q) w2 (w2.setCell ⟨q,13,none⟩ (.int .i64 (wrap64 (bs.w + 1)))):=(Kept.refl (fun k=>k = q) w2).setCell (p:=⟨q,13,none⟩) (fun _=>rfl) _
   have u1:=hkx.cell t1 hTq
   have u2:=hkx.cell t2 hTq
   have hd3:=h'.1
   have hp3:=hp2.keptT h'.2 (by decide)
   have hk3:=hk2.trans (h'.2.sub rd_rdt)
   have hsz3:=hk3.size
   clear hd2 hp2 hk2 h' hkx t1 t2 hbF hb2 hbl2
   have hfin : Hid (∀ W,RDsk W B q pw g F { bs with w:=wrap64 (bs.w + 1) } LM O p FA fc → RPow W B pw R' → w.heap.size ≤ W.heap.size → RDPm W B q pw g F { bs with w:=wrap64 (bs.w + 1) } bP LM O):=by
    unfold Hid; intro W h1 h2 h3; exact HMK1.out _ _ _ _ h1 h2 rfl HS.out h3
   have HD3:=Lib.hid (fun W (hb : Below (w2.setCell ⟨q,13,none⟩ (.int .i64 (wrap64 (bs.w + 1)))).heap.size (w2.setCell ⟨q,13,none⟩ (.int .i64 (wrap64 (bs.w + 1)))) W)=>(⟨hd3.below0 hb,hp3.below0 hb,hk3.thenBelow hb⟩ : RDsk W B q pw g F { bs with w:=wrap64 (bs.w + 1) } LM O p FA fc ∧ RPow W B pw R' ∧ KeptT RDT B w W))
   have HHT:=Lib.hid (fun t=>r14has_any t hd3 HF.out)
   clear hd3 hp3 hk3 hin
   by_cases h1 : f.kind = 1
   ·have HXX:=Lib.hid (wr_drop (g:=g) (LM:=LM) (O:=O) (a:=a) (xs:=xs) (force:=force) h1)
    have n1 : (f.kind == 1) = true:=by simpa using h1
    have n2 : (f.kind == 2) = false:=by rw [h1]; rfl
    have n3 : (f.kind == 3) = false:=by rw [h1]; rfl
    obtain ⟨hd4,hp4,hk4⟩:=HD3.out _ (Below.refl _ _)
    have HFF:=Lib.hid (And.intro (hfin.out _ hd4 hp4 hk4.size) hk4)
    clear h1 hd4 hp4 hk4
    go_wp2
    go_ret
    unfold RDWritePost
    rw [HE.out,HDS.out,HDL.out,HDO.out,HPE.out,HX.out,HXS.out,HXX.out.1,HXX.out.2]
    exact ⟨rfl,HFF.out⟩
   have n1 : (f.kind == 1) = false:=by simpa using h1
   by_cases h2 : f.kind = 2
   ·obtain ⟨hh,eh,hhl⟩ : ∃ hh : Nat,((xs.length : Int) / 2) = (hh : Int) ∧ xs.length / 2 = hh:=⟨xs.length / 2,by omega,rfl⟩
    have hhc : (hh : Int) ≤ c:=by omega
    have hop : wOp a xs f = ⟨false,a,xs.take hh,none,0⟩:=by unfold wOp toO byO; simp [h2,hhl]
    have HYL : Hid ((xs.take hh).length = hh):=by unfold Hid; rw [List.length_take]; omega
    have hyl : (xs.take hh).length ≤ 64:=by rw [HYL.out]; omega
    have HYR : Hid (∀ W,KeptT RDT B w W → Rd W W.heap.size A ((xs.take hh).map (Value.int .u8))):=by unfold Hid; intro W hW; rw [List.map_take]; exact (HRR.out W hW).take hh
    have HTT:=Lib.hid hai
    have n2 : (f.kind == 2) = true:=by simpa using h2
    have n3 : (f.kind == 3) = false:=by rw [h2]; rfl
    clear hhl
    skip
    have HXX:=Lib.hid (wr_hit (g:=g) (LM:=LM) (O:=O) (force:=force) HX.out h1 hop hyl)
    clear hop h1 hyl
    go_wp2_with fail
    refine (HHT.out a).mono ?_
    rintro e w4 ⟨rfl,hb4⟩
    obtain ⟨hd4,hp4,hk4⟩:=HD3.out w4 hb4
    cases hit : inL LM a
    ·have HX2:=Lib.hid (HXX.out.1 hit)
     have HFF:=Lib.hid (And.intro (hfin.out _ hd4 hp4 hk4.size) hk4)
     clear hit hd4 hp4 hk4
     go_wp2
     go_ret
     unfold RDWritePost
     rw [HE.out,HDS.out,HDL.out,HDO.out,HPE.out,HX.out,HXS.out,HX2.out.1,HX2.out.2]
     exact ⟨rfl,HFF.out⟩
    ·have HX2:=Lib.hid (HXX.out.2 hit)
     have q5 : w4.cell? ⟨q,5,none⟩ = some (.pointer (some ⟨p,0,none⟩)):=(hd4.cell 5 (by decide)).trans rfl
     have HDO4:=rcdo_any (B':=w4.heap.size) ⟨false,a,(xs.take hh),A,c⟩ hd4.c HF.out ⟨HTT.out,HYR.out w4 hk4,show ((xs.take hh)).length ≤ 100000 by have:=HYL.out; omega⟩ (Nat.le_refl _) (Nat.le_trans hBt hk4.size) (Nat.le_trans hon (by decide))
     simp only at HDO4
     try rw [HYL.out] at HDO4
     have HDO5:=Lib.hid HDO4
     have HD4:=Lib.hid (And.intro hd4 (And.intro hp4 hk4))
     clear hit hd4 hp4 hk4 HDO4
     go_wp2_with fail
     refine HDO5.out.mono ?_
     intro e w5 hpp
     unfold RDoPost OpV.bare at hpp
     simp only at hpp
     rw [HX2.out.1,if_pos rfl] at hpp
     obtain ⟨rfl,hc5,hk5⟩:=hpp
     have hd5:=HD4.out.1.withC hk5 hc5
     have hp5:=HD4.out.2.1.keptT hk5 (by unfold RT; decide)
     have hkk5:=HD4.out.2.2.trans (hk5.sub rt_rdt)
     cases force
     ·have HFF:=Lib.hid (And.intro (HMK1.out _ _ _ _ hd5 hp5 rfl HS.out hkk5.size) hkk5)
      clear hd5 hp5 hkk5 hc5 hk5 q5
      go_wp2
      go_ret
      unfold RDWritePost
      rw [HE.out,HDS.out,HDL.out,HDO.out,HPE.out,HX.out,HXS.out,HX2.out.2.1,HX2.out.2.2]
      exact ⟨rfl,HFF.out⟩
     ·have r5 : w5.cell? ⟨q,5,none⟩ = some (.pointer (some ⟨p,0,none⟩)):=(hd5.cell 5 (by decide)).trans rfl
      have HFL:=Lib.hid (rcflush_any hc5 HF.out (Nat.le_trans hBt hkk5.size) (by simp; omega))
      have HD5:=Lib.hid (And.intro hd5 (And.intro hp5 hkk5))
      clear hd5 hp5 hkk5 hc5 hk5 q5
      go_wp2_with fail
      refine HFL.out.mono ?_
      rintro e w6 ⟨rfl,hc6,hk6⟩
      have hd6:=HD5.out.1.withC hk6 hc6
      have hkk6:=HD5.out.2.2.trans (hk6.sub rt_rdt)
      have HFF:=Lib.hid (And.intro (HMK1.out _ _ _ _ hd6 (HD5.out.2.1.keptT hk6 (by unfold RT; decide)) (playL_len _ _ _) (short_play _ HS.out) hkk6.size) hkk6)
      clear hd6 hkk6 hc6 hk6 r5
      go_wp2
      go_ret
      unfold RDWritePost
      rw [HE.out,HDS.out,HDL.out,HDO.out,HPE.out,HX.out,HXS.out,HX2.out.2.1,HX2.out.2.2]
      exact ⟨rfl,HFF.out⟩
   have n2 : (f.kind == 2) = false:=by simpa using h2
   have HYL : Hid (xs.length = xs.length):=rfl
   have HYR:=HRR
   have hyl:=h64
   by_cases h3 : f.kind = 3
   ·have hop : wOp a xs f = ⟨false,f.to_,xs,none,0⟩:=by unfold wOp toO byO; simp [h3]
    have HTT:=Lib.hid hfi
    have n3 : (f.kind == 3) = true:=by simpa using h3
    skip
    have HXX:=Lib.hid (wr_hit (g:=g) (LM:=LM) (O:=O) (force:=force) HX.out h1 hop hyl)
    clear hop h1 hyl
    go_wp2_with fail
    refine (HHT.out f.to_).mono ?_
    rintro e w4 ⟨rfl,hb4⟩
    obtain ⟨hd4,hp4,hk4⟩:=HD3.out w4 hb4
    cases hit : inL LM f.to_
    ·have HX2:=Lib.hid (HXX.out.1 hit)
     have HFF:=Lib.hid (And.intro (hfin.out _ hd4 hp4 hk4.size) hk4)
     clear hit hd4 hp4 hk4
     go_wp2
     go_ret
     unfold RDWritePost
     rw [HE.out,HDS.out,HDL.out,HDO.out,HPE.out,HX.out,HXS.out,HX2.out.1,HX2.out.2]
     exact ⟨rfl,HFF.out⟩
    ·have HX2:=Lib.hid (HXX.out.2 hit)
     have q5 : w4.cell? ⟨q,5,none⟩ = some (.pointer (some ⟨p,0,none⟩)):=(hd4.cell 5 (by decide)).trans rfl
     have HDO4:=rcdo_any (B':=w4.heap.size) ⟨false,f.to_,xs,A,c⟩ hd4.c HF.out ⟨HTT.out,HYR.out w4 hk4,show (xs).length ≤ 100000 by have:=HYL.out; omega⟩ (Nat.le_refl _) (Nat.le_trans hBt hk4.size) (Nat.le_trans hon (by decide))
     simp only at HDO4
     try rw [HYL.out] at HDO4
     have HDO5:=Lib.hid HDO4
     have HD4:=Lib.hid (And.intro hd4 (And.intro hp4 hk4))
     clear hit hd4 hp4 hk4 HDO4
     go_wp2_with fail
     refine HDO5.out.mono ?_
     intro e w5 hpp
     unfold RDoPost OpV.bare at hpp
     simp only at hpp
     rw [HX2.out.1,if_pos rfl] at hpp
     obtain ⟨rfl,hc5,hk5⟩:=hpp
     have hd5:=HD4.out.1.withC hk5 hc5
     have hp5:=HD4.out.2.1.keptT hk5 (by unfold RT; decide)
     have hkk5:=HD4.out.2.2.trans (hk5.sub rt_rdt)
     cases force
     ·have HFF:=Lib.hid (And.intro (HMK1.out _ _ _ _ hd5 hp5 rfl HS.out hkk5.size) hkk5)
      clear hd5 hp5 hkk5 hc5 hk5 q5
      go_wp2
      go_ret
      unfold RDWritePost
      rw [HE.out,HDS.out,HDL.out,HDO.out,HPE.out,HX.out,HXS.out,HX2.out.2.1,HX2.out.2.2]
      exact ⟨rfl,HFF.out⟩
     ·have r5 : w5.cell? ⟨q,5,none⟩ = some (.pointer (some ⟨p,0,none⟩)):=(hd5.cell 5 (by decide)).trans rfl
      have HFL:=Lib.hid (rcflush_any hc5 HF.out (Nat.le_trans hBt hkk5.size) (by simp; omega))
      have HD5:=Lib.hid (And.intro hd5 (And.intro hp5 hkk5))
      clear hd5 hp5 hkk5 hc5 hk5 q5
      go_wp2_with fail
      refine HFL.out.mono ?_
      rintro e w6 ⟨rfl,hc6,hk6⟩
      have hd6:=HD5.out.1.withC hk6 hc6
      have hkk6:=HD5.out.2.2.trans (hk6.sub rt_rdt)
      have HFF:=Lib.hid (And.intro (HMK1.out _ _ _ _ hd6 (HD5.out.2.1.keptT hk6 (by unfold RT; decide)) (playL_len _ _ _) (short_play _ HS.out) hkk6.size) hkk6)
      clear hd6 hkk6 hc6 hk6 r5
      go_wp2
      go_ret
      unfold RDWritePost
      rw [HE.out,HDS.out,HDL.out,HDO.out,HPE.out,HX.out,HXS.out,HX2.out.2.1,HX2.out.2.2]
      exact ⟨rfl,HFF.out⟩
   have n3 : (f.kind == 3) = false:=by simpa using h3
   have hop : wOp a xs f = ⟨false,a,xs,none,0⟩:=by unfold wOp toO byO; simp [h3,h2]
   have HTT:=Lib.hid hai
   skip
   have HXX:=Lib.hid (wr_hit (g:=g) (LM:=LM) (O:=O) (force:=force) HX.out h1 hop hyl)
   clear hop h1 hyl
   go_wp2_with fail
   refine (HHT.out a).mono ?_
   rintro e w4 ⟨rfl,hb4⟩
   obtain ⟨hd4,hp4,hk4⟩:=HD3.out w4 hb4
   cases hit : inL LM a
   ·have HX2:=Lib.hid (HXX.out.1 hit)
    have HFF:=Lib.hid (And.intro (hfin.out _ hd4 hp4 hk4.size) hk4)
    clear hit hd4 hp4 hk4
    go_wp2
    go_ret
    unfold RDWritePost
    rw [HE.out,HDS.out,HDL.out,HDO.out,HPE.out,HX.out,HXS.out,HX2.out.1,HX2.out.2]
    exact ⟨rfl,HFF.out⟩
   ·have HX2:=Lib.hid (HXX.out.2 hit)
    have q5 : w4.cell? ⟨q,5,none⟩ = some (.pointer (some ⟨p,0,none⟩)):=(hd4.cell 5 (by decide)).trans rfl
    have HDO4:=rcdo_any (B':=w4.heap.size) ⟨false,a,xs,A,c⟩ hd4.c HF.out ⟨HTT.out,HYR.out w4 hk4,show (xs).length ≤ 100000 by have:=HYL.out; omega⟩ (Nat.le_refl _) (Nat.le_trans hBt hk4.size) (Nat.le_trans hon (by decide))
    simp only at HDO4
    try rw [HYL.out] at HDO4
    have HDO5:=Lib.hid HDO4
    have HD4:=Lib.hid (And.intro hd4 (And.intro hp4 hk4))
    clear hit hd4 hp4 hk4 HDO4
    go_wp2_with fail
    refine HDO5.out.mono ?_
    intro e w5 hpp
    unfold RDoPost OpV.bare at hpp
    simp only at hpp
    rw [HX2.out.1,if_pos rfl] at hpp
    obtain ⟨rfl,hc5,hk5⟩:=hpp
    have hd5:=HD4.out.1.withC hk5 hc5
    have hp5:=HD4.out.2.1.keptT hk5 (by unfold RT; decide)
    have hkk5:=HD4.out.2.2.trans (hk5.sub rt_rdt)
    cases force
    ·have HFF:=Lib.hid (And.intro (HMK1.out _ _ _ _ hd5 hp5 rfl HS.out hkk5.size) hkk5)
     clear hd5 hp5 hkk5 hc5 hk5 q5
     go_wp2
     go_ret
     unfold RDWritePost
     rw [HE.out,HDS.out,HDL.out,HDO.out,HPE.out,HX.out,HXS.out,HX2.out.2.1,HX2.out.2.2]
     exact ⟨rfl,HFF.out⟩
    ·have r5 : w5.cell? ⟨q,5,none⟩ = some (.pointer (some ⟨p,0,none⟩)):=(hd5.cell 5 (by decide)).trans rfl
     have HFL:=Lib.hid (rcflush_any hc5 HF.out (Nat.le_trans hBt hkk5.size) (by simp; omega))
     have HD5:=Lib.hid (And.intro hd5 (And.intro hp5 hkk5))
     clear hd5 hp5 hkk5 hc5 hk5 q5
     go_wp2_with fail
     refine HFL.out.mono ?_
     rintro e w6 ⟨rfl,hc6,hk6⟩
     have hd6:=HD5.out.1.withC hk6 hc6
     have hkk6:=HD5.out.2.2.trans (hk6.sub rt_rdt)
     have HFF:=Lib.hid (And.intro (HMK1.out _ _ _ _ hd6 (HD5.out.2.1.keptT hk6 (by unfold RT; decide)) (playL_len _ _ _) (short_play _ HS.out) hkk6.size) hkk6)
     clear hd6 hkk6 hc6 hk6 r5
     go_wp2
     go_ret
     unfold RDWritePost
     rw [HE.out,HDS.out,HDL.out,HDO.out,HPE.out,HX.out,HXS.out,HX2.out.2.1,HX2.out.2.2]
     exact ⟨rfl,HFF.out⟩
  ·have h64i : (64 : Int) < (xs.length : Int):=by omega
   have HX : Hid (wrE LM a xs = 7):=by unfold Hid wrE; rw [hin,if_neg h64]; rfl
   have HNH : Hid (wrLM g LM O a xs force f = LM ∧ wrO g LM O a xs force f = O ∧ wrS LM a xs bs = bs):=by
    have e0 : ¬ (wrE LM a xs = 0):=by rw [HX.out]; decide
    have e1 : wHit g LM O a xs f = false:=by unfold wHit; rw [decide_eq_false e0]; rfl
    unfold Hid wrLM wrO wrS; rw [e1,if_neg e0]; exact ⟨rfl,rfl,rfl⟩
   have HFF:=Lib.hid (And.intro (HMK1.out _ _ _ _ hd2 hp2 rfl HS.out hk2.size) hk2)
   clear hin hd2 hp2 hk2
   go_wp2
   go_ret
   unfold RDWritePost
   rw [HE.out,HDS.out,HDL.out,HDO.out,HPE.out,HX.out,HNH.out.1,HNH.out.2.1,HNH.out.2.2]
   exact ⟨rfl,HFF.out⟩
 ·have HE : Hid (dWrE F s P LM key a xs = (begD F s P key).er):=by unfold Hid dWrE; rw [if_neg he]
  have HDS : Hid (dWrS F s P LM key a xs = (begD F s P key).s):=by unfold Hid dWrS; rw [if_neg he]
  have HDL : Hid (dWrLM g F s P LM O key a xs force = LM):=by unfold Hid dWrLM; rw [if_neg he]
  have HDO : Hid (dWrO g F s P LM O key a xs force = O):=by unfold Hid dWrO; rw [if_neg he]
  skip
  have e1 : ((begD F s P key).er != 0) = true:=by simpa using he
  clear he
  go_enter Tryz.func57,Tryz.ntmps57
  go_wp2_with fail
  refine HBG.out.mono ?_
  rintro e w1 ⟨f,R',rfl,_,hd,hp,hrl,hk⟩
  unfold Flt.val
  have hbF : Below w1.heap.size w1 (w1.alloc (.cells #[.int .i64 f.at_,.int .i64 f.kind,.int .i64 f.to_] 138)):=(Below.refl _ _).alloc (Nat.le_refl _) _
  have HFI2:=Lib.hid (And.intro (HMK.out _ _ _ _ _ (hd.below0 hbF) (hp.below0 hbF) hrl rfl HS.out (Nat.le_trans hk.size hbF.size)) ((hk.sub rdp_rdt).thenBelow hbF))
  clear hd hp hk hbF
  generalize hbe : begD F s P key = b at *
  have HPE:=Lib.hid hbe
  clear hbe
  obtain ⟨ber,bs,bP,fb⟩:=b
  simp only at *
  go_wp2
  go_ret
  unfold RDWritePost
  rw [HE.out,HDS.out,HDL.out,HDO.out,HPE.out]
  exact ⟨rfl,HFI2.out.1,HFI2.out.2⟩
end
end Go.Proofs.YtaggiceejcegdaaGreat
namespace Go.Proofs.YtaggiceejcegdaaGreat
set_option linter.unusedVariables false
open Go.RowKit
section
variable {w w' : World} {B C D : Bd} {q pw p : Nat} {g : Geo} {F : List Flt} {s : DS} {P P' R : Pow} {LM : List Sec} {O : List OpV} {FA : Option Addr} {fc : Nat}
theorem RDPm.types {ts : List TypeId} (h : RDPm w B q pw g F s P LM O) (hk : KeptT ts C w w') (ht : ∀ t,t ∈ [204,200,234,172,5] → t ∉ ts) (h1 : 145 ∉ ts) (h2 : 138 ∉ ts) (h3 : 131 ∉ ts) : RDPm w' B q pw g F s P LM O:=by
 obtain ⟨⟨p,FA,fc,hd⟩,⟨R,hr,hp⟩,hf,hs,hB⟩:=h
 exact ⟨⟨p,FA,fc,hd.keptT hk ht h1 h2⟩,⟨R,hr,hp.keptT hk h3⟩,hf,hs,Nat.le_trans hB hk.size⟩
theorem RCacheM.shut (h : RCacheM w B p g LM O) {ts : List TypeId} (hk : KeptT ts C w w') (ht : 200 ∉ ts ∧ 172 ∉ ts ∧ 5 ∉ ts) (tp : IsT 131 w pw) (hd : ∀ k,k < w.heap.size → B.has k → C.has k → k = pw) : RCacheM w' B p g LM O:=by
 obtain ⟨l,m,b,A,c,e,h⟩:=h
 have no : ∀ {k : Nat} {t : TypeId},IsT t w k → t ≠ 131 → B.has k → ¬ (C.has k ∧ HasT ts w k):=fun hk' hne hB hC=>(hk'.ne tp hne) (hd _ hk'.lt hB hC.1)
 exact ⟨l,m,b,A,c,e,h.kept hk (no h.typ (by decide) h.low) (KeptT.no h.med.types.1 ht.1) (no h.med.types.2 (by decide) h.lb) (KeptT.free ht.2.1) (KeptT.free ht.2.2)⟩
theorem RDsk.shut (h : RDsk w B q pw g F s LM O p FA fc) (hk : KeptT RDT C w w') (tp : IsT 131 w pw) (hd : ∀ k,k < w.heap.size → B.has k → C.has k → k = pw) : RDsk w' B q pw g F s LM O p FA fc:=
 ⟨own_kept h.obj hk (fun k e=>by
    simp [Value.ownBlock] at e; subst e
    exact fun hC=>((IsT.own h.obj).ne tp (by decide)) (hd _ (IsT.own h.obj).lt ⟨row_low h.obj,h.px⟩ hC.1)),h.px,h.c.shut hk (by unfold RDT; decide) tp hd,h.fl.kept hk (KeptT.free (by unfold RDT; decide))⟩
theorem RDPm.other (h : RDPm w B q pw g F s P LM O) (hp : ∃ R',RelP P' R' ∧ RPow w' C pw R') (hk : KeptT RDT C w w') (hs : Bd.Sub w.heap.size B D) (hn : C.n = D.n) (hD : D.top ≤ w'.heap.size) (hd : ∀ k,k < w.heap.size → D.has k → C.has k → k = pw) : RDPm w' D q pw g F s P' LM O:=by
 obtain ⟨⟨p,FA,fc,hd'⟩,⟨R,hr,hp'⟩,hf,hb,hB⟩:=h
 obtain ⟨R',hr',hp2⟩:=hp
 exact ⟨⟨p,FA,fc,(hd'.mono hs).shut hk (IsT.own hp'.obj) hd⟩,⟨R',hr',by rw [← hn]; exact hp2.obj,(hp'.mono hs).px⟩,hf,hb,hD⟩
end
section
variable {w w' : World} {n pw q0 q1 : Nat} {g : Geo} {F0 F1 : List Flt} {s0 s1 : DS} {P : Pow} {L0 L1 : List Sec} {O0 O1 : List OpV} {S0 S1 : Nat → Prop} {hn : n ≤ w.heap.size}
end
end Go.Proofs.YtaggiceejcegdaaGreat
namespace Go.Proofs.YtaggiceejcegdaaGreat
set_option linter.unusedVariables false
open Go.RowKit
section
variable {w w' : World} {B C D : Bd} {n q pw : Nat} {g : Geo} {qs : List Nat} {m : MS} {F : List Flt} {s : DS} {P P' : Pow} {L : List Sec} {O : List OpV} {S : Nat → Nat → Prop} {hn : n ≤ w.heap.size}
theorem RMany.step {i : Nat} {v : DX} {d : DC} (h : RMany w n pw g qs m S hn) (hv : m.ds[i]? = some v) (hq : qs[i]? = some q) (ha : RDM w' (Bd.on n w.heap.size (S i) hn) q pw g v.F d) (hk : KeptT RDT (Bd.on n w.heap.size (S i) hn) w w') :
  RManyM w' n pw g qs (m.put i v.F d):=by
 have hsz:=hk.size
 have hi : i < m.ds.length:=(List.getElem?_eq_some_iff.1 hv).1
 have hP:=ha.p
 refine ⟨fun j k=>if j = i then (S i k ∨ w.heap.size ≤ k) else (S j k ∧ k < w.heap.size),Nat.le_trans hn hsz,?_,?_,?_,by rw [h.len]; simp [MS.put]⟩
 ·intro j u r hu hr
  by_cases hj : j = i
  ·subst hj
   unfold MS.put at hu
   rw [List.getElem?_set_self hi] at hu
   injection hu with hu
   subst hu
   rw [hq] at hr
   injection hr with hr
   subst hr
   refine RDPm.mono ha ⟨Nat.le_refl _,fun k hk' hh=>?_⟩ (Nat.le_refl _)
   refine (Bd.on_has hk').2 ⟨hh.1,?_⟩
   rw [if_pos rfl]
   by_cases h2 : k < w.heap.size
   ·exact .inl ((Bd.on_has h2).1 hh).2
   ·exact .inr (by omega)
  ·unfold MS.put at hu
   rw [List.getElem?_set_ne (Ne.symm hj)] at hu
   have hjl : j < m.ds.length:=(List.getElem?_eq_some_iff.1 hu).1
   refine RDPm.other (h.disk j u r hu hr) hP hk ⟨Nat.le_refl _,fun k hk' hh=>?_⟩ rfl (Nat.le_refl _) (fun k hk' h1 h0=>?_)
   ·refine (Bd.on_has (by omega)).2 ⟨hh.1,?_⟩
    rw [if_neg hj]
    exact ⟨((Bd.on_has hk').1 hh).2,hk'⟩
   ·have h1':=((Bd.on_has (by omega)).1 h1).2
    rw [if_neg hj] at h1'
    exact h.no j i k hjl hi hj hk' h1'.1 ((Bd.on_has hk').1 h0).2
 ·obtain ⟨R,hr,hp⟩:=hP
  exact ⟨R,hr,hp.obj,fun h=>h⟩
 ·intro a b k ha' hb' hab hk' h1 h2
  unfold MS.put at ha' hb'
  rw [List.length_set] at ha' hb'
  by_cases haI : a = i
  ·subst haI
   rw [if_pos rfl] at h1
   rw [if_neg (fun e=>hab e.symm)] at h2
   rcases h1 with h1 | h1
   ·exact h.no a b k ha' hb' hab h2.2 h1 h2.1
   ·omega
  ·rw [if_neg haI] at h1
   by_cases hbI : b = i
   ·subst hbI
    rw [if_pos rfl] at h2
    rcases h2 with h2 | h2
    ·exact h.no a b k ha' hb' hab h1.2 h1.1 h2
    ·omega
   ·rw [if_neg hbI] at h2
    exact h.no a b k ha' hb' hab h1.2 h1.1 h2.1
theorem RManyM.at_ {i : Nat} {v : DX} (h : RManyM w n pw g qs m) (hv : m.ds[i]? = some v) (hq : qs[i]? = some q) : ∃ B : Bd,B.n = n ∧ RDM w B q pw g v.F (m.dc v) ∧ ∀ w' d,RDM w' B q pw g v.F d → KeptT RDT B w w' → RManyM w' n pw g qs (m.put i v.F d):=by
 obtain ⟨S,hn,h⟩:=h
 exact ⟨_,rfl,h.disk i v q hv hq,fun w' d hd hk=>h.step hv hq hd hk⟩
theorem RManyM.low (h : RManyM w n pw g qs m) : n ≤ w.heap.size:=by obtain ⟨_,hn,_⟩:=h; exact hn
theorem RManyM.len (h : RManyM w n pw g qs m) : qs.length = m.ds.length:=by obtain ⟨_,_,h⟩:=h; exact h.len
end
end Go.Proofs.YtaggiceejcegdaaGreat
namespace Go.Proofs.YtaggiceejcegdaaGreat
set_option linter.unusedVariables false
open Go.RowKit
theorem SlsB.kept {ts : List TypeId} {B : Bd} {w w' : World} {base : Nat} {A : Option Addr} {c : Nat} {ss : List Sl} (h : SlsB w base A c ss) (hk : KeptT ts B w w') (h1 : 26 ∉ ts) (h2 : 5 ∉ ts) : SlsB w' base A c ss:=
 ⟨own_ty h.own hk h1,fun s hs=>⟨(h.each s hs).1.kept hk (KeptT.free h2),(h.each s hs).2⟩⟩
section
variable {w w' w0 : World} {B : Bd} {q pw p : Nat} {g : Geo} {F : List Flt} {s : DS} {P : Pow} {L : List Sec} {O : List OpV} {FA : Option Addr} {fc : Nat}
set_option maxRecDepth 100000 in
set_option maxHeartbeats 1000000 in
theorem wread_none {key at_ : Int} {d : DC} (n : Int) (h0 : n ≤ 0) (h : DM w B q pw g F d) :
  Calls Tryz.prog 20 #[.pointer (some ⟨q,0,none⟩),.int .u64 key,.int .i64 at_,.int .i64 n] w (RdsPost w B q pw g F (d,[],0)):=by
 have hb0 : Below w.heap.size w (((w.alloc (.cells #[.pointer (some ⟨q,0,none⟩)] 52)).alloc (.cells #[.int .u64 key] 23)).alloc (.cells #[.int .i64 at_] 3)):=(((Below.refl _ _).alloc (Nat.le_refl _) _).alloc (by simp) _).alloc (by first | (simp; done) | (simp; omega)) _
 have HD : Hid (RdsPost w B q pw g F (d,[],0) (.returned (.tuple #[.slice none 0 0,.int .i64 0])) (((w.alloc (.cells #[.pointer (some ⟨q,0,none⟩)] 52)).alloc (.cells #[.int .u64 key] 23)).alloc (.cells #[.int .i64 at_] 3))):=
  ⟨none,0,[],rfl,rfl,⟨World.ownsRow_nil _ _ _ _,fun s hs=>by simp at hs⟩,DPm.below0 h hb0,KeptT.bel hb0⟩
 clear h hb0
 go_enter Tryz.func20,Tryz.ntmps20
 go_wp2
 go_loopw [10,18] (fun o i wr=>o = .slice none 0 0 ∧ i = .int .i64 0 ∧ Hid (RdsPost w B q pw g F (d,[],0) (.returned (.tuple #[.slice none 0 0,.int .i64 0])) wr)) (fun _ _ _=>0)
 case atStart=>exact ⟨rfl,rfl,HD⟩
 case round=>
  obtain ⟨rfl,rfl,HW⟩:=hrel
  go_wp2
  go_ret2
  exact HW.out
end
end Go.Proofs.YtaggiceejcegdaaGreat
namespace Go.Proofs.YtaggiceejcegdaaGreat
set_option linter.unusedVariables false
open Go.RowKit
theorem Tried.next {f : DC → DC × Ans} {d : DC} {n : Nat} {er : Int} (h : Tried f d n er) (he : er = 16) : Tried f d (n + 1) (ansN f d n).er:=by
 refine .inr ⟨by omega,by simp,fun j hj=>?_⟩
 rcases h with ⟨h0,_⟩ | ⟨h0,h1,h2⟩
 ·omega
 ·by_cases e : j = n - 1
  ·rw [e,← h1]; exact he
  ·exact h2 j (by omega)
theorem Tried.done {f : DC → DC × Ans} {d : DC} {n : Nat} {er : Int} (h : Tried f d n er) (he : n = 9 ∨ ¬ er = 16) (hn : n ≤ 9) : 0 < n ∧ tryD f d = (callN f d n,ansN f d (n - 1)) ∧ er = (tryD f d).2.er:=by
 rcases h with ⟨h0,h1⟩ | ⟨h0,h1,h2⟩
 ·rcases he with he | he
  ·omega
  ·exact absurd h1 he
 ·have h3 : tryD f d = (callN f d (n - 1 + 1),ansN f d (n - 1)):=try_stop h2 (by
   rcases he with he | he
   ·exact .inl (by omega)
   ·exact .inr ⟨by omega,by rw [← h1]; exact he⟩)
  rw [show n - 1 + 1 = n by omega] at h3
  exact ⟨h0,h3,by rw [h3,h1]⟩
section
variable {w w' : World} {B : Bd} {q pw : Nat} {g : Geo} {F : List Flt} {d : DC}
set_option maxRecDepth 100000 in
set_option maxHeartbeats 4000000 in
theorem rwwrite_any {key at_ : Int} {ss : List Sl} {A : Option Addr} {c : Nat} (h : RDM w B q pw g F d) (hF : ∀ f ∈ F,I64 f.to_) (hn : F.length ≤ 9223372036854775807) (hon : d.O.length + 9 * ss.length ≤ 99000) (ha0 : -1000000 ≤ at_) (ha1 : at_ ≤ 1000000)
  (hr : ∀ W,KeptT RDT B w W → SlsR W W.heap.size A ss) (hx : ∀ s ∈ ss,s.xs.length ≤ 100000 ∧ s.xs.length ≤ s.c) (hl : ss.length ≤ 100000) :
  Calls Tryz.prog 17 #[.pointer (some ⟨q,0,none⟩),.int .u64 key,.int .i64 at_,.slice A ss.length c] w fun e w'=>e = .returned (.int .i64 (wrD g F key at_ (ss.map Sl.xs) d).2) ∧ RDM w' B q pw g F (wrD g F key at_ (ss.map Sl.xs) d).1 ∧ KeptT RDT B w w':=by
 have HR:=Lib.hid hr
 have HX:=Lib.hid hx
 have HF:=Lib.hid hF
 have H0 : Hid (RDM w B q pw g F (wrAll g F key at_ (ss.map Sl.xs) d 0).1 ∧ (wrAll g F key at_ (ss.map Sl.xs) d 0).2 = 0 ∧ KeptT RDT B w w):=⟨h,rfl,KeptT.refl _ _ _⟩
 clear hr hx hF h
 go_enter Tryz.func17,Tryz.ntmps17
 go_wp2
 go_loopw [9] (fun i wr=>∃ k : Nat,k ≤ ss.length ∧ i = .int .i64 k ∧ Hid (RDM wr B q pw g F (wrAll g F key at_ (ss.map Sl.xs) d k).1 ∧ (wrAll g F key at_ (ss.map Sl.xs) d k).2 = 0 ∧ KeptT RDT B w wr)) (fun i _=>ss.length - (intOf i).toNat)
 case atStart=>exact ⟨0,Nat.zero_le _,rfl,H0⟩
 case round=>
  obtain ⟨k,hk,rfl,HW⟩:=hrel
  by_cases hlt : k < ss.length
  ·have hol:=wrAll_len g F key at_ (ss.map Sl.xs) d k
   have HN : Hid (wrAll g F key at_ (ss.map Sl.xs) d (k + 1) = ((tryD (wOne g F key (at_ + k) ss[k].xs) (wrAll g F key at_ (ss.map Sl.xs) d k).1).1,(tryD (wOne g F key (at_ + k) ss[k].xs) (wrAll g F key at_ (ss.map Sl.xs) d k).1).2.er)):=by
    unfold Hid
    rw [wrAll,if_pos HW.out.2.1,show (ss.map Sl.xs).getD k [] = ss[k].xs by simp [List.getD,hlt]]
   have H1 : Hid (RDM wr B q pw g F (callN (wOne g F key (at_ + k) ss[k].xs) (wrAll g F key at_ (ss.map Sl.xs) d k).1 0) ∧ KeptT RDT B w wr ∧ Tried (wOne g F key (at_ + k) ss[k].xs) (wrAll g F key at_ (ss.map Sl.xs) d k).1 0 16):=⟨HW.out.1,HW.out.2.2,.inl ⟨rfl,rfl⟩⟩
   have hw : IntKind.i64.wrap (at_ + (k : Int)) = at_ + k:=by rw [IntKind.wrap_i64]; omega
   have hol2 : (wrAll g F key at_ (ss.map Sl.xs) d k).1.O.length + 9 ≤ 99000:=by omega
   generalize hD0 : (wrAll g F key at_ (ss.map Sl.xs) d k).1 = d0 at *
   go_wp2
   go_loopw [10,11] (fun e n wr=>∃ (j : Nat) (er : Int),j ≤ 9 ∧ e = .int .i64 er ∧ n = .int .i64 j ∧ Hid (RDM wr B q pw g F (callN (wOne g F key (at_ + k) ss[k].xs) d0 j) ∧ KeptT RDT B w wr ∧ Tried (wOne g F key (at_ + k) ss[k].xs) d0 j er)) (fun _ n _=>10 - (intOf n).toNat)
   case atStart=>exact ⟨0,16,by omega,rfl,rfl,H1⟩
   case round=>
    rename_i wr0 _ _ _
    obtain ⟨j,er,hj,rfl,rfl,HJ⟩:=hrel
    by_cases hg : j < 9 ∧ er = 16
    ·obtain ⟨h9,rfl⟩:=hg
     have hlc:=callN_len (wOne_len g F key (at_ + k) ss[k].xs) d0 j
     obtain ⟨g1,o1,rfl,hg1,j1,hr1⟩:=sl_at (HR.out wr HJ.out.2.1) hlt
     have hx1:=HX.out _ (List.getElem_mem hlt)
     have hkj:=HJ.out.2.1
     have HC:=Lib.hid (rdwrite_any key (at_ + k) ss[k].xs false ss[k].A ss[k].c HJ.out.1 hn (by omega) (by constructor <;> omega) (begD_to _ _ key HF.out) (fun W hW=>(HR.out W (hkj.trans hW)).each _ (List.getElem_mem hlt)) hx1.1 hx1.2)
     have HT:=Lib.hid (HJ.out.2.2.next rfl)
     have d1 : decide ((j : Int) < 9) = true:=decide_eq_true (by omega)
     have HE : Hid ((ansN (wOne g F key (at_ + k) ss[k].xs) d0 j).er = dWrE F (callN (wOne g F key (at_ + k) ss[k].xs) d0 j).s (callN (wOne g F key (at_ + k) ss[k].xs) d0 j).P (callN (wOne g F key (at_ + k) ss[k].xs) d0 j).L key (at_ + k) ss[k].xs):=rfl
     have HS : Hid (∀ W,RDPm W B q pw g F (dWrS F (callN (wOne g F key (at_ + k) ss[k].xs) d0 j).s (callN (wOne g F key (at_ + k) ss[k].xs) d0 j).P (callN (wOne g F key (at_ + k) ss[k].xs) d0 j).L key (at_ + k) ss[k].xs) (begD F (callN (wOne g F key (at_ + k) ss[k].xs) d0 j).s (callN (wOne g F key (at_ + k) ss[k].xs) d0 j).P key).P
       (dWrLM g F (callN (wOne g F key (at_ + k) ss[k].xs) d0 j).s (callN (wOne g F key (at_ + k) ss[k].xs) d0 j).P (callN (wOne g F key (at_ + k) ss[k].xs) d0 j).L (callN (wOne g F key (at_ + k) ss[k].xs) d0 j).O key (at_ + k) ss[k].xs false)
       (dWrO g F (callN (wOne g F key (at_ + k) ss[k].xs) d0 j).s (callN (wOne g F key (at_ + k) ss[k].xs) d0 j).P (callN (wOne g F key (at_ + k) ss[k].xs) d0 j).L (callN (wOne g F key (at_ + k) ss[k].xs) d0 j).O key (at_ + k) ss[k].xs false) → RDM W B q pw g F (callN (wOne g F key (at_ + k) ss[k].xs) d0 (j + 1))):=fun W h=>h
     clear hr1 hx1 hkj
     go_wp2_with fail
     refine HC.out.mono ?_
     rintro e w2 ⟨rfl,hd2,hk2⟩
     rw [← HE.out]
     have HD:=Lib.hid (And.intro (HS.out _ hd2) (HJ.out.2.1.trans hk2))
     clear hd2 hk2 HC
     go_wp2
     go_roundw
     case rel=>exact ⟨j + 1,_,by omega,rfl,by go_num,HD.out.1,HD.out.2,HT.out⟩
     case measure=>simp [intOf]; omega
    ·obtain ⟨_,h2,h3⟩:=HJ.out.2.2.done (by by_cases e : j = 9; exact .inl e; exact .inr (fun e'=>hg ⟨by omega,e'⟩)) hj
     have HD : Hid (RDM wr B q pw g F (tryD (wOne g F key (at_ + k) ss[k].xs) d0).1 ∧ KeptT RDT B w wr):=by rw [h2]; exact ⟨HJ.out.1,HJ.out.2.1⟩
     have HE:=Lib.hid h3
     clear h2 h3
     generalize tryD (wOne g F key (at_ + k) ss[k].xs) d0 = T at *
     obtain ⟨T1,⟨er',by_⟩⟩:=T
     have hee : er = er':=HE.out
     subst hee
     simp only at *
     by_cases h9 : j < 9
     ·have d1 : decide ((j : Int) < 9) = true:=decide_eq_true (by omega)
      have d2 : (er == 16) = false:=by simpa using fun e=>hg ⟨h9,e⟩
      by_cases he : er = 0
      ·subst he
       go_wp2
       go_roundw
       case rel=>exact ⟨k + 1,hlt,by go_num,by rw [HN.out]; exact HD.out.1,by rw [HN.out],HD.out.2⟩
       case measure=>simp [intOf]; omega
      ·have he' : (er != 0) = true:=by simpa using he
       have HE9 : Hid (wrD g F key at_ (ss.map Sl.xs) d = (T1,er)):=by
        unfold Hid wrD
        have h1:=wrAll_stay (g:=g) (F:=F) (key:=key) (a:=at_) (ls:=ss.map Sl.xs) (d:=d) (k:=k + 1) (by rw [HN.out]; exact he) (ss.length - (k + 1))
        rw [show k + 1 + (ss.length - (k + 1)) = (ss.map Sl.xs).length by rw [List.length_map]; omega] at h1
        rw [h1,HN.out]
       go_wp2
       go_ret
       rw [HE9.out]
       exact ⟨rfl,HD.out⟩
     ·have d1 : decide ((j : Int) < 9) = false:=decide_eq_false (by omega)
      by_cases he : er = 0
      ·subst he
       go_wp2
       go_roundw
       case rel=>exact ⟨k + 1,hlt,by go_num,by rw [HN.out]; exact HD.out.1,by rw [HN.out],HD.out.2⟩
       case measure=>simp [intOf]; omega
      ·have he' : (er != 0) = true:=by simpa using he
       have HE9 : Hid (wrD g F key at_ (ss.map Sl.xs) d = (T1,er)):=by
        unfold Hid wrD
        have h1:=wrAll_stay (g:=g) (F:=F) (key:=key) (a:=at_) (ls:=ss.map Sl.xs) (d:=d) (k:=k + 1) (by rw [HN.out]; exact he) (ss.length - (k + 1))
        rw [show k + 1 + (ss.length - (k + 1)) = (ss.map Sl.xs).length by rw [List.length_map]; omega] at h1
        rw [h1,HN.out]
       go_wp2
       go_ret
       rw [HE9.out]
       exact ⟨rfl,HD.out⟩
  ·obtain rfl : k = ss.length:=by omega
   have HD : Hid (wrD g F key at_ (ss.map Sl.xs) d = wrAll g F key at_ (ss.map Sl.xs) d ss.length):=by unfold Hid wrD; rw [List.length_map]
   go_wp2
   go_ret
   rw [HD.out]
   exact ⟨by rw [HW.out.2.1]; rfl,HW.out.1,HW.out.2.2⟩
theorem norm_u8 {xs : List Int} (h : U8s xs) : norm xs = xs:=by
 unfold norm
 have : ∀ x ∈ xs,((UInt8.ofNat x.toNat).toNat : Int) = x:=fun x hx=>by
  have:=h x hx
  simp only [UInt8.toNat_ofNat']
  omega
 induction xs with
 | nil=>rfl
 | cons a l ih=>rw [List.map_cons,this a (by simp),ih (fun x hx=>h x (by simp [hx])) (fun x hx=>this x (by simp [hx]))]
theorem grown_sl {base m : Nat} {v : Value} {xs : List Value} (hg : w.grownBy w' v.ownBlock) (ho : w.ownsRow base 26 1 v m xs) : KeptT [26] (Bd.of 0) w w':=by
 have hk : Kept (fun k=>v.ownBlock = some k) w w':=⟨hg.os,hg.tape,hg.output,hg.size,fun k hk hS=>hg.block k hk (fun e=>hS e.symm)⟩
 refine KeptT.of hk (fun k _ e=>⟨⟨Nat.zero_le _,fun h=>h⟩,?_⟩)
 rcases ho.2 with ⟨h2,_⟩ | ⟨g,cap,cur,h2,_,h4,_⟩
 ·rw [h2] at e; cases e
 ·rw [h2] at e
  obtain rfl : g = k:=by simpa [Value.ownBlock] using e
  exact HasT.mem (IsT.of h4) (by simp)
theorem grown_new {ts : List TypeId} {w0 : World} {base m : Nat} {v : Value} {xs : List Value} (hk : KeptT ts B w0 w) (hg : w.grownBy w' v.ownBlock) (ho : w.ownsRow base 26 1 v m xs) (hb : w0.heap.size ≤ base) : KeptT ts B w0 w':=by
 have hkk : Kept (fun k=>v.ownBlock = some k) w w':=⟨hg.os,hg.tape,hg.output,hg.size,fun k hk hS=>hg.block k hk (fun e=>hS e.symm)⟩
 refine Kept.trans hk hkk (fun i hi e=>?_)
 have:=own_low ho e
 omega
set_option maxRecDepth 100000 in
set_option maxHeartbeats 4000000 in
theorem rwread_any {key at_ : Int} {N : Nat} (n : Int) (hN : n.toNat = N) (hNl : N ≤ 1000) (h : RDM w B q pw g F d) (hu : d.U8) (hn : F.length ≤ 9223372036854775807) (hon : d.O.length ≤ 99000) (ha0 : -1000000 ≤ at_) (ha1 : at_ ≤ 1000000) :
  Calls Tryz.prog 21 #[.pointer (some ⟨q,0,none⟩),.int .u64 key,.int .i64 at_,.int .i64 n] w (RRdsPost w B q pw g F (rdAll g F key at_ d N)):=by
 obtain ⟨i0,hi0,hz0,hz1,hz2⟩:=info_parts info_sl
 have HU:=Lib.hid hu
 have H0 : Hid (RDM w B q pw g F (rdAll g F key at_ d 0).1 ∧ (rdAll g F key at_ d 0).2.2 = 0 ∧ ([] : List Sl).map Sl.xs = (rdAll g F key at_ d 0).2.1 ∧ SlsB w w.heap.size none 0 [] ∧ KeptT RDT B w w):=
  ⟨h,rfl,rfl,⟨World.ownsRow_nil _ _ _ _,fun s hs=>by simp at hs⟩,KeptT.refl _ _ _⟩
 clear h hu
 go_enter Tryz.func21,Tryz.ntmps21
 go_wp2
 go_loopw [10,11] (fun o i wr=>∃ (k : Nat) (A : Option Addr) (c : Nat) (ss : List Sl),k ≤ N ∧ o = .slice A ss.length c ∧ i = .int .i64 k ∧ Hid (RDM wr B q pw g F (rdAll g F key at_ d k).1 ∧ (rdAll g F key at_ d k).2.2 = 0 ∧ ss.map Sl.xs = (rdAll g F key at_ d k).2.1 ∧ SlsB wr w.heap.size A c ss ∧ KeptT RDT B w wr)) (fun _ i _=>N - (intOf i).toNat)
 case atStart=>exact ⟨0,none,0,[],Nat.zero_le _,rfl,rfl,H0⟩
 case round=>
  obtain ⟨k,A,c,ss,hk,rfl,rfl,HW⟩:=hrel
  by_cases hlt : k < N
  ·have d0 : decide ((k : Int) < n) = true:=decide_eq_true (by omega)
   have hLO:=rdAll_r (g:=g) (F:=F) (key:=key) (a:=at_) (d:=d) k
   have hUk:=(rdAll_u8 (g:=g) (F:=F) (key:=key) (a:=at_) HU.out k).1
   have HN:=Lib.hid (rdAll_yes (g:=g) (F:=F) (key:=key) (a:=at_) (d:=d) HW.out.2.1)
   have HXW:=Lib.hid HW.out.2.2.1
   have hsl : ss.length ≤ 1000:=by
    have:=congrArg List.length HW.out.2.2.1
    rw [List.length_map,rdAll_len k HW.out.2.1] at this
    omega
   have H1 : Hid (RDM wr B q pw g F (callN (rOne g F key (at_ + k)) (rdAll g F key at_ d k).1 0) ∧ KeptT RDT B wr wr ∧ Tried (rOne g F key (at_ + k)) (rdAll g F key at_ d k).1 0 16):=⟨HW.out.1,KeptT.refl _ _ _,.inl ⟨rfl,rfl⟩⟩
   have hw : IntKind.i64.wrap (at_ + (k : Int)) = at_ + k:=by rw [IntKind.wrap_i64]; omega
   have hO0 : (rdAll g F key at_ d k).1.O.length ≤ 99000:=by rw [hLO.2]; exact hon
   have HUk:=Lib.hid hUk
   have HWs:=Lib.hid HW.out.2.2.2
   generalize (rdAll g F key at_ d k).1 = d0 at *
   clear hLO hUk HW
   obtain ⟨wo,hwo⟩ : ∃ x : World,x = wr:=⟨wr,rfl⟩
   subst hwo
   go_wp2
   go_loopw [12,13,14] (fun b e n wi=>∃ (j : Nat) (er : Int) (A1 : Option Addr) (n1 c1 : Nat),j ≤ 9 ∧ b = .slice A1 n1 c1 ∧ e = .int .i64 er ∧ n = .int .i64 j ∧ Hid (RDM wi B q pw g F (callN (rOne g F key (at_ + k)) d0 j) ∧ KeptT RDT B wo wi ∧ Tried (rOne g F key (at_ + k)) d0 j er) ∧
    Hid (0 < j → (ansN (rOne g F key (at_ + k)) d0 (j - 1)).by_.length = n1 ∧ RdT wi 5 A1 ((ansN (rOne g F key (at_ + k)) d0 (j - 1)).by_.map (Value.int .u8)) ∧ CapOk A1 n1 c1)) (fun _ _ n _=>10 - (intOf n).toNat)
   case atStart=>exact ⟨0,16,none,0,0,by omega,rfl,rfl,rfl,H1,fun h=>absurd h (by omega)⟩
   case round=>
    obtain ⟨j,er,A1,n1,c1,hj,rfl,rfl,rfl,HJ,HBy⟩:=hrel
    by_cases hg : j < 9 ∧ er = 16
    ·obtain ⟨h9,rfl⟩:=hg
     have hcr:=callN_r (g:=g) (F:=F) (key:=key) (a:=at_ + k) (d:=d0) j
     have HC:=Lib.hid (rdread_any key (at_ + k) HJ.out.1 hn (by rw [hcr.2]; exact hO0))
     have HT:=Lib.hid (HJ.out.2.2.next rfl)
     have d1 : decide ((j : Int) < 9) = true:=decide_eq_true (by omega)
     have HE : Hid ((ansN (rOne g F key (at_ + k)) d0 j).er = dRdE F (callN (rOne g F key (at_ + k)) d0 j).s (callN (rOne g F key (at_ + k)) d0 j).P (callN (rOne g F key (at_ + k)) d0 j).L (playL g (callN (rOne g F key (at_ + k)) d0 j).L (callN (rOne g F key (at_ + k)) d0 j).O) key (at_ + k)):=rfl
     have HBB : Hid (norm (dRdB F (callN (rOne g F key (at_ + k)) d0 j).s (callN (rOne g F key (at_ + k)) d0 j).P (callN (rOne g F key (at_ + k)) d0 j).L (playL g (callN (rOne g F key (at_ + k)) d0 j).L (callN (rOne g F key (at_ + k)) d0 j).O) key (at_ + k)) = (ansN (rOne g F key (at_ + k)) d0 j).by_):=
      norm_u8 (rOne_u8 (callN_u8 (fun d hd=>(rOne_u8 hd).1) HUk.out j)).2
     have HS : Hid (∀ W,RDPm W B q pw g F (dRdS F (callN (rOne g F key (at_ + k)) d0 j).s (callN (rOne g F key (at_ + k)) d0 j).P (callN (rOne g F key (at_ + k)) d0 j).L (playL g (callN (rOne g F key (at_ + k)) d0 j).L (callN (rOne g F key (at_ + k)) d0 j).O) key (at_ + k)) (begD F (callN (rOne g F key (at_ + k)) d0 j).s (callN (rOne g F key (at_ + k)) d0 j).P key).P
       (callN (rOne g F key (at_ + k)) d0 j).L (callN (rOne g F key (at_ + k)) d0 j).O → RDM W B q pw g F (callN (rOne g F key (at_ + k)) d0 (j + 1))):=fun W h=>h
     clear hcr
     go_wp2_with fail
     refine HC.out.mono ?_
     rintro e w2 ⟨v,ys,rfl,hv,hys,hd2,hk2⟩
     rw [← HE.out]
     rw [HBB.out] at hys
     subst hys
     obtain ⟨A2,c2,rfl,hr2,hA2⟩:=hv
     have HD:=Lib.hid (And.intro (HS.out _ hd2) (HJ.out.2.1.trans hk2))
     have HB2 : Hid (0 < j + 1 → (ansN (rOne g F key (at_ + k)) d0 (j + 1 - 1)).by_.length = (ansN (rOne g F key (at_ + k)) d0 j).by_.length ∧ RdT w2 5 A2 ((ansN (rOne g F key (at_ + k)) d0 (j + 1 - 1)).by_.map (Value.int .u8)) ∧ CapOk A2 (ansN (rOne g F key (at_ + k)) d0 j).by_.length c2):=fun _=>⟨rfl,hr2,hA2⟩
     clear hd2 hk2 HC hr2 hA2
     go_wp2
     go_roundw
     case rel=>exact ⟨j + 1,_,A2,_,c2,by omega,rfl,rfl,by go_num,⟨HD.out.1,HD.out.2,HT.out⟩,HB2.out⟩
     case measure=>simp [intOf]; omega
    ·obtain ⟨hj0,h2,h3⟩:=HJ.out.2.2.done (by by_cases e : j = 9; exact .inl e; exact .inr (fun e'=>hg ⟨by omega,e'⟩)) hj
     have HD : Hid (RDM wr B q pw g F (tryD (rOne g F key (at_ + k)) d0).1 ∧ KeptT RDT B wo wr):=by rw [h2]; exact ⟨HJ.out.1,HJ.out.2.1⟩
     have HB3 : Hid ((tryD (rOne g F key (at_ + k)) d0).2.by_.length = n1 ∧ RdT wr 5 A1 ((tryD (rOne g F key (at_ + k)) d0).2.by_.map (Value.int .u8)) ∧ CapOk A1 n1 c1):=by rw [h2]; exact HBy.out hj0
     have HE:=Lib.hid h3
     have HS3:=Lib.hid (HWs.out.1.kept HJ.out.2.1 (by unfold RDT; decide) (by unfold RDT; decide))
     have HK3:=Lib.hid (HWs.out.2.trans HJ.out.2.1)
     clear h2 h3 HJ HBy
     generalize tryD (rOne g F key (at_ + k)) d0 = T at *
     obtain ⟨T1,⟨er',by_⟩⟩:=T
     have hee : er = er':=HE.out
     subst hee
     have hnn : by_.length = n1:=HB3.out.1
     subst hnn
     simp only at *
     by_cases h9 : j < 9
     ·have d1 : decide ((j : Int) < 9) = true:=decide_eq_true (by omega)
      have d2 : (er == 16) = false:=by simpa using fun e=>hg ⟨h9,e⟩
      by_cases he : er = 0
      ·subst he
       have HN2 : Hid (rdAll g F key at_ d (k + 1) = (T1,(rdAll g F key at_ d k).2.1 ++ [by_],0)):=by
        unfold Hid; rw [HN.out]; unfold rdNext; rw [if_pos rfl]
       have hO:=HS3.out.own
       go_wp2_with (at_builtin; go_loud (refine wpList_append_own _ rfl _ _ 49 rfl w.heap.size 26 i0 _ 1 24 Tryz.underlying49 hi0 hz0 hz1 hz2 rfl (by decide) (.slice A ss.length c) ss.length (ss.map Sl.v) rfl (hO.alloc _) ⟨wr.heap.size,0,none⟩ 1 1 [.slice A1 (by_).length c1] rfl rfl (World.news_of_block (heap_alloc_new _ _)) (by intro u hu; simp at hu; subst hu; rfl) ?c1 ?c2 ?c3 ?_))
       case c1=>unfold maxLen; omega
       case c2=>omega
       case c3=>have h71:=HK3.out.size; first | omega | (simp; omega)
       intro v' w9 hown hgrow hiff
       obtain ⟨A9,c9,hv⟩:=own_form hown
       subst hv
       have hba : Below wr.heap.size wr (wr.alloc (.cells #[.slice A1 (by_).length c1] 26)):=(Below.refl _ _).alloc (Nat.le_refl _) _
       have HW9 : Hid (RDM w9 B q pw g F (rdAll g F key at_ d (k + 1)).1 ∧ (rdAll g F key at_ d (k + 1)).2.2 = 0 ∧ (ss ++ [(⟨A1,by_,c1⟩ : Sl)]).map Sl.xs = (rdAll g F key at_ d (k + 1)).2.1 ∧ SlsB w9 w.heap.size A9 c9 (ss ++ [(⟨A1,by_,c1⟩ : Sl)]) ∧ KeptT RDT B w w9):=by
        rw [HN2.out]
        refine ⟨(RDPm.below0 HD.out.1 hba).types (grown_sl hgrow (hO.alloc _)) (by decide) (by decide) (by decide) (by decide),rfl,by rw [List.map_append,HXW.out]; rfl,HS3.out.push HB3.out.2 hown hgrow,grown_new (HK3.out.trans (KeptT.bel hba)) hgrow (hO.alloc _) (Nat.le_refl _)⟩
       clear hown hgrow hiff hO hba
       go_wp2
       go_roundw
       case rel=>exact ⟨k + 1,A9,c9,ss ++ [(⟨A1,by_,c1⟩ : Sl)],hlt,by rw [List.length_append]; rfl,by go_num,HW9⟩
       case measure=>simp [intOf]; omega
      ·by_cases h15 : er = 15
       ·subst h15
        have HN2 : Hid (rdAll g F key at_ d (k + 1) = (T1,(rdAll g F key at_ d k).2.1 ++ [[]],0)):=by
         unfold Hid; rw [HN.out]; unfold rdNext; rw [if_neg he,if_pos (.inl rfl)]
        have hO:=HS3.out.own
        go_wp2_with (at_builtin; go_loud (refine wpList_append_own _ rfl _ _ 49 rfl w.heap.size 26 i0 _ 1 24 Tryz.underlying49 hi0 hz0 hz1 hz2 rfl (by decide) (.slice A ss.length c) ss.length (ss.map Sl.v) rfl (hO.alloc _) ⟨wr.heap.size,0,none⟩ 1 1 [.slice none (([] : List Int)).length 0] rfl rfl (World.news_of_block (heap_alloc_new _ _)) (by intro u hu; simp at hu; subst hu; rfl) ?c1 ?c2 ?c3 ?_))
        case c1=>unfold maxLen; omega
        case c2=>omega
        case c3=>have h71:=HK3.out.size; first | omega | (simp; omega)
        intro v' w9 hown hgrow hiff
        obtain ⟨A9,c9,hv⟩:=own_form hown
        subst hv
        have hba : Below wr.heap.size wr (wr.alloc (.cells #[.slice none (([] : List Int)).length 0] 26)):=(Below.refl _ _).alloc (Nat.le_refl _) _
        have HW9 : Hid (RDM w9 B q pw g F (rdAll g F key at_ d (k + 1)).1 ∧ (rdAll g F key at_ d (k + 1)).2.2 = 0 ∧ (ss ++ [(⟨none,([] : List Int),0⟩ : Sl)]).map Sl.xs = (rdAll g F key at_ d (k + 1)).2.1 ∧ SlsB w9 w.heap.size A9 c9 (ss ++ [(⟨none,([] : List Int),0⟩ : Sl)]) ∧ KeptT RDT B w w9):=by
         rw [HN2.out]
         refine ⟨(RDPm.below0 HD.out.1 hba).types (grown_sl hgrow (hO.alloc _)) (by decide) (by decide) (by decide) (by decide),rfl,by rw [List.map_append,HXW.out]; rfl,HS3.out.push ⟨RdT.nil _ _ _,CapOk.nil⟩ hown hgrow,grown_new (HK3.out.trans (KeptT.bel hba)) hgrow (hO.alloc _) (Nat.le_refl _)⟩
        clear hown hgrow hiff hO hba
        go_wp2
        go_roundw
        case rel=>exact ⟨k + 1,A9,c9,ss ++ [(⟨none,([] : List Int),0⟩ : Sl)],hlt,by rw [List.length_append]; rfl,by go_num,HW9⟩
        case measure=>simp [intOf]; omega
       ·by_cases h16 : er = 16
        ·subst h16
         have HN2 : Hid (rdAll g F key at_ d (k + 1) = (T1,(rdAll g F key at_ d k).2.1 ++ [[]],0)):=by
          unfold Hid; rw [HN.out]; unfold rdNext; rw [if_neg he,if_pos (.inr rfl)]
         exact absurd d2 (by decide)
        ·have HDD : Hid (RRdsPost w B q pw g F (rdAll g F key at_ d N) (.returned (.tuple #[.slice none 0 0,.int .i64 er])) wr):=by
          have hN2 : rdAll g F key at_ d (k + 1) = (T1,[],er):=by rw [HN.out]; unfold rdNext; rw [if_neg he,if_neg (by rintro (h | h); exact h15 h; exact h16 h)]
          have hN3 : rdAll g F key at_ d N = (T1,[],er):=by
           have:=rdAll_stay (g:=g) (F:=F) (key:=key) (a:=at_) (d:=d) (k:=k + 1) (by rw [hN2]; exact he) (N - (k + 1))
           rw [show k + 1 + (N - (k + 1)) = N by omega,hN2] at this
           exact this
          rw [hN3]
          exact ⟨none,0,[],rfl,rfl,⟨World.ownsRow_nil _ _ _ _,fun s hs=>by simp at hs⟩,HD.out.1,HK3.out⟩
         have e0 : (er != 0) = true:=by simpa using he
         have e15 : (er != 15) = true:=by simpa using h15
         have e16 : (er != 16) = true:=by simpa using h16
         go_wp2
         go_ret2
         exact HDD.out
     ·have d1 : decide ((j : Int) < 9) = false:=decide_eq_false (by omega)
      by_cases he : er = 0
      ·subst he
       have HN2 : Hid (rdAll g F key at_ d (k + 1) = (T1,(rdAll g F key at_ d k).2.1 ++ [by_],0)):=by
        unfold Hid; rw [HN.out]; unfold rdNext; rw [if_pos rfl]
       have hO:=HS3.out.own
       go_wp2_with (at_builtin; go_loud (refine wpList_append_own _ rfl _ _ 49 rfl w.heap.size 26 i0 _ 1 24 Tryz.underlying49 hi0 hz0 hz1 hz2 rfl (by decide) (.slice A ss.length c) ss.length (ss.map Sl.v) rfl (hO.alloc _) ⟨wr.heap.size,0,none⟩ 1 1 [.slice A1 (by_).length c1] rfl rfl (World.news_of_block (heap_alloc_new _ _)) (by intro u hu; simp at hu; subst hu; rfl) ?c1 ?c2 ?c3 ?_))
       case c1=>unfold maxLen; omega
       case c2=>omega
       case c3=>have h71:=HK3.out.size; first | omega | (simp; omega)
       intro v' w9 hown hgrow hiff
       obtain ⟨A9,c9,hv⟩:=own_form hown
       subst hv
       have hba : Below wr.heap.size wr (wr.alloc (.cells #[.slice A1 (by_).length c1] 26)):=(Below.refl _ _).alloc (Nat.le_refl _) _
       have HW9 : Hid (RDM w9 B q pw g F (rdAll g F key at_ d (k + 1)).1 ∧ (rdAll g F key at_ d (k + 1)).2.2 = 0 ∧ (ss ++ [(⟨A1,by_,c1⟩ : Sl)]).map Sl.xs = (rdAll g F key at_ d (k + 1)).2.1 ∧ SlsB w9 w.heap.size A9 c9 (ss ++ [(⟨A1,by_,c1⟩ : Sl)]) ∧ KeptT RDT B w w9):=by
        rw [HN2.out]
        refine ⟨(RDPm.below0 HD.out.1 hba).types (grown_sl hgrow (hO.alloc _)) (by decide) (by decide) (by decide) (by decide),rfl,by rw [List.map_append,HXW.out]; rfl,HS3.out.push HB3.out.2 hown hgrow,grown_new (HK3.out.trans (KeptT.bel hba)) hgrow (hO.alloc _) (Nat.le_refl _)⟩
       clear hown hgrow hiff hO hba
       go_wp2
       go_roundw
       case rel=>exact ⟨k + 1,A9,c9,ss ++ [(⟨A1,by_,c1⟩ : Sl)],hlt,by rw [List.length_append]; rfl,by go_num,HW9⟩
       case measure=>simp [intOf]; omega
      ·by_cases h15 : er = 15
       ·subst h15
        have HN2 : Hid (rdAll g F key at_ d (k + 1) = (T1,(rdAll g F key at_ d k).2.1 ++ [[]],0)):=by
         unfold Hid; rw [HN.out]; unfold rdNext; rw [if_neg he,if_pos (.inl rfl)]
        have hO:=HS3.out.own
        go_wp2_with (at_builtin; go_loud (refine wpList_append_own _ rfl _ _ 49 rfl w.heap.size 26 i0 _ 1 24 Tryz.underlying49 hi0 hz0 hz1 hz2 rfl (by decide) (.slice A ss.length c) ss.length (ss.map Sl.v) rfl (hO.alloc _) ⟨wr.heap.size,0,none⟩ 1 1 [.slice none (([] : List Int)).length 0] rfl rfl (World.news_of_block (heap_alloc_new _ _)) (by intro u hu; simp at hu; subst hu; rfl) ?c1 ?c2 ?c3 ?_))
        case c1=>unfold maxLen; omega
        case c2=>omega
        case c3=>have h71:=HK3.out.size; first | omega | (simp; omega)
        intro v' w9 hown hgrow hiff
        obtain ⟨A9,c9,hv⟩:=own_form hown
        subst hv
        have hba : Below wr.heap.size wr (wr.alloc (.cells #[.slice none (([] : List Int)).length 0] 26)):=(Below.refl _ _).alloc (Nat.le_refl _) _
        have HW9 : Hid (RDM w9 B q pw g F (rdAll g F key at_ d (k + 1)).1 ∧ (rdAll g F key at_ d (k + 1)).2.2 = 0 ∧ (ss ++ [(⟨none,([] : List Int),0⟩ : Sl)]).map Sl.xs = (rdAll g F key at_ d (k + 1)).2.1 ∧ SlsB w9 w.heap.size A9 c9 (ss ++ [(⟨none,([] : List Int),0⟩ : Sl)]) ∧ KeptT RDT B w w9):=by
         rw [HN2.out]
         refine ⟨(RDPm.below0 HD.out.1 hba).types (grown_sl hgrow (hO.alloc _)) (by decide) (by decide) (by decide) (by decide),rfl,by rw [List.map_append,HXW.out]; rfl,HS3.out.push ⟨RdT.nil _ _ _,CapOk.nil⟩ hown hgrow,grown_new (HK3.out.trans (KeptT.bel hba)) hgrow (hO.alloc _) (Nat.le_refl _)⟩
        clear hown hgrow hiff hO hba
        go_wp2
        go_roundw
        case rel=>exact ⟨k + 1,A9,c9,ss ++ [(⟨none,([] : List Int),0⟩ : Sl)],hlt,by rw [List.length_append]; rfl,by go_num,HW9⟩
        case measure=>simp [intOf]; omega
       ·by_cases h16 : er = 16
        ·subst h16
         have HN2 : Hid (rdAll g F key at_ d (k + 1) = (T1,(rdAll g F key at_ d k).2.1 ++ [[]],0)):=by
          unfold Hid; rw [HN.out]; unfold rdNext; rw [if_neg he,if_pos (.inr rfl)]
         have hO:=HS3.out.own
         go_wp2_with (at_builtin; go_loud (refine wpList_append_own _ rfl _ _ 49 rfl w.heap.size 26 i0 _ 1 24 Tryz.underlying49 hi0 hz0 hz1 hz2 rfl (by decide) (.slice A ss.length c) ss.length (ss.map Sl.v) rfl (hO.alloc _) ⟨wr.heap.size,0,none⟩ 1 1 [.slice none (([] : List Int)).length 0] rfl rfl (World.news_of_block (heap_alloc_new _ _)) (by intro u hu; simp at hu; subst hu; rfl) ?c1 ?c2 ?c3 ?_))
         case c1=>unfold maxLen; omega
         case c2=>omega
         case c3=>have h71:=HK3.out.size; first | omega | (simp; omega)
         intro v' w9 hown hgrow hiff
         obtain ⟨A9,c9,hv⟩:=own_form hown
         subst hv
         have hba : Below wr.heap.size wr (wr.alloc (.cells #[.slice none (([] : List Int)).length 0] 26)):=(Below.refl _ _).alloc (Nat.le_refl _) _
         have HW9 : Hid (RDM w9 B q pw g F (rdAll g F key at_ d (k + 1)).1 ∧ (rdAll g F key at_ d (k + 1)).2.2 = 0 ∧ (ss ++ [(⟨none,([] : List Int),0⟩ : Sl)]).map Sl.xs = (rdAll g F key at_ d (k + 1)).2.1 ∧ SlsB w9 w.heap.size A9 c9 (ss ++ [(⟨none,([] : List Int),0⟩ : Sl)]) ∧ KeptT RDT B w w9):=by
          rw [HN2.out]
          refine ⟨(RDPm.below0 HD.out.1 hba).types (grown_sl hgrow (hO.alloc _)) (by decide) (by decide) (by decide) (by decide),rfl,by rw [List.map_append,HXW.out]; rfl,HS3.out.push ⟨RdT.nil _ _ _,CapOk.nil⟩ hown hgrow,grown_new (HK3.out.trans (KeptT.bel hba)) hgrow (hO.alloc _) (Nat.le_refl _)⟩
         clear hown hgrow hiff hO hba
         go_wp2
         go_roundw
         case rel=>exact ⟨k + 1,A9,c9,ss ++ [(⟨none,([] : List Int),0⟩ : Sl)],hlt,by rw [List.length_append]; rfl,by go_num,HW9⟩
         case measure=>simp [intOf]; omega
        ·have HDD : Hid (RRdsPost w B q pw g F (rdAll g F key at_ d N) (.returned (.tuple #[.slice none 0 0,.int .i64 er])) wr):=by
          have hN2 : rdAll g F key at_ d (k + 1) = (T1,[],er):=by rw [HN.out]; unfold rdNext; rw [if_neg he,if_neg (by rintro (h | h); exact h15 h; exact h16 h)]
          have hN3 : rdAll g F key at_ d N = (T1,[],er):=by
           have:=rdAll_stay (g:=g) (F:=F) (key:=key) (a:=at_) (d:=d) (k:=k + 1) (by rw [hN2]; exact he) (N - (k + 1))
           rw [show k + 1 + (N - (k + 1)) = N by omega,hN2] at this
           exact this
          rw [hN3]
          exact ⟨none,0,[],rfl,rfl,⟨World.ownsRow_nil _ _ _ _,fun s hs=>by simp at hs⟩,HD.out.1,HK3.out⟩
         have e0 : (er != 0) = true:=by simpa using he
         have e15 : (er != 15) = true:=by simpa using h15
         have e16 : (er != 16) = true:=by simpa using h16
         go_wp2
         go_ret2
         exact HDD.out
  ·obtain rfl : k = N:=by omega
   have d0 : decide ((k : Int) < n) = false:=decide_eq_false (by omega)
   have HD : Hid (RRdsPost w B q pw g F (rdAll g F key at_ d k) (.returned (.tuple #[.slice A ss.length c,.int .i64 0])) wr):=by
    obtain ⟨hm,h0,hx,hsb,hkw⟩:=HW.out
    exact ⟨A,c,ss,by rw [h0],hx,hsb,hm,hkw⟩
   go_wp2
   go_ret2
   exact HD.out
end
end Go.Proofs.YtaggiceejcegdaaGreat
