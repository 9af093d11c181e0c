/-
  WHAT IS SHOWN: what the closure of Write of disk returns and leaves. Conditions: the disk lies in memory; the bytes can be read.
-/
import Derived.Test.YtggkengmlkhdiaaGreatM05
namespace Go.Proofs.YtggkengmlkhdiaaGreat
set_option linter.unusedVariables false
open Go.RowKit
def DT:List TypeId:=[196,166,173,109]
theorem ct_dt:∀ t,t∈CT→t∈DT:=by unfold CT DT; decide
theorem d_dt:∀ t,t∈[109]→t∈DT:=by unfold DT; decide
def toO (a:Int) (f:Flt):Int:=if f.kind=3 then f.to_ else a
def byO (xs:List Int) (f:Flt):List Int:=if f.kind=2 then xs.take (xs.length / 2) else xs
def wOp (a:Int) (xs:List Int) (f:Flt):OpV:=⟨false,toO a f,byO xs f,none,0⟩
def wrE (LM:List Sec) (a:Int) (xs:List Int):Int:=if inL LM a then (if xs.length≤64 then 0 else 7) else 2
def wHit (g:Geo) (LM:List Sec) (O:List OpV) (a:Int) (xs:List Int) (f:Flt):Bool:=decide (wrE LM a xs=0) && (decide (f.kind≠1) && decide (doE g (playL g LM O) (wOp a xs f)=0))
def wrLM (g:Geo) (LM:List Sec) (O:List OpV) (a:Int) (xs:List Int) (force:Bool) (f:Flt):List Sec:=if wHit g LM O a xs f && force then playL g LM ((O++[wOp a xs f]).take (O++[wOp a xs f]).length) else LM
def wrO (g:Geo) (LM:List Sec) (O:List OpV) (a:Int) (xs:List Int) (force:Bool) (f:Flt):List OpV:=if wHit g LM O a xs f then (if force then [] else O++[wOp a xs f]) else O
def wrS (LM:List Sec) (a:Int) (xs:List Int) (s:DS):DS:=if wrE LM a xs=0 then { s with w:=wrap64 (s.w+1) } else s
def WriteCl (w:World) (B:Bd) (q pw:Nat) (g:Geo) (F:List Flt) (p:Nat) (FA:Option Addr) (fc:Nat) (er:Int) (s:DS) (LM:List Sec) (O:List OpV) (e:Ending) (w':World):Prop:=
 e= .returned (.int .i64 er)∧Dsk w' B q pw g F s LM O p FA fc∧KeptT DT B w w'
section
variable {w w':World} {B:Bd} {q pw p:Nat} {g:Geo} {F:List Flt} {s:DS} {P:Pow} {LM:List Sec} {O:List OpV} {FA:Option Addr} {fc:Nat}
theorem Dsk.withC {B':Bd} {LM':List Sec} {O':List OpV} (h:Dsk w B q pw g F s LM O p FA fc) (hk:KeptT CT B' w w') (hc:CacheM w' B p g LM' O'):Dsk w' B q pw g F s LM' O' p FA fc:=
 ⟨own_kept h.obj hk (fun k e=>by simp [Value.ownBlock] at e; subst e; exact KeptT.no (IsT.own h.obj) (by unfold CT; decide)),h.px,hc,h.fl.kept hk (KeptT.free (by unfold CT; decide))⟩
set_option maxRecDepth 100000 in
set_option maxHeartbeats 8000000 in
theorem writecl_any (f:Flt) (a:Int) (xs:List Int) (force:Bool) (A:Option Addr) (c:Nat) (bd ba bb bf:Nat) (fd fa fb ff:Nat × Nat) (h:Dsk w B q pw g F s LM O p FA fc) (hf:Fit g LM) (hB:B.top≤w.heap.size) (hn:O.length≤99000)
  (hai:I64 a) (hfi:I64 f.to_) (hr:Rd w w.heap.size A (xs.map (Value.int .u8))) (hx:xs.length≤100000) (hc:xs.length≤c)
  (hd:w.heap[bd]?=some (.cells #[.pointer (some ⟨q,0,none⟩)] 54 fd)) (ha:w.heap[ba]?=some (.cells #[.int .i64 a] 3 fa)) (hb:w.heap[bb]?=some (.cells #[.slice A xs.length c] 65 fb)) (hff:w.heap[bf]?=some (.cells #[.bool force] 4 ff)):
  Calls Tryz.prog 148 #[f.val,.pointer (some ⟨bd,0,none⟩),.pointer (some ⟨ba,0,none⟩),.pointer (some ⟨bb,0,none⟩),.pointer (some ⟨bf,0,none⟩)] w (WriteCl w B q pw g F p FA fc (wrE LM a xs) (wrS LM a xs s) (wrLM g LM O a xs force f) (wrO g LM O a xs force f)):=by
 have hb0:Below w.heap.size w (w.alloc (.cells #[.int .i64 f.at_,.int .i64 f.kind,.int .i64 f.to_] 49)):=(Below.refl _ _).alloc (Nat.le_refl _) _
 have ld:=lt_of_block hd
 have la:=lt_of_block ha
 have lb:=lt_of_block hb
 have lf:=lt_of_block hff
 have HHAS:Hid (∀ W,Below w.heap.size w W→Calls Tryz.prog 122 #[.pointer (some ⟨q,0,none⟩),.int .i64 a] W fun e w'=>e= .returned (.bool (inL LM a))∧Below W.heap.size W w'):=by
  unfold Hid; intro W hW; exact dhas_any a (h.below0 hW) hf
 have HBK:Hid (∀ W B',KeptT CT B' w W→W.cell? ⟨bd,0,none⟩=some (.pointer (some ⟨q,0,none⟩))∧W.cell? ⟨ba,0,none⟩=some (.int .i64 a)∧W.cell? ⟨bb,0,none⟩=some (.slice A xs.length c)∧W.cell? ⟨bf,0,none⟩=some (.bool force)):=by
  unfold Hid; intro W B' hW
  exact ⟨by rw [cell_of_row _ _ _ _ _ _ (Kept.obj hW hd (KeptT.no (IsT.of hd) (by unfold CT; decide)))]; rfl,by rw [cell_of_row _ _ _ _ _ _ (Kept.obj hW ha (KeptT.no (IsT.of ha) (by unfold CT; decide)))]; rfl,
   by rw [cell_of_row _ _ _ _ _ _ (Kept.obj hW hb (KeptT.no (IsT.of hb) (by unfold CT; decide)))]; rfl,by rw [cell_of_row _ _ _ _ _ _ (Kept.obj hW hff (KeptT.no (IsT.of hff) (by unfold CT; decide)))]; rfl⟩
 have HQ:Hid (∀ W B' LM' O',KeptT CT B' w W→CacheM W B p g LM' O'→W.cell? ⟨q,1,none⟩=some (.int .i64 s.w)∧W.cell? ⟨q,10,none⟩=some (.pointer (some ⟨p,0,none⟩))∧W.frozen? ⟨q,1,none⟩=false):=by
  unfold Hid; intro W B' LM' O' hW hcc
  have h':=h.withC hW hcc
  exact ⟨(h'.cell 1 (by decide)).trans rfl,(h'.cell 10 (by decide)).trans rfl,h'.free 1⟩
 have HFIN:Hid (∀ W LM' O',KeptT CT B w W→CacheM W B p g LM' O'→wrE LM a xs=0→Dsk (W.setCell ⟨q,1,none⟩ (.int .i64 (wrap64 (s.w+1)))) B q pw g F (wrS LM a xs s) LM' O' p FA fc∧KeptT DT B w (W.setCell ⟨q,1,none⟩ (.int .i64 (wrap64 (s.w+1))))):=by
  unfold Hid; intro W LM' O' hW hcc he
  have h':=(h.withC hW hcc).store 1 (.int .i64 (wrap64 (s.w+1))) { s with w:=wrap64 (s.w+1) } rfl
  have e1:wrS LM a xs s={ s with w:=wrap64 (s.w+1) }:=by unfold wrS; rw [if_pos he]
  rw [e1]
  exact ⟨h'.1,(hW.sub ct_dt).trans (h'.2.sub d_dt)⟩
 have HNO:Hid (∀ W,Below w.heap.size w W→wrE LM a xs≠0→Dsk W B q pw g F (wrS LM a xs s) (wrLM g LM O a xs force f) (wrO g LM O a xs force f) p FA fc∧KeptT DT B w W):=by
  unfold Hid; intro W hW hne
  have e1:wrS LM a xs s=s:=by unfold wrS; rw [if_neg hne]
  have e2:wHit g LM O a xs f=false:=by unfold wHit; rw [decide_eq_false hne]; rfl
  have e3:wrLM g LM O a xs force f=LM:=by unfold wrLM; rw [e2]; rfl
  have e4:wrO g LM O a xs force f=O:=by unfold wrO; rw [e2]; rfl
  rw [e1,e3,e4]
  exact ⟨h.below0 hW,KeptT.bel hW⟩
 have HCW:Hid (∀ W (tt:Int) (ys:List Int) (n:Nat),I64 tt→Below w.heap.size w W→ys.length=n→Rd W W.heap.size A (ys.map (Value.int .u8))→n≤100000→Calls Tryz.prog 149 #[.pointer (some ⟨p,0,none⟩),.int .i64 tt,.slice A n c] W (DoPost W B p g LM O ⟨false,tt,ys,none,0⟩)):=by
  unfold Hid; intro W tt ys n hto hW hy hrd hnn
  subst hy
  exact cwrite_any tt hto ys A c hrd hnn (h.c.below0 hW) hf (Nat.le_trans hB hW.size) (by omega)
 have HRD:Hid (∀ W,Below w.heap.size w W→Rd W W.heap.size A (xs.map (Value.int .u8))):=by
  unfold Hid; intro W hW; exact (hr.below hW (Nat.le_refl _)).more hW.size
 have HCB:=Lib.hid (fun W (hW:Below w.heap.size w W)=>h.c.below0 hW)
 have HFL:=Lib.hid (fun W LM' O' (hcc:CacheM W B p g LM' O') (hf':Fit g LM') (hBW:B.top≤W.heap.size) (ho:O'.length≤100000)=>cflush_any hcc hf' hBW ho)
 have HFT:=Lib.hid hf
 have bk0:=KeptT.bel (ts:=CT) (B:=B) hb0
 obtain ⟨b0,b1,b2,b3⟩:=HBK.out _ _ bk0
 clear h hf hr hd ha hb hff
 obtain ⟨fat,fk,fto⟩:=f
 unfold Flt.val
 simp only at *
 have HC3:Hid (∀ W,Below (w.alloc (.cells #[.int .i64 fat,.int .i64 fk,.int .i64 fto] 49)).heap.size (w.alloc (.cells #[.int .i64 fat,.int .i64 fk,.int .i64 fto] 49)) W→Cells3 W w.heap.size (.int .i64 fat) (.int .i64 fk) (.int .i64 fto)):=by
  unfold Hid; intro W hW
  have q:=heap_alloc_new w (.cells #[.int .i64 fat,.int .i64 fk,.int .i64 fto] 49)
  have q':=belObj hW q (by simp)
  exact ⟨by rw [cell_of_row _ _ _ _ _ _ q']; rfl,by rw [cell_of_row _ _ _ _ _ _ q']; rfl,by rw [cell_of_row _ _ _ _ _ _ q']; rfl⟩
 cases hin:inL LM a
 ·have HE:Hid (wrE LM a xs=2):=by unfold Hid wrE; rw [hin]; rfl
  rw [hin] at HHAS
  clear hin
  go_enter Tryz.func148,Tryz.ntmps148
  go_wp2_with fail
  refine (HHAS.out _ hb0).mono ?_
  rintro e w1 ⟨rfl,hb1⟩
  have hw1:Below w.heap.size w w1:=hb0.trans (hb1.mono (by simp))
  obtain ⟨d0,d1,d2,d3⟩:=HBK.out w1 B (KeptT.bel hw1)
  clear b0 b1 b2 b3
  have HF:=Lib.hid (HNO.out w1 hw1 (by rw [HE.out]; decide))
  go_wp2
  go_ret
  rw [HE.out]
  exact ⟨rfl,HF.out⟩
 ·rw [hin] at HHAS
  by_cases h64:xs.length≤64
  ·have HE:Hid (wrE LM a xs=0):=by unfold Hid wrE; rw [hin,if_pos h64]; rfl
   have h64i:(xs.length:Int)≤64:=by omega
   by_cases h1:fk=1
   ·have e2:wHit g LM O a xs ⟨fat,fk,fto⟩=false:=by unfold wHit; simp [h1]
    have HLM:Hid (wrLM g LM O a xs force ⟨fat,fk,fto⟩=LM):=by unfold Hid wrLM; rw [e2]; rfl
    have HOO:Hid (wrO g LM O a xs force ⟨fat,fk,fto⟩=O):=by unfold Hid wrO; rw [e2]; rfl
    clear e2
    subst h1
    skip
    clear hin
    go_enter Tryz.func148,Tryz.ntmps148
    go_wp2_with fail
    refine (HHAS.out _ hb0).mono ?_
    rintro e w1 ⟨rfl,hb1⟩
    have hw1:Below w.heap.size w w1:=hb0.trans (hb1.mono (by simp))
    obtain ⟨d0,d1,d2,d3⟩:=HBK.out w1 B (KeptT.bel hw1)
    clear b0 b1 b2 b3
    go_wp2
    go_quiet (fail)
    have hbq:Below w1.heap.size w1 (w1.drewN nq):=((Kept.refl (fun _=>False) w1).drewN nq).below0
    have hwq:=hw1.trans (hbq.mono hw1.size)
    have hbq1:=hb1.trans (hbq.mono hb1.size)
    generalize w1.drewN nq=wq at *
    clear d0 d1 d2 d3
    obtain ⟨d0,d1,d2,d3⟩:=HBK.out wq B (KeptT.bel hwq)
    have C3:=HC3.out wq hbq1
    have e0:=C3.c0
    have e1:=C3.c1
    have e2:=C3.c2
    clear C3
    have hcc:=HCB.out wq hwq
    obtain ⟨z1,z10,zf⟩:=HQ.out wq B _ _ (KeptT.bel hwq) hcc
    have HF:=Lib.hid (HFIN.out wq _ _ (KeptT.bel hwq) hcc HE.out)
    clear hcc
    go_wp2
    go_ret
    rw [HE.out,HLM.out,HOO.out]
    exact ⟨rfl,HF.out⟩
   have n1:(fk !=1)=true:=by simpa using h1
   by_cases h2:fk=2
   ·obtain ⟨hh,eh,hhl⟩:∃ hh:Nat,((xs.length:Int) / 2)=(hh:Int)∧xs.length / 2=hh:=⟨xs.length / 2,by omega,rfl⟩
    have hhc:(hh:Int)≤c:=by omega
    have hop:Hid (wOp a xs ⟨fat,fk,fto⟩=⟨false,a,xs.take hh,none,0⟩):=by unfold Hid wOp toO byO; simp [h2,hhl]
    have HYL:Hid ((xs.take hh).length=hh):=by unfold Hid; rw [List.length_take]; omega
    have HYR:Hid (∀ W,Below w.heap.size w W→Rd W W.heap.size A ((xs.take hh).map (Value.int .u8))):=by unfold Hid; intro W hW; rw [List.map_take]; exact (HRD.out W hW).take hh
    have hhn:hh≤100000:=by omega
    have HTT:=Lib.hid hai
    subst h2
    clear hhl h1
    have hHit:wHit g LM O a xs ⟨fat,2,fto⟩=decide (doE g (playL g LM O) ⟨false,a,(xs.take hh),none,0⟩=0):=by unfold wHit; rw [hop.out,HE.out]; first | (simp; done) | (simp at n1; simp [n1])
    by_cases hE:doE g (playL g LM O) ⟨false,a,(xs.take hh),none,0⟩=0
    ·rw [decide_eq_true hE] at hHit
     have HCX:Hid (∀ W,Below w.heap.size w W→Calls Tryz.prog 149 #[.pointer (some ⟨p,0,none⟩),.int .i64 a,.slice A hh c] W fun e w'=>e= .returned (.int .i64 0)∧CacheM w' B p g LM (O++[⟨false,a,(xs.take hh),none,0⟩])∧KeptT CT B W w'):=by
      unfold Hid; intro W hW; refine (HCW.out W a (xs.take hh) hh HTT.out hW HYL.out (HYR.out W hW) (by omega)).mono ?_
      intro e w' hp; unfold DoPost at hp; rw [hE,if_pos rfl] at hp; exact hp
     cases force
     ·have HLM:Hid (wrLM g LM O a xs false ⟨fat,2,fto⟩=LM):=by unfold Hid wrLM; rw [hHit]; rfl
      have HOO:Hid (wrO g LM O a xs false ⟨fat,2,fto⟩=O++[⟨false,a,(xs.take hh),none,0⟩]):=by unfold Hid wrO; rw [hHit,hop.out]; rfl
      clear hE hHit
      skip
      clear hin
      go_enter Tryz.func148,Tryz.ntmps148
      go_wp2_with fail
      refine (HHAS.out _ hb0).mono ?_
      rintro e w1 ⟨rfl,hb1⟩
      have hw1:Below w.heap.size w w1:=hb0.trans (hb1.mono (by simp))
      obtain ⟨d0,d1,d2,d3⟩:=HBK.out w1 B (KeptT.bel hw1)
      clear b0 b1 b2 b3
      go_wp2
      go_quiet (fail)
      have hbq:Below w1.heap.size w1 (w1.drewN nq):=((Kept.refl (fun _=>False) w1).drewN nq).below0
      have hwq:=hw1.trans (hbq.mono hw1.size)
      have hbq1:=hb1.trans (hbq.mono hb1.size)
      generalize w1.drewN nq=wq at *
      clear d0 d1 d2 d3
      obtain ⟨d0,d1,d2,d3⟩:=HBK.out wq B (KeptT.bel hwq)
      have C3:=HC3.out wq hbq1
      have e0:=C3.c0
      have e1:=C3.c1
      have e2:=C3.c2
      clear C3
      have hcc:=HCB.out wq hwq
      obtain ⟨z1,z10,zf⟩:=HQ.out wq B _ _ (KeptT.bel hwq) hcc
      clear hcc
      go_wp2_with fail
      refine (HCX.out wq hwq).mono ?_
      rintro e w2 ⟨rfl,hc2,hk2⟩
      have hkw2:=(KeptT.bel hwq).trans hk2
      clear d0 d1 d2 d3 z1 z10 zf e0 e1 e2
      obtain ⟨d0,d1,d2,d3⟩:=HBK.out w2 B hkw2
      obtain ⟨z1,z10,zf⟩:=HQ.out w2 B _ _ hkw2 hc2
      have HF:=Lib.hid (HFIN.out w2 _ _ hkw2 hc2 HE.out)
      clear hc2
      go_wp2
      go_ret
      rw [HE.out,HLM.out,HOO.out]
      exact ⟨rfl,HF.out⟩
     ·have HLM:Hid (wrLM g LM O a xs true ⟨fat,2,fto⟩=playL g LM ((O++[(⟨false,a,(xs.take hh),none,0⟩:OpV)]).take (O++[(⟨false,a,(xs.take hh),none,0⟩:OpV)]).length)):=by unfold Hid wrLM; rw [hHit,hop.out]; rfl
      have HOO:Hid (wrO g LM O a xs true ⟨fat,2,fto⟩=[]):=by unfold Hid wrO; rw [hHit]; rfl
      clear hE hHit
      skip
      clear hin
      go_enter Tryz.func148,Tryz.ntmps148
      go_wp2_with fail
      refine (HHAS.out _ hb0).mono ?_
      rintro e w1 ⟨rfl,hb1⟩
      have hw1:Below w.heap.size w w1:=hb0.trans (hb1.mono (by simp))
      obtain ⟨d0,d1,d2,d3⟩:=HBK.out w1 B (KeptT.bel hw1)
      clear b0 b1 b2 b3
      go_wp2
      go_quiet (fail)
      have hbq:Below w1.heap.size w1 (w1.drewN nq):=((Kept.refl (fun _=>False) w1).drewN nq).below0
      have hwq:=hw1.trans (hbq.mono hw1.size)
      have hbq1:=hb1.trans (hbq.mono hb1.size)
      generalize w1.drewN nq=wq at *
      clear d0 d1 d2 d3
      obtain ⟨d0,d1,d2,d3⟩:=HBK.out wq B (KeptT.bel hwq)
      have C3:=HC3.out wq hbq1
      have e0:=C3.c0
      have e1:=C3.c1
      have e2:=C3.c2
      clear C3
      have hcc:=HCB.out wq hwq
      obtain ⟨z1,z10,zf⟩:=HQ.out wq B _ _ (KeptT.bel hwq) hcc
      clear hcc
      go_wp2_with fail
      refine (HCX.out wq hwq).mono ?_
      rintro e w2 ⟨rfl,hc2,hk2⟩
      have hkw2:=(KeptT.bel hwq).trans hk2
      clear d0 d1 d2 d3 z1 z10 zf e0 e1 e2
      obtain ⟨d0,d1,d2,d3⟩:=HBK.out w2 B hkw2
      obtain ⟨z1,z10,zf⟩:=HQ.out w2 B _ _ hkw2 hc2
      have HC2:=Lib.hid hc2
      clear hc2
      go_wp2_with fail
      refine (HFL.out w2 _ _ HC2.out HFT.out (Nat.le_trans hB hkw2.size) (by simp; omega)).mono ?_
      rintro e w3 ⟨rfl,hc3,hk3⟩
      have hkw3:=hkw2.trans hk3
      clear d0 d1 d2 d3 z1 z10 zf
      obtain ⟨d0,d1,d2,d3⟩:=HBK.out w3 B hkw3
      obtain ⟨z1,z10,zf⟩:=HQ.out w3 B _ _ hkw3 hc3
      have HF:=Lib.hid (HFIN.out w3 _ _ hkw3 hc3 HE.out)
      clear hc3
      go_wp2
      go_ret
      rw [HE.out,HLM.out,HOO.out]
      exact ⟨rfl,HF.out⟩
    ·rw [decide_eq_false hE] at hHit
     have hE2:(doE g (playL g LM O) ⟨false,a,(xs.take hh),none,0⟩==0)=false:=by simpa using hE
     have HCX:Hid (∀ W,Below w.heap.size w W→Calls Tryz.prog 149 #[.pointer (some ⟨p,0,none⟩),.int .i64 a,.slice A hh c] W fun e w'=>e= .returned (.int .i64 (doE g (playL g LM O) ⟨false,a,(xs.take hh),none,0⟩))∧CacheM w' B p g LM O∧KeptT CT B W w'):=by
      unfold Hid; intro W hW; refine (HCW.out W a (xs.take hh) hh HTT.out hW HYL.out (HYR.out W hW) (by omega)).mono ?_
      intro e w' hp; unfold DoPost at hp; rw [if_neg hE] at hp; exact hp
     have HLM:Hid (wrLM g LM O a xs force ⟨fat,2,fto⟩=LM):=by unfold Hid wrLM; rw [hHit]; rfl
     have HOO:Hid (wrO g LM O a xs force ⟨fat,2,fto⟩=O):=by unfold Hid wrO; rw [hHit]; rfl
     clear hE hHit
     generalize doE g (playL g LM O) ⟨false,a,(xs.take hh),none,0⟩=EE at *
     skip
     clear hin
     go_enter Tryz.func148,Tryz.ntmps148
     go_wp2_with fail
     refine (HHAS.out _ hb0).mono ?_
     rintro e w1 ⟨rfl,hb1⟩
     have hw1:Below w.heap.size w w1:=hb0.trans (hb1.mono (by simp))
     obtain ⟨d0,d1,d2,d3⟩:=HBK.out w1 B (KeptT.bel hw1)
     clear b0 b1 b2 b3
     go_wp2
     go_quiet (fail)
     have hbq:Below w1.heap.size w1 (w1.drewN nq):=((Kept.refl (fun _=>False) w1).drewN nq).below0
     have hwq:=hw1.trans (hbq.mono hw1.size)
     have hbq1:=hb1.trans (hbq.mono hb1.size)
     generalize w1.drewN nq=wq at *
     clear d0 d1 d2 d3
     obtain ⟨d0,d1,d2,d3⟩:=HBK.out wq B (KeptT.bel hwq)
     have C3:=HC3.out wq hbq1
     have e0:=C3.c0
     have e1:=C3.c1
     have e2:=C3.c2
     clear C3
     have hcc:=HCB.out wq hwq
     obtain ⟨z1,z10,zf⟩:=HQ.out wq B _ _ (KeptT.bel hwq) hcc
     clear hcc
     go_wp2_with fail
     refine (HCX.out wq hwq).mono ?_
     rintro e w2 ⟨rfl,hc2,hk2⟩
     have hkw2:=(KeptT.bel hwq).trans hk2
     clear d0 d1 d2 d3 z1 z10 zf e0 e1 e2
     obtain ⟨d0,d1,d2,d3⟩:=HBK.out w2 B hkw2
     obtain ⟨z1,z10,zf⟩:=HQ.out w2 B _ _ hkw2 hc2
     have HF:=Lib.hid (HFIN.out w2 _ _ hkw2 hc2 HE.out)
     clear hc2
     go_wp2
     go_ret
     rw [HE.out,HLM.out,HOO.out]
     exact ⟨rfl,HF.out⟩
   have n2:(fk==2)=false:=by simpa using h2
   have HYL:Hid (xs.length=xs.length):=rfl
   have HYR:=HRD
   by_cases h3:fk=3
   ·have hop:Hid (wOp a xs ⟨fat,fk,fto⟩=⟨false,fto,xs,none,0⟩):=by unfold Hid wOp toO byO; simp [h3]
    have HTT:=Lib.hid hfi
    subst h3
    clear h1 h2
    have hHit:wHit g LM O a xs ⟨fat,3,fto⟩=decide (doE g (playL g LM O) ⟨false,fto,xs,none,0⟩=0):=by unfold wHit; rw [hop.out,HE.out]; first | (simp; done) | (simp at n1; simp [n1])
    by_cases hE:doE g (playL g LM O) ⟨false,fto,xs,none,0⟩=0
    ·rw [decide_eq_true hE] at hHit
     have HCX:Hid (∀ W,Below w.heap.size w W→Calls Tryz.prog 149 #[.pointer (some ⟨p,0,none⟩),.int .i64 fto,.slice A xs.length c] W fun e w'=>e= .returned (.int .i64 0)∧CacheM w' B p g LM (O++[⟨false,fto,xs,none,0⟩])∧KeptT CT B W w'):=by
      unfold Hid; intro W hW; refine (HCW.out W fto xs xs.length HTT.out hW HYL.out (HYR.out W hW) (by omega)).mono ?_
      intro e w' hp; unfold DoPost at hp; rw [hE,if_pos rfl] at hp; exact hp
     cases force
     ·have HLM:Hid (wrLM g LM O a xs false ⟨fat,3,fto⟩=LM):=by unfold Hid wrLM; rw [hHit]; rfl
      have HOO:Hid (wrO g LM O a xs false ⟨fat,3,fto⟩=O++[⟨false,fto,xs,none,0⟩]):=by unfold Hid wrO; rw [hHit,hop.out]; rfl
      clear hE hHit
      skip
      clear hin
      go_enter Tryz.func148,Tryz.ntmps148
      go_wp2_with fail
      refine (HHAS.out _ hb0).mono ?_
      rintro e w1 ⟨rfl,hb1⟩
      have hw1:Below w.heap.size w w1:=hb0.trans (hb1.mono (by simp))
      obtain ⟨d0,d1,d2,d3⟩:=HBK.out w1 B (KeptT.bel hw1)
      clear b0 b1 b2 b3
      go_wp2
      go_quiet (fail)
      have hbq:Below w1.heap.size w1 (w1.drewN nq):=((Kept.refl (fun _=>False) w1).drewN nq).below0
      have hwq:=hw1.trans (hbq.mono hw1.size)
      have hbq1:=hb1.trans (hbq.mono hb1.size)
      generalize w1.drewN nq=wq at *
      clear d0 d1 d2 d3
      obtain ⟨d0,d1,d2,d3⟩:=HBK.out wq B (KeptT.bel hwq)
      have C3:=HC3.out wq hbq1
      have e0:=C3.c0
      have e1:=C3.c1
      have e2:=C3.c2
      clear C3
      have hcc:=HCB.out wq hwq
      obtain ⟨z1,z10,zf⟩:=HQ.out wq B _ _ (KeptT.bel hwq) hcc
      clear hcc
      go_wp2_with fail
      refine (HCX.out wq hwq).mono ?_
      rintro e w2 ⟨rfl,hc2,hk2⟩
      have hkw2:=(KeptT.bel hwq).trans hk2
      clear d0 d1 d2 d3 z1 z10 zf e0 e1 e2
      obtain ⟨d0,d1,d2,d3⟩:=HBK.out w2 B hkw2
      obtain ⟨z1,z10,zf⟩:=HQ.out w2 B _ _ hkw2 hc2
      have HF:=Lib.hid (HFIN.out w2 _ _ hkw2 hc2 HE.out)
      clear hc2
      go_wp2
      go_ret
      rw [HE.out,HLM.out,HOO.out]
      exact ⟨rfl,HF.out⟩
     ·have HLM:Hid (wrLM g LM O a xs true ⟨fat,3,fto⟩=playL g LM ((O++[(⟨false,fto,xs,none,0⟩:OpV)]).take (O++[(⟨false,fto,xs,none,0⟩:OpV)]).length)):=by unfold Hid wrLM; rw [hHit,hop.out]; rfl
      have HOO:Hid (wrO g LM O a xs true ⟨fat,3,fto⟩=[]):=by unfold Hid wrO; rw [hHit]; rfl
      clear hE hHit
      skip
      clear hin
      go_enter Tryz.func148,Tryz.ntmps148
      go_wp2_with fail
      refine (HHAS.out _ hb0).mono ?_
      rintro e w1 ⟨rfl,hb1⟩
      have hw1:Below w.heap.size w w1:=hb0.trans (hb1.mono (by simp))
      obtain ⟨d0,d1,d2,d3⟩:=HBK.out w1 B (KeptT.bel hw1)
      clear b0 b1 b2 b3
      go_wp2
      go_quiet (fail)
      have hbq:Below w1.heap.size w1 (w1.drewN nq):=((Kept.refl (fun _=>False) w1).drewN nq).below0
      have hwq:=hw1.trans (hbq.mono hw1.size)
      have hbq1:=hb1.trans (hbq.mono hb1.size)
      generalize w1.drewN nq=wq at *
      clear d0 d1 d2 d3
      obtain ⟨d0,d1,d2,d3⟩:=HBK.out wq B (KeptT.bel hwq)
      have C3:=HC3.out wq hbq1
      have e0:=C3.c0
      have e1:=C3.c1
      have e2:=C3.c2
      clear C3
      have hcc:=HCB.out wq hwq
      obtain ⟨z1,z10,zf⟩:=HQ.out wq B _ _ (KeptT.bel hwq) hcc
      clear hcc
      go_wp2_with fail
      refine (HCX.out wq hwq).mono ?_
      rintro e w2 ⟨rfl,hc2,hk2⟩
      have hkw2:=(KeptT.bel hwq).trans hk2
      clear d0 d1 d2 d3 z1 z10 zf e0 e1 e2
      obtain ⟨d0,d1,d2,d3⟩:=HBK.out w2 B hkw2
      obtain ⟨z1,z10,zf⟩:=HQ.out w2 B _ _ hkw2 hc2
      have HC2:=Lib.hid hc2
      clear hc2
      go_wp2_with fail
      refine (HFL.out w2 _ _ HC2.out HFT.out (Nat.le_trans hB hkw2.size) (by simp; omega)).mono ?_
      rintro e w3 ⟨rfl,hc3,hk3⟩
      have hkw3:=hkw2.trans hk3
      clear d0 d1 d2 d3 z1 z10 zf
      obtain ⟨d0,d1,d2,d3⟩:=HBK.out w3 B hkw3
      obtain ⟨z1,z10,zf⟩:=HQ.out w3 B _ _ hkw3 hc3
      have HF:=Lib.hid (HFIN.out w3 _ _ hkw3 hc3 HE.out)
      clear hc3
      go_wp2
      go_ret
      rw [HE.out,HLM.out,HOO.out]
      exact ⟨rfl,HF.out⟩
    ·rw [decide_eq_false hE] at hHit
     have hE2:(doE g (playL g LM O) ⟨false,fto,xs,none,0⟩==0)=false:=by simpa using hE
     have HCX:Hid (∀ W,Below w.heap.size w W→Calls Tryz.prog 149 #[.pointer (some ⟨p,0,none⟩),.int .i64 fto,.slice A xs.length c] W fun e w'=>e= .returned (.int .i64 (doE g (playL g LM O) ⟨false,fto,xs,none,0⟩))∧CacheM w' B p g LM O∧KeptT CT B W w'):=by
      unfold Hid; intro W hW; refine (HCW.out W fto xs xs.length HTT.out hW HYL.out (HYR.out W hW) (by omega)).mono ?_
      intro e w' hp; unfold DoPost at hp; rw [if_neg hE] at hp; exact hp
     have HLM:Hid (wrLM g LM O a xs force ⟨fat,3,fto⟩=LM):=by unfold Hid wrLM; rw [hHit]; rfl
     have HOO:Hid (wrO g LM O a xs force ⟨fat,3,fto⟩=O):=by unfold Hid wrO; rw [hHit]; rfl
     clear hE hHit
     generalize doE g (playL g LM O) ⟨false,fto,xs,none,0⟩=EE at *
     skip
     clear hin
     go_enter Tryz.func148,Tryz.ntmps148
     go_wp2_with fail
     refine (HHAS.out _ hb0).mono ?_
     rintro e w1 ⟨rfl,hb1⟩
     have hw1:Below w.heap.size w w1:=hb0.trans (hb1.mono (by simp))
     obtain ⟨d0,d1,d2,d3⟩:=HBK.out w1 B (KeptT.bel hw1)
     clear b0 b1 b2 b3
     go_wp2
     go_quiet (fail)
     have hbq:Below w1.heap.size w1 (w1.drewN nq):=((Kept.refl (fun _=>False) w1).drewN nq).below0
     have hwq:=hw1.trans (hbq.mono hw1.size)
     have hbq1:=hb1.trans (hbq.mono hb1.size)
     generalize w1.drewN nq=wq at *
     clear d0 d1 d2 d3
     obtain ⟨d0,d1,d2,d3⟩:=HBK.out wq B (KeptT.bel hwq)
     have C3:=HC3.out wq hbq1
     have e0:=C3.c0
     have e1:=C3.c1
     have e2:=C3.c2
     clear C3
     have hcc:=HCB.out wq hwq
     obtain ⟨z1,z10,zf⟩:=HQ.out wq B _ _ (KeptT.bel hwq) hcc
     clear hcc
     go_wp2_with fail
     refine (HCX.out wq hwq).mono ?_
     rintro e w2 ⟨rfl,hc2,hk2⟩
     have hkw2:=(KeptT.bel hwq).trans hk2
     clear d0 d1 d2 d3 z1 z10 zf e0 e1 e2
     obtain ⟨d0,d1,d2,d3⟩:=HBK.out w2 B hkw2
     obtain ⟨z1,z10,zf⟩:=HQ.out w2 B _ _ hkw2 hc2
     have HF:=Lib.hid (HFIN.out w2 _ _ hkw2 hc2 HE.out)
     clear hc2
     go_wp2
     go_ret
     rw [HE.out,HLM.out,HOO.out]
     exact ⟨rfl,HF.out⟩
   have n3:(fk==3)=false:=by simpa using h3
   have hop:Hid (wOp a xs ⟨fat,fk,fto⟩=⟨false,a,xs,none,0⟩):=by unfold Hid wOp toO byO; simp [h3,h2]
   have HTT:=Lib.hid hai
   clear h1 h2 h3
   have hHit:wHit g LM O a xs ⟨fat,fk,fto⟩=decide (doE g (playL g LM O) ⟨false,a,xs,none,0⟩=0):=by unfold wHit; rw [hop.out,HE.out]; first | (simp; done) | (simp at n1; simp [n1])
   by_cases hE:doE g (playL g LM O) ⟨false,a,xs,none,0⟩=0
   ·rw [decide_eq_true hE] at hHit
    have HCX:Hid (∀ W,Below w.heap.size w W→Calls Tryz.prog 149 #[.pointer (some ⟨p,0,none⟩),.int .i64 a,.slice A xs.length c] W fun e w'=>e= .returned (.int .i64 0)∧CacheM w' B p g LM (O++[⟨false,a,xs,none,0⟩])∧KeptT CT B W w'):=by
     unfold Hid; intro W hW; refine (HCW.out W a xs xs.length HTT.out hW HYL.out (HYR.out W hW) (by omega)).mono ?_
     intro e w' hp; unfold DoPost at hp; rw [hE,if_pos rfl] at hp; exact hp
    cases force
    ·have HLM:Hid (wrLM g LM O a xs false ⟨fat,fk,fto⟩=LM):=by unfold Hid wrLM; rw [hHit]; rfl
     have HOO:Hid (wrO g LM O a xs false ⟨fat,fk,fto⟩=O++[⟨false,a,xs,none,0⟩]):=by unfold Hid wrO; rw [hHit,hop.out]; rfl
     clear hE hHit
     skip
     clear hin
     go_enter Tryz.func148,Tryz.ntmps148
     go_wp2_with fail
     refine (HHAS.out _ hb0).mono ?_
     rintro e w1 ⟨rfl,hb1⟩
     have hw1:Below w.heap.size w w1:=hb0.trans (hb1.mono (by simp))
     obtain ⟨d0,d1,d2,d3⟩:=HBK.out w1 B (KeptT.bel hw1)
     clear b0 b1 b2 b3
     go_wp2
     go_quiet (fail)
     have hbq:Below w1.heap.size w1 (w1.drewN nq):=((Kept.refl (fun _=>False) w1).drewN nq).below0
     have hwq:=hw1.trans (hbq.mono hw1.size)
     have hbq1:=hb1.trans (hbq.mono hb1.size)
     generalize w1.drewN nq=wq at *
     clear d0 d1 d2 d3
     obtain ⟨d0,d1,d2,d3⟩:=HBK.out wq B (KeptT.bel hwq)
     have C3:=HC3.out wq hbq1
     have e0:=C3.c0
     have e1:=C3.c1
     have e2:=C3.c2
     clear C3
     have hcc:=HCB.out wq hwq
     obtain ⟨z1,z10,zf⟩:=HQ.out wq B _ _ (KeptT.bel hwq) hcc
     clear hcc
     go_wp2_with fail
     refine (HCX.out wq hwq).mono ?_
     rintro e w2 ⟨rfl,hc2,hk2⟩
     have hkw2:=(KeptT.bel hwq).trans hk2
     clear d0 d1 d2 d3 z1 z10 zf e0 e1 e2
     obtain ⟨d0,d1,d2,d3⟩:=HBK.out w2 B hkw2
     obtain ⟨z1,z10,zf⟩:=HQ.out w2 B _ _ hkw2 hc2
     have HF:=Lib.hid (HFIN.out w2 _ _ hkw2 hc2 HE.out)
     clear hc2
     go_wp2
     go_ret
     rw [HE.out,HLM.out,HOO.out]
     exact ⟨rfl,HF.out⟩
    ·have HLM:Hid (wrLM g LM O a xs true ⟨fat,fk,fto⟩=playL g LM ((O++[(⟨false,a,xs,none,0⟩:OpV)]).take (O++[(⟨false,a,xs,none,0⟩:OpV)]).length)):=by unfold Hid wrLM; rw [hHit,hop.out]; rfl
     have HOO:Hid (wrO g LM O a xs true ⟨fat,fk,fto⟩=[]):=by unfold Hid wrO; rw [hHit]; rfl
     clear hE hHit
     skip
     clear hin
     go_enter Tryz.func148,Tryz.ntmps148
     go_wp2_with fail
     refine (HHAS.out _ hb0).mono ?_
     rintro e w1 ⟨rfl,hb1⟩
     have hw1:Below w.heap.size w w1:=hb0.trans (hb1.mono (by simp))
     obtain ⟨d0,d1,d2,d3⟩:=HBK.out w1 B (KeptT.bel hw1)
     clear b0 b1 b2 b3
     go_wp2
     go_quiet (fail)
     have hbq:Below w1.heap.size w1 (w1.drewN nq):=((Kept.refl (fun _=>False) w1).drewN nq).below0
     have hwq:=hw1.trans (hbq.mono hw1.size)
     have hbq1:=hb1.trans (hbq.mono hb1.size)
     generalize w1.drewN nq=wq at *
     clear d0 d1 d2 d3
     obtain ⟨d0,d1,d2,d3⟩:=HBK.out wq B (KeptT.bel hwq)
     have C3:=HC3.out wq hbq1
     have e0:=C3.c0
     have e1:=C3.c1
     have e2:=C3.c2
     clear C3
     have hcc:=HCB.out wq hwq
     obtain ⟨z1,z10,zf⟩:=HQ.out wq B _ _ (KeptT.bel hwq) hcc
     clear hcc
     go_wp2_with fail
     refine (HCX.out wq hwq).mono ?_
     rintro e w2 ⟨rfl,hc2,hk2⟩
     have hkw2:=(KeptT.bel hwq).trans hk2
     clear d0 d1 d2 d3 z1 z10 zf e0 e1 e2
     obtain ⟨d0,d1,d2,d3⟩:=HBK.out w2 B hkw2
     obtain ⟨z1,z10,zf⟩:=HQ.out w2 B _ _ hkw2 hc2
     have HC2:=Lib.hid hc2
     clear hc2
     go_wp2_with fail
     refine (HFL.out w2 _ _ HC2.out HFT.out (Nat.le_trans hB hkw2.size) (by simp; omega)).mono ?_
     rintro e w3 ⟨rfl,hc3,hk3⟩
     have hkw3:=hkw2.trans hk3
     clear d0 d1 d2 d3 z1 z10 zf
     obtain ⟨d0,d1,d2,d3⟩:=HBK.out w3 B hkw3
     obtain ⟨z1,z10,zf⟩:=HQ.out w3 B _ _ hkw3 hc3
     have HF:=Lib.hid (HFIN.out w3 _ _ hkw3 hc3 HE.out)
     clear hc3
     go_wp2
     go_ret
     rw [HE.out,HLM.out,HOO.out]
     exact ⟨rfl,HF.out⟩
   ·rw [decide_eq_false hE] at hHit
    have hE2:(doE g (playL g LM O) ⟨false,a,xs,none,0⟩==0)=false:=by simpa using hE
    have HCX:Hid (∀ W,Below w.heap.size w W→Calls Tryz.prog 149 #[.pointer (some ⟨p,0,none⟩),.int .i64 a,.slice A xs.length c] W fun e w'=>e= .returned (.int .i64 (doE g (playL g LM O) ⟨false,a,xs,none,0⟩))∧CacheM w' B p g LM O∧KeptT CT B W w'):=by
     unfold Hid; intro W hW; refine (HCW.out W a xs xs.length HTT.out hW HYL.out (HYR.out W hW) (by omega)).mono ?_
     intro e w' hp; unfold DoPost at hp; rw [if_neg hE] at hp; exact hp
    have HLM:Hid (wrLM g LM O a xs force ⟨fat,fk,fto⟩=LM):=by unfold Hid wrLM; rw [hHit]; rfl
    have HOO:Hid (wrO g LM O a xs force ⟨fat,fk,fto⟩=O):=by unfold Hid wrO; rw [hHit]; rfl
    clear hE hHit
    generalize doE g (playL g LM O) ⟨false,a,xs,none,0⟩=EE at *
    skip
    clear hin
    go_enter Tryz.func148,Tryz.ntmps148
    go_wp2_with fail
    refine (HHAS.out _ hb0).mono ?_
    rintro e w1 ⟨rfl,hb1⟩
    have hw1:Below w.heap.size w w1:=hb0.trans (hb1.mono (by simp))
    obtain ⟨d0,d1,d2,d3⟩:=HBK.out w1 B (KeptT.bel hw1)
    clear b0 b1 b2 b3
    go_wp2
    go_quiet (fail)
    have hbq:Below w1.heap.size w1 (w1.drewN nq):=((Kept.refl (fun _=>False) w1).drewN nq).below0
    have hwq:=hw1.trans (hbq.mono hw1.size)
    have hbq1:=hb1.trans (hbq.mono hb1.size)
    generalize w1.drewN nq=wq at *
    clear d0 d1 d2 d3
    obtain ⟨d0,d1,d2,d3⟩:=HBK.out wq B (KeptT.bel hwq)
    have C3:=HC3.out wq hbq1
    have e0:=C3.c0
    have e1:=C3.c1
    have e2:=C3.c2
    clear C3
    have hcc:=HCB.out wq hwq
    obtain ⟨z1,z10,zf⟩:=HQ.out wq B _ _ (KeptT.bel hwq) hcc
    clear hcc
    go_wp2_with fail
    refine (HCX.out wq hwq).mono ?_
    rintro e w2 ⟨rfl,hc2,hk2⟩
    have hkw2:=(KeptT.bel hwq).trans hk2
    clear d0 d1 d2 d3 z1 z10 zf e0 e1 e2
    obtain ⟨d0,d1,d2,d3⟩:=HBK.out w2 B hkw2
    obtain ⟨z1,z10,zf⟩:=HQ.out w2 B _ _ hkw2 hc2
    have HF:=Lib.hid (HFIN.out w2 _ _ hkw2 hc2 HE.out)
    clear hc2
    go_wp2
    go_ret
    rw [HE.out,HLM.out,HOO.out]
    exact ⟨rfl,HF.out⟩
  ·have HE:Hid (wrE LM a xs=7):=by unfold Hid wrE; rw [hin,if_neg h64]; rfl
   clear hin
   go_enter Tryz.func148,Tryz.ntmps148
   go_wp2_with fail
   refine (HHAS.out _ hb0).mono ?_
   rintro e w1 ⟨rfl,hb1⟩
   have hw1:Below w.heap.size w w1:=hb0.trans (hb1.mono (by simp))
   obtain ⟨d0,d1,d2,d3⟩:=HBK.out w1 B (KeptT.bel hw1)
   clear b0 b1 b2 b3
   have HF:=Lib.hid (HNO.out w1 hw1 (by rw [HE.out]; decide))
   have hq:(64:Int) < (xs.length:Int):=by omega
   go_wp2
   go_ret
   rw [HE.out]
   exact ⟨rfl,HF.out⟩
end
end Go.Proofs.YtggkengmlkhdiaaGreat
