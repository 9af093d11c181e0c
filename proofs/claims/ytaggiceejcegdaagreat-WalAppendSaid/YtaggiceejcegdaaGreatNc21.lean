/-
  WHAT IS SHOWN: what Read and Write of disk return and leave. what Write of disk returns and leaves. what Contents, New, Clone, Cut and Flush of the reference's cache return and leave. what sameMedia and same of tegulalaw12 return: true where a cache and one of the reference agree. what NewPower, Arm, Off and New of disk return and leave, and the methods that only read. what awake of tegulalaw14 returns. No condition. what Acquire, Restart, Kill, Dead and On of disk return and leave. what the closures of Flush and Erase of disk return and leave, and perform with them. what Flush and Erase of disk return and leave. what only of tegulalaw14 returns: the acts that are operations, with the key 0. what do of tegulalaw14 returns and leaves: each act on a disk. plain facts, of no program: operations of a disk that are called again while it is busy; sectors that are written and read one after another. Conditions: as each theorem names them.
-/
import Derived.Test.YtaggiceejcegdaaGreatNc20
import Derived.Test.YtaggiceejcegdaaGreatNc18
import Derived.Lib.SmallJoins
import Derived.Deep.AppendLies
import Derived.Test.YtaggiceejcegdaaGreatNc00
namespace Go.Proofs.YtaggiceejcegdaaGreat
set_option linter.unusedVariables false
open Go.RowKit
def DAT : List TypeId:=[216,180,182,127,120]
theorem dpt_dat : ∀ t,t ∈ DPT → t ∈ DAT:=by unfold DPT DAT; decide
theorem dt_dat : ∀ t,t ∈ DT → t ∈ DAT:=by unfold DT DAT; decide
structure DPm (w : World) (B : Bd) (q pw : Nat) (g : Geo) (F : List Flt) (s : DS) (P : Pow) (LM : List Sec) (O : List OpV) : Prop where
 d : DiskM w B q pw g F s LM O
 p : PowM w B pw P
 f : Fit g LM
 s : ShortB LM
 B : B.top ≤ w.heap.size
section
variable {w w' : World} {B : Bd} {q pw p : Nat} {g : Geo} {F : List Flt} {s : DS} {P : Pow} {LM : List Sec} {O : List OpV} {FA : Option Addr} {fc : Nat}
theorem DPm.below0 (h : DPm w B q pw g F s P LM O) (hk : Below w.heap.size w w') : DPm w' B q pw g F s P LM O:=by
 obtain ⟨⟨p,FA,fc,hd⟩,hp,hf,hs,hB⟩:=h
 exact ⟨⟨p,FA,fc,hd.below0 hk⟩,hp.below0 hk,hf,hs,Nat.le_trans hB hk.size⟩
def dRdE (F : List Flt) (s : DS) (P : Pow) (LM : List Sec) (X : List Sec) (key a : Int) : Int:=if (begD F s P key).er = 0 then rdE LM X a (begD F s P key).f else (begD F s P key).er
def dRdB (F : List Flt) (s : DS) (P : Pow) (LM : List Sec) (X : List Sec) (key a : Int) : List Int:=if (begD F s P key).er = 0 then rdB LM X a (begD F s P key).f else []
def dRdS (F : List Flt) (s : DS) (P : Pow) (LM : List Sec) (X : List Sec) (key a : Int) : DS:=if (begD F s P key).er = 0 then rdS LM X a (begD F s P key).f (begD F s P key).s else (begD F s P key).s
def DReadPost (w : World) (B : Bd) (q pw : Nat) (g : Geo) (F : List Flt) (s : DS) (P : Pow) (LM : List Sec) (O : List OpV) (key a : Int) (e : Ending) (w' : World) : Prop:=
 ∃ v,e = .returned (.tuple #[v,.int .i64 (dRdE F s P LM (playL g LM O) key a)]) ∧ Bys 5 w' v (dRdB F s P LM (playL g LM O) key a) ∧ DPm w' B q pw g F (dRdS F s P LM (playL g LM O) key a) (begD F s P key).P LM O ∧ KeptT DAT B w w'
theorem noI64 : I64 noF.to_:=⟨by decide,by decide⟩
set_option maxRecDepth 100000 in
set_option maxHeartbeats 2000000 in
theorem dreadM_any (key a : Int) (hd : Dsk w B q pw g F s LM O p FA fc) (hp : PowM w B pw P) (hf : Fit g LM) (hs : ShortB LM) (hB : B.top ≤ w.heap.size) (hn : F.length ≤ 9223372036854775807) : Calls Tryz.prog 62 #[.pointer (some ⟨q,0,none⟩),.int .u64 key,.int .i64 a] w fun e w'=>
  ∃ v,e = .returned (.tuple #[v,.int .i64 (dRdE F s P LM (playL g LM O) key a)]) ∧ Bys 5 w' v (dRdB F s P LM (playL g LM O) key a) ∧ Mid w w' B q pw g F.length fc p FA (dRdS F s P LM (playL g LM O) key a) (begD F s P key).P:=by
 have hb0 : Below w.heap.size w (((w.alloc (.cells #[.pointer (some ⟨q,0,none⟩)] 52)).alloc (.cells #[.int .i64 a] 3)).alloc (.cells #[.slice none 0 0] 26)):=(((Below.refl _ _).alloc (Nat.le_refl _) _).alloc (by simp) _).alloc (by simp; omega) _
 have o0 : (((w.alloc (.cells #[.pointer (some ⟨q,0,none⟩)] 52)).alloc (.cells #[.int .i64 a] 3)).alloc (.cells #[.slice none 0 0] 26)).heap[w.heap.size]? = some (.cells #[.pointer (some ⟨q,0,none⟩)] 52 (0,0)):=by
  rw [belObj (B:=w.heap.size + 1) (w:=w.alloc (.cells #[.pointer (some ⟨q,0,none⟩)] 52)) (((Below.refl _ _).alloc (by simp) _).alloc (by simp) _) (heap_alloc_new w _) (by omega)]
 have o1 : (((w.alloc (.cells #[.pointer (some ⟨q,0,none⟩)] 52)).alloc (.cells #[.int .i64 a] 3)).alloc (.cells #[.slice none 0 0] 26)).heap[w.heap.size + 1]? = some (.cells #[.int .i64 a] 3 (0,0)):=by
  have:=heap_alloc_new (w.alloc (.cells #[.pointer (some ⟨q,0,none⟩)] 52)) (.cells #[.int .i64 a] 3)
  rw [World.size_alloc] at this
  rw [belObj (B:=w.heap.size + 2) (w:=(w.alloc (.cells #[.pointer (some ⟨q,0,none⟩)] 52)).alloc (.cells #[.int .i64 a] 3)) ((Below.refl _ _).alloc (by simp) _) this (by omega)]
 have o2 : (((w.alloc (.cells #[.pointer (some ⟨q,0,none⟩)] 52)).alloc (.cells #[.int .i64 a] 3)).alloc (.cells #[.slice none 0 0] 26)).heap[w.heap.size + 1 + 1]? = some (.cells #[.slice none 0 0] 26 (0,0)):=by
  have:=heap_alloc_new ((w.alloc (.cells #[.pointer (some ⟨q,0,none⟩)] 52)).alloc (.cells #[.int .i64 a] 3)) (.cells #[.slice none 0 0] 26)
  rw [World.size_alloc,World.size_alloc] at this
  exact this
 generalize hw3 : (((w.alloc (.cells #[.pointer (some ⟨q,0,none⟩)] 52)).alloc (.cells #[.int .i64 a] 3)).alloc (.cells #[.slice none 0 0] 26)) = w3 at *
 have hd3:=hd.below0 hb0
 have hp3:=hp.below0 hb0
 have hz : w3.heap.size = w.heap.size + 3:=by rw [← hw3]; simp
 have HPF:=readperf_any (LM:=LM) (O:=O) (FA:=FA) (fc:=fc) key w.heap.size (w.heap.size + 1) (w.heap.size + 1 + 1)
  (fun er w'=>ReadCl w w' B q pw g F.length fc p (w.heap.size + 1 + 1) FA er (rdB LM (playL g LM O) a (begD F s P key).f) (rdS LM (playL g LM O) a (begD F s P key).f (begD F s P key).s) (.returned (.int .i64 er)) w' ∧ er = rdE LM (playL g LM O) a (begD F s P key).f ∧ PowM w' B pw (begD F s P key).P)
  hd3.obj hd3.px hp3 (KeptT.bel hb0) hd.c hd.fl hn (Nat.le_trans hB hb0.size) (fun W hm hk he=>by
   have hk0 : w3.heap[w.heap.size + 1 + 1]? = some (.cells #[.slice none 0 0] 26 (0,0)):=o2
   refine (readcl_any (begD F s P key).f a w.heap.size (w.heap.size + 1) (w.heap.size + 1 + 1) _ _ hm.o hm.x hd.c hd.fl hm.k hf hs (Kept.obj hk o0 (KeptT.no (IsT.of o0) (by unfold DPT; decide))) (Kept.obj hk o1 (KeptT.no (IsT.of o1) (by unfold DPT; decide))) (Kept.obj hk o2 (KeptT.no (IsT.of o2) (by unfold DPT; decide))) (by omega)).mono ?_
   rintro e w' ⟨rfl,hv,ho,hk',hkw⟩
   exact ⟨_,rfl,⟨rfl,hv,ho,hk',KeptT.refl _ _ _⟩,rfl,hm.p.keptT hkw (by decide)⟩)
 have HOB : Hid (∀ W,KeptT DPT B w3 W → W.heap[w.heap.size + 1 + 1]? = some (.cells #[.slice none 0 0] 26 (0,0))):=by
  unfold Hid; intro W hW; exact Kept.obj hW o2 (KeptT.no (IsT.of o2) (by unfold DPT; decide))
 have HPX : Hid (¬ B.X q):=hd.px
 have HP:=Lib.hid HPF
 subst hw3
 clear HPF hd hp hf hs hd3 hp3 o0 o1 o2
 by_cases he : (begD F s P key).er = 0
 ·have HE : Hid (dRdE F s P LM (playL g LM O) key a = rdE LM (playL g LM O) a (begD F s P key).f):=by unfold Hid dRdE; rw [if_pos he]
  have HBY : Hid (dRdB F s P LM (playL g LM O) key a = rdB LM (playL g LM O) a (begD F s P key).f):=by unfold Hid dRdB; rw [if_pos he]
  have HDS : Hid (dRdS F s P LM (playL g LM O) key a = rdS LM (playL g LM O) a (begD F s P key).f (begD F s P key).s):=by unfold Hid dRdS; rw [if_pos he]
  have HE0:=Lib.hid he
  clear he
  go_enter Tryz.func62,Tryz.ntmps62
  go_wp2_with fail
  refine HP.out.mono ?_
  intro e w1 hpp
  unfold PerfPost at hpp
  rw [if_pos HE0.out] at hpp
  obtain ⟨er,rfl,⟨_,⟨v,hv,hby⟩,ho,hk',_⟩,rfl,hpw⟩:=hpp
  have x0:=cell_of_one hv
  have HMM : Hid (Mid w w1 B q pw g F.length fc p FA _ _):=⟨ho,hpw,hk',HPX.out⟩
  have HV:=Lib.hid hby
  clear hv ho hby hpw hk'
  go_wp2
  go_ret2
  exact ⟨v,by rw [HE.out]; rfl,by rw [HBY.out]; exact HV.out,by rw [HDS.out]; exact HMM.out⟩
 ·have HE : Hid (dRdE F s P LM (playL g LM O) key a = (begD F s P key).er):=by unfold Hid dRdE; rw [if_neg he]
  have HBY : Hid (dRdB F s P LM (playL g LM O) key a = []):=by unfold Hid dRdB; rw [if_neg he]
  have HDS : Hid (dRdS F s P LM (playL g LM O) key a = (begD F s P key).s):=by unfold Hid dRdS; rw [if_neg he]
  have HE0:=Lib.hid he
  clear he
  go_enter Tryz.func62,Tryz.ntmps62
  go_wp2_with fail
  refine HP.out.mono ?_
  intro e w1 hpp
  unfold PerfPost at hpp
  rw [if_neg HE0.out] at hpp
  obtain ⟨rfl,hm,hkw⟩:=hpp
  have x0:=cell_of_one (HOB.out w1 hkw)
  have HMM:=Lib.hid hm
  clear hm hkw
  go_wp2
  go_ret2
  exact ⟨_,by rw [HE.out]; rfl,by rw [HBY.out]; exact Bys.nil _ _,by rw [HDS.out]; exact HMM.out⟩
end
end Go.Proofs.YtaggiceejcegdaaGreat
namespace Go.Proofs.YtaggiceejcegdaaGreat
set_option linter.unusedVariables false
open Go.RowKit
section
variable {w w' : World} {B : Bd} {q pw : Nat} {g : Geo} {F : List Flt} {s : DS} {P : Pow} {LM : List Sec} {O : List OpV}
def dWrE (F : List Flt) (s : DS) (P : Pow) (LM : List Sec) (key a : Int) (xs : List Int) : Int:=if (begD F s P key).er = 0 then wrE LM a xs else (begD F s P key).er
def dWrS (F : List Flt) (s : DS) (P : Pow) (LM : List Sec) (key a : Int) (xs : List Int) : DS:=if (begD F s P key).er = 0 then wrS LM a xs (begD F s P key).s else (begD F s P key).s
def dWrLM (g : Geo) (F : List Flt) (s : DS) (P : Pow) (LM : List Sec) (O : List OpV) (key a : Int) (xs : List Int) (force : Bool) : List Sec:=if (begD F s P key).er = 0 then wrLM g LM O a xs force (begD F s P key).f else LM
def dWrO (g : Geo) (F : List Flt) (s : DS) (P : Pow) (LM : List Sec) (O : List OpV) (key a : Int) (xs : List Int) (force : Bool) : List OpV:=if (begD F s P key).er = 0 then wrO g LM O a xs force (begD F s P key).f else O
def DWritePost (w : World) (B : Bd) (q pw : Nat) (g : Geo) (F : List Flt) (s : DS) (P : Pow) (LM : List Sec) (O : List OpV) (key a : Int) (xs : List Int) (force : Bool) (e : Ending) (w' : World) : Prop:=
 e = .returned (.int .i64 (dWrE F s P LM key a xs)) ∧ DPm w' B q pw g F (dWrS F s P LM key a xs) (begD F s P key).P (dWrLM g F s P LM O key a xs force) (dWrO g F s P LM O key a xs force) ∧ KeptT DAT B w w'
theorem wrLM_len (g : Geo) (LM : List Sec) (O : List OpV) (a : Int) (xs : List Int) (force : Bool) (f : Flt) : (wrLM g LM O a xs force f).length = LM.length:=by
 unfold wrLM; split
 ·exact playL_len _ _ _
 ·rfl
theorem wrLM_short {g : Geo} {LM : List Sec} (O : List OpV) (a : Int) (xs : List Int) (force : Bool) (f : Flt) (h : ShortB LM) : ShortB (wrLM g LM O a xs force f):=by
 unfold wrLM; split
 ·exact short_play _ h
 ·exact h
set_option maxRecDepth 100000 in
set_option maxHeartbeats 2000000 in
theorem dwrite_any (key a : Int) (xs : List Int) (force : Bool) (A : Option Addr) (c : Nat) (h : DPm w B q pw g F s P LM O) (hn : F.length ≤ 9223372036854775807) (hon : O.length ≤ 99000) (hai : I64 a) (hfi : I64 (begD F s P key).f.to_) (hr : ∀ W,KeptT DPT B w W → Rd W W.heap.size A (xs.map (Value.int .u8))) (hx : xs.length ≤ 100000) (hc : xs.length ≤ c) :
  Calls Tryz.prog 56 #[.pointer (some ⟨q,0,none⟩),.int .u64 key,.int .i64 a,.slice A xs.length c,.bool force] w (DWritePost w B q pw g F s P LM O key a xs force):=by
 obtain ⟨⟨p,FA,fc,hd⟩,hp,hf,hs,hB⟩:=h
 have hb0 : Below w.heap.size w ((((w.alloc (.cells #[.pointer (some ⟨q,0,none⟩)] 52)).alloc (.cells #[.int .i64 a] 3)).alloc (.cells #[.slice A xs.length c] 26)).alloc (.cells #[.bool force] 4)):=((((Below.refl _ _).alloc (Nat.le_refl _) _).alloc (by simp) _).alloc (by first | (simp; done) | (simp; omega)) _).alloc (by first | (simp; done) | (simp; omega)) _
 have o0 : ((((w.alloc (.cells #[.pointer (some ⟨q,0,none⟩)] 52)).alloc (.cells #[.int .i64 a] 3)).alloc (.cells #[.slice A xs.length c] 26)).alloc (.cells #[.bool force] 4)).heap[w.heap.size]? = some (.cells #[.pointer (some ⟨q,0,none⟩)] 52 (0,0)):=by
  rw [belObj (B:=w.heap.size + 1) (w:=w.alloc (.cells #[.pointer (some ⟨q,0,none⟩)] 52)) ((((Below.refl _ _).alloc (by simp) _).alloc (by simp) _).alloc (by first | (simp; done) | (simp; omega)) _) (heap_alloc_new w _) (by omega)]
 have o1 : ((((w.alloc (.cells #[.pointer (some ⟨q,0,none⟩)] 52)).alloc (.cells #[.int .i64 a] 3)).alloc (.cells #[.slice A xs.length c] 26)).alloc (.cells #[.bool force] 4)).heap[w.heap.size + 1]? = some (.cells #[.int .i64 a] 3 (0,0)):=by
  have:=heap_alloc_new (w.alloc (.cells #[.pointer (some ⟨q,0,none⟩)] 52)) (.cells #[.int .i64 a] 3)
  rw [World.size_alloc] at this
  rw [belObj (B:=w.heap.size + 2) (w:=(w.alloc (.cells #[.pointer (some ⟨q,0,none⟩)] 52)).alloc (.cells #[.int .i64 a] 3)) (((Below.refl _ _).alloc (by simp) _).alloc (by simp) _) this (by omega)]
 have o2 : ((((w.alloc (.cells #[.pointer (some ⟨q,0,none⟩)] 52)).alloc (.cells #[.int .i64 a] 3)).alloc (.cells #[.slice A xs.length c] 26)).alloc (.cells #[.bool force] 4)).heap[w.heap.size + 1 + 1]? = some (.cells #[.slice A xs.length c] 26 (0,0)):=by
  have:=heap_alloc_new ((w.alloc (.cells #[.pointer (some ⟨q,0,none⟩)] 52)).alloc (.cells #[.int .i64 a] 3)) (.cells #[.slice A xs.length c] 26)
  rw [World.size_alloc,World.size_alloc] at this
  rw [belObj (B:=w.heap.size + 3) (w:=((w.alloc (.cells #[.pointer (some ⟨q,0,none⟩)] 52)).alloc (.cells #[.int .i64 a] 3)).alloc (.cells #[.slice A xs.length c] 26)) ((Below.refl _ _).alloc (by simp) _) this (by omega)]
 have o3 : ((((w.alloc (.cells #[.pointer (some ⟨q,0,none⟩)] 52)).alloc (.cells #[.int .i64 a] 3)).alloc (.cells #[.slice A xs.length c] 26)).alloc (.cells #[.bool force] 4)).heap[w.heap.size + 1 + 1 + 1]? = some (.cells #[.bool force] 4 (0,0)):=by
  have:=heap_alloc_new (((w.alloc (.cells #[.pointer (some ⟨q,0,none⟩)] 52)).alloc (.cells #[.int .i64 a] 3)).alloc (.cells #[.slice A xs.length c] 26)) (.cells #[.bool force] 4)
  rw [World.size_alloc,World.size_alloc,World.size_alloc] at this
  exact this
 generalize hw3 : ((((w.alloc (.cells #[.pointer (some ⟨q,0,none⟩)] 52)).alloc (.cells #[.int .i64 a] 3)).alloc (.cells #[.slice A xs.length c] 26)).alloc (.cells #[.bool force] 4)) = w3 at *
 have hd3:=hd.below0 hb0
 have hp3:=hp.below0 hb0
 have HPF:=writeperf_any (LM:=LM) (O:=O) (FA:=FA) (fc:=fc) key w.heap.size (w.heap.size + 1) (w.heap.size + 1 + 1) (w.heap.size + 1 + 1 + 1)
  (fun er w'=>er = wrE LM a xs ∧ Dsk w' B q pw g F (wrS LM a xs (begD F s P key).s) (wrLM g LM O a xs force (begD F s P key).f) (wrO g LM O a xs force (begD F s P key).f) p FA fc ∧ PowM w' B pw (begD F s P key).P ∧ KeptT DAT B w w')
  hd3.obj hd3.px hp3 (KeptT.bel hb0) hd.c hd.fl hn (Nat.le_trans hB hb0.size) (fun W hm hk he=>by
   have hrW : Rd W W.heap.size A (xs.map (Value.int .u8)):=by
    exact hr W ((KeptT.bel hb0).trans hk)
   refine (writecl_any (begD F s P key).f a xs force A c w.heap.size (w.heap.size + 1) (w.heap.size + 1 + 1) (w.heap.size + 1 + 1 + 1) _ _ _ _ (Dsk.of hm.o hm.x hd.c hd.fl hm.k) hf (Nat.le_trans hB hm.k.size) hon hai hfi hrW hx hc (Kept.obj hk o0 (KeptT.no (IsT.of o0) (by unfold DPT; decide))) (Kept.obj hk o1 (KeptT.no (IsT.of o1) (by unfold DPT; decide))) (Kept.obj hk o2 (KeptT.no (IsT.of o2) (by unfold DPT; decide))) (Kept.obj hk o3 (KeptT.no (IsT.of o3) (by unfold DPT; decide)))).mono ?_
   rintro e w' ⟨rfl,hdd,hkw⟩
   exact ⟨_,rfl,rfl,hdd,hm.p.keptT hkw (by unfold DT; decide),(hm.k.sub dpt_dat).trans (hkw.sub dt_dat)⟩)
 have HMD : Hid (∀ W s' P',Mid w W B q pw g F.length fc p FA s' P' → DPm W B q pw g F s' P' LM O ∧ KeptT DAT B w W):=by
  unfold Hid; intro W s' P' hm
  exact ⟨⟨⟨p,FA,fc,Dsk.of hm.o hm.x hd.c hd.fl hm.k⟩,hm.p,hf,hs,Nat.le_trans hB hm.k.size⟩,hm.k.sub dpt_dat⟩
 have HF2:=Lib.hid hf
 have HS2:=Lib.hid hs
 have HP:=Lib.hid HPF
 subst hw3
 clear HPF hd hp hf hs hd3 hp3 o0 o1 o2 o3 hr
 by_cases he : (begD F s P key).er = 0
 ·have HE : Hid (dWrE F s P LM key a xs = wrE LM a xs):=by unfold Hid dWrE; rw [if_pos he]
  have HDS : Hid (dWrS F s P LM key a xs = wrS LM a xs (begD F s P key).s):=by unfold Hid dWrS; rw [if_pos he]
  have HDL : Hid (dWrLM g F s P LM O key a xs force = wrLM g LM O a xs force (begD F s P key).f):=by unfold Hid dWrLM; rw [if_pos he]
  have HDO : Hid (dWrO g F s P LM O key a xs force = wrO g LM O a xs force (begD F s P key).f):=by unfold Hid dWrO; rw [if_pos he]
  have HE0:=Lib.hid he
  clear he
  go_enter Tryz.func56,Tryz.ntmps56
  go_wp2_with fail
  refine HP.out.mono ?_
  intro e w1 hpp
  unfold PerfPost at hpp
  rw [if_pos HE0.out] at hpp
  obtain ⟨er,rfl,rfl,hdd,hpw,hk'⟩:=hpp
  have HMM:=Lib.hid (show DPm w1 B q pw g F (wrS LM a xs (begD F s P key).s) (begD F s P key).P (wrLM g LM O a xs force (begD F s P key).f) (wrO g LM O a xs force (begD F s P key).f) from ⟨⟨p,FA,fc,hdd⟩,hpw,HF2.out.len (wrLM_len _ _ _ _ _ _ _),wrLM_short _ _ _ _ _ HS2.out,Nat.le_trans hB hk'.size⟩)
  clear hdd hpw
  go_wp2
  go_ret
  exact ⟨by rw [HE.out]; rfl,by rw [HDS.out,HDL.out,HDO.out]; exact HMM.out,hk'⟩
 ·have HE : Hid (dWrE F s P LM key a xs = (begD F s P key).er):=by unfold Hid dWrE; rw [if_neg he]
  have HDS : Hid (dWrS F s P LM key a xs = (begD F s P key).s):=by unfold Hid dWrS; rw [if_neg he]
  have HDL : Hid (dWrLM g F s P LM O key a xs force = LM):=by unfold Hid dWrLM; rw [if_neg he]
  have HDO : Hid (dWrO g F s P LM O key a xs force = O):=by unfold Hid dWrO; rw [if_neg he]
  have HE0:=Lib.hid he
  clear he
  go_enter Tryz.func56,Tryz.ntmps56
  go_wp2_with fail
  refine HP.out.mono ?_
  intro e w1 hpp
  unfold PerfPost at hpp
  rw [if_neg HE0.out] at hpp
  obtain ⟨rfl,hm,hkw⟩:=hpp
  have HMM:=Lib.hid (HMD.out w1 _ _ hm)
  clear hm hkw
  go_wp2
  go_ret
  exact ⟨by rw [HE.out]; rfl,by rw [HDS.out,HDL.out,HDO.out]; exact HMM.out.1,HMM.out.2⟩
end
end Go.Proofs.YtaggiceejcegdaaGreat
namespace Go.Proofs.YtaggiceejcegdaaGreat
set_option linter.unusedVariables false
open Go.RowKit
section
variable {w w' : World} {S : Nat → Prop} {B : Bd} {p : Nat} {g : Geo} {LM : List Sec} {ops : List OpV}
def RCNewPost (w : World) (g : Geo) (LM : List Sec) (ops : List OpV) (e : Ending) (w' : World) : Prop:=
 ∃ p,e = .returned (.pointer (some ⟨p,0,none⟩)) ∧ RCacheM w' (Bd.of w.heap.size) p g LM ops ∧ Below w.heap.size w w'
theorem rcac_new {w2 : World} {l : List OpV} {m b : Nat} {A : Option Addr} {c : Nat} (hb : w.heap.size ≤ w2.heap.size) (h1 : w.heap.size ≤ b) (hm : RMed w2 m b g LM) (hr : RdT w2 172 A (flatOps l))
  (ho : ∀ o ∈ l,I64 o.at_ ∧ o.xs.length ≤ 100000 ∧ RdT w2 5 o.A (o.xs.map (Value.int .u8))) (hnil : l = [] → A = none ∧ c = 0) :
  RCacheM (w2.alloc (.cells #[.pointer (some ⟨m,0,none⟩),.slice A l.length c] 204)) (Bd.of w.heap.size) w2.heap.size g LM (l.map OpV.bare):=by
 have hb2 : Below w2.heap.size w2 (w2.alloc (.cells #[.pointer (some ⟨m,0,none⟩),.slice A l.length c] 204)):=(Below.refl _ _).alloc (Nat.le_refl _) _
 refine ⟨l,m,b,A,c,rfl,?_,fun h=>h,⟨h1,fun h=>h⟩,hm.below0 hb2,hr.below0 hb2,fun o h=>?_,?_⟩
 ·exact World.ownsRow_lit (base:=w.heap.size) (e:=204) (size:=2) w2 #[.pointer (some ⟨m,0,none⟩),.slice A l.length c] 1 hb (by decide) rfl
 ·obtain ⟨a1,a2,a3⟩:=ho o h
  exact ⟨a1,a2,a3.below0 hb2⟩
 ·exact hnil
set_option maxHeartbeats 400000 in
theorem rcnew_any {m bs : Nat} {L : List Sec} (hm : RMed w m bs g L) (hf : Fit g L) : Calls Tryz.prog 78 #[.pointer (some ⟨m,0,none⟩)] w (RCNewPost w g L []):=by
 have HC:=Lib.hid (rclone_any hm hf)
 clear hm hf
 go_enter Tryz.func78,Tryz.ntmps78
 go_wp2_with fail
 refine HC.out.mono ?_
 rintro e w1 ⟨m1,b1,rfl,hm1,hmm1,hbb1,hb1⟩
 have HN:=Lib.hid (rcac_new (w:=w) (l:=[]) (A:=none) (c:=0) hb1.size hbb1 hm1 (RdT.nil _ _ _) (fun o h=>by simp at h) (fun _=>⟨rfl,rfl⟩))
 clear hm1
 go_wp2
 go_ret
 exact ⟨_,rfl,HN.out,hb1.alloc hb1.size _⟩
def RCutPost (w : World) (B : Bd) (p : Nat) (g : Geo) (LM : List Sec) (ops : List OpV) (n : Nat) (e : Ending) (w' : World) : Prop:=
 e = .returned (.tuple #[]) ∧ RCacheM w' B p g (playL g LM (ops.take n)) [] ∧ KeptT RT B w w'
end
end Go.Proofs.YtaggiceejcegdaaGreat
namespace Go.Proofs.YtaggiceejcegdaaGreat
set_option linter.unusedVariables false
open Go.RowKit
section
variable {w w' : World} {S : Nat → Prop} {B : Bd} {p : Nat} {g : Geo} {LM : List Sec} {ops : List OpV}
theorem CacheM.mono {B' : Bd} (h : CacheM w B p g LM ops) (hB : Bd.Sub w.heap.size B B') : CacheM w B' p g LM ops:=by
 obtain ⟨m1,b1,m2,b2,A,c,F,h⟩:=h
 exact ⟨m1,b1,m2,b2,A,c,F,own_mono h.obj hB.1,(hB.2 _ h.lt h.low).2,fun k e=>(hB.2 _ (h.typA k e).1.lt (h.typA k e).2).2,hB.2 _ h.med1.types.2.lt h.lb1,hB.2 _ h.med2.types.2.lt h.lb2,h.ne,h.med1,h.med2,own_mono h.own hB.1,h.fn⟩
theorem RCacheM.mono {B' : Bd} (h : RCacheM w B p g LM ops) (hB : Bd.Sub w.heap.size B B') : RCacheM w B' p g LM ops:=by
 obtain ⟨l,m,b,A,c,e,h⟩:=h
 exact ⟨l,m,b,A,c,e,own_mono h.obj hB.1,(hB.2 _ h.lt h.low).2,hB.2 _ h.med.types.2.lt h.lb,h.med,h.rd,h.op,h.nil⟩
end
end Go.Proofs.YtaggiceejcegdaaGreat
namespace Go.Proofs.YtaggiceejcegdaaGreat
set_option linter.unusedVariables false
open Go.RowKit
section
variable {w w' : World} {B : Bd} {q pw : Nat} {g : Geo} {F : List Flt} {s : DS} {P : Pow} {LM : List Sec} {O : List OpV}
theorem newpower_any (w : World) : Calls Tryz.prog 42 #[] w fun e w'=>∃ pw,e = .returned (.pointer (some ⟨pw,0,none⟩)) ∧ PowM w' (Bd.of w.heap.size) pw ⟨false,false,0,0⟩ ∧ Below w.heap.size w w':=by
 have hr:=World.ownsRow_lit (base:=w.heap.size) (e:=120) (size:=4) w #[.bool false,.bool false,.int .i64 0,.int .i64 0] 1 (Nat.le_refl _) (by decide) rfl
 have HR:=Lib.hid hr
 clear hr
 go_enter Tryz.func42,Tryz.ntmps42
 go_wp2
 go_ret
 exact ⟨_,rfl,⟨HR.out,fun h=>h⟩,(Below.refl _ _).alloc (Nat.le_refl _) _⟩
def armP (P : Pow) (n : Int) : Pow:=if P.off then P else ⟨P.off,decide (0 ≤ n),n,P.fails⟩
theorem info_flt : (Tryz.prog.info? 138).map (fun i=>(i.zero,i.size,i.bytes)) = some (some (.agg #[.int .i64 0,.int .i64 0,.int .i64 0]),3,24):=by kernel_rfl
theorem flatF_one (l : List Flt) : ∀ u ∈ flatF l,u.oneCell' = true:=by
 intro u hu
 obtain ⟨o,_,hu⟩:=List.mem_flatMap.1 hu
 simp [Flt.cells] at hu
 rcases hu with rfl | rfl | rfl <;> rfl
theorem flatF_len (l : List Flt) : (flatF l).length = l.length * 3:=flat_len Flt.cells 3 fltcells_len l
set_option maxRecDepth 100000 in
set_option maxHeartbeats 400000 in
theorem clonefl_any (l : List Flt) (A : Option Addr) (c : Nat) (w : World) (hr : Rd w w.heap.size A (flatF l)) (hn : l.length * 24 ≤ 140737488355328) :
  Calls Tryz.prog 76 #[.slice A l.length c] w fun e w'=>∃ A' c',e = .returned (.slice A' l.length c') ∧ RdT w' 138 A' (flatF l) ∧ Below w.heap.size w w':=by
 obtain ⟨i0,hi,hz0,hz1,hz2⟩:=info_parts info_flt
 have hnil:=fun (w : World) a n c=>Lib.run_eql_slice_nil (P:=Tryz.prog) w 48 138 a n c 0 0 Tryz.underlying48
 cases A with
 | none=>
   have hx:=hr.at_none
   obtain rfl : l = []:=by cases l; rfl; simp [flatF,Flt.cells] at hx
   go_enter Tryz.func76,Tryz.ntmps76
   go_wp2
   go_ret
   exact ⟨none,0,rfl,RdT.nil _ _ _,Below.refl _ _⟩
 | some a=>
   have hro:=World.ownsRow_lit (base:=w.heap.size) (e:=138) (size:=3) w #[] 0 (Nat.le_refl _) (by decide) rfl
   have hla:=hr.alloc (Nat.le_refl _) (.cells #[] 138)
   go_enter Tryz.func76,Tryz.ntmps76
   go_wp2_with (at_builtin; refine wpList_append_own _ rfl _ _ 48 rfl w.heap.size 138 i0 _ 3 24 Tryz.underlying48 hi hz0 hz1 hz2 rfl (by decide) _ 0 [] rfl hro a l.length c (flatF l) rfl (flatF_len l) hla.at_add (flatF_one l) (by unfold maxLen; omega) (by omega) (by simp) ?_)
   intro v' w' hown hgrow hiff
   try simp only [Nat.zero_add,List.nil_append] at hown
   obtain ⟨A',c',hv⟩:=own_form hown
   subst hv
   go_wp2
   go_ret
   exact ⟨A',c',rfl,RdT.of_own hown,((Below.refl _ _).alloc (Nat.le_refl _) _).grown hgrow (by simp) (fun k hk=>by simp [Value.ownBlock] at hk; omega)⟩
def newS (P : Pow) : DS:=⟨0,0,0,0,0,P.fails,0,false⟩
def DNewPost (w : World) (B : Bd) (pw : Nat) (g : Geo) (F : List Flt) (P : Pow) (e : Ending) (w' : World) : Prop:=
 ∃ q,e = .returned (.tuple #[.pointer (some ⟨q,0,none⟩),.int .i64 0]) ∧ DPm w' B q pw g F (newS P) P (blankL g) [] ∧ Below w.heap.size w w'
set_option maxRecDepth 100000 in
set_option maxHeartbeats 2000000 in
theorem dnew_yes (l : List Flt) (A : Option Addr) (c : Nat) (hv : validG g = true) (hvl : validF l = true) (hr : Rd w w.heap.size A (flatF l)) (hn : l.length * 24 ≤ 140737488355328) (hp : PowM w B pw P) (hB : B.top ≤ w.heap.size) :
  Calls Tryz.prog 44 #[.agg #[.int .i64 g.random,.int .i64 g.bands,.int .i64 g.tracks,.int .i64 g.sectors,.int .i64 g.overlap],.slice A l.length c,.pointer (some ⟨pw,0,none⟩)] w (DNewPost w B pw g l P):=by
 have HF:=Lib.hid (blank_fit ((validG_iff g).1 hv))
 have HN:=Lib.hid (fun W=>new_yes g hv W)
 have hb0 : Below w.heap.size w (w.alloc (.cells #[.int .i64 g.random,.int .i64 g.bands,.int .i64 g.tracks,.int .i64 g.sectors,.int .i64 g.overlap] 97)):=(Below.refl _ _).alloc (Nat.le_refl _) _
 have HFV : Hid (∀ W,Below w.heap.size w W → Calls Tryz.prog 74 #[.slice A l.length c] W fun e w'=>e = .returned (.bool true) ∧ Below W.heap.size W w'):=by
  unfold Hid; intro W hW; have:=fvalid_any l A c W ((hr.below hW (Nat.le_refl _)).more hW.size) (by omega); rw [hvl] at this; exact this
 have HCL : Hid (∀ W,Below w.heap.size w W → Calls Tryz.prog 76 #[.slice A l.length c] W fun e w'=>∃ A' c',e = .returned (.slice A' l.length c') ∧ RdT w' 138 A' (flatF l) ∧ Below W.heap.size W w'):=by
  unfold Hid; intro W hW; exact clonefl_any l A c W ((hr.below hW (Nat.le_refl _)).more hW.size) hn
 have HPW : Hid (∀ W,Below w.heap.size w W → PowM W B pw P ∧ W.cell? ⟨pw,3,none⟩ = some (.int .i64 P.fails)):=by
  unfold Hid; intro W hW; exact ⟨hp.below0 hW,(hp.below0 hW).cells.2.2.2⟩
 have hlp:=(IsT.own hp.obj).lt
 have pw0:=hp.cells.2.2.2
 clear hv hvl hr hp
 go_enter Tryz.func44,Tryz.ntmps44
 go_wp2_with fail
 refine (HN.out _).mono ?_
 rintro e w1 ⟨m,bs,rfl,hm,hmb,hbb,hb1⟩
 have HM:=Lib.hid hm
 have PG:=(Cells5.new w 97 (.int .i64 g.random) (.int .i64 g.bands) (.int .i64 g.tracks) (.int .i64 g.sectors) (.int .i64 g.overlap)).below hb1 (by simp)
 have hbl1:=hb0.trans (hb1.mono hb0.size)
 clear hm
 go_wp2_with fail
 refine (HFV.out _ hbl1).mono ?_
 rintro e w2 ⟨rfl,hb2⟩
 have hbl2:=hbl1.trans (hb2.mono hbl1.size)
 have hz1 : w.heap.size < w1.heap.size:=by have:=hb1.size; simp at this; omega
 have PG2:=PG.below hb2 hz1
 have hz2 : w.heap.size < w2.heap.size:=Nat.lt_of_lt_of_le hz1 hb2.size
 have HM2:=Lib.hid (HM.out.below0 hb2)
 have p0:=PG2.c0; have p1:=PG2.c1; have p2:=PG2.c2; have p3:=PG2.c3; have p4:=PG2.c4
 have r3:=(HPW.out w2 hbl2).2
 have hlp2 : pw < w2.heap.size:=Nat.lt_of_lt_of_le hlp hbl2.size
 have HCN : Hid (∀ W,Below w2.heap.size w2 W → Calls Tryz.prog 75 #[.pointer (some ⟨m,0,none⟩)] W (CNewPost W g (blankL g) [])):=by
  unfold Hid; intro W hW; exact cnew_any (HM2.out.below0 hW) HF.out
 clear PG PG2 pw0
 go_wp2
 go_region_held3 (fun W=>W.cell? ⟨w.heap.size,0,none⟩ = some (.int .i64 g.random) ∧ W.cell? ⟨w.heap.size,1,none⟩ = some (.int .i64 g.bands) ∧ W.cell? ⟨w.heap.size,2,none⟩ = some (.int .i64 g.tracks) ∧ W.cell? ⟨w.heap.size,3,none⟩ = some (.int .i64 g.sectors) ∧ W.cell? ⟨w.heap.size,4,none⟩ = some (.int .i64 g.overlap) ∧ W.cell? ⟨pw,3,none⟩ = some (.int .i64 P.fails))
  (first | (refine ⟨?_,?_,?_,?_,?_,?_⟩ <;> assumption) | (simp (maxDischargeDepth:=20) [World.cell?_alloc_some, *]; done))
  ((first
    | (go_at_call 75
       refine (HCN.out _ ((Below.refl w2.heap.size w2).drew)).mono ?_
       rintro e w3 ⟨p,rfl,hp3,hb3⟩
       have hw3 : Below w2.heap.size w2 w3:=((Below.refl w2.heap.size w2).drew).trans hb3
       have HP3:=Lib.hid hp3
       have q0:=(hw3.cell (p:=⟨w.heap.size,0,none⟩) hz2).trans p0
       have q1:=(hw3.cell (p:=⟨w.heap.size,1,none⟩) hz2).trans p1
       have q2:=(hw3.cell (p:=⟨w.heap.size,2,none⟩) hz2).trans p2
       have q3:=(hw3.cell (p:=⟨w.heap.size,3,none⟩) hz2).trans p3
       have q4:=(hw3.cell (p:=⟨w.heap.size,4,none⟩) hz2).trans p4
       have q5:=(hw3.cell (p:=⟨pw,3,none⟩) hlp2).trans r3)
    | (go_at_call 76
       refine (HCL.out _ (hbl2.trans (hw3.mono hbl2.size))).mono ?_
       rintro e w4 ⟨A4,c4,rfl,hr4,hb4⟩
       have hw4 : Below w2.heap.size w2 w4:=hw3.trans (hb4.mono hw3.size)
       have HR4:=Lib.hid hr4
       have q0':=(hw4.cell (p:=⟨w.heap.size,0,none⟩) hz2).trans p0
       have q1':=(hw4.cell (p:=⟨w.heap.size,1,none⟩) hz2).trans p1
       have q2':=(hw4.cell (p:=⟨w.heap.size,2,none⟩) hz2).trans p2
       have q3':=(hw4.cell (p:=⟨w.heap.size,3,none⟩) hz2).trans p3
       have q4':=(hw4.cell (p:=⟨w.heap.size,4,none⟩) hz2).trans p4
       have q5':=(hw4.cell (p:=⟨pw,3,none⟩) hlp2).trans r3
       clear hr4)))
 have hw24 : Below w.heap.size w w4:=hbl2.trans (hw4.mono hbl2.size)
 have HD : Hid (DPm (w4.alloc (.cells #[.int .i64 0,.int .i64 0,.int .i64 0,.int .i64 0,.int .i64 0,.int .i64 g.random,.int .i64 g.bands,.int .i64 g.tracks,.int .i64 g.sectors,.int .i64 g.overlap,.pointer (some ⟨p,0,none⟩),.slice A4 l.length c4,.pointer (some ⟨pw,0,none⟩),.int .i64 P.fails,.int .u64 0,.bool false] 127)) B w4.heap.size pw g l (newS P) P (blankL g) []):=by
  unfold Hid
  have hb9 : Below w4.heap.size w4 (w4.alloc (.cells #[.int .i64 0,.int .i64 0,.int .i64 0,.int .i64 0,.int .i64 0,.int .i64 g.random,.int .i64 g.bands,.int .i64 g.tracks,.int .i64 g.sectors,.int .i64 g.overlap,.pointer (some ⟨p,0,none⟩),.slice A4 l.length c4,.pointer (some ⟨pw,0,none⟩),.int .i64 P.fails,.int .u64 0,.bool false] 127)):=(Below.refl _ _).alloc (Nat.le_refl _) _
  refine ⟨⟨p,A4,c4,⟨?_,Bd.nx (Nat.le_trans hB hw24.size),?_,HR4.out.below0 hb9⟩⟩,(HPW.out w4 hw24).1.below0 hb9,HF.out,short_blank _,Nat.le_trans hB (hw24.trans (hb9.mono hw24.size)).size⟩
  ·exact World.ownsRow_lit (base:=B.n) (e:=127) (size:=16) w4 _ 1 (Nat.le_trans B.le (Nat.le_trans hB hw24.size)) (by decide) rfl
  ·exact ((HP3.out.below0 hb4).below0 hb9).mono (Bd.subOf (Nat.le_trans hB hbl2.size))
 rename_i hheld
 clear hheld q0 q1 q2 q3 q4 q5 q0' q1' q2' q3' q4' q5' p0 p1 p2 p3 p4 r3
 go_wp2
 go_ret2
 exact ⟨_,rfl,HD.out,hw24.alloc hw24.size _⟩
end
end Go.Proofs.YtaggiceejcegdaaGreat
namespace Go.Proofs.YtaggiceejcegdaaGreat
set_option linter.unusedVariables false
open Go.RowKit
def gD : Geo:=⟨2,1,1,1,0⟩
def fD : List Flt:=[⟨1,1,0⟩]
def P0 : Pow:=⟨false,false,0,0⟩
def s0 : DS:=newS P0
def L0 : List Sec:=blankL gD
def P1 : Pow:=(begD fD s0 P0 0).P
def s1 : DS:=dWrS fD s0 P0 L0 0 0 [120]
def L1 : List Sec:=dWrLM gD fD s0 P0 L0 [] 0 0 [120] false
def O1 : List OpV:=dWrO gD fD s0 P0 L0 [] 0 0 [120] false
def P2 : Pow:=(begD fD s1 P1 0).P
def s2 : DS:=dWrS fD s1 P1 L1 0 0 [121]
def L2 : List Sec:=dWrLM gD fD s1 P1 L1 O1 0 0 [121] false
def O2 : List OpV:=dWrO gD fD s1 P1 L1 O1 0 0 [121] false
def X2 : List Sec:=playL gD L2 O2
def P3 : Pow:=(begD fD s2 P2 0).P
def s3 : DS:=dRdS fD s2 P2 L2 X2 0 0
def P4 : Pow:=armP P3 1
def P5 : Pow:=(begD fD s3 P4 0).P
def s5 : DS:=dRdS fD s3 P4 L2 X2 0 0
def P6 : Pow:=(begD fD s5 P5 0).P
def DW (w : World) (B : Bd) (q pw : Nat) (s : DS) (P : Pow) (L : List Sec) (O : List OpV) : Prop:=DPm w B q pw gD fD s P L O
end Go.Proofs.YtaggiceejcegdaaGreat
namespace Go.Proofs.YtaggiceejcegdaaGreat
set_option linter.unusedVariables false
open Go.RowKit
section
variable {w w' : World} {B : Bd} {q pw : Nat} {g : Geo} {F : List Flt} {s : DS} {P : Pow} {LM : List Sec} {O : List OpV}
def acqS (s : DS) (P : Pow) (key : Int) : DS:=if stE s P = 0 then { s with key:=key } else s
def rstE (s : DS) (P : Pow) : Int:=if s.dead then 14 else if P.off then 0 else 8
def rstS (s : DS) (P : Pow) : DS:=if rstE s P = 0 then { s with seen:=P.fails } else s
def rstLM (g : Geo) (s : DS) (P : Pow) (LM : List Sec) (O : List OpV) (keep : Int) : List Sec:=if rstE s P = 0 then playL g LM (O.take (cutN keep O.length)) else LM
def rstO (s : DS) (P : Pow) (O : List OpV) : List OpV:=if rstE s P = 0 then [] else O
end
end Go.Proofs.YtaggiceejcegdaaGreat
namespace Go.Proofs.YtaggiceejcegdaaGreat
set_option linter.unusedVariables false
open Go.RowKit
section
variable {w w' : World} {B : Bd} {q pw p : Nat} {g : Geo} {F : List Flt} {s : DS} {P : Pow} {LM : List Sec} {O : List OpV} {FA : Option Addr} {fc : Nat}
def erO (g : Geo) (LM : List Sec) (O : List OpV) (a : Int) : List OpV:=if doE g (playL g LM O) ⟨true,a,[],none,0⟩ = 0 then O ++ [⟨true,a,[],none,0⟩] else O
def erS (g : Geo) (LM : List Sec) (O : List OpV) (a : Int) (s : DS) : DS:=if doE g (playL g LM O) ⟨true,a,[],none,0⟩ = 0 then { s with e:=wrap64 (s.e + 1) } else s
end
end Go.Proofs.YtaggiceejcegdaaGreat
namespace Go.Proofs.YtaggiceejcegdaaGreat
set_option linter.unusedVariables false
open Go.RowKit
section
variable {w w' : World} {B : Bd} {q pw : Nat} {g : Geo} {F : List Flt} {s : DS} {P : Pow} {LM : List Sec} {O : List OpV}
def dFlS (F : List Flt) (s : DS) (P : Pow) (key : Int) : DS:=if (begD F s P key).er = 0 then { (begD F s P key).s with f:=wrap64 ((begD F s P key).s.f + 1) } else (begD F s P key).s
def dFlLM (g : Geo) (F : List Flt) (s : DS) (P : Pow) (LM : List Sec) (O : List OpV) (key : Int) : List Sec:=if (begD F s P key).er = 0 then playL g LM (O.take O.length) else LM
def dFlO (F : List Flt) (s : DS) (P : Pow) (O : List OpV) (key : Int) : List OpV:=if (begD F s P key).er = 0 then [] else O
def DFlushPost (w : World) (B : Bd) (q pw : Nat) (g : Geo) (F : List Flt) (s : DS) (P : Pow) (LM : List Sec) (O : List OpV) (key : Int) (e : Ending) (w' : World) : Prop:=
 e = .returned (.int .i64 (begD F s P key).er) ∧ DPm w' B q pw g F (dFlS F s P key) (begD F s P key).P (dFlLM g F s P LM O key) (dFlO F s P O key) ∧ KeptT DAT B w w'
def dErE (g : Geo) (F : List Flt) (s : DS) (P : Pow) (LM : List Sec) (O : List OpV) (key a : Int) : Int:=if (begD F s P key).er = 0 then doE g (playL g LM O) ⟨true,a,[],none,0⟩ else (begD F s P key).er
def dErS (g : Geo) (F : List Flt) (s : DS) (P : Pow) (LM : List Sec) (O : List OpV) (key a : Int) : DS:=if (begD F s P key).er = 0 then erS g LM O a (begD F s P key).s else (begD F s P key).s
def dErO (g : Geo) (F : List Flt) (s : DS) (P : Pow) (LM : List Sec) (O : List OpV) (key a : Int) : List OpV:=if (begD F s P key).er = 0 then erO g LM O a else O
def DErasePost (w : World) (B : Bd) (q pw : Nat) (g : Geo) (F : List Flt) (s : DS) (P : Pow) (LM : List Sec) (O : List OpV) (key a : Int) (e : Ending) (w' : World) : Prop:=
 e = .returned (.int .i64 (dErE g F s P LM O key a)) ∧ DPm w' B q pw g F (dErS g F s P LM O key a) (begD F s P key).P LM (dErO g F s P LM O key a) ∧ KeptT DAT B w w'
end
end Go.Proofs.YtaggiceejcegdaaGreat
namespace Go.Proofs.YtaggiceejcegdaaGreat
set_option linter.unusedVariables false
open Go.RowKit
structure ActV where
 disk : Int
 kind : Int
 key : Int
 at_ : Int
 A : Option Addr
 xs : List Int
 c : Nat
 force : Bool
def ActV.cells (a : ActV) : List Value:=[.int .u8 a.disk,.int .u8 a.kind,.int .u64 a.key,.int .i64 a.at_,.slice a.A a.xs.length a.c,.bool a.force]
def flatA (l : List ActV) : List Value:=l.flatMap ActV.cells
def onlyA (l : List ActV) : List ActV:=(l.filter fun a=>decide (a.kind ≤ 3)).map fun a=>{ a with key:=0 }
end Go.Proofs.YtaggiceejcegdaaGreat
namespace Go.Proofs.YtaggiceejcegdaaGreat
set_option linter.unusedVariables false
open Go.RowKit
structure DC where
 s : DS
 P : Pow
 L : List Sec
 O : List OpV
def doC (g : Geo) (F : List Flt) (d : DC) (a : ActV) : DC:=
 if a.kind = 0 then ⟨dRdS F d.s d.P d.L (playL g d.L d.O) a.key a.at_,(begD F d.s d.P a.key).P,d.L,d.O⟩
 else if a.kind = 1 then ⟨dWrS F d.s d.P d.L a.key a.at_ a.xs,(begD F d.s d.P a.key).P,dWrLM g F d.s d.P d.L d.O a.key a.at_ a.xs a.force,dWrO g F d.s d.P d.L d.O a.key a.at_ a.xs a.force⟩
 else if a.kind = 2 then ⟨dErS g F d.s d.P d.L d.O a.key a.at_,(begD F d.s d.P a.key).P,d.L,dErO g F d.s d.P d.L d.O a.key a.at_⟩
 else if a.kind = 3 then ⟨dFlS F d.s d.P a.key,(begD F d.s d.P a.key).P,dFlLM g F d.s d.P d.L d.O a.key,dFlO F d.s d.P d.O a.key⟩
 else if a.kind = 4 then ⟨acqS d.s d.P a.key,d.P,d.L,d.O⟩
 else if a.kind = 5 then ⟨{ d.s with dead:=true },d.P,d.L,d.O⟩
 else if a.kind = 6 then ⟨rstS d.s d.P,d.P,rstLM g d.s d.P d.L d.O a.at_,rstO d.s d.P d.O⟩
 else if a.kind = 7 then ⟨d.s,armP d.P a.at_,d.L,d.O⟩
 else if a.kind = 8 then ⟨d.s,{ d.P with off:=false },d.L,d.O⟩
 else d
def doEr (g : Geo) (F : List Flt) (d : DC) (a : ActV) : Int:=
 if a.kind = 0 then dRdE F d.s d.P d.L (playL g d.L d.O) a.key a.at_
 else if a.kind = 1 then dWrE F d.s d.P d.L a.key a.at_ a.xs
 else if a.kind = 2 then dErE g F d.s d.P d.L d.O a.key a.at_
 else if a.kind = 3 then (begD F d.s d.P a.key).er
 else if a.kind = 4 then stE d.s d.P
 else if a.kind = 6 then rstE d.s d.P
 else 0
def doBy (g : Geo) (F : List Flt) (d : DC) (a : ActV) : List Int:=if a.kind = 0 then dRdB F d.s d.P d.L (playL g d.L d.O) a.key a.at_ else []
def DoDPost (w : World) (B : Bd) (q pw : Nat) (g : Geo) (F : List Flt) (d : DC) (a : ActV) (e : Ending) (w' : World) : Prop:=
 e = .returned (.tuple #[.string (strOfNums (doBy g F d a)),.int .i64 (doEr g F d a)]) ∧ DPm w' B q pw g F (doC g F d a).s (doC g F d a).P (doC g F d a).L (doC g F d a).O ∧ KeptT DAT B w w'
theorem atF_mem : ∀ (l : List Flt) (op : Int),atF l op = noF ∨ atF l op ∈ l
 | [],_=>.inl rfl
 | f :: l,op=>by
   unfold atF
   split
   ·exact .inr (by simp)
   ·rcases atF_mem l op with h | h
    ·exact .inl h
    ·exact .inr (by simp [h])
theorem begD_to {F : List Flt} (s : DS) (P : Pow) (key : Int) (hF : ∀ f ∈ F,I64 f.to_) : I64 (begD F s P key).f.to_:=by
 have h0 : I64 noF.to_:=noI64
 unfold begD
 repeat' split
 all_goals first | exact h0 | skip
 rcases atF_mem F s.ops with h | h
 ·simp only [h]; exact h0
 ·exact hF _ h
end Go.Proofs.YtaggiceejcegdaaGreat
namespace Go.Proofs.YtaggiceejcegdaaGreat
set_option linter.unusedVariables false
structure Ans where
 er : Int
 by_ : List Int
def wOne (g : Geo) (F : List Flt) (key a : Int) (xs : List Int) (d : DC) : DC × Ans:=
 (⟨dWrS F d.s d.P d.L key a xs,(begD F d.s d.P key).P,dWrLM g F d.s d.P d.L d.O key a xs false,dWrO g F d.s d.P d.L d.O key a xs false⟩,⟨dWrE F d.s d.P d.L key a xs,[]⟩)
def rOne (g : Geo) (F : List Flt) (key a : Int) (d : DC) : DC × Ans:=
 (⟨dRdS F d.s d.P d.L (playL g d.L d.O) key a,(begD F d.s d.P key).P,d.L,d.O⟩,⟨dRdE F d.s d.P d.L (playL g d.L d.O) key a,dRdB F d.s d.P d.L (playL g d.L d.O) key a⟩)
def fOne (g : Geo) (F : List Flt) (key : Int) (d : DC) : DC × Ans:=
 (⟨dFlS F d.s d.P key,(begD F d.s d.P key).P,dFlLM g F d.s d.P d.L d.O key,dFlO F d.s d.P d.O key⟩,⟨(begD F d.s d.P key).er,[]⟩)
def callN (f : DC → DC × Ans) (d : DC) : Nat → DC
 | 0=>d
 | n + 1=>(f (callN f d n)).1
def ansN (f : DC → DC × Ans) (d : DC) (n : Nat) : Ans:=(f (callN f d n)).2
def lastN (f : DC → DC × Ans) (d : DC) : Nat → Nat
 | 0=>0
 | m + 1=>if lastN f d m = m ∧ (ansN f d m).er = 16 then m + 1 else lastN f d m
def tryD (f : DC → DC × Ans) (d : DC) : DC × Ans:=(callN f d (lastN f d 8 + 1),ansN f d (lastN f d 8))
theorem lastN_le (f : DC → DC × Ans) (d : DC) : ∀ m,lastN f d m ≤ m
 | 0=>Nat.le_refl _
 | m + 1=>by
   unfold lastN
   split
   ·exact Nat.le_refl _
   ·exact Nat.le_trans (lastN_le f d m) (by omega)
theorem lastN_busy {f : DC → DC × Ans} {d : DC} : ∀ {m : Nat},(∀ j,j < m → (ansN f d j).er = 16) → lastN f d m = m
 | 0,_=>rfl
 | m + 1,h=>by
   unfold lastN
   rw [if_pos ⟨lastN_busy (fun j hj=>h j (by omega)),h m (by omega)⟩]
theorem lastN_stop {f : DC → DC × Ans} {d : DC} {k : Nat} (h : ∀ j,j < k → (ansN f d j).er = 16) (hk : ¬ (ansN f d k).er = 16) : ∀ m,k ≤ m → lastN f d m = k
 | 0,h0=>by
   obtain rfl : k = 0:=by omega
   rfl
 | m + 1,h0=>by
   by_cases hkm : k = m + 1
   ·subst hkm; exact lastN_busy h
   ·have ih:=lastN_stop h hk m (by omega)
    unfold lastN
    rw [ih,if_neg]
    rintro ⟨h1,h2⟩
    subst h1
    exact hk h2
theorem try_stop {f : DC → DC × Ans} {d : DC} {k : Nat} (h : ∀ j,j < k → (ansN f d j).er = 16) (hk : k = 8 ∨ (k ≤ 8 ∧ ¬ (ansN f d k).er = 16)) : tryD f d = (callN f d (k + 1),ansN f d k):=by
 unfold tryD
 rcases hk with rfl | ⟨h1,h2⟩
 ·rw [lastN_busy h]
 ·rw [lastN_stop h h2 8 h1]
theorem callN_len {f : DC → DC × Ans} (h : ∀ d,(f d).1.O.length ≤ d.O.length + 1) (d : DC) : ∀ n,(callN f d n).O.length ≤ d.O.length + n
 | 0=>Nat.le_refl _
 | n + 1=>by
   have h1:=callN_len h d n
   have h2:=h (callN f d n)
   show (f (callN f d n)).1.O.length ≤ _
   omega
theorem tryD_len {f : DC → DC × Ans} (h : ∀ d,(f d).1.O.length ≤ d.O.length + 1) (d : DC) : (tryD f d).1.O.length ≤ d.O.length + 9:=by
 have h1:=callN_len h d (lastN f d 8 + 1)
 have h2:=lastN_le f d 8
 unfold tryD
 simp only
 omega
theorem wOne_len (g : Geo) (F : List Flt) (key a : Int) (xs : List Int) (d : DC) : (wOne g F key a xs d).1.O.length ≤ d.O.length + 1:=by
 unfold wOne dWrO wrO
 simp only
 repeat' split
 all_goals simp
def wrAll (g : Geo) (F : List Flt) (key a : Int) (ls : List (List Int)) (d : DC) : Nat → DC × Int
 | 0=>(d,0)
 | k + 1=>if (wrAll g F key a ls d k).2 = 0 then ((tryD (wOne g F key (a + k) (ls.getD k [])) (wrAll g F key a ls d k).1).1,(tryD (wOne g F key (a + k) (ls.getD k [])) (wrAll g F key a ls d k).1).2.er) else wrAll g F key a ls d k
theorem wrAll_stay {g : Geo} {F : List Flt} {key a : Int} {ls : List (List Int)} {d : DC} {k : Nat} (h : ¬ (wrAll g F key a ls d k).2 = 0) : ∀ j,wrAll g F key a ls d (k + j) = wrAll g F key a ls d k
 | 0=>rfl
 | j + 1=>by
   have ih:=wrAll_stay h j
   rw [← ih] at h
   show (if (wrAll g F key a ls d (k + j)).2 = 0 then _ else _) = _
   rw [if_neg h]
   exact ih
theorem wrAll_len (g : Geo) (F : List Flt) (key a : Int) (ls : List (List Int)) (d : DC) : ∀ k,(wrAll g F key a ls d k).1.O.length ≤ d.O.length + 9 * k
 | 0=>Nat.le_refl _
 | k + 1=>by
   have ih:=wrAll_len g F key a ls d k
   have h2:=tryD_len (wOne_len g F key (a + k) (ls.getD k [])) (wrAll g F key a ls d k).1
   unfold wrAll
   split
   ·simp only
    omega
   ·omega
def wrD (g : Geo) (F : List Flt) (key a : Int) (ls : List (List Int)) (d : DC) : DC × Int:=wrAll g F key a ls d ls.length
def rdNext (r : DC × List (List Int) × Int) (x : DC × Ans) : DC × List (List Int) × Int:=
 if x.2.er = 0 then (x.1,r.2.1 ++ [x.2.by_],0) else if x.2.er = 15 ∨ x.2.er = 16 then (x.1,r.2.1 ++ [[]],0) else (x.1,[],x.2.er)
def rdAll (g : Geo) (F : List Flt) (key a : Int) (d : DC) : Nat → DC × List (List Int) × Int
 | 0=>(d,[],0)
 | k + 1=>if (rdAll g F key a d k).2.2 = 0 then rdNext (rdAll g F key a d k) (tryD (rOne g F key (a + k)) (rdAll g F key a d k).1) else rdAll g F key a d k
theorem rdNext_one (r : DC × List (List Int) × Int) (x : DC × Ans) : (rdNext r x).1 = x.1:=by
 unfold rdNext
 split
 ·rfl
 ·split <;> rfl
theorem rdNext_len {r : DC × List (List Int) × Int} {x : DC × Ans} (h : (rdNext r x).2.2 = 0) : (rdNext r x).2.1.length = r.2.1.length + 1:=by
 unfold rdNext at h ⊢
 split
 ·simp
 ·rename_i h1
  rw [if_neg h1] at h
  split
  ·simp
  ·rename_i h2
   rw [if_neg h2] at h
   exact absurd h h1
theorem rdAll_yes {g : Geo} {F : List Flt} {key a : Int} {d : DC} {k : Nat} (h : (rdAll g F key a d k).2.2 = 0) : rdAll g F key a d (k + 1) = rdNext (rdAll g F key a d k) (tryD (rOne g F key (a + k)) (rdAll g F key a d k).1):=by
 rw [rdAll,if_pos h]
theorem rdAll_no {g : Geo} {F : List Flt} {key a : Int} {d : DC} {k : Nat} (h : ¬ (rdAll g F key a d k).2.2 = 0) : rdAll g F key a d (k + 1) = rdAll g F key a d k:=by
 rw [rdAll,if_neg h]
theorem rdAll_stay {g : Geo} {F : List Flt} {key a : Int} {d : DC} {k : Nat} (h : ¬ (rdAll g F key a d k).2.2 = 0) : ∀ j,rdAll g F key a d (k + j) = rdAll g F key a d k
 | 0=>rfl
 | j + 1=>by
   have ih:=rdAll_stay h j
   rw [← ih] at h
   exact (rdAll_no h).trans ih
def rdD (g : Geo) (F : List Flt) (key a : Int) (n : Int) (d : DC) : DC × List (List Int) × Int:=rdAll g F key a d n.toNat
structure DX where
 F : List Flt
 s : DS
 L : List Sec
 O : List OpV
structure MS where
 ds : List DX
 P : Pow
def MS.dc (m : MS) (v : DX) : DC:=⟨v.s,m.P,v.L,v.O⟩
def MS.put (m : MS) (i : Nat) (F : List Flt) (d : DC) : MS:=⟨m.ds.set i ⟨F,d.s,d.L,d.O⟩,d.P⟩
def allK (g : Geo) (key a : Int) (ls : List (List Int)) (no : Nat → Bool) (m : MS) : Nat → MS × List Int
 | 0=>(m,[])
 | k + 1=>
   match (allK g key a ls no m k).1.ds[k]? with
   | none=>allK g key a ls no m k
   | some v=>
     if no k then ((allK g key a ls no m k).1,(allK g key a ls no m k).2 ++ [0])
     else ((allK g key a ls no m k).1.put k v.F (wrD g v.F key a ls ((allK g key a ls no m k).1.dc v)).1,(allK g key a ls no m k).2 ++ [(wrD g v.F key a ls ((allK g key a ls no m k).1.dc v)).2])
def allD (g : Geo) (key a : Int) (ls : List (List Int)) (no : Nat → Bool) (m : MS) : MS × List Int:=allK g key a ls no m m.ds.length
def MS.Ok (m : MS) (N : Nat) : Prop:=∀ (i : Nat) (v : DX),m.ds[i]? = some v → (∀ f ∈ v.F,I64 f.to_) ∧ v.F.length ≤ 9223372036854775807 ∧ v.O.length ≤ N
theorem MS.Ok.mono {m : MS} {N M : Nat} (h : m.Ok N) (hn : N ≤ M) : m.Ok M:=fun i v hv=>⟨(h i v hv).1,(h i v hv).2.1,Nat.le_trans (h i v hv).2.2 hn⟩
theorem MS.Ok.put {m : MS} {N k : Nat} {v : DX} {d : DC} (h : m.Ok N) (hv : m.ds[k]? = some v) (hd : d.O.length ≤ N) : (m.put k v.F d).Ok N:=by
 intro i u hu
 unfold MS.put at hu
 by_cases e : k = i
 ·subst e
  rw [List.getElem?_set_self (List.getElem?_eq_some_iff.1 hv).1] at hu
  injection hu with hu; subst hu
  exact ⟨(h k v hv).1,(h k v hv).2.1,hd⟩
 ·rw [List.getElem?_set_ne e] at hu
  exact h i u hu
theorem allK_len (g : Geo) (key a : Int) (ls : List (List Int)) (no : Nat → Bool) (m : MS) : ∀ k,k ≤ m.ds.length → (allK g key a ls no m k).1.ds.length = m.ds.length ∧ (allK g key a ls no m k).2.length = k
 | 0,_=>⟨rfl,rfl⟩
 | k + 1,hk=>by
   obtain ⟨h1,h2⟩:=allK_len g key a ls no m k (by omega)
   unfold allK
   split
   ·rename_i hn
    rw [List.getElem?_eq_none_iff,h1] at hn
    omega
   ·split
    ·exact ⟨h1,by simp [h2]⟩
    ·exact ⟨by simp [MS.put,h1],by simp [h2]⟩
theorem allK_rest (g : Geo) (key a : Int) (ls : List (List Int)) (no : Nat → Bool) (m : MS) : ∀ k j,k ≤ j → (allK g key a ls no m k).1.ds[j]? = m.ds[j]?
 | 0,_,_=>rfl
 | k + 1,j,hj=>by
   have ih:=allK_rest g key a ls no m k j (by omega)
   unfold allK
   split
   ·exact ih
   ·split
    ·exact ih
    ·unfold MS.put
     rw [List.getElem?_set_ne (by omega)]
     exact ih
theorem wrD_len (g : Geo) (F : List Flt) (key a : Int) (ls : List (List Int)) (d : DC) : (wrD g F key a ls d).1.O.length ≤ d.O.length + 9 * ls.length:=wrAll_len g F key a ls d ls.length
theorem allK_ok {g : Geo} {key a : Int} {ls : List (List Int)} {no : Nat → Bool} {m : MS} {N : Nat} (h : m.Ok N) : ∀ k,(allK g key a ls no m k).1.Ok (N + 9 * ls.length)
 | 0=>h.mono (by omega)
 | k + 1=>by
   have ih:=allK_ok (g:=g) (key:=key) (a:=a) (ls:=ls) (no:=no) h k
   have hr:=allK_rest g key a ls no m k k (Nat.le_refl _)
   unfold allK
   split
   ·exact ih
   ·rename_i v hv
    split
    ·exact ih
    ·refine ih.put hv ?_
     have h1:=wrD_len g v.F key a ls ((allK g key a ls no m k).1.dc v)
     rw [hr] at hv
     have h2:=(h k v hv).2.2
     have h3 : ((allK g key a ls no m k).1.dc v).O.length = v.O.length:=rfl
     omega
def SecU (L : List Sec) : Prop:=∀ s ∈ L,U8s s.by_
def DC.U8 (d : DC) : Prop:=SecU d.L ∧ ∀ o ∈ d.O,U8s o.xs
theorem U8s.nil : U8s []:=fun x hx=>by simp at hx
theorem U8s.take {xs : List Int} (h : U8s xs) (n : Nat) : U8s (xs.take n):=fun x hx=>h x (List.mem_of_mem_take hx)
def MS.U8 (m : MS) : Prop:=∀ (i : Nat) (v : DX),m.ds[i]? = some v → (m.dc v).U8
theorem callN_r {g : Geo} {F : List Flt} {key a : Int} {d : DC} : ∀ n,(callN (rOne g F key a) d n).L = d.L ∧ (callN (rOne g F key a) d n).O = d.O
 | 0=>⟨rfl,rfl⟩
 | n + 1=>callN_r n
theorem tryD_r {g : Geo} {F : List Flt} {key a : Int} {d : DC} : (tryD (rOne g F key a) d).1.L = d.L ∧ (tryD (rOne g F key a) d).1.O = d.O:=callN_r _
theorem rdAll_r {g : Geo} {F : List Flt} {key a : Int} {d : DC} : ∀ n,(rdAll g F key a d n).1.L = d.L ∧ (rdAll g F key a d n).1.O = d.O
 | 0=>⟨rfl,rfl⟩
 | n + 1=>by
   have ih:=rdAll_r (g:=g) (F:=F) (key:=key) (a:=a) (d:=d) n
   by_cases h0 : (rdAll g F key a d n).2.2 = 0
   ·rw [rdAll_yes h0,rdNext_one]
    have h:=tryD_r (g:=g) (F:=F) (key:=key) (a:=a + n) (d:=(rdAll g F key a d n).1)
    exact ⟨h.1.trans ih.1,h.2.trans ih.2⟩
   ·rw [rdAll_no h0]; exact ih
theorem rdAll_len {g : Geo} {F : List Flt} {key a : Int} {d : DC} : ∀ n,(rdAll g F key a d n).2.2 = 0 → (rdAll g F key a d n).2.1.length = n
 | 0,_=>rfl
 | n + 1,h=>by
   by_cases h0 : (rdAll g F key a d n).2.2 = 0
   ·have ih:=rdAll_len (g:=g) (F:=F) (key:=key) (a:=a) (d:=d) n h0
    rw [rdAll_yes h0] at h ⊢
    rw [rdNext_len h,ih]
   ·rw [rdAll_no h0] at h; exact absurd h h0
end Go.Proofs.YtaggiceejcegdaaGreat
