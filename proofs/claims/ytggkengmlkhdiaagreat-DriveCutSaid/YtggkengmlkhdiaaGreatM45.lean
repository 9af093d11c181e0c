/-
  WHAT IS SHOWN: what start of tegulalaw20 returns. Conditions: the case is small; its values can be read.
-/
import Derived.Test.YtggkengmlkhdiaaGreatM44
namespace Go.Proofs.YtggkengmlkhdiaaGreat
set_option linter.unusedVariables false
open Go.RowKit
theorem info_hist:(Tryz.prog.info? 62).map (fun i=>(i.zero,i.size,i.bytes))=some (some (.slice none 0 0),1,24):=by kernel_rfl
theorem made1_flat (z:Value) (n:Nat):(madeCells #[z] n).toList=List.replicate n z:=by
 apply List.ext_getElem?
 intro j
 rw [List.getElem?_replicate]
 unfold madeCells
 by_cases hj:j < n
 ·rw [if_pos hj]
  simp only [Array.toList_map,Array.toList_range,List.getElem?_map,List.getElem?_range hj,Option.map_some]
  simp [Nat.mod_one]
 ·rw [if_neg hj,List.getElem?_eq_none (by simp; omega)]
def PW0:Pow:=⟨false,false,0,0⟩
structure StM (N0:Nat) (w1 w:World) (r pw ha fa n:Nat):Prop where
 o:w.heap[r]?=some (.cells #[.pointer (some ⟨pw,0,none⟩),.pointer none,.pointer none,.int .i64 n,.slice (some ⟨ha,0,none⟩) n n,.slice (some ⟨fa,0,none⟩) n n,.int .u64 0] 58 (0,0))
 p:PowM w (Bd.of N0) pw PW0
 h:w.ownsRow N0 62 1 (.slice (some ⟨ha,0,none⟩) n n) n (List.replicate n (.slice none 0 0))
 f:w.ownsRow N0 3 1 (.slice (some ⟨fa,0,none⟩) n n) n (List.replicate n (.int .i64 0))
 lo:N0≤r
 b:Below w1.heap.size w1 w
structure St0 (N0:Nat) (w1 w:World) (pw ha fa n:Nat):Prop where
 p:PowM w (Bd.of N0) pw PW0
 h:w.ownsRow N0 62 1 (.slice (some ⟨ha,0,none⟩) n n) n (List.replicate n (.slice none 0 0))
 f:w.ownsRow N0 3 1 (.slice (some ⟨fa,0,none⟩) n n) n (List.replicate n (.int .i64 0))
 b:Below w1.heap.size w1 w
section
variable {w1 w w':World} {N0 B1 r pw ha fa n:Nat}
theorem own_bel {B s m:Nat} {t:TypeId} {v:Value} {xs:List Value} (h:w.ownsRow B t s v m xs) (hb:Below w.heap.size w w'):w'.ownsRow B t s v m xs:=own_ty (ts:=[]) (B:=Bd.of 0) h (KeptT.bel hb) (by simp)
theorem StM.below (h:StM N0 w1 w r pw ha fa n) (hb:Below w.heap.size w w'):StM N0 w1 w' r pw ha fa n:=
 ⟨belObj hb h.o (lt_of_block h.o),h.p.below0 hb,own_bel h.h hb,own_bel h.f hb,h.lo,h.b.trans (hb.mono h.b.size)⟩
theorem St0.below (h:St0 N0 w1 w pw ha fa n) (hb:Below w.heap.size w w'):St0 N0 w1 w' pw ha fa n:=⟨h.p.below0 hb,own_bel h.h hb,own_bel h.f hb,h.b.trans (hb.mono h.b.size)⟩
theorem St0.rig (h:St0 N0 w1 w pw ha fa n) (hN:N0≤w1.heap.size):StM N0 w1 (w.alloc (.cells #[.pointer (some ⟨pw,0,none⟩),.pointer none,.pointer none,.int .i64 n,.slice (some ⟨ha,0,none⟩) n n,.slice (some ⟨fa,0,none⟩) n n,.int .u64 0] 58)) w.heap.size pw ha fa n:=by
 have h2:=h.below ((Below.refl _ _).alloc (Nat.le_refl _) (.cells #[.pointer (some ⟨pw,0,none⟩),.pointer none,.pointer none,.int .i64 n,.slice (some ⟨ha,0,none⟩) n n,.slice (some ⟨fa,0,none⟩) n n,.int .u64 0] 58))
 exact ⟨heap_alloc_new _ _,h2.p,h2.h,h2.f,Nat.le_trans hN h.b.size,h2.b⟩
theorem made_h (hb:N0≤w.heap.size) (hn:n≤65536):(w.alloc (.cells (madeCells #[.slice none 0 0] n) 62)).ownsRow N0 62 1 (.slice (some ⟨w.heap.size,0,none⟩) n n) n (List.replicate n (.slice none 0 0)):=by
 have:=World.ownsRow_lit (base:=N0) (e:=62) (size:=1) w (madeCells #[.slice none 0 0] n) n hb (by unfold maxLen; omega) (by rw [size_madeCells]; omega)
 rw [made1_flat] at this; exact this
theorem made_f (hb:N0≤w.heap.size) (hn:n≤65536):(w.alloc (.cells (madeCells #[.int .i64 0] n) 3)).ownsRow N0 3 1 (.slice (some ⟨w.heap.size,0,none⟩) n n) n (List.replicate n (.int .i64 0)):=by
 have:=World.ownsRow_lit (base:=N0) (e:=3) (size:=1) w (madeCells #[.int .i64 0] n) n hb (by unfold maxLen; omega) (by rw [size_madeCells]; omega)
 rw [made1_flat] at this; exact this
theorem pow_low {w:World} {pw:Nat} {P:Pow} (h:PowM w (Bd.of B1) pw P) (hB:N0≤B1):PowM w (Bd.of N0) pw P:=⟨own_mono h.obj hB,fun h=>h⟩
theorem St0.hf (hp:PowM w (Bd.of B1) pw PW0) (hB:N0≤B1) (hN:N0≤w1.heap.size) (hb:Below w1.heap.size w1 w) (hn:n≤65536):St0 N0 w1 ((w.alloc (.cells (madeCells #[.slice none 0 0] n) 62)).alloc (.cells (madeCells #[.int .i64 0] n) 3)) pw w.heap.size (w.heap.size+1) n:=by
 have hs:=hb.size
 have h1:Below w.heap.size w (w.alloc (.cells (madeCells #[.slice none 0 0] n) 62)):=(Below.refl _ _).alloc (Nat.le_refl _) _
 have h2:Below (w.alloc (.cells (madeCells #[.slice none 0 0] n) 62)).heap.size (w.alloc (.cells (madeCells #[.slice none 0 0] n) 62)) ((w.alloc (.cells (madeCells #[.slice none 0 0] n) 62)).alloc (.cells (madeCells #[.int .i64 0] n) 3)):=(Below.refl _ _).alloc (Nat.le_refl _) _
 have hf:=made_f (N0:=N0) (w:=w.alloc (.cells (madeCells #[.slice none 0 0] n) 62)) (n:=n) (by simp; omega) hn
 simp only [World.size_alloc] at hf
 exact ⟨((pow_low hp hB).below0 h1).below0 h2,own_bel (made_h (by omega) hn) h2,hf,(hb.trans (h1.mono hs)).trans (h2.mono (by simp; omega))⟩
theorem St0.fh (hp:PowM w (Bd.of B1) pw PW0) (hB:N0≤B1) (hN:N0≤w1.heap.size) (hb:Below w1.heap.size w1 w) (hn:n≤65536):St0 N0 w1 ((w.alloc (.cells (madeCells #[.int .i64 0] n) 3)).alloc (.cells (madeCells #[.slice none 0 0] n) 62)) pw (w.heap.size+1) w.heap.size n:=by
 have hs:=hb.size
 have h1:Below w.heap.size w (w.alloc (.cells (madeCells #[.int .i64 0] n) 3)):=(Below.refl _ _).alloc (Nat.le_refl _) _
 have h2:Below (w.alloc (.cells (madeCells #[.int .i64 0] n) 3)).heap.size (w.alloc (.cells (madeCells #[.int .i64 0] n) 3)) ((w.alloc (.cells (madeCells #[.int .i64 0] n) 3)).alloc (.cells (madeCells #[.slice none 0 0] n) 62)):=(Below.refl _ _).alloc (Nat.le_refl _) _
 have hf:=made_h (N0:=N0) (w:=w.alloc (.cells (madeCells #[.int .i64 0] n) 3)) (n:=n) (by simp; omega) hn
 simp only [World.size_alloc] at hf
 exact ⟨((pow_low hp hB).below0 h1).below0 h2,hf,own_bel (made_f (by omega) hn) h2,(hb.trans (h1.mono hs)).trans (h2.mono (by simp; omega))⟩
theorem St0.f1 (hp:PowM w (Bd.of B1) pw PW0) (hB:N0≤B1) (hN:N0≤w1.heap.size) (hb:Below w1.heap.size w1 w) (hn:n≤65536) (hh:w.ownsRow N0 62 1 (.slice (some ⟨ha,0,none⟩) n n) n (List.replicate n (.slice none 0 0))):St0 N0 w1 (w.alloc (.cells (madeCells #[.int .i64 0] n) 3)) pw ha w.heap.size n:=by
 have hs:=hb.size
 have h1:Below w.heap.size w (w.alloc (.cells (madeCells #[.int .i64 0] n) 3)):=(Below.refl _ _).alloc (Nat.le_refl _) _
 exact ⟨(pow_low hp hB).below0 h1,own_bel hh h1,made_f (by omega) hn,hb.trans (h1.mono hs)⟩
theorem St0.h1 (hp:PowM w (Bd.of B1) pw PW0) (hB:N0≤B1) (hN:N0≤w1.heap.size) (hb:Below w1.heap.size w1 w) (hn:n≤65536) (hf:w.ownsRow N0 3 1 (.slice (some ⟨fa,0,none⟩) n n) n (List.replicate n (.int .i64 0))):St0 N0 w1 (w.alloc (.cells (madeCells #[.slice none 0 0] n) 62)) pw w.heap.size fa n:=by
 have hs:=hb.size
 have h1:Below w.heap.size w (w.alloc (.cells (madeCells #[.slice none 0 0] n) 62)):=(Below.refl _ _).alloc (Nat.le_refl _) _
 exact ⟨(pow_low hp hB).below0 h1,made_h (by omega) hn,own_bel hf h1,hb.trans (h1.mono hs)⟩
theorem St0.no (hp:PowM w (Bd.of B1) pw PW0) (hB:N0≤B1) (hb:Below w1.heap.size w1 w) (hh:w.ownsRow N0 62 1 (.slice (some ⟨ha,0,none⟩) n n) n (List.replicate n (.slice none 0 0))) (hf:w.ownsRow N0 3 1 (.slice (some ⟨fa,0,none⟩) n n) n (List.replicate n (.int .i64 0))):St0 N0 w1 w pw ha fa n:=
 ⟨pow_low hp hB,hh,hf,hb⟩
end
def d0N (g:Geo):DC:=⟨newS PW0,PW0,blankL g,[]⟩
def R0 (g:Geo) (F:List Flt) (n:Nat):RG:=⟨⟨freshV g n,(newDD g F 0 (d0N g)).1⟩,List.replicate n [],List.replicate n 0,0⟩
def StartPost (w:World) (g:Geo) (F:List Flt) (n:Nat) (e:Ending) (w':World):Prop:=
 Below w.heap.size w w'∧
 if (newDD g F 0 (d0N g)).2=0 then ∃ r q pw,e= .returned (.tuple #[.pointer (some ⟨r,0,none⟩),.int .i64 0])∧RigM w' w.heap.size r q pw g F n (R0 g F n)
 else ∃ r,e= .returned (.tuple #[.pointer (some ⟨r,0,none⟩),.int .i64 (newDD g F 0 (d0N g)).2])∧w'.cell? ⟨r,2,none⟩=some (.pointer none)
theorem StM.done {N0:Nat} {w1 w w':World} {r pw ha fa n q p:Nat} {g:Geo} {F:List Flt} (h:StM N0 w1 w r pw ha fa n)
  (ho:w'.heap[r]?=some (.cells #[.pointer (some ⟨pw,0,none⟩),.pointer (some ⟨q,0,none⟩),.pointer (some ⟨p,0,none⟩),.int .i64 n,.slice (some ⟨ha,0,none⟩) n n,.slice (some ⟨fa,0,none⟩) n n,.int .u64 0] 58 (0,0)))
  (hh:w'.ownsRow N0 62 1 (.slice (some ⟨ha,0,none⟩) n n) n (List.replicate n (.slice none 0 0))) (hf:w'.ownsRow N0 3 1 (.slice (some ⟨fa,0,none⟩) n n) n (List.replicate n (.int .i64 0)))
  (hd:DrvM w' (Bd.of N0) p q pw g F 0 (R0 g F n).S):RigM w' N0 r q pw g F n (R0 g F n):=by
 refine ⟨p,ha,n,fa,n,List.replicate n ⟨none,[],0⟩,?_,⟨?_,?_,?_,?_⟩,?_,?_,hd⟩
 ·refine ⟨rfl,.inr ⟨r,1,_,rfl,h.lo,ho,Nat.le_refl _,by decide,rfl,?_⟩⟩
  simp [rObj,R0]
 ·simpa [Hs.v] using hh
 ·intro i k hk
  have:=(List.mem_replicate.1 (List.mem_of_getElem? hk)).2
  subst this
  exact World.ownsRow_nil _ _ _ _
 ·intro i j k l hk _ _
  have:=(List.mem_replicate.1 (List.mem_of_getElem? hk)).2
  subst this
  exact .inl rfl
 ·intro i k hk x hx
  have:=(List.mem_replicate.1 (List.mem_of_getElem? hk)).2
  subst this
  simp at hx
 ·simp [R0]
 ·simpa [R0] using hf
set_option maxRecDepth 100000 in
set_option maxHeartbeats 8000000 in
theorem start_any (g:Geo) (n:Nat) (F:List Flt) (A0 A1:Option Addr) (c0 c1 m:Nat) (w:World) (hg:Vg g) (hp:possB g n=true) (hr:Rd w w.heap.size A0 (flatF F)) (hv:validF F=true) (hn:F.length≤100000):
  Calls Tryz.prog 23 #[.agg #[.int .i64 g.random,.int .i64 g.bands,.int .i64 g.tracks,.int .i64 g.sectors,.int .i64 g.overlap,.int .i64 (n:Int),.slice A0 F.length c0,.slice A1 m c1]] w (StartPost w g F n):=by
 have hn1:n≤65536:=by
  unfold possB at hp
  simp only [Bool.and_eq_true,decide_eq_true_eq] at hp
  omega
 have HB0:Hid (Below w.heap.size w (w.alloc (.cells #[.int .i64 g.random,.int .i64 g.bands,.int .i64 g.tracks,.int .i64 g.sectors,.int .i64 g.overlap,.int .i64 (n:Int),.slice A0 F.length c0,.slice A1 m c1] 46))):=(Below.refl _ _).alloc (Nat.le_refl _) _
 have HO0:Hid ((w.alloc (.cells #[.int .i64 g.random,.int .i64 g.bands,.int .i64 g.tracks,.int .i64 g.sectors,.int .i64 g.overlap,.int .i64 (n:Int),.slice A0 F.length c0,.slice A1 m c1] 46)).heap[w.heap.size]?=some (.cells #[.int .i64 g.random,.int .i64 g.bands,.int .i64 g.tracks,.int .i64 g.sectors,.int .i64 g.overlap,.int .i64 (n:Int),.slice A0 F.length c0,.slice A1 m c1] 46 (0,0))):=heap_alloc_new _ _
 have HN1:=Lib.hid hn1
 obtain ⟨i0,hi,hz0,hz1,hz2⟩:=info_parts info_hist
 have hmk:∀ W:World,(Instr.makeSlice 55 (.int .i64 (n:Int)) (.int .i64 (n:Int))).run Tryz.prog W= .ok (.slice (some ⟨W.heap.size,0,none⟩) n n) (W.alloc (.cells (madeCells #[.slice none 0 0] n) 62)):=fun W=>by
  have:=run_make (P:=Tryz.prog) W 55 62 i0 _ Tryz.underlying55 hi hz0 .i64 .i64 (n:Int) (n:Int) (by omega) (Int.le_refl _) (by rw [hz2]; omega) (by omega)
  rw [hz1,Int.toNat_natCast,Nat.mul_one] at this
  exact this
 obtain ⟨j0,ki,kz0,kz1,kz2⟩:=info_parts info_int
 have hmk2:∀ W:World,(Instr.makeSlice 56 (.int .i64 (n:Int)) (.int .i64 (n:Int))).run Tryz.prog W= .ok (.slice (some ⟨W.heap.size,0,none⟩) n n) (W.alloc (.cells (madeCells #[.int .i64 0] n) 3)):=fun W=>by
  have:=run_make (P:=Tryz.prog) W 56 3 j0 _ Tryz.underlying56 ki kz0 .i64 .i64 (n:Int) (n:Int) (by omega) (Int.le_refl _) (by rw [kz2]; omega) (by omega)
  rw [kz1,Int.toNat_natCast,Nat.mul_one] at this
  exact this
 obtain ⟨⟨x0,x1,x2,x3,x4,x5,x6,x7⟩,_⟩:=cells8q HO0.out
 have HG:=Lib.hid hg
 have HR:=Lib.hid hr
 have HPS:=Lib.hid hp
 have HVF:=Lib.hid hv
 have HFN:=Lib.hid hn
 clear hi hz0 hz1 hz2 ki kz0 kz1 kz2 hg hp hr hv hn hn1
 have HPP0:Hid (∀ r q pw W,(newDD g F 0 (d0N g)).2=0→RigM W w.heap.size r q pw g F n (R0 g F n)→Below w.heap.size w W→StartPost w g F n (.returned (.tuple #[.pointer (some ⟨r,0,none⟩),.int .i64 0])) W):=by
  intro r q pw W h0 h1 h2
  refine ⟨h2,?_⟩
  rw [if_pos h0]; exact ⟨r,q,pw,rfl,h1⟩
 have HPP1:Hid (∀ r er W,(newDD g F 0 (d0N g)).2=er→er≠0→W.cell? ⟨r,2,none⟩=some (.pointer none)→Below w.heap.size w W→StartPost w g F n (.returned (.tuple #[.pointer (some ⟨r,0,none⟩),.int .i64 er])) W):=by
  intro r er W h0 hne h1 h2
  refine ⟨h2,?_⟩
  rw [h0,if_neg hne]; exact ⟨r,rfl,h1⟩
 generalize StartPost w g F n=PP at *
 go_enter Tryz.func23,Tryz.ntmps23
 go_upto_region 1 with fail
 generalize (w.alloc (.cells #[.int .i64 g.random,.int .i64 g.bands,.int .i64 g.tracks,.int .i64 g.sectors,.int .i64 g.overlap,.int .i64 (n:Int),.slice A0 F.length c0,.slice A1 m c1] 46))=w1 at *
 have hlt1:w.heap.size < w1.heap.size:=lt_of_block HO0.out
 have HC:Hid (∀ W,Below w1.heap.size w1 W→W.cell? ⟨w.heap.size,5,none⟩=some (.int .i64 n)):=fun W hW=>(hW.cell (p:=⟨w.heap.size,5,none⟩) hlt1).trans x5
 go_cut [4] (fun s4 wx=>∃ r pw ha fa,s4= .pointer (some ⟨r,0,none⟩)∧Hid (StM w.heap.size w1 wx r pw ha fa n))
 case first=>
  go_region_held3 (fun W=>W.cell? ⟨w.heap.size,5,none⟩=some (.int .i64 n))
   (first | assumption | (simp (maxDischargeDepth:=20) [World.cell?_alloc_some, *]; done))
   ((go_at_call 43
     refine (newpower_any _).mono ?_
     rintro e w2 ⟨pw,rfl,hp2,hb2⟩
     have hBW:Below w1.heap.size w1 w2:=by
      first
       | exact ((Below.refl _ _).drew).trans hb2
       | exact (((Below.refl w1.heap.size w1).alloc (Nat.le_refl _) _).drew).trans (hb2.mono (by simp))
       | exact ((((Below.refl w1.heap.size w1).alloc (Nat.le_refl _) _).alloc (by simp) _).drew).trans (hb2.mono (by simp; omega))
     have q5:=HC.out w2 hBW))
  all_goals (go_wp2_with fail; go_meet)
  all_goals first
   | (have h:=(St0.hf hp2 (by first | exact Nat.le_of_lt hlt1 | (simp; omega)) (Nat.le_of_lt hlt1) hBW HN1.out).rig (Nat.le_of_lt hlt1); simp only [World.size_alloc] at h ⊢; exact ⟨_,_,_,_,rfl,h⟩)
   | (have h:=(St0.fh hp2 (by first | exact Nat.le_of_lt hlt1 | (simp; omega)) (Nat.le_of_lt hlt1) hBW HN1.out).rig (Nat.le_of_lt hlt1); simp only [World.size_alloc] at h ⊢; exact ⟨_,_,_,_,rfl,h⟩)
   | (have h:=(St0.f1 hp2 (by first | exact Nat.le_of_lt hlt1 | (simp; omega)) (Nat.le_of_lt hlt1) hBW HN1.out (own_bel (w:=(w1.alloc (.cells (madeCells #[.slice none 0 0] n) 62)).drew) (made_h (N0:=w.heap.size) (w:=w1) (Nat.le_of_lt hlt1) HN1.out) hb2)).rig (Nat.le_of_lt hlt1); simp only [World.size_alloc] at h ⊢; exact ⟨_,_,_,_,rfl,h⟩)
   | (have h:=(St0.h1 hp2 (by first | exact Nat.le_of_lt hlt1 | (simp; omega)) (Nat.le_of_lt hlt1) hBW HN1.out (own_bel (w:=(w1.alloc (.cells (madeCells #[.int .i64 0] n) 3)).drew) (made_f (N0:=w.heap.size) (w:=w1) (Nat.le_of_lt hlt1) HN1.out) hb2)).rig (Nat.le_of_lt hlt1); simp only [World.size_alloc] at h ⊢; exact ⟨_,_,_,_,rfl,h⟩)
   | (have h:=(St0.no hp2 (by first | exact Nat.le_of_lt hlt1 | (simp; omega)) hBW (own_bel (w:=((w1.alloc (.cells (madeCells #[.slice none 0 0] n) 62)).alloc (.cells (madeCells #[.int .i64 0] n) 3)).drew) ((made_h (N0:=w.heap.size) (w:=w1) (Nat.le_of_lt hlt1) HN1.out).alloc _) hb2) (own_bel (w:=((w1.alloc (.cells (madeCells #[.slice none 0 0] n) 62)).alloc (.cells (madeCells #[.int .i64 0] n) 3)).drew) (made_f (N0:=w.heap.size) (w:=w1.alloc (.cells (madeCells #[.slice none 0 0] n) 62)) (by simp; omega) HN1.out) hb2)).rig (Nat.le_of_lt hlt1); simp only [World.size_alloc] at h ⊢; exact ⟨_,_,_,_,rfl,h⟩)
   | (have h:=(St0.no hp2 (by first | exact Nat.le_of_lt hlt1 | (simp; omega)) hBW (own_bel (w:=((w1.alloc (.cells (madeCells #[.int .i64 0] n) 3)).alloc (.cells (madeCells #[.slice none 0 0] n) 62)).drew) (made_h (N0:=w.heap.size) (w:=w1.alloc (.cells (madeCells #[.int .i64 0] n) 3)) (by simp; omega) HN1.out) hb2) (own_bel (w:=((w1.alloc (.cells (madeCells #[.int .i64 0] n) 3)).alloc (.cells (madeCells #[.slice none 0 0] n) 62)).drew) ((made_f (N0:=w.heap.size) (w:=w1) (Nat.le_of_lt hlt1) HN1.out).alloc _) hb2)).rig (Nat.le_of_lt hlt1); simp only [World.size_alloc] at h ⊢; exact ⟨_,_,_,_,rfl,h⟩)
 case rest=>
  obtain ⟨r,pw,ha,fa,rfl,HM⟩:=hcut
  clear hmk hmk2 x0 x1 x2 x3 x4 x5 x6 x7
  have HNL:Hid (w.heap.size≤wc.heap.size):=Nat.le_trans (Nat.le_of_lt hlt1) HM.out.b.size
  have HCC:Hid (∀ W,Below wc.heap.size wc W→W.heap[w.heap.size]?=some (.cells #[.int .i64 g.random,.int .i64 g.bands,.int .i64 g.tracks,.int .i64 g.sectors,.int .i64 g.overlap,.int .i64 (n:Int),.slice A0 F.length c0,.slice A1 m c1] 46 (0,0))):=fun W hW=>by
   have h1:=belObj HM.out.b HO0.out hlt1
   exact belObj hW h1 (lt_of_block h1)
  have HDN:Hid (∀ W,Below wc.heap.size wc W→Calls Tryz.prog 44 #[.agg #[.int .i64 g.random,.int .i64 g.bands,.int .i64 g.tracks,.int .i64 g.sectors,.int .i64 g.overlap],.slice A0 F.length c0,.pointer (some ⟨pw,0,none⟩)] W (DNewPost W (Bd.of w.heap.size) pw g F PW0)):=fun W hW=>by
   have hbw:Below w.heap.size w W:=(HB0.out.trans (HM.out.b.mono (Nat.le_of_lt hlt1))).trans (hW.mono HNL.out)
   exact dnew_yes F A0 c0 ((validG_iff g).2 HG.out) HVF.out ((HR.out.below hbw (Nat.le_refl _)).more hbw.size) (by have:=HFN.out; omega) (HM.out.p.below0 hW) (Nat.le_trans HNL.out hW.size)
  have HRO:Hid (∀ W,Below wc.heap.size wc W→StM w.heap.size w1 W r pw ha fa n):=fun W hW=>HM.out.below hW
  obtain ⟨C,hC⟩:∃ C:List Value→World→Prop,C=fun h W=>match h with
   | []=>W=wc.drew
   | [v]=>∃ q,v= .tuple #[.pointer (some ⟨q,0,none⟩),.int .i64 0]∧DM W (Bd.of w.heap.size) q pw g F (d0N g)∧Below wc.heap.size wc W
   | _=>False:=⟨_,rfl⟩
  have hall:∀ t:HeldC C,Below wc.heap.size wc t.w:=fun t=>by
   obtain ⟨s,W,h⟩:=t
   simp only
   subst hC
   match s,h with
   | [],h=>have h':W=wc.drew:=h; rw [h']; exact (Below.refl _ _).drew
   | [v],h=>obtain ⟨_,_,_,h⟩:=h; exact h
  have HC0:Hid (C [] wc.drew):=by subst hC; exact rfl
  have HK1:Hid (∀ W,C [] W→Calls Tryz.prog 44 #[.agg #[.int .i64 g.random,.int .i64 g.bands,.int .i64 g.tracks,.int .i64 g.sectors,.int .i64 g.overlap],.slice A0 F.length c0,.pointer (some ⟨pw,0,none⟩)] W fun e w'=>∃ x,e= .returned x∧C ([]++[x]) w'):=by
   subst hC
   intro W hW
   have hW':W=wc.drew:=hW
   subst hW'
   refine (HDN.out _ ((Below.refl _ _).drew)).mono ?_
   rintro e w' ⟨q,h1,h2,h3⟩
   exact ⟨_,h1,q,rfl,h2,((Below.refl _ _).drew).trans h3⟩
  have HV1:Hid (∀ v W,C [v] W→∃ q,v= .tuple #[.pointer (some ⟨q,0,none⟩),.int .i64 0]∧DM W (Bd.of w.heap.size) q pw g F (d0N g)∧Below wc.heap.size wc W):=by subst hC; exact fun _ _ h=>h
  have fx:=fun t:HeldC C=>(cells8q (HCC.out _ (hall t))).1
  have g0:=fun t:HeldC C=>(fx t).1
  have g1:=fun t:HeldC C=>(fx t).2.1
  have g2:=fun t:HeldC C=>(fx t).2.2.1
  have g3:=fun t:HeldC C=>(fx t).2.2.2.1
  have g4:=fun t:HeldC C=>(fx t).2.2.2.2.1
  have g6:=fun t:HeldC C=>(fx t).2.2.2.2.2.2.1
  have r0:∀ t:HeldC C,t.w.cell? ⟨r,0,none⟩=some (.pointer (some ⟨pw,0,none⟩)):=fun t=>by rw [cell_of_row _ _ _ _ _ _ (HRO.out _ (hall t)).o]; rfl
  have hne:Nonempty (HeldC C):=⟨⟨[],_,HC0.out⟩⟩
  clear hC hall HDN fx
  go_wp2_with fail
  refine wp_region_chain C [8] [8] (by kernel_rfl) (by kernel_rfl) (by kernel_rfl) (by kernel_rfl) HC0.out ?_
  repeat (refine wpCh_n (by rfl) (by rfl) ?_; go_big_quiet_step (fail); refine wpQuiet_nil ?_)
  refine wpCh_l (f:=44) (args:=#[.agg #[.int .i64 g.random,.int .i64 g.bands,.int .i64 g.tracks,.int .i64 g.sectors,.int .i64 g.overlap],.slice A0 F.length c0,.pointer (some ⟨pw,0,none⟩)]) (by rfl) (by rfl) (fun W=>by simp [go_sem]) (fun W hW=>HK1.out W hW) (fun v W hW=>?_)
  obtain ⟨q,rfl,_⟩:=HV1.out v W hW
  go_big_quiet_step (fail)
  refine wpQuiet_nil ?_
  repeat (refine wpCh_n (by rfl) (by rfl) ?_; go_big_quiet_step (fail); refine wpQuiet_nil ?_)
  refine wpCh_nil ?_
  intro w2 hw2
  obtain ⟨q2,he2,hdm2,hb2⟩:=HV1.out _ w2 hw2
  injection he2 with he2
  have he3:=congrArg (fun a=>a[0]?) he2
  simp only [List.getElem?_toArray,List.getElem?_cons_zero,Option.some.injEq,Value.pointer.injEq,Addr.mk.injEq,and_true] at he3
  subst he3
  have HM2:=Lib.hid (HRO.out w2 hb2)
  have HDM2:=Lib.hid hdm2
  have HC2:=Lib.hid (HCC.out w2 hb2)
  have HB2:Hid (w.heap.size≤w2.heap.size):=Nat.le_trans HNL.out hb2.size
  clear hw2 he2 hdm2 hb2 HV1 HK1 HC0 HCC HRO g0 g1 g2 g3 g4 g6 r0 hne HM
  have hot:=HM2.out.o
  have z1:w2.cell? ⟨r,1,none⟩=some (.pointer none):=by rw [cell_of_row _ _ _ _ _ _ hot]; rfl
  have y1:w2.frozen? ⟨r,1,none⟩=false:=by simp [World.frozen?,hot]
  have hst:=heap_setQ (l:=[.pointer (some ⟨pw,0,none⟩),.pointer none,.pointer none,.int .i64 n,.slice (some ⟨ha,0,none⟩) n n,.slice (some ⟨fa,0,none⟩) n n,.int .u64 0]) hot 1 (.pointer (some ⟨q,0,none⟩))
  have hkr:∀ (W:World) (j:Nat) (u:Value),Kept (fun k=>k=r) W (W.setCell ⟨r,j,none⟩ u):=fun W j u=>(Kept.refl (fun k=>k=r) W).setCell (p:=⟨r,j,none⟩) (fun _=>rfl) _
  have hkT:∀ (W:World) (j:Nat) (u:Value),IsT 58 W r→KeptT [58] (Bd.of w.heap.size) W (W.setCell ⟨r,j,none⟩ u):=fun W j u hW=>KeptT.of (hkr W j u) (fun k _ e=>by have e':k=r:=e; subst e'; exact ⟨Bd.hasOf.2 HM2.out.lo,HasT.mem hW (by simp)⟩)
  have hk3:=hkT w2 1 (.pointer (some ⟨q,0,none⟩)) (IsT.of hot)
  have HKT:=Lib.hid hkT
  have HST3:=Lib.hid hst
  have hdm3:DM (w2.setCell ⟨r,1,none⟩ (.pointer (some ⟨q,0,none⟩))) (Bd.of w.heap.size) q pw g F (d0N g):=DPm.moveT HDM2.out hk3 (by decide) (by decide) (by decide) (by decide) ⟨Nat.le_refl _,fun _ _ h=>h⟩ (Nat.le_trans HB2.out hk3.size)
  have HN3:=Lib.hid (new20_any (key:=0) (n:Int) HG.out (by have:=HFN.out; omega) (by show 0+600≤99000; omega) hdm3)
  have HH3:=Lib.hid (And.intro (own_ty HM2.out.h hk3 (by decide)) (own_ty HM2.out.f hk3 (by decide)))
  have HC3:=Lib.hid (Kept.obj hk3 HC2.out (KeptT.no (IsT.of HC2.out) (by decide)))
  have HB3:Hid (Below w.heap.size w (w2.setCell ⟨r,1,none⟩ (.pointer (some ⟨q,0,none⟩)))):=(HB0.out.trans (HM2.out.b.mono (Nat.le_of_lt hlt1))).trans (hk3.below HB2.out)
  have HZ3:Hid (w.heap.size≤(w2.setCell ⟨r,1,none⟩ (.pointer (some ⟨q,0,none⟩))).heap.size):=Nat.le_trans HB2.out hk3.size
  clear hst hkr hkT hk3 hdm3 hot
  go_upto_region 6 with fail
  generalize (w2.setCell ⟨r,1,none⟩ (.pointer (some ⟨q,0,none⟩)))=w3 at *
  obtain ⟨⟨x0,x1,x2,x3,x4,x5,x6,x7⟩,_⟩:=cells8q HC3.out
  clear z1 y1
  go_wp2_with fail
  refine HN3.out.mono ?_
  intro e w4 hpo
  unfold NewPost20 at hpo
  rw [if_pos HPS.out,Int.toNat_natCast] at hpo
  obtain ⟨hpo,hk4⟩:=hpo
  have HST4:=Lib.hid (Kept.obj hk4 HST3.out (KeptT.no (IsT.of HST3.out) (by unfold DAT; decide)))
  have HH4:=Lib.hid (And.intro (own_ty HH3.out.1 hk4 (by unfold DAT; decide)) (own_ty HH3.out.2 hk4 (by unfold DAT; decide)))
  have HB4:Hid (Below w.heap.size w w4):=HB3.out.trans (hk4.below HZ3.out)
  have HZ4:Hid (w.heap.size≤w4.heap.size):=Nat.le_trans HZ3.out hk4.size
  have hot:=HST4.out
  have z2:w4.cell? ⟨r,2,none⟩=some (.pointer none):=by rw [cell_of_row _ _ _ _ _ _ hot]; rfl
  have y2:w4.frozen? ⟨r,2,none⟩=false:=by simp [World.frozen?,hot]
  clear hk4 HN3 HST3 HH3 HC3 HB3 HZ3 x0 x1 x2 x3 x4 x5 x6 x7
  generalize hnd:newDD g F 0 (d0N g)=ND at *
  obtain ⟨d1,er⟩:=ND
  simp only at hpo HPP0 HPP1
  by_cases h0:er=0
  ·subst h0
   rw [if_pos rfl] at hpo
   obtain ⟨p,ea,ec,BA,bc,rfl,hd,_⟩:=hpo
   have hst5:=heap_setQ (l:=[.pointer (some ⟨pw,0,none⟩),.pointer (some ⟨q,0,none⟩),.pointer none,.int .i64 n,.slice (some ⟨ha,0,none⟩) n n,.slice (some ⟨fa,0,none⟩) n n,.int .u64 0]) hot 2 (.pointer (some ⟨p,0,none⟩))
   have hk5:=HKT.out w4 2 (.pointer (some ⟨p,0,none⟩)) (IsT.of hot)
   have hR0:(R0 g F n).S=⟨freshV g n,d1⟩:=by unfold R0; rw [hnd]
   have HX:=Lib.hid (HPP0.out r q pw (w4.setCell ⟨r,2,none⟩ (.pointer (some ⟨p,0,none⟩))) rfl (StM.done (p:=p) (q:=q) (g:=g) (F:=F) HM2.out hst5 (own_ty HH4.out.1 hk5 (by decide)) (own_ty HH4.out.2 hk5 (by decide)) (by rw [hR0]; exact ⟨ea,ec,BA,bc,hd.types hk5 (by decide)⟩)) (HB4.out.trans (hk5.below HZ4.out)))
   clear hst5 hk5 hR0 hot hd HM2 HDM2 HC2 HPP0 HPP1
   go_wp2
   exact HX.out
  ·rw [if_neg h0] at hpo
   obtain ⟨rfl,_⟩:=hpo
   have hk5:=HKT.out w4 2 (.pointer none) (IsT.of hot)
   have hst5:=heap_setQ (l:=[.pointer (some ⟨pw,0,none⟩),.pointer (some ⟨q,0,none⟩),.pointer none,.int .i64 n,.slice (some ⟨ha,0,none⟩) n n,.slice (some ⟨fa,0,none⟩) n n,.int .u64 0]) hot 2 (.pointer none)
   have HX:=Lib.hid (HPP1.out r er (w4.setCell ⟨r,2,none⟩ (.pointer none)) rfl h0 (by rw [cell_of_row _ _ _ _ _ _ hst5]; rfl) (HB4.out.trans (hk5.below HZ4.out)))
   clear hst5 hk5 hot HM2 HDM2 HC2 HPP0 HPP1 h0
   go_wp2
   exact HX.out
end Go.Proofs.YtggkengmlkhdiaaGreat
