/-
  WHAT IS SHOWN: more: a log on disks in memory: what Arm, Off and On of the power supply, Flush, Restart and Read of one disk return and leave. what a walk is told of the parameters of tegulalaw49: faults, lists of faults, records. Conditions: as each theorem names them.
-/
import Derived.Test.YtaggiceejcegdaaGreatNc35
import Derived.BigQuiet
import Derived.ChangeKeysEq
import Derived.ChangeOld
import Derived.Deep.AppendLies
import Derived.Deep.DeepCutAuto
import Derived.Deep.Draws
import Derived.Deep.Fields
import Derived.Deep.QuietTactic
import Derived.Deep.RegionHeld3
import Derived.Deep.RegionLaw
import Derived.Deep.Slices
import Derived.Handy
import Derived.Laws.AppendOwnNone
import Derived.Laws.BytesArg
import Derived.Laws.Cover3
import Derived.Laws.MakeOwn
import Derived.Laws.OwnMore
import Derived.Laws.Rows
import Derived.Lib.ConvBytes
import Derived.Lib.Hide
import Derived.Lib.SmallJoins
import Derived.Lib.VarintBits
import Derived.Lib.Zigzag
import Derived.LoopIn
import Derived.LoopNIn
import Derived.Maps.AppendAt
import Derived.OpenShut
import Derived.OwnWalkIn
import Derived.ProofKit
import Derived.RangeFuncBox
import Derived.RangeFuncLeaves
import Derived.Shelf.Abstract
import Derived.Sort.QuietIn
import Derived.TacticsInMore
import Derived.WalkKit
import Derived.WalkLawsBesides
import Derived.WalkMore
import Derived.WalkSpells
import Derived.Test.YtaggiceejcegdaaGreatOe07
namespace Go.Proofs.YtaggiceejcegdaaGreat
set_option linter.unusedVariables false
open Go.RowKit
section
variable {w w' : World} {n pw : Nat} {g : Geo} {qs : List Nat} {m : MS}
theorem ManyM.power (h : ManyM w n pw g qs m) : ∃ B : Bd,B.n = n ∧ PowM w B pw m.P ∧ ∀ w' P',PowM w' B pw P' → KeptT [120] B w w' → ManyM w' n pw g qs ⟨m.ds,P'⟩:=by
 obtain ⟨S,hn,h⟩:=h
 refine ⟨Bd.on n w.heap.size (fun k=>k = pw) hn,rfl,⟨h.pow.obj,fun hh=>hh.2 rfl⟩,fun w' P' hp hk=>?_⟩
 have hsz:=hk.size
 refine ⟨fun j k=>S j k ∧ k < w.heap.size,Nat.le_trans hn hsz,?_,⟨hp.obj,fun h=>h⟩,?_,h.len⟩
 ·intro j u r hu hr
  refine DPm.other (h.disk j u r hu hr) hp (hk.sub (us:=DAT) (by unfold DAT; decide)) ⟨Nat.le_refl _,fun k hk' hh=>?_⟩ rfl (Nat.le_refl _) (fun k hk' h1 h0=>((Bd.on_has hk').1 h0).2)
  exact (Bd.on_has (by omega)).2 ⟨hh.1,((Bd.on_has hk').1 hh).2,hk'⟩
 ·intro a b k ha hb hab hk' h1 h2
  exact h.no a b k ha hb hab h1.2 h1.1 h2.1
end
structure CS (w W : World) (n pb b pw : Nat) (V : Option Nat) (v0 v1 v3 : Value) (PA : Option Addr) (pc : Nat) (qs : List Nat) (S : LogS) (m : MS) (sb : Nat) (sf : List Nat) : Prop where
 ws : WS w W n pb b pw V v0 v1 v3 PA pc qs no0 S m
 sr : W.ownsRow w.heap.size 87 3 (.slice (some ⟨sb,0,none⟩) 1 1) 1 (sf.map fun k=>.int .i64 (k : Nat))
section
variable {w W W' : World} {n pb b pw : Nat} {V : Option Nat} {v0 v1 v3 : Value} {PA : Option Addr} {pc : Nat} {qs : List Nat} {no : Nat → Bool} {S : LogS} {m : MS} {sb : Nat} {sf : List Nat} {B : Bd}
theorem CS.below (h : CS w W n pb b pw V v0 v1 v3 PA pc qs S m sb sf) (hb : Below W.heap.size W W') : CS w W' n pb b pw V v0 v1 v3 PA pc qs S m sb sf:=
 ⟨h.ws.below hb,own_kept h.sr (belKept0 (S:=fun _=>False) hb) (fun _ _ h=>h)⟩
theorem CS.typed {m' : MS} (h : CS w W n pb b pw V v0 v1 v3 PA pc qs S m sb sf) (hm : ManyM W' n pw gW qs m') (hk : KeptT DAT B W W') (hB : B.n = n) : CS w W' n pb b pw V v0 v1 v3 PA pc qs S m' sb sf:=
 ⟨h.ws.typed hm hk hB,own_ty h.sr hk (by unfold DAT; decide)⟩
theorem CS.app {N : Nat} (h : CS w W n pb b pw V v0 v1 v3 PA pc qs S m sb sf) (hS : S.Ok) (hmo : m.Ok N) (hN : N ≤ 80000) (hq : qs.length ≤ 1000) (r : Rec) (hok : r.Ok) (A1 D1 N1 : Option Addr) (c1 d1 n1 : Nat) (hr : RecR W W.heap.size r A1 c1 D1 d1 N1 n1) (ht : Tiny r) :
  Calls Tryz.prog 13 #[.pointer (some ⟨b,0,none⟩),.slice PA qs.length pc,.int .u64 0,.agg #[.int .u64 r.gen,.int .u64 r.seq,.slice A1 r.ws.length c1,.slice D1 r.ms.length d1,.slice N1 r.note.length n1]] W fun e w'=>∃ A c V',e = .returned (.tuple #[.slice A (appM gW 0 no0 S r m).2.length c,.int .i64 (appE S r)]) ∧ CS w w' n pb b pw V' v0 v1 v3 PA pc qs (appS S r) (appM gW 0 no0 S r m).1 sb sf:=by
 refine (h.ws.app hS hmo hN hq r hok A1 D1 N1 c1 d1 n1 hr ht).mono ?_
 rintro e w' ⟨A,c,V',he,_,hw,hk⟩
 exact ⟨A,c,V',he,hw,hk.row h.ws.log h.sr (by unfold LDT; decide) (by decide)⟩
theorem CS.on (h : CS w W n pb b pw V v0 v1 v3 PA pc qs S m sb sf) :
  Calls Tryz.prog 39 #[.pointer (some ⟨pw,0,none⟩)] W fun e w'=>e = .returned (.tuple #[]) ∧ CS w w' n pb b pw V v0 v1 v3 PA pc qs S ⟨m.ds,{ m.P with off:=false }⟩ sb sf ∧ KeptT DAT (Bd.of n) W w':=by
 obtain ⟨B,hB,hp,hback⟩:=h.ws.many.power
 refine (don_any hp).mono ?_
 rintro e w' ⟨he,hp',hk⟩
 exact ⟨he,h.typed (hback w' _ hp' hk) (hk.sub (us:=DAT) (by unfold DAT; decide)) hB,(hk.sub (us:=DAT) (by unfold DAT; decide)).wideN hB⟩
theorem CS.off (h : CS w W n pb b pw V v0 v1 v3 PA pc qs S m sb sf) :
  Calls Tryz.prog 37 #[.pointer (some ⟨pw,0,none⟩)] W fun e w'=>e = .returned (.bool m.P.off) ∧ W = w':=by
 obtain ⟨B,hB,hp,_⟩:=h.ws.many.power
 exact off_any hp
section
variable {i q : Nat} {v : DX}
theorem CS.flush (h : CS w W n pb b pw V v0 v1 v3 PA pc qs S m sb sf) (hv : m.ds[i]? = some v) (hq : qs[i]? = some q) (hn : v.F.length ≤ 9223372036854775807) (hon : v.O.length + 9 ≤ 99000) :
  Calls Tryz.prog 18 #[.pointer (some ⟨q,0,none⟩),.int .u64 0] W fun e w'=>e = .returned (.int .i64 (tryD (fOne gW v.F 0) (m.dc v)).2.er) ∧ CS w w' n pb b pw V v0 v1 v3 PA pc qs S (m.put i v.F (tryD (fOne gW v.F 0) (m.dc v)).1) sb sf:=by
 obtain ⟨B,hB,hd,hback⟩:=h.ws.many.at_ hv hq
 refine (wflush_any (key:=0) hd hn hon).mono ?_
 rintro e w' ⟨he,hd',hk⟩
 exact ⟨he,h.typed (hback w' _ hd' hk) hk hB⟩
theorem CS.restart (h : CS w W n pb b pw V v0 v1 v3 PA pc qs S m sb sf) (hv : m.ds[i]? = some v) (hq : qs[i]? = some q) (keep : Int) (hon : v.O.length ≤ 100000) :
  Calls Tryz.prog 38 #[.pointer (some ⟨q,0,none⟩),.int .i64 keep] W fun e w'=>e = .returned (.int .i64 (rstE v.s m.P)) ∧ CS w w' n pb b pw V v0 v1 v3 PA pc qs S (m.put i v.F ⟨rstS v.s m.P,m.P,rstLM gW v.s m.P v.L v.O keep,rstO v.s m.P v.O⟩) sb sf ∧ KeptT DAT (Bd.of n) W w':=by
 obtain ⟨B,hB,hd,hback⟩:=h.ws.many.at_ hv hq
 refine (drestart_any keep hd hon).mono ?_
 rintro e w' ⟨he,hd',hk⟩
 exact ⟨he,h.typed (hback w' _ hd' hk) hk hB,hk.wideN hB⟩
theorem CS.read (h : CS w W n pb b pw V v0 v1 v3 PA pc qs S m sb sf) (hv : m.ds[i]? = some v) (hq : qs[i]? = some q) (hn : v.F.length ≤ 9223372036854775807) :
  Calls Tryz.prog 20 #[.pointer (some ⟨q,0,none⟩),.int .u64 0,.int .i64 1,.int .i64 18] W fun e w'=>∃ A c ss,e = .returned (.tuple #[.slice A ss.length c,.int .i64 (rdAll gW v.F 0 1 (m.dc v) 18).2.2]) ∧ ss.map Sl.xs = (rdAll gW v.F 0 1 (m.dc v) 18).2.1 ∧ SlsB w' W.heap.size A c ss ∧
   CS w w' n pb b pw V v0 v1 v3 PA pc qs S (m.put i v.F (rdAll gW v.F 0 1 (m.dc v) 18).1) sb sf ∧ KeptT DAT (Bd.of n) W w':=by
 obtain ⟨B,hB,hd,hback⟩:=h.ws.many.at_ hv hq
 refine (wread_pos (key:=0) (at_:=1) (N:=18) (by decide) (by decide) hd hn (by decide) (by decide)).mono ?_
 rintro e w' ⟨A,c,ss,he,hx,hs,hd',hk⟩
 exact ⟨A,c,ss,he,hx,hs,h.typed (hback w' _ hd' hk) hk hB,hk.wideN hB⟩
end
theorem CS.note (h : CS w W n pb b pw V v0 v1 v3 PA pc qs S m sb sf) (k x : Nat) :
  CS w (W.setCell ⟨sb,k,none⟩ (.int .i64 (x : Nat))) n pb b pw V v0 v1 v3 PA pc qs S m sb (sf.set k x):=by
 have hlo:=row_low h.sr
 have hk : KeptT [87] (Bd.of w.heap.size) W (W.setCell ⟨sb,k,none⟩ (.int .i64 (x : Nat))):=
  KeptT.of ((Kept.refl (fun i=>i = sb) W).setCell (p:=⟨sb,k,none⟩) (fun _=>rfl) _) (fun i _ e=>by have e' : i = sb:=e; subst e'; exact ⟨⟨hlo,fun h=>h⟩,HasT.mem (IsT.own h.sr) (by simp)⟩)
 have hst:=(World.ownsRow.stored h.sr k (.int .i64 (x : Nat))).1
 rw [← List.map_set] at hst
 refine ⟨⟨own_ty h.ws.pair hk (by decide),own_ty h.ws.ptr hk (by decide),h.ws.log.types hk (by decide) (by decide) (by decide) (by decide) (by decide),h.ws.many.types hk (by decide) (by decide) (by decide) (by decide),h.ws.bel.trans (hk.below h.ws.bel.size),h.ws.le⟩,hst⟩
theorem CS.cell (h : CS w W n pb b pw V v0 v1 v3 PA pc qs S m sb sf) {k s : Nat} (hk : k < 3) (hs : sf[k]? = some s) : W.cell? ⟨sb,k,none⟩ = some (.int .i64 (s : Nat)):=by
 have:=World.ownsRow.cellAt h.sr k (by omega)
 rw [this,List.getElem?_map,hs]; rfl
end
theorem RcsR.take {w : World} {B : Nat} {A : Option Addr} {l : List RS} (h : RcsR w B A l) (i : Nat) : RcsR w B A (l.take i):=by
 refine ⟨fun j u hu=>h.rd j u ?_,fun x hx=>h.each x (List.mem_of_mem_take hx)⟩
 have e : flatR l = flatR (l.take i) ++ flatR (l.drop i):=by
  unfold flatR
  rw [← List.flatMap_append,List.take_append_drop]
 rw [e,List.getElem?_append_left (List.getElem?_eq_some_iff.1 hu).1]
 exact hu
theorem twins3 (W : World) : Calls Tryz.prog 11 #[.slice (some ⟨W.heap.size,0,none⟩) 3 3] (W.alloc (.cells #[.slice none 0 0,.slice none 0 0,.slice none 0 0] 48)) (TwPost (W.alloc (.cells #[.slice none 0 0,.slice none 0 0,.slice none 0 0] 48)) [[],[],[]]):=by
 refine twins_any [⟨none,[],0⟩,⟨none,[],0⟩,⟨none,[],0⟩] (some ⟨W.heap.size,0,none⟩) 3 _ ?_ (by decide) (fun x hx=>by simp at hx; subst hx; exact ⟨by decide,by decide⟩)
 refine ⟨fun j u hu=>?_,fun x hx=>by simp at hx; subst hx; exact Rd.nil_ _ _ _⟩
 match j,hu with
 | 0,hu=>simp [FL.v] at hu; subst hu; exact ⟨W.heap.size,0,rfl,by simp,cell_new _ _ _ _ _ _ rfl rfl⟩
 | 1,hu=>simp [FL.v] at hu; subst hu; exact ⟨W.heap.size,0,rfl,by simp,cell_new _ _ _ _ _ _ rfl rfl⟩
 | 2,hu=>simp [FL.v] at hu; subst hu; exact ⟨W.heap.size,0,rfl,by simp,cell_new _ _ _ _ _ _ rfl rfl⟩
 | j + 3,hu=>simp [FL.v] at hu
theorem okM3 (P : Pow) : (⟨(newMS [[],[],[]]).ds,P⟩ : MS).Ok 0:=newMS_ok (fs:=[[],[],[]]) (fun F hF=>by simp at hF; subst hF; exact ⟨fun f hf=>by simp at hf,by simp⟩)
def S7L : LogS:=S0L 7 1 18
theorem cut7 : CutL S7L:=⟨⟨S0L_ok (by decide) (by decide) (by decide) (by decide) (by decide),rfl,by decide⟩,rfl,fun i hi=>by simp [S7L,S0L] at hi,rfl,rfl⟩
theorem cutm0 (x : Int) : CutM S7L [0,0,0] ⟨(newMS [[],[],[]]).ds,armP (newMS [[],[],[]]).P x⟩:=by
 have hon : OnP (armP PZ x):=⟨rfl,rfl⟩
 refine ⟨rfl,.inl hon,fun i v s hi hs=>?_⟩
 have hv : v = ⟨[],newS PZ,blankL gW,[]⟩:=by
  match i,hi with
  | 0,hi=>exact (Option.some.inj hi).symm
  | 1,hi=>exact (Option.some.inj hi).symm
  | 2,hi=>exact (Option.some.inj hi).symm
  | i + 3,hi=>simp [newMS] at hi
 have hs0 : s = 0:=by
  match i,hs with
  | 0,hs=>exact (Option.some.inj hs).symm
  | 1,hs=>exact (Option.some.inj hs).symm
  | 2,hs=>exact (Option.some.inj hs).symm
  | i + 3,hs=>simp at hs
 subst hv
 subst hs0
 exact ⟨rfl,⟨rfl,rfl,rfl⟩,Nat.zero_le _,0,0,Nat.le_refl _,Nat.zero_le _,rfl,rfl,fun _=>rfl,Nat.le_refl _⟩
def MidM (S : LogS) (sf : List Nat) (k : Nat) (m : MS) : Prop:=m.ds.length = sf.length ∧ OffP m.P ∧ ∀ (i : Nat) (v : DX) (s : Nat),m.ds[i]? = some v → sf[i]? = some s → (i < k → RestV S s v) ∧ (k ≤ i → CutV S s False v)
theorem CutM.mid {S : LogS} {sf : List Nat} {m : MS} (h : CutM S sf m) (ho : m.P.off = true) : MidM S sf 0 m:=by
 refine ⟨h.1,?_,fun i v s hi hs=>⟨fun h=>by omega,fun _=>(h.2.2 i v s hi hs).mono (fun h=>h.elim)⟩⟩
 rcases h.2.1 with h1 | h1
 ·rw [h1.1] at ho; cases ho
 ·exact h1
theorem MidM.next {S : LogS} {sf : List Nat} {k s : Nat} {m : MS} {v : DX} (hS : CutL S) (h : MidM S sf k m) (hv : m.ds[k]? = some v) (hs : sf[k]? = some s) (keep : Int) :
  rstE v.s m.P = 0 ∧ MidM S sf (k + 1) (m.put k v.F ⟨rstS v.s m.P,m.P,rstLM gW v.s m.P v.L v.O keep,rstO v.s m.P v.O⟩):=by
 obtain ⟨hl,hP,hh⟩:=h
 obtain ⟨he,hr⟩:=((hh k v s hv hs).2 (Nat.le_refl _)).rest hS hP keep
 have hkl:=(List.getElem?_eq_some_iff.1 hv).1
 refine ⟨he,by show (m.ds.set k _).length = _; rw [List.length_set]; exact hl,hP,fun i u r hi hr2=>?_⟩
 have hi' : (m.ds.set k ⟨v.F,rstS v.s m.P,rstLM gW v.s m.P v.L v.O keep,rstO v.s m.P v.O⟩)[i]? = some u:=hi
 by_cases ei : i = k
 ·subst ei
  rw [List.getElem?_set_self hkl] at hi'
  obtain rfl:=Option.some.inj hi'
  rw [hs] at hr2
  obtain rfl:=Option.some.inj hr2
  exact ⟨fun _=>hr,fun h=>by omega⟩
 ·rw [List.getElem?_set_ne (fun e=>ei e.symm)] at hi'
  obtain ⟨g1,g2⟩:=hh i u r hi' hr2
  exact ⟨fun h=>g1 (by omega),fun h=>g2 (by omega)⟩
theorem MidM.on {S : LogS} {sf : List Nat} {k : Nat} {m : MS} (h : MidM S sf k m) (hk : sf.length ≤ k) : RestM S sf ⟨m.ds,{ m.P with off:=false }⟩:=
 ⟨h.1,⟨rfl,h.2.1.2.2,h.2.1.2.1⟩,fun i v s hi hs=>(h.2.2 i v s hi hs).1 (by have:=(List.getElem?_eq_some_iff.1 hs).1; omega)⟩
theorem rstO_len (s : DS) (P : Pow) (O : List OpV) : (rstO s P O).length ≤ O.length:=by
 unfold rstO; split <;> simp
end Go.Proofs.YtaggiceejcegdaaGreat
namespace Go.Proofs.YtaggiceejcegdaaGreat
set_option linter.unusedVariables false
open Go.ChangeShapes Go.WideShapes Go.ChangeAt Go.RowKit Go.Deep
section
variable {H : Type} {enc : TypeId × Value → H} {w : World} {base : Nat} {spare : Nat → Bool} {held : Bool}
set_option maxRecDepth 100000 in
theorem open_u83 {r : Reach} {b0 : Nat} {v : Value} {d : DataW H} {p : List MemPlace} (hv : Value.okWide Tryz.prog w r b0 85 v) (h : DataW.Trod enc Tryz.prog w base spare held 85 v d p) : ∃ a b c : Int,v = .agg #[.int .u8 a,.int .u8 b,.int .u8 c] ∧ ∀ k ∈ [a,b,c],0 ≤ k ∧ k ≤ 255:=by
 simp only [Value.okWide,Tryz.underlying85] at hv
 obtain ⟨cs,rfl,hsz,_⟩:=hv
 rw [show Tryz.prog.cellsOf 85 = 3 from by kernel_rfl] at hsz
 obtain ⟨l⟩:=cs
 match l,hsz with
 | [c0,c1,c2],_=>
   obtain ⟨fuel,hf⟩:=h
   have hf' : DataW.trod enc Tryz.prog w base spare held fuel 85 [c0,c1,c2] = some (d,p):=hf
   obtain ⟨ys,m,_,_,_,hyl,hy⟩:=DataW.trod_array Tryz.underlying85 hf'
   match ys,hyl with
   | [y0,y1,y2],_=>
     have g0:=hy 0 (by decide)
     have g1:=hy 1 (by decide)
     have g2:=hy 2 (by decide)
     rw [cellsU8] at g0 g1 g2
     have g0' : DataW.trod enc Tryz.prog w base spare held m 5 [c0] = some y0:=g0
     have g1' : DataW.trod enc Tryz.prog w base spare held m 5 [c1] = some y1:=g1
     have g2' : DataW.trod enc Tryz.prog w base spare held m 5 [c2] = some y2:=g2
     obtain ⟨n0,e0,_,w0⟩:=DataW.trod_int Tryz.underlying5 g0'
     obtain ⟨n1,e1,_,w1⟩:=DataW.trod_int Tryz.underlying5 g1'
     obtain ⟨n2,e2,_,w2⟩:=DataW.trod_int Tryz.underlying5 g2'
     simp at e0 e1 e2
     subst e0; subst e1; subst e2
     refine ⟨n0,n1,n2,rfl,fun k hk=>?_⟩
     simp only [List.mem_cons,List.not_mem_nil,or_false] at hk
     rcases hk with rfl | rfl | rfl
     ·exact u8_of w0
     ·exact u8_of w1
     ·exact u8_of w2
end
end Go.Proofs.YtaggiceejcegdaaGreat
