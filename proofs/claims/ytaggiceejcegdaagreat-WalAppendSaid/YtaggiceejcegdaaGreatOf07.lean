/-
  WHAT IS SHOWN: more: the log of tegularef49 in memory; what its Numbered returns; what SameErrors returns for equal lists. what Append and Rewrite of the log of tegularef49 return and leave. what New of tegularef49 returns. two logs and their disks side by side: what Append and Rewrite of wal and of tegularef49 return and leave. Conditions: as each theorem names them.
-/
import Derived.Test.YtaggiceejcegdaaGreatNc35
import Derived.BigQuiet
import Derived.ChangeKeysEq
import Derived.ChangeOld
import Derived.Deep.AppendLies
import Derived.Deep.DeepCutAuto
import Derived.Deep.Draws
import Derived.Deep.Fields
import Derived.Deep.QuietTactic
import Derived.Deep.RegionHeld3
import Derived.Deep.RegionLaw
import Derived.Deep.Slices
import Derived.Handy
import Derived.Laws.AppendOwnNone
import Derived.Laws.BytesArg
import Derived.Laws.Cover3
import Derived.Laws.MakeOwn
import Derived.Laws.OwnMore
import Derived.Laws.Rows
import Derived.Lib.ConvBytes
import Derived.Lib.Hide
import Derived.Lib.SmallJoins
import Derived.Lib.VarintBits
import Derived.Lib.Zigzag
import Derived.LoopIn
import Derived.LoopNIn
import Derived.Maps.AppendAt
import Derived.OpenShut
import Derived.OwnWalkIn
import Derived.ProofKit
import Derived.RangeFuncBox
import Derived.RangeFuncLeaves
import Derived.Shelf.Abstract
import Derived.Sort.QuietIn
import Derived.TacticsInMore
import Derived.WalkKit
import Derived.WalkLawsBesides
import Derived.WalkMore
import Derived.WalkSpells
import Derived.Test.YtaggiceejcegdaaGreatOf06
namespace Go.Proofs.YtaggiceejcegdaaGreat
set_option linter.unusedVariables false
open Go.RowKit
def rlogObj (S : LogS) (A : Option Addr) (m c : Nat) : List Value:=[.int .u64 S.gen,.int .i64 S.fr,.int .i64 S.sec,.int .i64 S.used,.slice A m c]
structure RLogMem (w : World) (n b : Nat) (A : Option Addr) (c : Nat) (xs : List RS) (S : LogS) : Prop where
 obj : w.ownsRow n 68 5 (.slice (some ⟨b,0,none⟩) 1 1) 1 (rlogObj S A xs.length c)
 rec_ : xs.map RS.r = S.l
 own : w.ownsRow n 28 5 (.slice A xs.length c) xs.length (flatR xs)
 each : ∀ x ∈ xs,RecR w n x.r x.A x.c x.D x.d x.N x.n
def RLogM (w : World) (n b : Nat) (V : Option Nat) (S : LogS) : Prop:=∃ A c xs,RLogMem w n b A c xs S ∧ (Value.slice A xs.length c).ownBlock = V
theorem RecR.keptn {T : Nat → Prop} {w w' : World} {n : Nat} {r : Rec} {A D N : Option Addr} {c d m : Nat} (h : RecR w n r A c D d N m) (hk : Kept T w w') (hn : ∀ k,T k → n ≤ k) : RecR w' n r A c D d N m:=
 ⟨hk.rd h.ws (fun i hi hT=>by have:=hn i hT; omega),hk.rd h.ms (fun i hi hT=>by have:=hn i hT; omega),hk.rd h.note (fun i hi hT=>by have:=hn i hT; omega)⟩
theorem own_new {w w' : World} {ts : List TypeId} {w0 : World} {B : Bd} {t : TypeId} {base size m : Nat} {v : Value} {xs : List Value} (hk : KeptT ts B w0 w) (hg : w.grownBy w' v.ownBlock) (ho : w.ownsRow base t size v m xs) (hb : w0.heap.size ≤ base) : KeptT ts B w0 w':=by
 have hkk : Kept (fun k=>v.ownBlock = some k) w w':=⟨hg.os,hg.tape,hg.output,hg.size,fun k hk hS=>hg.block k hk (fun e=>hS e.symm)⟩
 refine Kept.trans hk hkk (fun i hi e=>?_)
 have:=own_low ho e
 omega
theorem grown_tn {w w' : World} {t : TypeId} {n base size m : Nat} {v : Value} {xs : List Value} (hg : w.grownBy w' v.ownBlock) (ho : w.ownsRow base t size v m xs) (hn : n ≤ base) : KeptT [t] (Bd.of n) w w':=by
 have hk : Kept (fun k=>v.ownBlock = some k) w w':=⟨hg.os,hg.tape,hg.output,hg.size,fun k hk hS=>hg.block k hk (fun e=>hS e.symm)⟩
 refine KeptT.of hk (fun k _ e=>⟨⟨Nat.le_trans hn (own_low ho e),fun h=>h⟩,?_⟩)
 rcases ho.2 with ⟨h2,_⟩ | ⟨g,cap,cur,h2,_,h4,_⟩
 ·rw [h2] at e; cases e
 ·rw [h2] at e
  obtain rfl : g = k:=by simpa [Value.ownBlock] using e
  exact HasT.mem (IsT.of h4) (by simp)
section
variable {w w' : World} {n b : Nat} {A : Option Addr} {c : Nat} {xs : List RS} {S : LogS} {V : Option Nat}
theorem RLogMem.cells (h : RLogMem w n b A c xs S) : w.cell? ⟨b,0,none⟩ = some (.int .u64 S.gen) ∧ w.cell? ⟨b,1,none⟩ = some (.int .i64 S.fr) ∧ w.cell? ⟨b,2,none⟩ = some (.int .i64 S.sec) ∧ w.cell? ⟨b,3,none⟩ = some (.int .i64 S.used) ∧ w.cell? ⟨b,4,none⟩ = some (.slice A xs.length c):=
 ⟨(World.ownsRow.cellAt h.obj 0 (by decide)).trans rfl,(World.ownsRow.cellAt h.obj 1 (by decide)).trans rfl,(World.ownsRow.cellAt h.obj 2 (by decide)).trans rfl,(World.ownsRow.cellAt h.obj 3 (by decide)).trans rfl,(World.ownsRow.cellAt h.obj 4 (by decide)).trans rfl⟩
theorem RLogMem.len (h : RLogMem w n b A c xs S) : xs.length = S.l.length:=by rw [← h.rec_,List.length_map]
theorem RLogMem.low (h : RLogMem w n b A c xs S) : n ≤ w.heap.size:=by have:=row_low h.obj; have:=(IsT.own h.obj).lt; omega
theorem RLogMem.kept {T : Nat → Prop} (h : RLogMem w n b A c xs S) (hk : Kept T w w') (hb : ¬ T b) (hv : ∀ k,(Value.slice A xs.length c).ownBlock = some k → ¬ T k) (hn : ∀ k,T k → n ≤ k) : RLogMem w' n b A c xs S:=
 ⟨own_kept h.obj hk (fun k e=>by simp [Value.ownBlock] at e; subst e; exact hb),h.rec_,own_kept h.own hk hv,fun x hx=>(h.each x hx).keptn hk hn⟩
theorem RLogMem.below0 (h : RLogMem w n b A c xs S) (hb : Below w.heap.size w w') : RLogMem w' n b A c xs S:=h.kept (belKept0 (S:=fun _=>False) hb) (fun h=>h) (fun _ _ h=>h) (fun _ h=>h.elim)
theorem RLogMem.vt (h : RLogMem w n b A c xs S) {k : Nat} (hv : (Value.slice A xs.length c).ownBlock = some k) : IsT 28 w k:=by
 rcases h.own.2 with ⟨e2,_⟩ | ⟨g,cap,cur,e2,_,h4,_⟩
 ·rw [e2] at hv; cases hv
 ·rw [e2] at hv
  obtain rfl : g = k:=by simpa [Value.ownBlock] using hv
  exact IsT.of h4
theorem RLogMem.types {ts : List TypeId} {B : Bd} (h : RLogMem w n b A c xs S) (hk : KeptT ts B w w') (hB : n ≤ B.n) (h0 : 68 ∉ ts) (h1 : 28 ∉ ts) : RLogMem w' n b A c xs S:=
 h.kept hk (fun hh=>HasT.no (IsT.own h.obj) h0 hh.2) (fun k e hh=>HasT.no (h.vt e) h1 hh.2) (fun k hh=>Nat.le_trans hB hh.1.1)
theorem RLogM.below0 (h : RLogM w n b V S) (hb : Below w.heap.size w w') : RLogM w' n b V S:=by
 obtain ⟨A,c,xs,h,e⟩:=h
 exact ⟨A,c,xs,h.below0 hb,e⟩
theorem RLogM.types {ts : List TypeId} {B : Bd} (h : RLogM w n b V S) (hk : KeptT ts B w w') (hB : n ≤ B.n) (h0 : 68 ∉ ts) (h1 : 28 ∉ ts) : RLogM w' n b V S:=by
 obtain ⟨A,c,xs,h,e⟩:=h
 exact ⟨A,c,xs,h.types hk hB h0 h1,e⟩
theorem RLogM.vt (h : RLogM w n b V S) {k : Nat} (hv : V = some k) : IsT 28 w k:=by
 obtain ⟨A,c,xs,h,e⟩:=h
 exact h.vt (e.trans hv)
theorem RLogM.other {V' : Option Nat} {b' n' : Nat} {S' : LogS} (h : RLogM w n b V S) (hl : LogM w n' b' V' S') (hk : KeptA n' V' w w') (hn : n ≤ n') (hd : ∀ k,V = some k → V' = some k → False) : RLogM w' n b V S:=by
 obtain ⟨A,c,xs,h,e⟩:=h
 refine ⟨A,c,xs,h.kept hk (KeptA.no hl (IsT.own h.obj) (by unfold LDT; decide) (by decide)) (fun k ek hh=>?_) (fun k hh=>Nat.le_trans hn hh.1),e⟩
 rcases hh.2 with h2 | h2
 ·exact HasT.no (h.vt ek) (by unfold LDT; decide) h2
 ·exact hd k (e.symm.trans ek) h2
theorem set_rlog {xs : List Value} (h : w.ownsRow n 68 5 (.slice (some ⟨b,0,none⟩) 1 1) 1 xs) (j : Nat) (v : Value) : KeptT [68] (Bd.of n) w (w.setCell ⟨b,j,none⟩ v):=
 KeptT.of ((Kept.refl (fun k=>k = b) w).setCell (p:=⟨b,j,none⟩) (fun _=>rfl) _) (fun k _ e=>by have e' : k = b:=e; subst e'; exact ⟨⟨row_low h,fun h=>h⟩,HasT.mem (IsT.own h) (by simp)⟩)
theorem RLogMem.spent (h : RLogMem w n b A c xs S) (u : Int) : RLogMem (w.setCell ⟨b,3,none⟩ (.int .i64 u)) n b A c xs ⟨S.gen,S.fr,S.sec,u,S.l⟩:=
 ⟨(World.ownsRow.stored h.obj 3 (.int .i64 u)).1,h.rec_,own_ty h.own (set_rlog h.obj 3 (.int .i64 u)) (by decide),fun x hx=>(h.each x hx).keptn (set_rlog h.obj 3 (.int .i64 u)) (fun k hh=>hh.1.1)⟩
theorem RLogMem.push {w9 : World} {A' : Option Addr} {c' : Nat} {x : RS} {tmp : Obj} (h : RLogMem w n b A c xs S) (hx : RecR w n x.r x.A x.c x.D x.d x.N x.n)
  (hown : w9.ownsRow n 28 5 (.slice A' (xs.length + 1) c') (xs.length + 1) (flatR xs ++ x.cells)) (hg : (w.alloc tmp).grownBy w9 (Value.slice A xs.length c).ownBlock) :
  RLogMem (w9.setCell ⟨b,4,none⟩ (.slice A' (xs.length + 1) c')) n b A' c' (xs ++ [x]) ⟨S.gen,S.fr,S.sec,S.used,S.l ++ [x.r]⟩ ∧ w9.ownsRow n 68 5 (.slice (some ⟨b,0,none⟩) 1 1) 1 (rlogObj S A xs.length c):=by
 have ba : Below w.heap.size w (w.alloc tmp):=(Below.refl _ _).alloc (Nat.le_refl _) _
 have o9:=(h.obj.alloc tmp).kept hg (own_apart (h.obj.alloc tmp) (h.own.alloc tmp) (by decide))
 have kg : KeptT [28] (Bd.of n) (w.alloc tmp) w9:=grown_tn hg (h.own.alloc tmp) (Nat.le_refl _)
 have hk:=set_rlog o9 4 (.slice A' (xs.length + 1) c')
 have hst:=(World.ownsRow.stored o9 4 (.slice A' (xs.length + 1) c')).1
 have up : ∀ y : RS,RecR w n y.r y.A y.c y.D y.d y.N y.n → RecR (w9.setCell ⟨b,4,none⟩ (.slice A' (xs.length + 1) c')) n y.r y.A y.c y.D y.d y.N y.n:=fun y hy=>
  ((hy.keptn (belKept0 (S:=fun _=>False) ba) (fun _ h=>h.elim)).keptn kg (fun k hh=>hh.1.1)).keptn hk (fun k hh=>hh.1.1)
 refine ⟨⟨?_,by rw [List.map_append,h.rec_]; rfl,?_,fun y hy=>?_⟩,o9⟩
 ·rw [List.length_append]; exact hst
 ·have:=own_ty hown hk (by decide)
  unfold flatR at *
  rw [List.flatMap_append,List.length_append]
  simpa using this
 ·rcases List.mem_append.1 hy with h1 | h1
  ·exact up y (h.each y h1)
  ·obtain rfl:=List.mem_singleton.1 h1
   exact up y hx
theorem RLogMem.rd (h : RLogMem w n b A c xs S) : RcsR w w.heap.size A xs:=⟨Rd.of_own h.own,fun x hx=>(h.each x hx).more h.low⟩
set_option maxRecDepth 100000 in
set_option maxHeartbeats 1000000 in
theorem rnumbered_any (r : Rec) (A1 D1 N1 : Option Addr) (c1 d1 n1 : Nat) (h : RLogM w n b V S) (hl : S.l.length ≤ 1000) (q : Nat) (hq : q = S.l.length + 1) :
  Calls Tryz.prog 31 #[.pointer (some ⟨b,0,none⟩),.agg #[.int .u64 r.gen,.int .u64 r.seq,.slice A1 r.ws.length c1,.slice D1 r.ms.length d1,.slice N1 r.note.length n1]] w fun e w'=>e = .returned (.agg #[.int .u64 S.gen,.int .u64 q,.slice A1 r.ws.length c1,.slice D1 r.ms.length d1,.slice N1 r.note.length n1]) ∧ Below w.heap.size w w':=by
 obtain ⟨A,c,xs,h,_⟩:=h
 obtain ⟨c0,_,_,_,c4⟩:=h.cells
 have hlen:=h.len
 have hw : IntKind.i64.wrap ((xs.length : Int) + 1) = (xs.length : Int) + 1:=by rw [IntKind.wrap_i64]; omega
 have hw0 : IntKind.u64.wrap ((xs.length : Int) + 1) = (q : Int):=by rw [IntKind.wrap_u64]; omega
 clear h hlen hq
 go_enter Tryz.func31,Tryz.ntmps31
 go_wp2
 go_region_held3 (fun W=>W.cell? ⟨b,0,none⟩ = some (.int .u64 S.gen) ∧ W.cell? ⟨b,4,none⟩ = some (.slice A xs.length c))
  (first | (refine ⟨?_,?_⟩ <;> assumption) | (simp (maxDischargeDepth:=20) [World.cell?_alloc_some, *]; done))
  (fail)
 go_wp2
 exact bodyPost_ret (v:=.agg #[.int .u64 S.gen,.int .u64 q,.slice A1 r.ws.length c1,.slice D1 r.ms.length d1,.slice N1 r.note.length n1]) (by simp [results,Tryz.results31,go_sem, *]) rfl ⟨rfl,(((Below.refl _ _).alloc (Nat.le_refl _) _).alloc (by simp) _).drew⟩
end
set_option maxRecDepth 100000 in
set_option maxHeartbeats 1000000 in
theorem sameerr_any (es : List Int) (A D : Option Addr) (c d : Nat) (w : World) (hx : Rd w w.heap.size A (es.map (Value.int .i64))) (hy : Rd w w.heap.size D (es.map (Value.int .i64))) (hl : es.length ≤ 1000) :
  Calls Tryz.prog 33 #[.slice A es.length c,.slice D es.length d] w fun e w'=>e = .returned (.bool true) ∧ Below w.heap.size w w':=by
 have HX:=Lib.hid hx
 have HY:=Lib.hid hy
 clear hx hy
 go_enter Tryz.func33,Tryz.ntmps33
 go_wp2
 go_loopw [5] (fun i wr=>∃ k : Nat,k ≤ es.length ∧ i = .int .i64 k ∧ Hid (Below w.heap.size w wr)) (fun i _=>es.length - (intOf i).toNat)
 case atStart=>exact ⟨0,Nat.zero_le _,rfl,Below.refl _ _⟩
 case round=>
  obtain ⟨k,hk,rfl,HW⟩:=hrel
  by_cases hlt : k < es.length
  ·have hge : (es.map (Value.int .i64))[k]? = some (.int .i64 es[k]):=by simp [hlt]
   obtain ⟨g1,o1,rA,hg1,j1⟩:=(HX.out.below HW.out (Nat.le_refl _)) k _ hge
   obtain ⟨g2,o2,rD,hg2,j2⟩:=(HY.out.below HW.out (Nat.le_refl _)) k _ hge
   subst rA
   subst rD
   generalize es[k] = x at *
   clear hge
   go_wp2
   go_quiet (fail)
   have HB9 : Hid (Below w.heap.size w (wr.drewN nq)):=below_drewN' HW.out _
   go_wp2
   go_roundw
   case rel=>exact ⟨k + 1,hlt,by go_num,HB9⟩
   case measure=>simp [intOf]; omega
  ·obtain rfl : k = es.length:=by omega
   go_wp2
   go_ret
   exact ⟨rfl,HW.out⟩
end Go.Proofs.YtaggiceejcegdaaGreat
namespace Go.Proofs.YtaggiceejcegdaaGreat
set_option linter.unusedVariables false
open Go.RowKit
def RLDT : List TypeId:=[234,204,145,131,68]
theorem rdt_rldt : ∀ t,t ∈ RDT → t ∈ RLDT:=by unfold RDT RLDT; decide
def RKeptA (n : Nat) (V : Option Nat) (w w' : World) : Prop:=Kept (fun k=>n ≤ k ∧ (HasT RLDT w k ∨ V = some k)) w w'
theorem RKeptA.trans {n : Nat} {V : Option Nat} {w w' w'' : World} (h : RKeptA n V w w') (k : KeptT RLDT (Bd.of n) w' w'') : RKeptA n V w w'':=
 Kept.trans h k (fun i hi hs=>by
  by_cases hh : n ≤ i ∧ (HasT RLDT w i ∨ V = some i)
  ·exact hh
  ·have e:=h.block i hi hh
   obtain ⟨h1,t,ht,cur,fr,h2⟩:=hs
   exact ⟨h1.1,.inl ⟨t,ht,cur,fr,e.symm.trans h2⟩⟩)
theorem RKeptA.of {n : Nat} {V : Option Nat} {w w' : World} (h : KeptT RLDT (Bd.of n) w w') : RKeptA n V w w':=h.more (fun _ _ hh=>⟨hh.1.1,.inl hh.2⟩)
theorem RKeptA.grown {n base size m : Nat} {t : TypeId} {v : Value} {xs : List Value} {w w' w'' : World} (h : RKeptA n v.ownBlock w w') (hg : w'.grownBy w'' v.ownBlock) (ho : w'.ownsRow base t size v m xs) (hb : n ≤ base) : RKeptA n v.ownBlock w w'':=by
 have hk : Kept (fun k=>v.ownBlock = some k) w' w'':=⟨hg.os,hg.tape,hg.output,hg.size,fun k hk hS=>hg.block k hk (fun e=>hS e.symm)⟩
 exact Kept.trans h hk (fun i _ e=>⟨Nat.le_trans hb (own_low ho e),.inr e⟩)
def RAppPost (w : World) (n b rp : Nat) (g : Geo) (qs : List Nat) (V : Option Nat) (S' : LogS) (x : MS × List Int) (er : Int) (e : Ending) (w' : World) : Prop:=
 ∃ A c V',e = .returned (.tuple #[.slice A x.2.length c,.int .i64 er]) ∧ w'.ownsRow w.heap.size 41 1 (.slice A x.2.length c) x.2.length (x.2.map (Value.int .i64)) ∧ (V' = V ∨ ∃ k,V' = some k ∧ w.heap.size ≤ k) ∧ RLogM w' n b V' S' ∧ RManyM w' n rp g qs x.1 ∧ RKeptA n V w w'
def RAllPost (w : World) (n rp : Nat) (g : Geo) (qs : List Nat) (x : MS × List Int) (e : Ending) (w' : World) : Prop:=
 ∃ A c,e = .returned (.slice A x.2.length c) ∧ w'.ownsRow w.heap.size 41 1 (.slice A x.2.length c) x.2.length (x.2.map (Value.int .i64)) ∧ RManyM w' n rp g qs x.1 ∧ KeptT RDT (Bd.of n) w w'
def RAllW (w wr : World) (n rp : Nat) (g : Geo) (qs : List Nat) (x : MS × List Int) (A : Option Addr) (c : Nat) (es : List Int) : Prop:=
 es = x.2 ∧ wr.ownsRow w.heap.size 41 1 (.slice A es.length c) es.length (es.map (Value.int .i64)) ∧ RManyM wr n rp g qs x.1 ∧ KeptT RDT (Bd.of n) w wr
theorem RAllW.push {w wz w9 : World} {n rp : Nat} {g : Geo} {qs : List Nat} {x : MS × List Int} {m' : MS} {A A9 : Option Addr} {c c9 : Nat} {es : List Int} {er : Int} {tmp : Obj} (hx : x = (m',es ++ [er]))
  (ho : wz.ownsRow w.heap.size 41 1 (.slice A es.length c) es.length (es.map (Value.int .i64))) (hm : RManyM wz n rp g qs m') (hk : KeptT RDT (Bd.of n) w wz)
  (hown : w9.ownsRow w.heap.size 41 1 (.slice A9 (es.length + 1) c9) (es.length + 1) (es.map (Value.int .i64) ++ [.int .i64 er])) (hg : (wz.alloc tmp).grownBy w9 (Value.slice A es.length c).ownBlock) : RAllW w w9 n rp g qs x A9 c9 (es ++ [er]):=by
 subst hx
 have hba : Below wz.heap.size wz (wz.alloc tmp):=(Below.refl _ _).alloc (Nat.le_refl _) _
 refine ⟨rfl,?_,(hm.below0 hba).types (grown_ty hg (ho.alloc tmp)) (by decide) (by decide) (by decide) (by decide),own_new (hk.trans (KeptT.bel hba)) hg (ho.alloc tmp) (Nat.le_refl _)⟩
 rw [List.length_append,List.map_append]
 exact hown
section
variable {w w' : World} {n b rp : Nat} {S : LogS} {V : Option Nat} {g : Geo} {qs : List Nat} {m : MS}
set_option maxRecDepth 100000 in
set_option maxHeartbeats 8000000 in
theorem rrewrite_any {key : Int} {no : Nat → Bool} {PA : Option Addr} {pc N : Nat} (h : RLogM w n b V S) (hS : S.Ok) (hsl : (secLs S.l).length ≤ 1000)
  (hm : RManyM w n rp g qs m) (hmo : m.Ok N) (hN : N ≤ 80000) (hp : RdT w 54 PA (ptrs qs no)) (hq : qs.length ≤ 1000) :
  Calls Tryz.prog 35 #[.pointer (some ⟨b,0,none⟩),.slice PA qs.length pc,.int .u64 key] w fun e w'=>RAllPost w n rp g qs (allD g key S.fr (secLs S.l) no m) e w' ∧ RLogM w' n b V S:=by
 obtain ⟨A,c,xs,hlm,hV⟩:=id h
 obtain ⟨_,_,_,_,l4⟩:=hlm.cells
 have HSC : Hid (Calls Tryz.prog 64 #[.slice A xs.length c] w (SecPost w S.l)):=by
  have:=rsectors_any xs (fun x hx=>(hS.t _ (by rw [← hlm.rec_]; exact List.mem_map.2 ⟨x,hx,rfl⟩)).1) (fun x hx=>(hS.t _ (by rw [← hlm.rec_]; exact List.mem_map.2 ⟨x,hx,rfl⟩)).2) A c w hlm.rd (by have:=hlm.len; have:=hS.l; omega)
  rw [hlm.rec_] at this
  exact this
 have HLM:=Lib.hid hlm
 have HS:=Lib.hid hS
 have HV:=Lib.hid hV
 clear hlm hV h
 go_enter Tryz.func35,Tryz.ntmps35
 go_wp2_with fail
 refine HSC.out.mono ?_
 rintro e w1 ⟨A1,c1,ss,rfl,hss,ho1,hb1⟩
 have hln : ss.length = (secLs S.l).length:=by rw [← hss,List.length_map]
 have hx : ∀ s ∈ ss,s.xs.length ≤ 100000 ∧ s.xs.length ≤ s.c:=fun s hs=>by
  have h1 : s.xs ∈ secLs S.l:=by rw [← hss]; exact List.mem_map.2 ⟨s,hs,rfl⟩
  have h2:=(secLs_small hS.l (fun r hr=>(hS.t r hr).2) _ h1).2
  exact ⟨by omega,(own_cap0 (ho1.each s hs)).1⟩
 have hf0:=hS.f0
 have hf1:=hS.f1
 have hss1000 : ss.length ≤ 1000:=by omega
 obtain ⟨i0,hi0,hz0,hz1,hz2⟩:=info_parts info_err
 have H0 : Hid (RAllW w1 w1 n rp g qs (allK g key S.fr (secLs S.l) no m 0) none 0 []):=⟨rfl,World.ownsRow_nil _ _ _ _,hm.below0 hb1,KeptT.refl _ _ _⟩
 have HP : Hid (∀ W,KeptT RDT (Bd.of n) w1 W → Rd W W.heap.size PA (ptrs qs no)):=fun W hW=>((hp.below0 hb1).kept hW (KeptT.free (by unfold RDT; decide))).rd
 have HR : Hid (∀ W,KeptT RDT (Bd.of n) w1 W → SlsR W W.heap.size A1 ss):=fun W hW=>(ho1.types hW (by unfold RDT; decide) (by unfold RDT; decide)).rd
 have HL1 : Hid (∀ W,KeptT RDT (Bd.of n) w1 W → RLogMem W n b A c xs S):=fun W hW=>(HLM.out.below0 hb1).types hW (Nat.le_refl _) (by unfold RDT; decide) (by unfold RDT; decide)
 have HX:=Lib.hid hx
 have HSS:=Lib.hid hss
 have HB1:=Lib.hid hb1
 have HO:=Lib.hid hmo
 have HL:=Lib.hid hm.len
 have HKL:=Lib.hid (fun k hk=>allK_len g key S.fr (secLs S.l) no m k hk)
 have HKR:=Lib.hid (fun k=>allK_rest g key S.fr (secLs S.l) no m k k (Nat.le_refl _))
 have HKO:=Lib.hid (fun k=>allK_ok (g:=g) (key:=key) (a:=S.fr) (ls:=secLs S.l) (no:=no) hmo k)
 clear hm hp ho1 hb1 hss hx hmo hS hln l4 HSC
 go_wp2
 go_loopw [9,10] (fun o i wr=>∃ (k : Nat) (A9 : Option Addr) (c9 : Nat) (es : List Int),k ≤ qs.length ∧ o = .slice A9 es.length c9 ∧ i = .int .i64 k ∧ Hid (RAllW w1 wr n rp g qs (allK g key S.fr (secLs S.l) no m k) A9 c9 es)) (fun _ i _=>qs.length - (intOf i).toNat)
 case atStart=>exact ⟨0,none,0,[],Nat.zero_le _,rfl,rfl,H0⟩
 case round=>
  obtain ⟨k,A9,c9,es,hk,rfl,rfl,HW⟩:=hrel
  by_cases hlt : k < qs.length
  ·obtain ⟨q,hq1⟩ : ∃ q,qs[k]? = some q:=⟨qs[k],List.getElem?_eq_getElem hlt⟩
   have hkd : k < m.ds.length:=by rw [← HL.out]; exact hlt
   obtain ⟨v,hv⟩ : ∃ v,(allK g key (S.fr) (secLs S.l) no m k).1.ds[k]? = some v:=⟨_,List.getElem?_eq_getElem (by rw [(HKL.out k (by omega)).1]; exact hkd)⟩
   have hes : es.length ≤ 1000:=by rw [HW.out.1,(HKL.out k (by omega)).2]; omega
   obtain ⟨g1,o1,rP,hg1,j1⟩:=(HP.out wr HW.out.2.2.2) k _ (ptrs_get hq1)
   subst rP
   obtain ⟨_,l1,_,l3,_⟩:=(HL1.out wr HW.out.2.2.2).cells
   cases hno : no k
   ·rw [hno] at j1
    simp only [Bool.false_eq_true,if_false] at j1
    have hbd : Below wr.heap.size wr wr.drew:=(Below.refl _ _).drew
    obtain ⟨B,hB,hd,hback⟩:=(HW.out.2.2.1.below0 hbd).at_ hv hq1
    have hOk:=HKO.out k k v hv
    have hv':=hv
    rw [HKR.out k] at hv'
    have hO2:=(HO.out k v hv').2.2
    have hkw:=HW.out.2.2.2.trans (KeptT.bel hbd)
    have hC:=rwwrite_any (key:=key) (at_:=S.fr) (c:=c1) hd hOk.1 hOk.2.1 (by show v.O.length + _ ≤ _; omega) (by omega) (by omega) (fun W hW=>HR.out W (hkw.trans (hW.wideN hB))) HX.out (by omega)
    rw [HSS.out] at hC
    have HC:=Lib.hid hC
    have HN : Hid (allK g key (S.fr) (secLs S.l) no m (k + 1) = ((allK g key (S.fr) (secLs S.l) no m k).1.put k v.F (wrD g v.F key (S.fr) (secLs S.l) ((allK g key (S.fr) (secLs S.l) no m k).1.dc v)).1,es ++ [(wrD g v.F key (S.fr) (secLs S.l) ((allK g key (S.fr) (secLs S.l) no m k).1.dc v)).2])):=by
     unfold Hid
     rw [allK,hv]
     simp only [hno,Bool.false_eq_true,if_false]
     rw [HW.out.1]
    have HBK:=Lib.hid hback
    have HKW:=Lib.hid hkw
    have HOW : Hid (wr.drew.ownsRow w1.heap.size 41 1 (.slice A9 es.length c9) es.length (es.map (Value.int .i64))):=own_kept HW.out.2.1 (belKept0 (S:=fun _=>False) hbd) (fun _ _ h=>h)
    generalize wrD g v.F key (S.fr) (secLs S.l) ((allK g key (S.fr) (secLs S.l) no m k).1.dc v) = T at *
    clear hd hback hOk hv hv' hO2 hkw hbd hC HW
    go_wp2
    go_region_held3 (fun W=>W.cell? ⟨g1,o1 + k,none⟩ = some (.pointer (some ⟨q,0,none⟩)) ∧ W.cell? ⟨b,1,none⟩ = some (.int .i64 S.fr) ∧ W.cell? ⟨b,3,none⟩ = some (.int .i64 S.used))
     (first | (refine ⟨?_,?_,?_⟩ <;> assumption) | (simp (maxDischargeDepth:=20) [World.cell?_alloc_some, *]; done))
     ((go_at_call 17
       refine HC.out.mono ?_
       rintro e w2 ⟨rfl,hd2,hk2⟩
       obtain ⟨T1,er⟩:=T
       simp only at *
       have HO3:=Lib.hid (own_ty HOW.out hk2 (by unfold RDT; decide))
       have HM3:=Lib.hid (HBK.out w2 T1 hd2 hk2)
       have HK3:=Lib.hid (HKW.out.trans (hk2.wideN hB))
       obtain ⟨_,n1,_,n3,_⟩:=(HL1.out w2 HK3.out).cells
       obtain ⟨g9,o9,rP2,_,n0⟩:=(HP.out w2 HK3.out) k _ (ptrs_get hq1)
       injection rP2 with e9
       injection e9 with e91 e92 _
       subst e91
       subst e92
       rw [hno] at n0
       simp only [Bool.false_eq_true,if_false] at n0
       clear hd2 hk2 HC HOW HBK HKW))
    have hO:=HO3.out
    go_wp2_with (at_builtin; go_loud (refine wpList_append_own _ rfl _ _ 44 rfl w1.heap.size 41 i0 _ 1 8 Tryz.underlying44 hi0 hz0 hz1 hz2 rfl (by decide) (.slice A9 es.length c9) es.length (es.map (Value.int .i64)) rfl (hO.alloc _) ⟨w2.heap.size,0,none⟩ 1 1 [.int .i64 _] rfl rfl (World.news_of_block (heap_alloc_new _ _)) (by intro u hu; simp at hu; subst hu; rfl) ?c1 ?c2 ?c3 ?_))
    case c1=>unfold maxLen; omega
    case c2=>omega
    case c3=>have h71:=HK3.out.size; first | omega | (simp; omega)
    intro v' w9 hown hgrow hiff
    obtain ⟨A10,c10,hvv⟩:=own_form hown
    subst hvv
    have HW9:=Lib.hid (RAllW.push HN.out hO HM3.out HK3.out hown hgrow)
    clear hown hgrow hiff hO
    go_wp2
    go_roundw
    case rel=>exact ⟨k + 1,A10,c10,_,hlt,by rw [List.length_append]; rfl,by go_num,HW9⟩
    case measure=>simp [intOf]; omega
   ·rw [hno] at j1
    simp only [if_true] at j1
    have HN : Hid (allK g key (S.fr) (secLs S.l) no m (k + 1) = ((allK g key (S.fr) (secLs S.l) no m k).1,es ++ [0])):=by
     unfold Hid
     rw [allK,hv]
     simp only [hno,if_true]
     rw [HW.out.1]
    have HO3:=Lib.hid HW.out.2.1
    have HM3:=Lib.hid HW.out.2.2.1
    have HK3:=Lib.hid HW.out.2.2.2
    clear HW hv
    have hO:=HO3.out
    go_wp2_with (at_builtin; go_loud (refine wpList_append_own _ rfl _ _ 44 rfl w1.heap.size 41 i0 _ 1 8 Tryz.underlying44 hi0 hz0 hz1 hz2 rfl (by decide) (.slice A9 es.length c9) es.length (es.map (Value.int .i64)) rfl (hO.alloc _) ⟨wr.heap.size,0,none⟩ 1 1 [.int .i64 _] rfl rfl (World.news_of_block (heap_alloc_new _ _)) (by intro u hu; simp at hu; subst hu; rfl) ?c1 ?c2 ?c3 ?_))
    case c1=>unfold maxLen; omega
    case c2=>omega
    case c3=>have h71:=HK3.out.size; first | omega | (simp; omega)
    intro v' w9 hown hgrow hiff
    obtain ⟨A10,c10,hvv⟩:=own_form hown
    subst hvv
    have HW9:=Lib.hid (RAllW.push HN.out hO HM3.out HK3.out hown hgrow)
    clear hown hgrow hiff hO
    go_wp2
    go_roundw
    case rel=>exact ⟨k + 1,A10,c10,_,hlt,by rw [List.length_append]; rfl,by go_num,HW9⟩
    case measure=>simp [intOf]; omega
  ·obtain rfl : k = qs.length:=by omega
   have HD : Hid (RAllPost w n rp g qs (allD g key S.fr (secLs S.l) no m) (.returned (.slice A9 es.length c9)) wr ∧ RLogM wr n b V S):=by
    have e : allD g key S.fr (secLs S.l) no m = allK g key S.fr (secLs S.l) no m qs.length:=by unfold allD; rw [HL.out]
    obtain ⟨h1,h2,h3,h4⟩:=HW.out
    rw [e]
    subst h1
    exact ⟨⟨A9,c9,rfl,own_mono h2 HB1.out.size,h3,(KeptT.bel HB1.out).trans h4⟩,A,c,xs,HL1.out wr h4,HV.out⟩
   go_wp2
   go_ret
   exact HD.out
set_option maxRecDepth 100000 in
set_option maxHeartbeats 16000000 in
theorem rappend_any {key : Int} {no : Nat → Bool} {PA : Option Addr} {pc N : Nat} (r : Rec) (hok : r.Ok) (A1 D1 N1 : Option Addr) (c1 d1 n1 : Nat) (hr : RecR w n r A1 c1 D1 d1 N1 n1) (ht : Tiny r) (h : RLogM w n b V S) (hS : S.Ok)
  (hm : RManyM w n rp g qs m) (hmo : m.Ok N) (hN : N ≤ 80000) (hp : RdT w 54 PA (ptrs qs no)) (hq : qs.length ≤ 1000) :
  Calls Tryz.prog 32 #[.pointer (some ⟨b,0,none⟩),.slice PA qs.length pc,.int .u64 key,.agg #[.int .u64 r.gen,.int .u64 r.seq,.slice A1 r.ws.length c1,.slice D1 r.ms.length d1,.slice N1 r.note.length n1]] w (RAppPost w n b rp g qs V (appS S r) (appM g key no S r m) (appE S r)):=by
 have hb0 : Below w.heap.size w (w.alloc (.cells #[.int .u64 r.gen,.int .u64 r.seq,.slice A1 r.ws.length c1,.slice D1 r.ms.length d1,.slice N1 r.note.length n1] 28)):=(Below.refl _ _).alloc (Nat.le_refl _) _
 obtain ⟨q,hq0⟩ : ∃ q : Nat,q = S.l.length + 1:=⟨_,rfl⟩
 have hln:=hS.l
 have hnw : n ≤ w.heap.size:=hm.low
 have HNB:=Lib.hid (rnumbered_any (w:=(w.alloc (.cells #[.int .u64 r.gen,.int .u64 r.seq,.slice A1 r.ws.length c1,.slice D1 r.ms.length d1,.slice N1 r.note.length n1] 28))) r A1 D1 N1 c1 d1 n1 (h.below0 hb0) (by omega) q hq0)
 have HROW : Hid (∀ W,Below (w.heap.size + 1) (w.alloc (.cells #[.int .u64 r.gen,.int .u64 r.seq,.slice A1 r.ws.length c1,.slice D1 r.ms.length d1,.slice N1 r.note.length n1] 28)) W → W.ownsRow w.heap.size 28 5 (.slice (some ⟨w.heap.size,0,none⟩) 1 1) 1 [.int .u64 r.gen,.int .u64 r.seq,.slice A1 r.ws.length c1,.slice D1 r.ms.length d1,.slice N1 r.note.length n1]):=by
  unfold Hid; intro W hW
  have o1:=World.ownsRow_lit (base:=w.heap.size) (e:=28) (size:=5) w #[.int .u64 r.gen,.int .u64 r.seq,.slice A1 r.ws.length c1,.slice D1 r.ms.length d1,.slice N1 r.note.length n1] 1 (Nat.le_refl _) (by decide) rfl
  exact own_kept o1 (belKept hW) (fun k e=>by simp [Value.ownBlock] at e; subst e; show ¬ (w.heap.size + 1 ≤ w.heap.size); omega)
 have PB:=Cells5.new w 28 (.int .u64 r.gen) (.int .u64 r.seq) (.slice A1 r.ws.length c1) (.slice D1 r.ms.length d1) (.slice N1 r.note.length n1)
 have p0:=PB.c0; have p1:=PB.c1; have p2:=PB.c2; have p3:=PB.c3; have p4:=PB.c4
 have HB0:=Lib.hid hb0
 have hz0 : ((w.alloc (.cells #[.int .u64 r.gen,.int .u64 r.seq,.slice A1 r.ws.length c1,.slice D1 r.ms.length d1,.slice N1 r.note.length n1] 28))).heap.size = w.heap.size + 1:=by simp
 have HLG:=Lib.hid h
 have HM:=Lib.hid hm
 have HPT:=Lib.hid hp
 have HS:=Lib.hid hS
 have HO:=Lib.hid hmo
 have hok2 : (S.num r).Ok:=⟨hS.g,by show S.l.length + 1 < 2 ^ 64; omega,hok.ws,hok.ms,hok.note⟩
 have HOK2:=Lib.hid hok2
 have HT:=Lib.hid ht
 have HQ:=Lib.hid hq0
 have HRN:=Lib.hid hr
 clear PB hb0 h hm hp hS hmo hok2 hr hok ht hq0 hln
 go_enter Tryz.func32,Tryz.ntmps32
 go_wp2_with fail
 refine HNB.out.mono ?_
 rintro e w2 ⟨rfl,hb2⟩
 rw [hz0] at hb2
 have hz2 : w.heap.size + 1 ≤ w2.heap.size:=by have:=hb2.size; rw [hz0] at this; exact this
 have HB2:=Lib.hid hb2
 have hrow:=HROW.out w2 hb2
 clear p0 p1 p2 p3 p4 hb2
 have p0:=(World.ownsRow.cellAt hrow 0 (by decide)).trans (show _ = some _ from rfl)
 have p1:=(World.ownsRow.cellAt hrow 1 (by decide)).trans (show _ = some _ from rfl)
 have p2:=(World.ownsRow.cellAt hrow 2 (by decide)).trans (show _ = some _ from rfl)
 have p3:=(World.ownsRow.cellAt hrow 3 (by decide)).trans (show _ = some _ from rfl)
 have p4:=(World.ownsRow.cellAt hrow 4 (by decide)).trans (show _ = some _ from rfl)
 have f0:=hrow.frozenAt 0
 have f1:=hrow.frozenAt 1
 have f2:=hrow.frozenAt 2
 have f3:=hrow.frozenAt 3
 have f4:=hrow.frozenAt 4
 obtain ⟨o4,k4,b4⟩:=box_five (.int .u64 S.gen) (.int .u64 q) (.slice A1 r.ws.length c1) (.slice D1 r.ms.length d1) (.slice N1 r.note.length n1) hrow (HB0.out.trans (HB2.out.mono (by omega)))
 have HENC : Hid (∀ W,Below w.heap.size w W → Calls Tryz.prog 30 #[.agg #[.int .u64 S.gen,.int .u64 q,.slice A1 r.ws.length c1,.slice D1 r.ms.length d1,.slice N1 r.note.length n1]] W (EncPost W (S.num r))):=by
  unfold Hid; intro W hW
  have hw:=HT.out.ws; have hm:=HT.out.ms; have hn:=HT.out.note
  have hrr:=((HRN.out.below hW hnw).more (Nat.le_trans hnw hW.size))
  have:=rencode_any (S.num r) HOK2.out A1 D1 N1 c1 d1 n1 W ⟨hrr.ws,hrr.ms,hrr.note⟩ (by show r.ws.length ≤ _; omega) (by show r.ms.length ≤ _; omega) (by show r.note.length ≤ _; omega)
  rw [HQ.out]
  exact this
 clear HNB k4 hrow
 go_upto_region 2 with (fail)
 generalize (((((w2.setCell ⟨w.heap.size,0,none⟩ (.int .u64 S.gen)).setCell ⟨w.heap.size,1,none⟩ (.int .u64 q)).setCell ⟨w.heap.size,2,none⟩ (.slice A1 r.ws.length c1)).setCell ⟨w.heap.size,3,none⟩ (.slice D1 r.ms.length d1)).setCell ⟨w.heap.size,4,none⟩ (.slice N1 r.note.length n1)) = W4 at *
 have HO4:=Lib.hid o4
 have HB4:=Lib.hid b4
 have HEN:=Lib.hid (HENC.out W4 b4)
 clear p0 p1 p2 p3 p4 f0 f1 f2 f3 f4
 have p0:=(World.ownsRow.cellAt o4 0 (by decide)).trans (show _ = some _ from rfl)
 have p1:=(World.ownsRow.cellAt o4 1 (by decide)).trans (show _ = some _ from rfl)
 have p2:=(World.ownsRow.cellAt o4 2 (by decide)).trans (show _ = some _ from rfl)
 have p3:=(World.ownsRow.cellAt o4 3 (by decide)).trans (show _ = some _ from rfl)
 have p4:=(World.ownsRow.cellAt o4 4 (by decide)).trans (show _ = some _ from rfl)
 clear o4 b4 HENC
 go_wp2_with fail
 refine HEN.out.mono ?_
 rintro e w5 ⟨AE,cE,ss,rfl,hss,ho5,hb5⟩
 have HB5:=Lib.hid (HB4.out.trans (hb5.mono HB4.out.size))
 have HSS5:=Lib.hid ho5
 have HO5:=Lib.hid (own_kept HO4.out (belKept0 (S:=fun _=>False) hb5) (fun _ _ h=>h))
 have HXS:=Lib.hid hss
 have HL5:=Lib.hid (HLG.out.below0 HB5.out)
 have HM5:=Lib.hid (HM.out.below0 HB5.out)
 have HP5:=Lib.hid (HPT.out.below0 HB5.out)
 clear p0 p1 p2 p3 p4 ho5 hb5 hss HEN HO4 HROW HB2 hz2
 cases hv : validR (S.num r)
 ·have HE : Hid (encE (S.num r) = 1):=by unfold Hid encE; rw [hv]; rfl
  have HAE : Hid (appE S r = 1):=by unfold Hid appE; rw [hv]; rfl
  have HD : Hid (RAppPost w n b rp g qs V (appS S r) (appM g key no S r m) (appE S r) (.returned (.tuple #[.slice none 0 0,.int .i64 1])) w5):=by
   unfold Hid appS appM
   rw [HAE.out]
   exact ⟨none,0,V,rfl,World.ownsRow_nil _ _ _ _,.inl rfl,HL5.out,HM5.out,belKept0 HB5.out⟩
  rw [HE.out]
  clear hv
  go_wp2
  go_ret2
  exact HD.out
 ·have HE : Hid (encE (S.num r) = 0):=by unfold Hid encE; rw [hv]; rfl
  have HEL : Hid (ss.map Sl.xs = encR (S.num r)):=by unfold Hid; rw [HXS.out]; unfold encL; rw [hv]; rfl
  have hsl : (encR (S.num r)).length = ss.length:=by rw [← HEL.out,List.length_map]
  obtain ⟨A6,c6,xs,hlm,hV⟩:=HL5.out
  obtain ⟨_,_,l2,l3,_⟩:=hlm.cells
  have hs0:=HS.out.u0
  have hs1:=HS.out.u1
  have hs2:=HS.out.s1
  have hw1 : IntKind.i64.wrap (S.sec - S.used) = S.sec - S.used:=by rw [IntKind.wrap_i64]; omega
  rw [HE.out]
  by_cases hle : (ss.length : Int) ≤ S.sec - S.used
  ·have HAE : Hid (appE S r = 0):=by unfold Hid appE; rw [hv,hsl,if_pos hle]; rfl
   have hs3:=HS.out.f0
   have hs4:=HS.out.f1
   have hw2 : IntKind.i64.wrap (S.fr + S.used) = S.fr + S.used:=by rw [IntKind.wrap_i64]; omega
   have hw3 : IntKind.i64.wrap (S.used + (ss.length : Int)) = S.used + ss.length:=by rw [IntKind.wrap_i64]; omega
   have hxl : xs.length ≤ 100:=by have:=hlm.len; have:=HS.out.l; omega
   have hss1000 : ss.length ≤ 1000:=by omega
   have HLM:=Lib.hid hlm
   have HV:=Lib.hid hV
   have HSL:=Lib.hid hsl
   clear hv hlm hV hsl
   go_wp2
   go_quiet (fail)
   have hb6 : Below w5.heap.size w5 (w5.drewN nq):=below_drewN' (Below.refl _ _) _
   obtain ⟨w1,hw1e⟩ : ∃ x : World,x = w5.drewN nq:=⟨_,rfl⟩
   rw [← hw1e] at hb6 ⊢
   clear hw1e l2 l3
   obtain ⟨i0,hi0,hz0',hz1,hz2⟩:=info_parts info_err
   have hz0:=hz0'
   have HB1:=Lib.hid (HB5.out.trans (hb6.mono HB5.out.size))
   have hss : ∀ s ∈ ss,s.xs.length ≤ 100000 ∧ s.xs.length ≤ s.c:=fun s hs=>by
    have h1 : s.xs ∈ encR (S.num r):=by rw [← HEL.out]; exact List.mem_map.2 ⟨s,hs,rfl⟩
    have h2:=encR_1k _ h1
    exact ⟨by omega,(own_cap0 (HSS5.out.each s hs)).1⟩
   have H0 : Hid (RAllW w1 w1 n rp g qs (allK g key (S.fr + S.used) (encR (S.num r)) no m 0) none 0 []):=⟨rfl,World.ownsRow_nil _ _ _ _,HM5.out.below0 hb6,KeptT.refl _ _ _⟩
   have HP : Hid (∀ W,KeptT RDT (Bd.of n) w1 W → Rd W W.heap.size PA (ptrs qs no)):=fun W hW=>((HP5.out.below0 hb6).kept hW (KeptT.free (by unfold RDT; decide))).rd
   have HR : Hid (∀ W,KeptT RDT (Bd.of n) w1 W → SlsR W W.heap.size AE ss):=fun W hW=>((HSS5.out.below hb6).types hW (by unfold RDT; decide) (by unfold RDT; decide)).rd
   have HL1 : Hid (∀ W,KeptT RDT (Bd.of n) w1 W → RLogMem W n b A6 c6 xs S):=fun W hW=>(HLM.out.below0 hb6).types hW (Nat.le_refl _) (by unfold RDT; decide) (by unfold RDT; decide)
   have HBX : Hid (∀ W,KeptT RDT (Bd.of n) w1 W → W.ownsRow w.heap.size 28 5 (.slice (some ⟨w.heap.size,0,none⟩) 1 1) 1 [.int .u64 S.gen,.int .u64 q,.slice A1 r.ws.length c1,.slice D1 r.ms.length d1,.slice N1 r.note.length n1]):=fun W hW=>own_ty (own_kept HO5.out (belKept0 (S:=fun _=>False) hb6) (fun _ _ h=>h)) hW (by unfold RDT; decide)
   have HX:=Lib.hid hss
   have HSS : Hid (ss.map Sl.xs = encR (S.num r)):=HEL.out
   have HL:=Lib.hid HM5.out.len
   have HKL:=Lib.hid (fun k hk=>allK_len g key (S.fr + S.used) (encR (S.num r)) no m k hk)
   have HKR:=Lib.hid (fun k=>allK_rest g key (S.fr + S.used) (encR (S.num r)) no m k k (Nat.le_refl _))
   have HKO:=Lib.hid (fun k=>allK_ok (g:=g) (key:=key) (a:=S.fr + S.used) (ls:=encR (S.num r)) (no:=no) HO.out k)
   clear hb6 hss
   go_wp2
   go_loopw [12,13] (fun o i wr=>∃ (k : Nat) (A9 : Option Addr) (c9 : Nat) (es : List Int),k ≤ qs.length ∧ o = .slice A9 es.length c9 ∧ i = .int .i64 k ∧ Hid (RAllW w1 wr n rp g qs (allK g key (S.fr + S.used) (encR (S.num r)) no m k) A9 c9 es)) (fun _ i _=>qs.length - (intOf i).toNat)
   case atStart=>exact ⟨0,none,0,[],Nat.zero_le _,rfl,rfl,H0⟩
   case round=>
    obtain ⟨k,A9,c9,es,hk,rfl,rfl,HW⟩:=hrel
    by_cases hlt : k < qs.length
    ·obtain ⟨q,hq1⟩ : ∃ q,qs[k]? = some q:=⟨qs[k],List.getElem?_eq_getElem hlt⟩
     have hkd : k < m.ds.length:=by rw [← HL.out]; exact hlt
     obtain ⟨v,hv⟩ : ∃ v,(allK g key (S.fr + S.used) (encR (S.num r)) no m k).1.ds[k]? = some v:=⟨_,List.getElem?_eq_getElem (by rw [(HKL.out k (by omega)).1]; exact hkd)⟩
     have hes : es.length ≤ 1000:=by rw [HW.out.1,(HKL.out k (by omega)).2]; omega
     obtain ⟨g1,o1,rP,hg1,j1⟩:=(HP.out wr HW.out.2.2.2) k _ (ptrs_get hq1)
     subst rP
     obtain ⟨_,l1,_,l3,_⟩:=(HL1.out wr HW.out.2.2.2).cells
     cases hno : no k
     ·rw [hno] at j1
      simp only [Bool.false_eq_true,if_false] at j1
      have hbd : Below wr.heap.size wr wr.drew:=(Below.refl _ _).drew
      obtain ⟨B,hB,hd,hback⟩:=(HW.out.2.2.1.below0 hbd).at_ hv hq1
      have hOk:=HKO.out k k v hv
      have hv':=hv
      rw [HKR.out k] at hv'
      have hO2:=(HO.out k v hv').2.2
      have hkw:=HW.out.2.2.2.trans (KeptT.bel hbd)
      have hC:=rwwrite_any (key:=key) (at_:=S.fr + S.used) (c:=cE) hd hOk.1 hOk.2.1 (by show v.O.length + _ ≤ _; omega) (by omega) (by omega) (fun W hW=>HR.out W (hkw.trans (hW.wideN hB))) HX.out (by omega)
      rw [HSS.out] at hC
      have HC:=Lib.hid hC
      have HN : Hid (allK g key (S.fr + S.used) (encR (S.num r)) no m (k + 1) = ((allK g key (S.fr + S.used) (encR (S.num r)) no m k).1.put k v.F (wrD g v.F key (S.fr + S.used) (encR (S.num r)) ((allK g key (S.fr + S.used) (encR (S.num r)) no m k).1.dc v)).1,es ++ [(wrD g v.F key (S.fr + S.used) (encR (S.num r)) ((allK g key (S.fr + S.used) (encR (S.num r)) no m k).1.dc v)).2])):=by
       unfold Hid
       rw [allK,hv]
       simp only [hno,Bool.false_eq_true,if_false]
       rw [HW.out.1]
      have HBK:=Lib.hid hback
      have HKW:=Lib.hid hkw
      have HOW : Hid (wr.drew.ownsRow w1.heap.size 41 1 (.slice A9 es.length c9) es.length (es.map (Value.int .i64))):=own_kept HW.out.2.1 (belKept0 (S:=fun _=>False) hbd) (fun _ _ h=>h)
      generalize wrD g v.F key (S.fr + S.used) (encR (S.num r)) ((allK g key (S.fr + S.used) (encR (S.num r)) no m k).1.dc v) = T at *
      clear hd hback hOk hv hv' hO2 hkw hbd hC HW
      go_wp2
      go_region_held3 (fun W=>W.cell? ⟨g1,o1 + k,none⟩ = some (.pointer (some ⟨q,0,none⟩)) ∧ W.cell? ⟨b,1,none⟩ = some (.int .i64 S.fr) ∧ W.cell? ⟨b,3,none⟩ = some (.int .i64 S.used))
       (first | (refine ⟨?_,?_,?_⟩ <;> assumption) | (simp (maxDischargeDepth:=20) [World.cell?_alloc_some, *]; done))
       ((go_at_call 17
         refine HC.out.mono ?_
         rintro e w2 ⟨rfl,hd2,hk2⟩
         obtain ⟨T1,er⟩:=T
         simp only at *
         have HO3:=Lib.hid (own_ty HOW.out hk2 (by unfold RDT; decide))
         have HM3:=Lib.hid (HBK.out w2 T1 hd2 hk2)
         have HK3:=Lib.hid (HKW.out.trans (hk2.wideN hB))
         obtain ⟨_,n1,_,n3,_⟩:=(HL1.out w2 HK3.out).cells
         obtain ⟨g9,o9,rP2,_,n0⟩:=(HP.out w2 HK3.out) k _ (ptrs_get hq1)
         injection rP2 with e9
         injection e9 with e91 e92 _
         subst e91
         subst e92
         rw [hno] at n0
         simp only [Bool.false_eq_true,if_false] at n0
         clear hd2 hk2 HC HOW HBK HKW))
      have hO:=HO3.out
      go_wp2_with (at_builtin; go_loud (refine wpList_append_own _ rfl _ _ 44 rfl w1.heap.size 41 i0 _ 1 8 Tryz.underlying44 hi0 hz0 hz1 hz2 rfl (by decide) (.slice A9 es.length c9) es.length (es.map (Value.int .i64)) rfl (hO.alloc _) ⟨w2.heap.size,0,none⟩ 1 1 [.int .i64 _] rfl rfl (World.news_of_block (heap_alloc_new _ _)) (by intro u hu; simp at hu; subst hu; rfl) ?c1 ?c2 ?c3 ?_))
      case c1=>unfold maxLen; omega
      case c2=>omega
      case c3=>have h71:=HK3.out.size; first | omega | (simp; omega)
      intro v' w9 hown hgrow hiff
      obtain ⟨A10,c10,hvv⟩:=own_form hown
      subst hvv
      have HW9:=Lib.hid (RAllW.push HN.out hO HM3.out HK3.out hown hgrow)
      clear hown hgrow hiff hO
      go_wp2
      go_roundw
      case rel=>exact ⟨k + 1,A10,c10,_,hlt,by rw [List.length_append]; rfl,by go_num,HW9⟩
      case measure=>simp [intOf]; omega
     ·rw [hno] at j1
      simp only [if_true] at j1
      have HN : Hid (allK g key (S.fr + S.used) (encR (S.num r)) no m (k + 1) = ((allK g key (S.fr + S.used) (encR (S.num r)) no m k).1,es ++ [0])):=by
       unfold Hid
       rw [allK,hv]
       simp only [hno,if_true]
       rw [HW.out.1]
      have HO3:=Lib.hid HW.out.2.1
      have HM3:=Lib.hid HW.out.2.2.1
      have HK3:=Lib.hid HW.out.2.2.2
      clear HW hv
      have hO:=HO3.out
      go_wp2_with (at_builtin; go_loud (refine wpList_append_own _ rfl _ _ 44 rfl w1.heap.size 41 i0 _ 1 8 Tryz.underlying44 hi0 hz0 hz1 hz2 rfl (by decide) (.slice A9 es.length c9) es.length (es.map (Value.int .i64)) rfl (hO.alloc _) ⟨wr.heap.size,0,none⟩ 1 1 [.int .i64 _] rfl rfl (World.news_of_block (heap_alloc_new _ _)) (by intro u hu; simp at hu; subst hu; rfl) ?c1 ?c2 ?c3 ?_))
      case c1=>unfold maxLen; omega
      case c2=>omega
      case c3=>have h71:=HK3.out.size; first | omega | (simp; omega)
      intro v' w9 hown hgrow hiff
      obtain ⟨A10,c10,hvv⟩:=own_form hown
      subst hvv
      have HW9:=Lib.hid (RAllW.push HN.out hO HM3.out HK3.out hown hgrow)
      clear hown hgrow hiff hO
      go_wp2
      go_roundw
      case rel=>exact ⟨k + 1,A10,c10,_,hlt,by rw [List.length_append]; rfl,by go_num,HW9⟩
      case measure=>simp [intOf]; omega
    ·obtain rfl : k = qs.length:=by omega
     have hke : KeptT RDT (Bd.of n) w1 wr:=HW.out.2.2.2
     have hlm8:=HL1.out wr hke
     obtain ⟨_,_,_,l3,_⟩:=hlm8.cells
     have fz3:=hlm8.obj.frozenAt 3
     have hlm7:=hlm8.spent (S.used + ss.length)
     have ks:=set_rlog hlm8.obj 3 (.int .i64 (S.used + ss.length))
     have hst : KeptT RLDT (Bd.of n) w1 (wr.setCell ⟨b,3,none⟩ (.int .i64 (S.used + ss.length))):=(hke.sub rdt_rldt).trans (ks.sub (us:=RLDT) (by unfold RLDT; decide))
     have hbx7:=own_ty (HBX.out wr hke) ks (by decide)
     have ho7:=own_ty HW.out.2.1 ks (by decide)
     have hm7:=HW.out.2.2.1.types ks (by decide) (by decide) (by decide) (by decide)
     have hex : es = (allD g key (S.fr + S.used) (encR (S.num r)) no m).2:=by rw [HW.out.1]; unfold allD; rw [HL.out]
     have hmx : RManyM (wr.setCell ⟨b,3,none⟩ (.int .i64 (S.used + ss.length))) n rp g qs (allD g key (S.fr + S.used) (encR (S.num r)) no m).1:=by unfold allD; rw [← HL.out]; exact hm7
     have hbw : Below w.heap.size w w1:=HB1.out
     go_upto_region 16 with (fail)
     clear l3 fz3
     generalize wr.setCell ⟨b,3,none⟩ (.int .i64 (S.used + ss.length)) = w7 at *
     have HHH : Hid (RLogMem w7 n b A6 c6 xs ⟨S.gen,S.fr,S.sec,S.used + ss.length,S.l⟩ ∧ RManyM w7 n rp g qs (allD g key (S.fr + S.used) (encR (S.num r)) no m).1 ∧ w7.ownsRow w1.heap.size 41 1 (.slice A9 es.length c9) es.length (es.map (Value.int .i64)) ∧ KeptT RLDT (Bd.of n) w1 w7):=⟨hlm7,hmx,ho7,hst⟩
     have HEX:=Lib.hid hex
     obtain ⟨_,_,_,_,l4⟩:=hlm7.cells
     have p0:=(World.ownsRow.cellAt hbx7 0 (by decide)).trans (show _ = some _ from rfl)
     have p1:=(World.ownsRow.cellAt hbx7 1 (by decide)).trans (show _ = some _ from rfl)
     have p2:=(World.ownsRow.cellAt hbx7 2 (by decide)).trans (show _ = some _ from rfl)
     have p3:=(World.ownsRow.cellAt hbx7 3 (by decide)).trans (show _ = some _ from rfl)
     have p4:=(World.ownsRow.cellAt hbx7 4 (by decide)).trans (show _ = some _ from rfl)
     have hown7 : w7.drew.ownsRow n 28 5 (.slice A6 xs.length c6) xs.length (flatR xs):=hlm7.own
     have hown8:=hown7.alloc (.cells #[.int .u64 S.gen,.int .u64 q,.slice A1 r.ws.length c1,.slice D1 r.ms.length d1,.slice N1 r.note.length n1] 28)
     have l4a:=((((Below.refl w7.heap.size w7).alloc (Nat.le_refl _) (.cells #[.int .u64 S.gen,.int .u64 q,.slice A1 r.ws.length c1,.slice D1 r.ms.length d1,.slice N1 r.note.length n1] 28)).cell (p:=⟨b,4,none⟩) (IsT.own hlm7.obj).lt)).trans l4
     have hnz : n ≤ w7.heap.size:=hlm7.low
     have hzw : w.heap.size ≤ w7.heap.size:=Nat.le_trans hbw.size hst.size
     obtain ⟨i1,hi,hy0,hy1,hy2⟩:=info_parts info_rec
     clear hlm7 hm7 hmx ho7 hst hex hbx7 hlm8 ks hke HW
     go_cut [] from 78 to 87 (fun wx=>Hid (RAppPost w n b rp g qs V (appS S r) (appM g key no S r m) (appE S r) (.returned (.tuple #[.slice A9 es.length c9,.int .i64 0])) wx))
     case first=>
      go_region_law (
       (refine qstep_append_own_at rfl (.tmp 82) (.tmp 84) 22 rfl n 28 i1 _ 5 88 Tryz.underlying22 hi hy0 hy1 hy2 rfl (by decide) (.slice A6 xs.length c6) xs.length (flatR xs) rfl hown8 ⟨w7.heap.size,0,none⟩ 1 1 [.int .u64 S.gen,.int .u64 q,.slice A1 r.ws.length c1,.slice D1 r.ms.length d1,.slice N1 r.note.length n1] rfl rfl (World.news_of_block (heap_alloc_new _ _)) (RS.one ⟨⟨S.gen,q,r.ws,r.ms,r.note⟩,A1,c1,D1,d1,N1,n1⟩) ?d1 ?d2 ?d3 ?_
        case d1=>unfold maxLen; omega
        case d2=>omega
        case d3=>first | (simp; omega) | omega
        intro v' w9 hown hgrow hat
        obtain ⟨A11,c11,hv⟩:=own_form hown
        subst hv
        rw [HQ.out] at hown
        have hba : Below w7.heap.size w7 (w7.alloc (.cells #[.int .u64 S.gen,.int .u64 q,.slice A1 r.ws.length c1,.slice D1 r.ms.length d1,.slice N1 r.note.length n1] 28)):=(Below.refl _ _).alloc (Nat.le_refl _) _
        have hg : (w7.alloc (.cells #[.int .u64 S.gen,.int .u64 q,.slice A1 r.ws.length c1,.slice D1 r.ms.length d1,.slice N1 r.note.length n1] 28)).grownBy w9 (Value.slice A6 xs.length c6).ownBlock:=⟨hgrow.os,hgrow.tape,hgrow.output,hgrow.size,hgrow.block⟩
        have hrn : RecR w7 n r A1 c1 D1 d1 N1 n1:=(HRN.out.below hbw hnw).keptn HHH.out.2.2.2 (fun k hh=>hh.1.1)
        obtain ⟨hpm,ho9⟩:=HHH.out.1.push (x:=⟨S.num r,A1,c1,D1,d1,N1,n1⟩) ⟨hrn.ws,hrn.ms,hrn.note⟩ hown hg
        have fz:=ho9.frozenAt 4
        have cz:=(World.ownsRow.cellAt ho9 4 (by decide)).trans (show _ = some _ from rfl)
        have HFIN : Hid (RAppPost w n b rp g qs V (appS S r) (appM g key no S r m) (appE S r) (.returned (.tuple #[.slice A9 es.length c9,.int .i64 0])) (w9.setCell ⟨b,4,none⟩ (.slice A11 (xs.length + 1) c11))):=by
         obtain ⟨hlm7,hm7,ho7,hst⟩:=HHH.out
         have own8:=hlm7.own.alloc (.cells #[.int .u64 S.gen,.int .u64 q,.slice A1 r.ws.length c1,.slice D1 r.ms.length d1,.slice N1 r.note.length n1] 28)
         have kg : KeptT [28] (Bd.of n) _ w9:=grown_tn hg own8 (Nat.le_refl _)
         have ks:=set_rlog ho9 4 (.slice A11 (xs.length + 1) c11)
         have hka : RKeptA n (Value.slice A6 xs.length c6).ownBlock w w9:=RKeptA.grown (RKeptA.of ((((KeptT.bel hbw).trans hst).thenBelow hba))) hg own8 (Nat.le_refl _)
         rw [HV.out] at hka
         unfold Hid appS appM
         rw [HAE.out,if_pos rfl,if_pos rfl,HSL.out]
         unfold RAppPost
         rw [← HEX.out]
         refine ⟨A9,c9,_,rfl,own_mono (own_ty (own_ty (own_kept ho7 (belKept0 (S:=fun _=>False) hba) (fun _ _ h=>h)) kg (by decide)) ks (by decide)) hbw.size,?_,⟨A11,c11,_,hpm,rfl⟩,
          ((hm7.below0 hba).types kg (by decide) (by decide) (by decide) (by decide)).types ks (by decide) (by decide) (by decide) (by decide),hka.trans (ks.sub (by unfold RLDT; decide))⟩
         rw [List.length_append]
         rcases hat with h | h
         ·left; exact h.trans HV.out
         ·right; exact ⟨_,h,by have:=hba.size; first | omega | (simp; omega)⟩
        clear hown hgrow hat hba hg hpm ho9))
      all_goals
       go_wp2_with fail
       go_meet
       exact HFIN.out
     case rest=>
      have HD:=Lib.hid hcut.out
      clear hcut
      go_wp2
      go_ret2
      exact HD.out
  ·have HAE : Hid (appE S r = 11):=by unfold Hid appE; rw [hv,hsl,if_neg hle]; rfl
   have HD : Hid (∀ k,RAppPost w n b rp g qs V (appS S r) (appM g key no S r m) (appE S r) (.returned (.tuple #[.slice none 0 0,.int .i64 11])) (w5.drewN k)):=by
    unfold Hid appS appM
    intro k
    rw [HAE.out]
    have hbd : Below w5.heap.size w5 (w5.drewN k):=below_drewN' (Below.refl _ _) k
    exact ⟨none,0,V,rfl,World.ownsRow_nil _ _ _ _,.inl rfl,HL5.out.below0 hbd,HM5.out.below0 hbd,belKept0 (HB5.out.trans (hbd.mono HB5.out.size))⟩
   clear hv hsl hlm hV
   go_wp2
   go_quiet (fail)
   go_wp2
   go_ret2
   exact HD.out _
end
end Go.Proofs.YtaggiceejcegdaaGreat
namespace Go.Proofs.YtaggiceejcegdaaGreat
set_option linter.unusedVariables false
open Go.RowKit
def RLNewPost (w : World) (n gen : Nat) (fr sec : Int) (l : List Rec) (e : Ending) (w' : World) : Prop:=
 if newB gen fr sec l then ∃ b V,e = .returned (.tuple #[.pointer (some ⟨b,0,none⟩),.int .i64 0]) ∧ RLogM w' n b V ⟨gen,fr,sec,(secsL l).length,l⟩ ∧ Below w.heap.size w w' ∧ (∀ k,V = some k → w.heap.size ≤ k)
 else e = .returned (.tuple #[.pointer none,.int .i64 1]) ∧ Below w.heap.size w w'
theorem rlnew_no {n gen : Nat} {fr sec : Int} {l : List Rec} {w w' : World} (h : newB gen fr sec l = false) (hb : Below w.heap.size w w') : RLNewPost w n gen fr sec l (.returned (.tuple #[.pointer none,.int .i64 1])) w':=by
 unfold RLNewPost; rw [h]; exact ⟨rfl,hb⟩
theorem rlnew_yes {n gen : Nat} {fr sec : Int} {l : List RS} {w w9 : World} {A9 : Option Addr} {c9 u : Nat} {B : Nat} (hn : n ≤ w.heap.size) (h : newB gen fr sec (l.map RS.r) = true) (hu : u = (secsL (l.map RS.r)).length) (hB : w.heap.size ≤ B)
  (hr : ∀ x ∈ l,RecR w n x.r x.A x.c x.D x.d x.N x.n) (ho : w9.ownsRow B 28 5 (.slice A9 l.length c9) l.length (flatR l)) (hb : Below w.heap.size w w9) :
  RLNewPost w n gen fr sec (l.map RS.r) (.returned (.tuple #[.pointer (some ⟨w9.heap.size,0,none⟩),.int .i64 0])) (w9.alloc (.cells #[.int .u64 gen,.int .i64 fr,.int .i64 sec,.int .i64 u,.slice A9 l.length c9] 68)):=by
 unfold RLNewPost
 rw [h,if_pos rfl]
 have hz:=hb.size
 have hba : Below w.heap.size w (w9.alloc (.cells #[.int .u64 gen,.int .i64 fr,.int .i64 sec,.int .i64 u,.slice A9 l.length c9] 68)):=hb.alloc hz _
 refine ⟨w9.heap.size,(Value.slice A9 l.length c9).ownBlock,rfl,⟨A9,c9,l,⟨?_,rfl,(own_mono ho (Nat.le_trans hn hB)).alloc _,fun x hx=>(hr x hx).below hba hn⟩,rfl⟩,hba,fun k e=>Nat.le_trans hB (own_low ho e)⟩
 subst hu
 exact World.ownsRow_lit (base:=n) (e:=68) (size:=5) w9 #[.int .u64 gen,.int .i64 fr,.int .i64 sec,.int .i64 ((secsL (l.map RS.r)).length : Int),.slice A9 l.length c9] 1 (Nat.le_trans hn hz) (by decide) rfl
set_option maxRecDepth 100000 in
set_option maxHeartbeats 8000000 in
theorem rlnew_any (n gen : Nat) (fr sec : Int) (l : List RS) (A : Option Addr) (c : Nat) (w : World) (hn : n ≤ w.heap.size) (h : RcsR w n A l) (hA : A = none → c = 0) (ht : ∀ x ∈ l,Tiny x.r) (hok : ∀ x ∈ l,x.r.Ok) (hl : l.length ≤ 100) :
  Calls Tryz.prog 23 #[.int .u64 gen,.int .i64 fr,.int .i64 sec,.slice A l.length c] w (RLNewPost w n gen fr sec (l.map RS.r)):=by
 obtain ⟨i0,hi,hz0',hz1,hz2⟩:=info_parts info_rec
 have HSC:=Lib.hid (rsectors_any l ht hok A c w (h.more hn) (by omega))
 have HH:=Lib.hid h
 clear h ht hok
 go_enter Tryz.func23,Tryz.ntmps23
 go_wp2_with fail
 refine HSC.out.mono ?_
 rintro e w1 ⟨A1,c1,ss,rfl,hss,ho1,hb1⟩
 have HB1:=Lib.hid hb1
 have HNO:=Lib.hid (fun h=>rlnew_no (n:=n) (gen:=gen) (fr:=fr) (sec:=sec) (l:=l.map RS.r) h hb1)
 have HXS:=Lib.hid hss
 have HH1:=Lib.hid (HH.out.below hb1 hn)
 clear ho1 hb1 hss HSC
 by_cases hf : fr < 0
 ·have HN : Hid (newB gen fr sec (l.map RS.r) = false):=by unfold Hid newB; rw [decide_eq_false (by omega : ¬ 0 ≤ fr)]; rfl
  go_wp2
  go_ret2
  exact HNO.out HN.out
 ·have d1 : decide (fr < 0) = false:=decide_eq_false hf
  by_cases hs : sec < 0
  ·have HN : Hid (newB gen fr sec (l.map RS.r) = false):=by unfold Hid newB; rw [decide_eq_false (by omega : ¬ 0 ≤ sec),Bool.and_false]; rfl
   go_wp2
   go_ret2
   exact HNO.out HN.out
  ·have d2 : decide (sec < 0) = false:=decide_eq_false hs
   cases hv : logV (l.map RS.r)
   ·have HN : Hid (newB gen fr sec (l.map RS.r) = false):=by unfold Hid newB; rw [hv,Bool.and_false]; rfl
    have HSE : Hid (secE (l.map RS.r) = 1):=by unfold Hid secE; rw [hv]; rfl
    rw [HSE.out]
    clear hv
    go_wp2
    go_ret2
    exact HNO.out HN.out
   ·have HSE : Hid (secE (l.map RS.r) = 0):=by unfold Hid secE; rw [hv]; rfl
    have HSL : Hid (ss.length = (secsL (l.map RS.r)).length):=by unfold Hid; have:=congrArg List.length HXS.out; rw [List.length_map] at this; rw [this]; unfold secLs; rw [hv]; rfl
    rw [HSE.out]
    by_cases hle : (ss.length : Int) ≤ sec
    ·have hN4 : newB gen fr sec (l.map RS.r) = (decide ((l.map RS.r).length = 0) || decide (((l.map RS.r).headD zRec).gen = gen)):=by
      unfold newB
      rw [hv,decide_eq_true (by omega : 0 ≤ fr),decide_eq_true (by omega : 0 ≤ sec),← HSL.out,decide_eq_true hle]; rfl
     have HN4:=Lib.hid hN4
     have HV:=Lib.hid hv
     clear hv hN4
     cases A with
     | none=>
       obtain rfl:=hA rfl
       have hx:=HH.out.rd.at_none
       obtain rfl : l = []:=by cases l; rfl; simp [flatR,RS.cells] at hx
       have HN : Hid (newB gen fr sec (([] : List RS).map RS.r) = true):=by unfold Hid; rw [HN4.out]; rfl
       have hro:=World.ownsRow_lit (base:=w1.heap.size) (e:=28) (size:=5) w1 #[] 0 (Nat.le_refl _) (by decide) rfl
       have HD : Hid (RLNewPost w n gen fr sec (([] : List RS).map RS.r) (.returned (.tuple #[.pointer (some ⟨w1.heap.size + 1,0,none⟩),.int .i64 0])) ((w1.alloc (.cells #[] 28)).alloc (.cells #[.int .u64 gen,.int .i64 fr,.int .i64 sec,.int .i64 (ss.length : Int),.slice (some ⟨w1.heap.size,0,none⟩) 0 0] 68))):=by
        have h9:=rlnew_yes (n:=n) (gen:=gen) (fr:=fr) (sec:=sec) (l:=[]) hn HN.out HSL.out HB1.out.size (fun x hx=>by simp at hx) hro (HB1.out.alloc HB1.out.size _)
        rw [World.size_alloc] at h9
        exact h9
       clear hx
       go_wp2_with (at_builtin; refine wpList_append_own_none rfl _ _ 22 rfl w1.heap.size 28 i0 5 Tryz.underlying22 hi _ 0 [] rfl hro rfl ?_)
       go_wp2
       go_ret2
       exact HD.out
     | some a=>
       have hro:=World.ownsRow_lit (base:=w1.heap.size) (e:=28) (size:=5) w1 #[] 0 (Nat.le_refl _) (by decide) rfl
       have hla:=((HH1.out.rd.more (Nat.le_trans hn HB1.out.size)).alloc (Nat.le_refl _) (.cells #[] 28)).at_add
       have HD : Hid (∀ W v,newB gen fr sec (l.map RS.r) = true → W.ownsRow w1.heap.size 28 5 v l.length (flatR l) → (w1.alloc (.cells #[] 28)).grownBy W (Value.slice (some ⟨w1.heap.size,0,none⟩) 0 0).ownBlock →
         ∃ A9 c9,v = .slice A9 l.length c9 ∧ RLNewPost w n gen fr sec (l.map RS.r) (.returned (.tuple #[.pointer (some ⟨W.heap.size,0,none⟩),.int .i64 0])) (W.alloc (.cells #[.int .u64 gen,.int .i64 fr,.int .i64 sec,.int .i64 (ss.length : Int),.slice A9 l.length c9] 68))):=by
        unfold Hid
        intro W v hnb ho hg
        obtain ⟨A9,c9,rfl⟩:=own_form ho
        exact ⟨A9,c9,rfl,rlnew_yes hn hnb HSL.out HB1.out.size HH.out.each ho ((HB1.out.alloc HB1.out.size _).grown hg (by have:=HB1.out.size; simp; omega) (fun k hk=>by simp [Value.ownBlock] at hk; have:=HB1.out.size; omega))⟩
       by_cases h0 : l.length = 0
       ·have HN : Hid (newB gen fr sec (l.map RS.r) = true):=by unfold Hid; rw [HN4.out,List.length_map,decide_eq_true h0]; rfl
        have d3 : decide ((0 : Int) < (l.length : Int)) = false:=decide_eq_false (by omega)
        have d4 : decide (0 < l.length) = false:=decide_eq_false (by omega)
        clear h0
        go_wp2_with (at_builtin; go_loud (refine wpList_append_own _ rfl _ _ 22 rfl w1.heap.size 28 i0 _ 5 88 Tryz.underlying22 hi hz0' hz1 hz2 rfl (by decide) _ 0 [] rfl hro _ l.length c (flatR l) rfl (flatR_len l) hla (flatR_one l) ?c1 ?c2 ?c3 ?_))
        case c1=>unfold maxLen; omega
        case c2=>omega
        case c3=>first | omega | (simp; done) | (simp; omega)
        intro v' w9 hown hgrow hiff
        try simp only [Nat.zero_add,List.nil_append] at hown
        obtain ⟨A9,c9,hvv,hd9⟩:=HD.out w9 v' HN.out hown hgrow
        subst hvv
        have HD9:=Lib.hid hd9
        clear hown hgrow hiff hd9 hro hla
        go_wp2
        go_ret2
        exact HD9.out
       ·have hh2:=HH1.out
        obtain ⟨g0,o0,rA,hg0,j0,_,_,_,_⟩:=hh2.rd.rs (show 0 < l.length by omega)
        injection rA with rA
        subst rA
        simp only [Nat.zero_mul,Nat.add_zero] at j0
        have hhd : (l.map RS.r).headD zRec = l[0].r:=by cases l with | nil=>simp at h0 | cons x l=>rfl
        have d3 : decide ((0 : Int) < (l.length : Int)) = true:=decide_eq_true (by omega)
        have d4 : decide (0 < l.length) = true:=decide_eq_true (by omega)
        clear hh2
        by_cases hg : l[0].r.gen = gen
        ·have HN : Hid (newB gen fr sec (l.map RS.r) = true):=by unfold Hid; rw [HN4.out,hhd,decide_eq_true hg,Bool.or_true]
         rw [hg] at j0
         clear hhd
         go_wp2_with (at_builtin; go_loud (refine wpList_append_own _ rfl _ _ 22 rfl w1.heap.size 28 i0 _ 5 88 Tryz.underlying22 hi hz0' hz1 hz2 rfl (by decide) _ 0 [] rfl hro _ l.length c (flatR l) rfl (flatR_len l) hla (flatR_one l) ?c1 ?c2 ?c3 ?_))
         case c1=>unfold maxLen; omega
         case c2=>omega
         case c3=>first | omega | (simp; done) | (simp; omega)
         intro v' w9 hown hgrow hiff
         try simp only [Nat.zero_add,List.nil_append] at hown
         obtain ⟨A9,c9,hvv,hd9⟩:=HD.out w9 v' HN.out hown hgrow
         subst hvv
         have HD9:=Lib.hid hd9
         clear hown hgrow hiff hd9 hro hla
         go_wp2
         go_ret2
         exact HD9.out
        ·have HN : Hid (newB gen fr sec (l.map RS.r) = false):=by unfold Hid; rw [HN4.out,hhd,decide_eq_false hg,List.length_map,decide_eq_false h0]; rfl
         have e9 : (((l[0].r.gen : Nat) : Int) != (gen : Int)) = true:=by simpa using fun h=>hg (by omega)
         clear hhd hro hla HD
         go_wp2
         go_ret2
         exact HNO.out HN.out
    ·have HN : Hid (newB gen fr sec (l.map RS.r) = false):=by unfold Hid newB; rw [← HSL.out,decide_eq_false hle,Bool.and_false]; rfl
     clear hv
     go_wp2
     go_ret2
     exact HNO.out HN.out
end Go.Proofs.YtaggiceejcegdaaGreat
namespace Go.Proofs.YtaggiceejcegdaaGreat
set_option linter.unusedVariables false
open Go.RowKit
section
variable {w w' : World} {n n' b : Nat} {S : LogS} {V : Option Nat}
theorem KeptA.ty (h : LogM w n b V S) (hk : KeptA n' V w w') : KeptT (28 :: LDT) (Bd.of n') w w':=
 KeptT.of hk (fun k _ hh=>⟨⟨hh.1,fun h=>h⟩,by
  rcases hh.2 with h1 | h1
  ·obtain ⟨t,ht,hi⟩:=h1
   exact ⟨t,by simp [ht],hi⟩
  ·exact ⟨_,by simp,h.vt h1⟩⟩)
theorem RKeptA.ty (h : RLogM w n b V S) (hk : RKeptA n' V w w') : KeptT (28 :: RLDT) (Bd.of n') w w':=
 KeptT.of hk (fun k _ hh=>⟨⟨hh.1,fun h=>h⟩,by
  rcases hh.2 with h1 | h1
  ·obtain ⟨t,ht,hi⟩:=h1
   exact ⟨t,by simp [ht],hi⟩
  ·exact ⟨_,by simp,h.vt h1⟩⟩)
theorem LogM.other {V' : Option Nat} {b' : Nat} {S' : LogS} (h : LogM w n b V S) (hl : RLogM w n' b' V' S') (hk : RKeptA n' V' w w') (hd : ∀ k,V = some k → V' = some k → False) : LogM w' n b V S:=by
 obtain ⟨A,c,xs,h,e⟩:=h
 have hl2 : LogM w n b V S:=⟨A,c,xs,h,e⟩
 have hf : ∀ t,t ∉ (28 :: RLDT) → Free w t (fun k=>n' ≤ k ∧ (HasT RLDT w k ∨ V' = some k)):=fun t ht k hh _ cur fr e2=>by
  rcases hh.2 with h1 | h1
  ·obtain ⟨u,hu,hi⟩:=h1
   exact ht (by rw [hi.same (IsT.of e2)] at hu; simp [hu])
  ·exact ht (by rw [← (hl.vt h1).same (IsT.of e2)]; simp)
 refine ⟨A,c,xs,h.kept hk ?_ ?_ (hf _ (by unfold RLDT; decide)) (hf _ (by unfold RLDT; decide)) (hf _ (by unfold RLDT; decide)),e⟩
 ·rintro ⟨_,h1 | h1⟩
  ·exact HasT.no (IsT.own h.obj) (by unfold RLDT; decide) h1
  ·exact absurd ((IsT.own h.obj).same (hl.vt h1)) (by decide)
 ·rintro k ek ⟨_,h1 | h1⟩
  ·exact HasT.no (hl2.vt (e.symm.trans ek)) (by unfold RLDT; decide) h1
  ·exact hd k (e.symm.trans ek) h1
end
structure AS (w W : World) (n pb pw rp : Nat) (PA RA : Option Addr) (pc rc : Nat) (qs rqs : List Nat) (no : Nat → Bool) (b rb : Nat) (V RV : Option Nat) (S R : LogS) (m mr : MS) : Prop where
 ps : PS w W n pb pw rp PA RA pc rc qs rqs no m mr
 log : LogM W n b V S
 rlog : RLogM W n rb RV R
 dis : ∀ k,V = some k → RV = some k → False
section
variable {w W W' : World} {n pb pw rp : Nat} {PA RA : Option Addr} {pc rc : Nat} {qs rqs : List Nat} {no : Nat → Bool} {b rb : Nat} {V RV : Option Nat} {S R : LogS} {m mr : MS} {B : Bd}
theorem AS.below (h : AS w W n pb pw rp PA RA pc rc qs rqs no b rb V RV S R m mr) (hb : Below W.heap.size W W') : AS w W' n pb pw rp PA RA pc rc qs rqs no b rb V RV S R m mr:=
 ⟨h.ps.below hb,h.log.below0 hb,h.rlog.below0 hb,h.dis⟩
theorem AS.app {N : Nat} (h : AS w W n pb pw rp PA RA pc rc qs rqs no b rb V RV S R m mr) (hS : S.Ok) (hmo : m.Ok N) (hN : N ≤ 80000) (hq : qs.length ≤ 1000) (r : Rec) (hok : r.Ok) (A1 D1 N1 : Option Addr) (c1 d1 n1 : Nat) (hr : RecR W W.heap.size r A1 c1 D1 d1 N1 n1) (ht : Tiny r) :
  Calls Tryz.prog 13 #[.pointer (some ⟨b,0,none⟩),.slice PA qs.length pc,.int .u64 0,.agg #[.int .u64 r.gen,.int .u64 r.seq,.slice A1 r.ws.length c1,.slice D1 r.ms.length d1,.slice N1 r.note.length n1]] W fun e w'=>∃ A c V',e = .returned (.tuple #[.slice A (appM gW 0 no S r m).2.length c,.int .i64 (appE S r)]) ∧
   w'.ownsRow W.heap.size 41 1 (.slice A (appM gW 0 no S r m).2.length c) (appM gW 0 no S r m).2.length ((appM gW 0 no S r m).2.map (Value.int .i64)) ∧ AS w w' n pb pw rp PA RA pc rc qs rqs no b rb V' RV (appS S r) R (appM gW 0 no S r m).1 mr ∧ KeptA n V W w':=by
 refine (wappend_any (key:=0) (no:=no) (pc:=pc) r hok A1 D1 N1 c1 d1 n1 hr ht h.log hS h.ps.many hmo hN (RdT.of_own h.ps.ptr) hq).mono ?_
 rintro e w' ⟨A,c,V',he,ho,hV,hl,hm,hk⟩
 have hty:=KeptA.ty h.log hk
 have hbn:=hk.below h.ps.many.low
 refine ⟨A,c,V',he,ho,⟨⟨hk.row h.log h.ps.pair (by unfold LDT; decide) (by decide),hk.row h.log h.ps.ptr (by unfold LDT; decide) (by decide),hk.row h.log h.ps.rptr (by unfold LDT; decide) (by decide),hm,h.ps.ref.types hty (by unfold LDT; decide) (by unfold LDT; decide) (by unfold LDT; decide) (by unfold LDT; decide),h.ps.bel.trans (hbn.mono h.ps.le),h.ps.le⟩,hl,h.rlog.other h.log hk (Nat.le_refl _) (fun k e1 e2=>h.dis k e2 e1),?_⟩,hk⟩
 intro k e1 e2
 rcases hV with h1 | ⟨j,h1,h2⟩
 ·exact h.dis k (h1.symm.trans e1) e2
 ·have:=(h.rlog.vt e2).lt
  rw [e1] at h1
  obtain rfl:=Option.some.inj h1
  omega
theorem AS.rapp {N : Nat} (h : AS w W n pb pw rp PA RA pc rc qs rqs no b rb V RV S R m mr) (hS : R.Ok) (hmo : mr.Ok N) (hN : N ≤ 80000) (hq : rqs.length ≤ 1000) (r : Rec) (hok : r.Ok) (A1 D1 N1 : Option Addr) (c1 d1 n1 : Nat) (hr : RecR W n r A1 c1 D1 d1 N1 n1) (ht : Tiny r) :
  Calls Tryz.prog 32 #[.pointer (some ⟨rb,0,none⟩),.slice RA rqs.length rc,.int .u64 0,.agg #[.int .u64 r.gen,.int .u64 r.seq,.slice A1 r.ws.length c1,.slice D1 r.ms.length d1,.slice N1 r.note.length n1]] W fun e w'=>∃ A c V',e = .returned (.tuple #[.slice A (appM gW 0 no R r mr).2.length c,.int .i64 (appE R r)]) ∧
   w'.ownsRow W.heap.size 41 1 (.slice A (appM gW 0 no R r mr).2.length c) (appM gW 0 no R r mr).2.length ((appM gW 0 no R r mr).2.map (Value.int .i64)) ∧ AS w w' n pb pw rp PA RA pc rc qs rqs no b rb V V' S (appS R r) m (appM gW 0 no R r mr).1 ∧ KeptT (28 :: RLDT) (Bd.of n) W w':=by
 refine (rappend_any (key:=0) (no:=no) (pc:=rc) r hok A1 D1 N1 c1 d1 n1 hr ht h.rlog hS h.ps.ref hmo hN (RdT.of_own h.ps.rptr) hq).mono ?_
 rintro e w' ⟨A,c,V',he,ho,hV,hl,hm,hk⟩
 have hty:=RKeptA.ty h.rlog hk
 have hbn : Below n W w':=hty.below h.ps.many.low
 refine ⟨A,c,V',he,ho,⟨⟨own_ty h.ps.pair hty (by unfold RLDT; decide),own_ty h.ps.ptr hty (by unfold RLDT; decide),own_ty h.ps.rptr hty (by unfold RLDT; decide),h.ps.many.types hty (by unfold RLDT; decide) (by unfold RLDT; decide) (by unfold RLDT; decide) (by unfold RLDT; decide),hm,h.ps.bel.trans (hbn.mono h.ps.le),h.ps.le⟩,h.log.other h.rlog hk h.dis,hl,?_⟩,hty⟩
 intro k e1 e2
 rcases hV with h1 | ⟨j,h1,h2⟩
 ·exact h.dis k e1 (h1.symm.trans e2)
 ·have:=IsT.lt (h.log.vt e1)
  rw [e2] at h1
  obtain rfl:=Option.some.inj h1
  omega
theorem AS.rew {N : Nat} (h : AS w W n pb pw rp PA RA pc rc qs rqs no b rb V RV S R m mr) (hS : S.Ok) (hsl : (secLs S.l).length ≤ 1000) (hmo : m.Ok N) (hN : N ≤ 80000) (hq : qs.length ≤ 1000) :
  Calls Tryz.prog 34 #[.pointer (some ⟨b,0,none⟩),.slice PA qs.length pc,.int .u64 0] W fun e w'=>∃ A c,e = .returned (.slice A (allD gW 0 S.fr (secLs S.l) no m).2.length c) ∧
   w'.ownsRow W.heap.size 41 1 (.slice A (allD gW 0 S.fr (secLs S.l) no m).2.length c) (allD gW 0 S.fr (secLs S.l) no m).2.length ((allD gW 0 S.fr (secLs S.l) no m).2.map (Value.int .i64)) ∧ AS w w' n pb pw rp PA RA pc rc qs rqs no b rb V RV S R (allD gW 0 S.fr (secLs S.l) no m).1 mr ∧ KeptT DAT (Bd.of n) W w':=by
 refine (wrewrite_any (key:=0) (no:=no) (pc:=pc) h.log hS hsl h.ps.many hmo hN (RdT.of_own h.ps.ptr) hq).mono ?_
 rintro e w' ⟨⟨A,c,he,ho,hm,hk⟩,hl⟩
 exact ⟨A,c,he,ho,⟨h.ps.typed hm hk rfl,hl,h.rlog.types hk (Nat.le_refl _) (by unfold DAT; decide) (by unfold DAT; decide),h.dis⟩,hk⟩
theorem AS.rrew {N : Nat} (h : AS w W n pb pw rp PA RA pc rc qs rqs no b rb V RV S R m mr) (hS : R.Ok) (hsl : (secLs R.l).length ≤ 1000) (hmo : mr.Ok N) (hN : N ≤ 80000) (hq : rqs.length ≤ 1000) :
  Calls Tryz.prog 35 #[.pointer (some ⟨rb,0,none⟩),.slice RA rqs.length rc,.int .u64 0] W fun e w'=>∃ A c,e = .returned (.slice A (allD gW 0 R.fr (secLs R.l) no mr).2.length c) ∧
   w'.ownsRow W.heap.size 41 1 (.slice A (allD gW 0 R.fr (secLs R.l) no mr).2.length c) (allD gW 0 R.fr (secLs R.l) no mr).2.length ((allD gW 0 R.fr (secLs R.l) no mr).2.map (Value.int .i64)) ∧ AS w w' n pb pw rp PA RA pc rc qs rqs no b rb V RV S R m (allD gW 0 R.fr (secLs R.l) no mr).1 ∧ KeptT RDT (Bd.of n) W w':=by
 refine (rrewrite_any (key:=0) (no:=no) (pc:=rc) h.rlog hS hsl h.ps.ref hmo hN (RdT.of_own h.ps.rptr) hq).mono ?_
 rintro e w' ⟨⟨A,c,he,ho,hm,hk⟩,hl⟩
 exact ⟨A,c,he,ho,⟨h.ps.rtyped hm hk rfl,h.log.types hk (by unfold RDT; decide) (by unfold RDT; decide) (by unfold RDT; decide) (by unfold RDT; decide) (by unfold RDT; decide),hl,h.dis⟩,hk⟩
end
structure LogS.Ok2 (S : LogS) : Prop where
 ok : S.Ok
 u : ((secsL S.l).length : Int) = S.used
 b : S.sec ≤ 18
theorem appS_ok2 {S : LogS} (hS : S.Ok2) {r : Rec} (hok : r.Ok) (ht : Tiny r) (hl : S.l.length < 100) : (appS S r).Ok2:=by
 refine ⟨appS_ok hS.ok hok ht hl,?_,by rw [(appS_sec S r).1]; exact hS.b⟩
 unfold appS
 split
 ·show ((secsL (S.l ++ [S.num r])).length : Int) = S.used + _
  rw [secsL_app,List.length_append]
  have h1 : secsL [S.num r] = encR (S.num r):=by unfold secsL; simp
  rw [h1,← hS.u]; simp
 ·exact hS.u
theorem Ok2.small {S : LogS} (hS : S.Ok2) : (secLs S.l).length ≤ 18:=by
 have h1:=hS.u
 have h2:=hS.ok.u1
 have h3:=hS.b
 unfold secLs
 split
 ·omega
 ·simp
theorem appM_u8 {g : Geo} {key : Int} {no : Nat → Bool} {S : LogS} (hS : S.Ok) {r : Rec} (hok : r.Ok) {m : MS} (h : m.U8) : (appM g key no S r m).1.U8:=by
 unfold appM
 split
 ·refine allK_u8 (fun l hl=>?_) h _
  have:=secs_ok (l:=[S.num r]) (fun x hx=>by obtain rfl:=List.mem_singleton.1 hx; exact num_ok hS hok) l (by unfold secsL; simpa using hl)
  exact this.1
 ·exact h
theorem allD_u8 {g : Geo} {key a : Int} {no : Nat → Bool} {l : List Rec} (hl : ∀ r ∈ l,r.Ok) {m : MS} (h : m.U8) : (allD g key a (secLs l) no m).1.U8:=by
 refine allK_u8 (fun x hx=>?_) h _
 unfold secLs at hx
 split at hx
 ·exact (secs_ok hl x hx).1
 ·simp at hx
end Go.Proofs.YtaggiceejcegdaaGreat
