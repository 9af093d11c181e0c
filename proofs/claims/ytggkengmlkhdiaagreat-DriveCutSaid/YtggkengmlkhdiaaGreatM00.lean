/-
  WHAT IS SHOWN: plain facts on memory, of no program: a slice that reads as a list of cells; lists that are written out cell by cell. a region that draws its order, whose operations read and whose calls make memory, is walked once, in the order of its text: the worlds in which it may stand are those that meet one condition. plain facts on memory, of no program: worlds that differ in some blocks alone; slices of bytes; structs behind pointers. plain facts on geometries: places, addresses and shadows of sectors. what the functions of geometry and of tegularef10 return: the same; they change nothing that was there. Conditions: as each theorem names them.
-/
import Derived.WalkKit
import Derived.WalkSpells
import Derived.WalkLawsBesides
import Derived.Lib.Hide
import Derived.Laws.OwnMore
import Derived.Deep.Draws
import Derived.Deep.QuietTactic
import Derived.BigQuiet
import Derived.Laws.Rows
import Derived.Test.YtggkengmlkhdiaaGreatRows
import Derived.Handy
namespace Go.Proofs.YtggkengmlkhdiaaGreat
set_option linter.unusedVariables false
open Go.RowKit
theorem add_off (g o j:Nat):(⟨g,o,none⟩:Addr).add j=⟨g,o+j,none⟩:=by
 unfold Addr.add; by_cases h:j=0 <;> simp [h]
def Rd (w:World) (B:Nat) (A:Option Addr) (xs:List Value):Prop:=
 ∀ j u,xs[j]?=some u→∃ g o,A=some ⟨g,o,none⟩∧g < B∧w.cell? ⟨g,o+j,none⟩=some u
section
variable {w w':World} {B B':Nat} {A:Option Addr} {xs:List Value}
theorem Rd.nil_ (w:World) (B:Nat) (A:Option Addr):Rd w B A []:=fun j u h=>by simp at h
theorem Rd.keep (h:Rd w B A xs) (hk:∀ p:Addr,p.block < B→w'.cell? p=w.cell? p):Rd w' B A xs:=fun j u hu=>by
 obtain ⟨g,o,e,hg,hc⟩:=h j u hu
 exact ⟨g,o,e,hg,(hk _ hg).trans hc⟩
theorem Rd.more (h:Rd w B A xs) (hB:B≤B'):Rd w B' A xs:=fun j u hu=>by
 obtain ⟨g,o,e,hg,hc⟩:=h j u hu
 exact ⟨g,o,e,by omega,hc⟩
theorem Rd.below {C:Nat} (h:Rd w B A xs) (hb:Below C w w') (hC:B≤C):Rd w' B A xs:=h.keep fun _ hp=>hb.cell (by omega)
theorem Rd.alloc (h:Rd w B A xs) (hB:B≤w.heap.size) (o:Obj):Rd (w.alloc o) B A xs:=h.keep fun p hp=>World.cell?_alloc_lt w o p (by omega)
theorem Rd.take (h:Rd w B A xs) (n:Nat):Rd w B A (xs.take n):=fun j u hu=>by
 rw [List.getElem?_take] at hu
 split at hu
 ·exact h j u hu
 ·cases hu
theorem Rd.of_own {base:Nat} {e:TypeId} {size n c:Nat} (h:w.ownsRow base e size (.slice A n c) n xs):Rd w w.heap.size A xs:=fun j u hu=>by
 obtain ⟨hl,h2⟩:=h
 rcases h2 with ⟨h2,hn⟩ | ⟨g,cap,cur,hv,_,hh,_,_,_,ht⟩
 ·subst hn; simp at hl; subst hl; simp at hu
 ·injection hv with hA
  refine ⟨g,0,hA,?_,?_⟩
  ·exact lt_of_block hh
  ·rw [Nat.zero_add,cell_of_row w g j cur e (0,0) hh]
   rw [← ht,List.getElem?_take] at hu
   split at hu
   ·simpa using hu
   ·cases hu
end
theorem own_form {w:World} {base:Nat} {e:TypeId} {size n:Nat} {v:Value} {xs:List Value} (h:w.ownsRow base e size v n xs):∃ A c,v= .slice A n c:=by
 rcases h.2 with ⟨rfl,rfl⟩ | ⟨g,cap,cur,rfl,_⟩
 ·exact ⟨_,_,rfl⟩
 ·exact ⟨_,_,rfl⟩
theorem own_mono {w:World} {base base':Nat} {e:TypeId} {size n:Nat} {v:Value} {xs:List Value} (h:w.ownsRow base e size v n xs) (hb:base'≤base):w.ownsRow base' e size v n xs:=by
 refine ⟨h.1,?_⟩
 rcases h.2 with h2 | ⟨g,cap,cur,h1,h2,h3⟩
 ·exact .inl h2
 ·exact .inr ⟨g,cap,cur,h1,Nat.le_trans hb h2,h3⟩
theorem own_at {w:World} {base:Nat} {e:TypeId} {size n c:Nat} {A:Option Addr} {xs:List Value} (h:w.ownsRow base e size (.slice A n c) n xs) (hn:0 < n):∃ g,A=some ⟨g,0,none⟩∧base≤g∧g < w.heap.size:=by
 rcases h.2 with ⟨_,h2⟩ | ⟨g,cap,cur,hv,hb,hh,_⟩
 ·omega
 ·injection hv with hA
  exact ⟨g,hA,hb,lt_of_block hh⟩
theorem flat_get {α:Type} (f:α→List Value) (n:Nat) (hf:∀ a,(f a).length=n):∀ (l:List α) (i t:Nat),t < n→(l.flatMap f)[i * n+t]?=(l[i]?).bind fun a=>(f a)[t]?
 | [],i,t,_=>by simp
 | a::l,0,t,ht=>by
   rw [List.flatMap_cons,Nat.zero_mul,Nat.zero_add,List.getElem?_append_left (by rw [hf]; exact ht)]
   simp
 | a::l,i+1,t,ht=>by
   rw [List.flatMap_cons,List.getElem?_append_right (by rw [hf,Nat.add_mul]; omega),hf]
   rw [show (i+1) * n+t - n=i * n+t from by rw [Nat.add_mul]; omega,flat_get f n hf l i t ht]
   simp
theorem flat_len {α:Type} (f:α→List Value) (n:Nat) (hf:∀ a,(f a).length=n) (l:List α):(l.flatMap f).length=l.length * n:=by
 induction l with
 | nil=>simp
 | cons a l ih=>rw [List.flatMap_cons,List.length_append,ih,hf,List.length_cons,Nat.add_mul]; omega
theorem below_drewN' {B:Nat} {a w:World} (h:Below B a w) (n:Nat):Below B a (w.drewN n):=⟨h.os,h.tape,h.output,h.size,h.block⟩
structure Cells4 (w:World) (b:Nat) (v0 v1 v2 v3:Value):Prop where
 c0:w.cell? ⟨b,0,none⟩=some v0
 c1:w.cell? ⟨b,1,none⟩=some v1
 c2:w.cell? ⟨b,2,none⟩=some v2
 c3:w.cell? ⟨b,3,none⟩=some v3
theorem Cells4.new (w:World) (t:TypeId) (v0 v1 v2 v3:Value):Cells4 (w.alloc (.cells #[v0,v1,v2,v3] t)) w.heap.size v0 v1 v2 v3:=⟨by simp,by simp,by simp,by simp⟩
theorem Cells4.below {w w':World} {B b:Nat} {v0 v1 v2 v3:Value} (h:Cells4 w b v0 v1 v2 v3) (hb:Below B w w') (hB:b < B):Cells4 w' b v0 v1 v2 v3:=
 ⟨(hb.cell (p:=⟨b,0,none⟩) hB).trans h.c0,(hb.cell (p:=⟨b,1,none⟩) hB).trans h.c1,(hb.cell (p:=⟨b,2,none⟩) hB).trans h.c2,(hb.cell (p:=⟨b,3,none⟩) hB).trans h.c3⟩
end Go.Proofs.YtggkengmlkhdiaaGreat
namespace Go.Proofs.YtggkengmlkhdiaaGreat
set_option linter.unusedVariables false
open Go.RowKit
theorem cell_new (w:World) (cs:Array Value) (t:TypeId) (n j:Nat) (v:Value) (h:n=w.heap.size) (hv:cs[j]?=some v):(w.alloc (.cells cs t)).cell? ⟨n,j,none⟩=some v:=by
 subst h
 simp only [World.cell?_alloc_new]
 simpa using hv
theorem results_tmp4 {fn:Func} {t u s r:Tmp} (h:fn.results=#[.tmp t,.tmp u,.tmp s,.tmp r]) (tmps:Array Value) (P:Program) (w:World):
  (results fn tmps).run P w= .ok (.tuple #[tmps.getD t undef,tmps.getD u undef,tmps.getD s undef,tmps.getD r undef]) w:=by
 simp [results,h]
structure Cells5 (w:World) (b:Nat) (v0 v1 v2 v3 v4:Value):Prop where
 c0:w.cell? ⟨b,0,none⟩=some v0
 c1:w.cell? ⟨b,1,none⟩=some v1
 c2:w.cell? ⟨b,2,none⟩=some v2
 c3:w.cell? ⟨b,3,none⟩=some v3
 c4:w.cell? ⟨b,4,none⟩=some v4
theorem Cells5.new_at (w:World) (t:TypeId) (n:Nat) (v0 v1 v2 v3 v4:Value) (h:n=w.heap.size):Cells5 (w.alloc (.cells #[v0,v1,v2,v3,v4] t)) n v0 v1 v2 v3 v4:=
 ⟨cell_new _ _ _ _ _ _ h rfl,cell_new _ _ _ _ _ _ h rfl,cell_new _ _ _ _ _ _ h rfl,cell_new _ _ _ _ _ _ h rfl,cell_new _ _ _ _ _ _ h rfl⟩
theorem Cells5.new (w:World) (t:TypeId) (v0 v1 v2 v3 v4:Value):Cells5 (w.alloc (.cells #[v0,v1,v2,v3,v4] t)) w.heap.size v0 v1 v2 v3 v4:=Cells5.new_at w t _ _ _ _ _ _ rfl
theorem Cells5.below {w w':World} {B b:Nat} {v0 v1 v2 v3 v4:Value} (h:Cells5 w b v0 v1 v2 v3 v4) (hb:Below B w w') (hB:b < B):Cells5 w' b v0 v1 v2 v3 v4:=
 ⟨(hb.cell (p:=⟨b,0,none⟩) hB).trans h.c0,(hb.cell (p:=⟨b,1,none⟩) hB).trans h.c1,(hb.cell (p:=⟨b,2,none⟩) hB).trans h.c2,(hb.cell (p:=⟨b,3,none⟩) hB).trans h.c3,(hb.cell (p:=⟨b,4,none⟩) hB).trans h.c4⟩
structure Held (S:World→Prop) where
 w:World
 h:S w
theorem Held.drew_below {B:Nat} {w:World} (h:B≤w.heap.size):Below B w w.drew:=((Below.refl _ _).mono h).drew
section
variable {P:Program} {S:World→Prop}
theorem wp_region_heldq {id:Nat} {Q:Exit→Act→World→Prop} {a:Act} {w:World} {l:List Oper} (hm:P.follows .mixedOrders=true) (hB:Region.lexB .any l.toArray=true) (hS:S w.drew)
  (h:wpQuiet P l.toArray (fun W=>∃ s:Held S,W=s.w) (fun a'=>∀ W,(∃ s:Held S,W=s.w)→Q .normal a' W) l a):(Code.region id l.toArray true).wp P Q a w:=
 wp_region_quiet (C:=fun W=>∃ s:Held S,W=s.w) hm hB ⟨⟨w.drew,hS⟩,rfl⟩ (by simpa using h)
theorem Calls.held {f:FuncId} {args:Array Value} {s:Held S} {v:Value} (h:Calls P f args s.w fun e w'=>e= .returned v∧S w'):Calls P f args s.w fun e w'=>e= .returned v∧∃ t:Held S,w'=t.w:=
 h.mono fun _ _ ⟨he,hw⟩=>⟨he,⟨_,hw⟩,rfl⟩
theorem Calls.held_below {f:FuncId} {args:Array Value} {B:Nat} {w:World} {s:Held (Below B w)} {v:Value} (hB:B≤w.heap.size) (h:Calls P f args s.w fun e w'=>e= .returned v∧Below s.w.heap.size s.w w'):
  Calls P f args s.w fun e w'=>e= .returned v∧∃ t:Held (Below B w),w'=t.w:=
 Calls.held (h.mono fun _ _ ⟨he,hb⟩=>⟨he,s.h.trans (hb.mono (Nat.le_trans hB s.h.size))⟩)
theorem Calls.held_same {f:FuncId} {args:Array Value} {s:Held S} {v:Value} (h:Calls P f args s.w fun e w'=>e= .returned v∧w'=s.w):Calls P f args s.w fun e w'=>e= .returned v∧∃ t:Held S,w'=t.w:=
 h.mono fun _ _ ⟨he,hw⟩=>⟨he,s,hw⟩
end
theorem Held.cell {B:Nat} {w:World} {b o:Nat} {v:Value} (h:w.cell? ⟨b,o,none⟩=some v) (hb:b < B):∀ s:Held (Below B w),s.w.cell? ⟨b,o,none⟩=some v:=fun s=>(s.h.cell (p:=⟨b,o,none⟩) hb).trans h
end Go.Proofs.YtggkengmlkhdiaaGreat
namespace Go.Proofs.YtggkengmlkhdiaaGreat
set_option linter.unusedVariables false
open Go.RowKit
structure Kept (S:Nat→Prop) (w w':World):Prop where
 os:w'.os=w.os
 tape:w'.tape=w.tape
 output:w'.output=w.output
 size:w.heap.size≤w'.heap.size
 block:∀ k,k < w.heap.size→¬ S k→w'.heap[k]?=w.heap[k]?
section
variable {S T:Nat→Prop} {w w' w'':World} {B:Nat}
theorem Kept.refl (S:Nat→Prop) (w:World):Kept S w w:=⟨rfl,rfl,rfl,Nat.le_refl _,fun _ _ _=>rfl⟩
theorem Kept.trans (h:Kept S w w') (k:Kept T w' w'') (hT:∀ i,i < w.heap.size→T i→S i):Kept S w w'':=
 ⟨k.os.trans h.os,k.tape.trans h.tape,k.output.trans h.output,Nat.le_trans h.size k.size,fun i hi hS=>(k.block i (Nat.lt_of_lt_of_le hi h.size) (fun ht=>hS (hT i hi ht))).trans (h.block i hi hS)⟩
theorem Kept.more (h:Kept S w w') (hT:∀ i,i < w.heap.size→S i→T i):Kept T w w':=⟨h.os,h.tape,h.output,h.size,fun i hi hS=>h.block i hi (fun hs=>hS (hT i hi hs))⟩
theorem belKept (h:Below B w w'):Kept (fun i=>B≤i) w w':=⟨h.os,h.tape,h.output,h.size,fun i _ hS=>h.block i (by omega)⟩
theorem belKept0 (h:Below w.heap.size w w'):Kept S w w':=⟨h.os,h.tape,h.output,h.size,fun i hi _=>h.block i hi⟩
theorem Kept.below (h:Kept S w w') (hS:∀ i,S i→B≤i) (hB:B≤w.heap.size):Below B w w':=⟨h.os,h.tape,h.output,h.size,fun i hi=>h.block i (by omega) (fun hs=>by have:=hS i hs; omega)⟩
theorem Kept.below0 (h:Kept (fun _=>False) w w'):Below w.heap.size w w':=h.below (fun _ h=>h.elim) (Nat.le_refl _)
theorem Kept.thenBelow (h:Kept S w w') (k:Below w'.heap.size w' w''):Kept S w w'':=h.trans (belKept0 (S:=fun _=>False) k) (fun _ _ hf=>hf.elim)
theorem Kept.alloc (h:Kept S w w') (o:Obj):Kept S w (w'.alloc o):=h.thenBelow ((Below.refl _ _).alloc (Nat.le_refl _) o)
theorem Kept.drew (h:Kept S w w'):Kept S w w'.drew:=⟨h.os,h.tape,h.output,h.size,h.block⟩
theorem Kept.drewN (h:Kept S w w') (n:Nat):Kept S w (w'.drewN n):=⟨h.os,h.tape,h.output,h.size,h.block⟩
theorem Kept.setCell (h:Kept S w w') {p:Addr} (hp:p.block < w.heap.size→S p.block) (u:Value):Kept S w (w'.setCell p u):=
 h.trans (T:=fun i=>i=p.block) ⟨rfl,rfl,rfl,by simp,fun i hi hS=>Below.heap_setCell _ _ _ _ hS⟩ (fun i hi e=>by subst e; exact hp hi)
theorem Kept.grown (h:Kept S w w') {row:Option Nat} (hg:w'.grownBy w'' row) (hr:∀ i,i < w.heap.size→row=some i→S i):Kept S w w'':=
 h.trans (T:=fun i=>row=some i) ⟨hg.os,hg.tape,hg.output,hg.size,fun i hi hS=>hg.block i hi (fun e=>hS e.symm)⟩ (fun i hi e=>hr i hi e)
theorem Kept.obj (h:Kept S w w') {b:Nat} {o:Obj} (ho:w.heap[b]?=some o) (hS:¬ S b):w'.heap[b]?=some o:=(h.block b (lt_of_block ho) hS).trans ho
theorem Kept.cell (h:Kept S w w') {p:Addr} {v:Value} (hc:w.cell? p=some v) (hS:¬ S p.block):w'.cell? p=some v:=(World.cell?_of_block (w:=w) (h.block p.block (block_lt_of_cell hc) hS)).trans hc
theorem belObj (h:Below B w w') {b:Nat} {o:Obj} (ho:w.heap[b]?=some o) (hb:b < B):w'.heap[b]?=some o:=(h.block b hb).trans ho
end
def RdT (w:World) (t:TypeId) (A:Option Addr) (xs:List Value):Prop:=
 ∀ j u,xs[j]?=some u→∃ g o cur fr,A=some ⟨g,o,none⟩∧w.heap[g]?=some (.cells cur t fr)∧cur[o+j]?=some u
def Free (w:World) (t:TypeId) (S:Nat→Prop):Prop:=∀ k,S k→k < w.heap.size→∀ cur fr,w.heap[k]?≠some (.cells cur t fr)
section
variable {S T:Nat→Prop} {w w' w'':World} {t t':TypeId} {A:Option Addr} {xs:List Value}
theorem Free.none (w:World) (t:TypeId):Free w t (fun _=>False):=fun _ h=>h.elim
theorem Free.one {b:Nat} {cs:Array Value} {fr:Nat × Nat} (h:w.heap[b]?=some (.cells cs t' fr)) (ht:t'≠t):Free w t (fun k=>k=b):=fun k hk _ cur fr' e=>by
 subst hk; rw [h] at e; injection e with e; injection e with _ e; exact ht e
theorem Free.or (h:Free w t S) (k:Free w t T):Free w t (fun i=>S i∨T i):=fun i hi hl=>by
 rcases hi with hi | hi
 ·exact h i hi hl
 ·exact k i hi hl
theorem RdT.kept (h:RdT w t A xs) (hk:Kept S w w') (hf:Free w t S):RdT w' t A xs:=fun j u hu=>by
 obtain ⟨g,o,cur,fr,e,hg,hc⟩:=h j u hu
 exact ⟨g,o,cur,fr,e,(hk.block g (lt_of_block hg) (fun hs=>hf g hs (lt_of_block hg) _ _ hg)).trans hg,hc⟩
theorem RdT.below0 (h:RdT w t A xs) (hk:Below w.heap.size w w'):RdT w' t A xs:=h.kept (belKept0 (S:=fun _=>False) hk) (Free.none _ _)
theorem RdT.rd (h:RdT w t A xs):Rd w w.heap.size A xs:=fun j u hu=>by
 obtain ⟨g,o,cur,fr,e,hg,hc⟩:=h j u hu
 exact ⟨g,o,e,lt_of_block hg,by rw [cell_of_row w g (o+j) cur t fr hg]; exact hc⟩
theorem RdT.nil (w:World) (t:TypeId) (A:Option Addr):RdT w t A []:=fun j u h=>by simp at h
theorem RdT.of_own {base:Nat} {size n c:Nat} (h:w.ownsRow base t size (.slice A n c) n xs):RdT w t A xs:=fun j u hu=>by
 obtain ⟨hl,h2⟩:=h
 rcases h2 with ⟨h2,hn⟩ | ⟨g,cap,cur,hv,_,hh,_,_,_,ht⟩
 ·subst hn; simp at hl; subst hl; simp at hu
 ·injection hv with hA
  refine ⟨g,0,cur,(0,0),hA,hh,?_⟩
  rw [← ht,List.getElem?_take] at hu
  split at hu
  ·simpa using hu
  ·cases hu
end
def Byt (t:TypeId) (w:World) (v:Value) (xs:List Int):Prop:=∃ A c,v= .slice A xs.length c∧RdT w t A (xs.map (Value.int .u8))∧(A=none→c=0)
theorem own_kept {S:Nat→Prop} {w w':World} {base:Nat} {e:TypeId} {size n:Nat} {v:Value} {xs:List Value} (h:w.ownsRow base e size v n xs) (hk:Kept S w w') (hS:∀ k,v.ownBlock=some k→¬ S k):w'.ownsRow base e size v n xs:=by
 refine ⟨h.1,?_⟩
 rcases h.2 with h2 | ⟨g,cap,cur,h1,h2,h3,h4⟩
 ·exact .inl h2
 ·exact .inr ⟨g,cap,cur,h1,h2,hk.obj h3 (hS g (by rw [h1]; rfl)),h4⟩
end Go.Proofs.YtggkengmlkhdiaaGreat
namespace Go.Proofs.YtggkengmlkhdiaaGreat
set_option linter.unusedVariables false
open Go.RowKit
def I64 (n:Int):Prop:=-9223372036854775808≤n∧n≤9223372036854775807
theorem w64_id {x:Int} (h0: -9223372036854775808≤x) (h1:x≤9223372036854775807):wrap64 x=x:=by unfold wrap64; omega
theorem quo_pos {n s:Int} (h0:0≤n) (h1:n≤1000000000) (hs:1≤s):wrap64 (n.tdiv s)=n / s∧0≤n / s∧n / s≤1000000000∧n.tmod s=n % s:=by
 have h2:n / s≤n:=Int.ediv_le_self _ h0
 have h3:0≤n / s:=Int.ediv_nonneg h0 (by omega)
 rw [Int.tdiv_eq_ediv_of_nonneg h0,Int.tmod_eq_emod_of_nonneg h0,w64_id (by omega) (by omega)]
 exact ⟨rfl,h3,by omega,rfl⟩
structure Geo where
 random:Int
 bands:Int
 tracks:Int
 sectors:Int
 overlap:Int
def inR (n lo hi:Int):Bool:=decide (lo≤n) && decide (n≤hi)
theorem inR_iff (n lo hi:Int):inR n lo hi=true↔lo≤n∧n≤hi:=by unfold inR; simp
def validG (g:Geo):Bool:=inR g.random 0 16384 && (inR g.bands 1 64 && (inR g.tracks 1 16 && (inR g.sectors 1 64 && inR g.overlap 0 3)))
structure Vg (g:Geo):Prop where
 r0:0≤g.random
 r1:g.random≤16384
 b0:1≤g.bands
 b1:g.bands≤64
 t0:1≤g.tracks
 t1:g.tracks≤16
 s0:1≤g.sectors
 s1:g.sectors≤64
 o0:0≤g.overlap
 o1:g.overlap≤3
theorem validG_iff (g:Geo):validG g=true↔Vg g:=by
 unfold validG
 simp only [Bool.and_eq_true,inR_iff]
 constructor
 ·intro h; exact ⟨h.1.1,h.1.2,h.2.1.1,h.2.1.2,h.2.2.1.1,h.2.2.1.2,h.2.2.2.1.1,h.2.2.2.1.2,h.2.2.2.2.1,h.2.2.2.2.2⟩
 ·intro h; exact ⟨⟨h.r0,h.r1⟩,⟨h.b0,h.b1⟩,⟨h.t0,h.t1⟩,⟨h.s0,h.s1⟩,h.o0,h.o1⟩
theorem mul_lim {a b A B:Int} (ha:0≤a) (hb:0≤b) (hA:a≤A) (hB:b≤B):0≤a * b∧a * b≤A * B:=
 ⟨Int.mul_nonneg ha hb,Int.mul_le_mul hA hB hb (Int.le_trans ha hA)⟩
def bz (g:Geo):Int:=g.tracks * g.sectors
def sz (g:Geo):Int:=g.random+g.bands * (g.tracks * g.sectors)
theorem Vg.bz {g:Geo} (h:Vg g):1≤g.tracks * g.sectors∧g.tracks * g.sectors≤1024:=by
 have h1:=mul_lim (a:=g.tracks) (b:=g.sectors) (A:=16) (B:=64) (by have:=h.t0; omega) (by have:=h.s0; omega) h.t1 h.s1
 have h2:=Int.mul_pos (show 0 < g.tracks by have:=h.t0; omega) (show 0 < g.sectors by have:=h.s0; omega)
 omega
theorem Vg.sz {g:Geo} (h:Vg g):1≤g.bands * (g.tracks * g.sectors)∧g.bands * (g.tracks * g.sectors)≤65536:=by
 have h0:=h.bz
 have h1:=mul_lim (a:=g.bands) (b:=g.tracks * g.sectors) (A:=64) (B:=1024) (by have:=h.b0; omega) (by omega) h.b1 h0.2
 have h2:=Int.mul_pos (show 0 < g.bands by have:=h.b0; omega) (show 0 < g.tracks * g.sectors by omega)
 omega
def bzN (g:Geo):Int:=if validG g then g.tracks * g.sectors else 0
def szN (g:Geo):Int:=if validG g then g.random+g.bands * (g.tracks * g.sectors) else 0
theorem bzN_valid {g:Geo} (h:Vg g):bzN g=g.tracks * g.sectors:=by unfold bzN; rw [if_pos ((validG_iff g).2 h)]
theorem szN_valid {g:Geo} (h:Vg g):szN g=g.random+g.bands * (g.tracks * g.sectors):=by unfold szN; rw [if_pos ((validG_iff g).2 h)]
theorem szN_bound (g:Geo):0≤szN g∧szN g≤81920:=by
 unfold szN
 split
 ·rename_i h
  have hv:=(validG_iff g).1 h
  have:=hv.sz; have:=hv.r0; have:=hv.r1; omega
 ·omega
structure Loc where
 band:Int
 track:Int
 pos:Int
 e:Int
def locN (g:Geo) (a:Int):Loc:=
 if validG g then (if inR a g.random (szN g - 1) then ⟨(a - g.random) / g.sectors / g.tracks,(a - g.random) / g.sectors % g.tracks,(a - g.random) % g.sectors,0⟩ else ⟨0,0,0,2⟩) else ⟨0,0,0,1⟩
theorem loc_invalid {g:Geo} (a:Int) (h:validG g=false):locN g a=⟨0,0,0,1⟩:=by unfold locN; rw [h]; rfl
theorem loc_out {g:Geo} {a:Int} (h:validG g=true) (ha:inR a g.random (szN g - 1)=false):locN g a=⟨0,0,0,2⟩:=by unfold locN; rw [h,ha]; rfl
theorem loc_in {g:Geo} {a:Int} (h:validG g=true) (ha:inR a g.random (szN g - 1)=true):locN g a=⟨(a - g.random) / g.sectors / g.tracks,(a - g.random) / g.sectors % g.tracks,(a - g.random) % g.sectors,0⟩:=by unfold locN; rw [h,ha]; rfl
theorem div_lt_of {n a b:Int} (hb:0 < b) (h:n < a * b):n / b < a:=Int.ediv_lt_of_lt_mul hb h
theorem loc_spec {g:Geo} {a:Int} (h:Vg g) (h0:g.random≤a) (h1:a < g.random+g.bands * (g.tracks * g.sectors)):
  0≤(a - g.random) / g.sectors / g.tracks∧(a - g.random) / g.sectors / g.tracks < g.bands∧0≤(a - g.random) / g.sectors % g.tracks∧(a - g.random) / g.sectors % g.tracks < g.tracks∧
  0≤(a - g.random) % g.sectors∧(a - g.random) % g.sectors < g.sectors∧g.random+((a - g.random) / g.sectors / g.tracks * g.tracks+(a - g.random) / g.sectors % g.tracks) * g.sectors+(a - g.random) % g.sectors=a:=by
 have ht:=h.t0
 have hs:=h.s0
 have e1:=Int.mul_ediv_add_emod (a - g.random) g.sectors
 have e2:=Int.mul_ediv_add_emod ((a - g.random) / g.sectors) g.tracks
 have m1:=Int.emod_nonneg (a - g.random) (show g.sectors≠0 by omega)
 have m2:=Int.emod_lt_of_pos (a - g.random) (show 0 < g.sectors by omega)
 have m3:=Int.emod_nonneg ((a - g.random) / g.sectors) (show g.tracks≠0 by omega)
 have m4:=Int.emod_lt_of_pos ((a - g.random) / g.sectors) (show 0 < g.tracks by omega)
 have d1:0≤(a - g.random) / g.sectors:=Int.ediv_nonneg (by omega) (by omega)
 have d2:0≤(a - g.random) / g.sectors / g.tracks:=Int.ediv_nonneg d1 (by omega)
 have d3:(a - g.random) / g.sectors < g.bands * g.tracks:=div_lt_of (by omega) (by rw [Int.mul_assoc]; omega)
 have d4:(a - g.random) / g.sectors / g.tracks < g.bands:=div_lt_of (by omega) d3
 refine ⟨d2,d4,m3,m4,m1,m2,?_⟩
 rw [Int.mul_comm ((a - g.random) / g.sectors / g.tracks) g.tracks,e2,Int.mul_comm ((a - g.random) / g.sectors)]
 omega
def adrN (g:Geo) (b t p:Int):Int × Int:=
 if validG g then (if inR b 0 (g.bands - 1) && (inR t 0 (g.tracks - 1) && inR p 0 (g.sectors - 1)) then (g.random+(b * g.tracks+t) * g.sectors+p,0) else (0,2)) else (0,1)
def shCnt (g:Geo) (t:Int):Nat:=(min g.overlap (g.tracks - 1 - t)).toNat
def shadowL (g:Geo) (a:Int):List Int:=if (locN g a).e=0 then (List.range (shCnt g (locN g a).track)).map fun (i:Nat)=>a+((i:Int)+1) * g.sectors else []
end Go.Proofs.YtggkengmlkhdiaaGreat
namespace Go.Proofs.YtggkengmlkhdiaaGreat
set_option linter.unusedVariables false
open Go.RowKit
structure Geo.Ok (g:Geo):Prop where
 r:I64 g.random
 b:I64 g.bands
 t:I64 g.tracks
 s:I64 g.sectors
 o:I64 g.overlap
set_option maxHeartbeats 400000 in
theorem within_any (n lo hi:Int) (w:World):Calls Tryz.prog 120 #[.int .i64 n,.int .i64 lo,.int .i64 hi] w fun e w'=>e= .returned (.bool (inR n lo hi))∧w'=w:=by
 unfold inR
 go_enter Tryz.func120,Tryz.ntmps120
 go_wp2
 all_goals (go_ret; exact ⟨by first | (simp [*]; done) | (simp [*]; omega),rfl⟩)
set_option maxHeartbeats 400000 in
theorem gvalid_any (g:Geo) (w:World):Calls Tryz.prog 91 #[.agg #[.int .i64 g.random,.int .i64 g.bands,.int .i64 g.tracks,.int .i64 g.sectors,.int .i64 g.overlap]] w fun e w'=>e= .returned (.bool (validG g))∧Below w.heap.size w w':=by
 have W0:=within_any g.random 0 16384
 have W1:=within_any g.bands 1 64
 have W2:=within_any g.tracks 1 16
 have W3:=within_any g.sectors 1 64
 have W4:=within_any g.overlap 0 3
 unfold validG
 generalize inR g.random 0 16384=b0 at *
 generalize inR g.bands 1 64=b1 at *
 generalize inR g.tracks 1 16=b2 at *
 generalize inR g.sectors 1 64=b3 at *
 generalize inR g.overlap 0 3=b4 at *
 have H0:=Lib.hid W0; have H1:=Lib.hid W1; have H2:=Lib.hid W2; have H3:=Lib.hid W3; have H4:=Lib.hid W4
 clear W0 W1 W2 W3 W4
 cases b0
 ·go_enter Tryz.func91,Tryz.ntmps91
  go_wp2_with fail
  refine (H0.out _).mono ?_
  rintro e w' ⟨rfl,rfl⟩
  go_wp2
  go_ret
  exact ⟨rfl,((Below.refl _ _).alloc (Nat.le_refl _) _)⟩
 ·cases b1
  ·go_enter Tryz.func91,Tryz.ntmps91
   go_wp2_with fail
   refine (H0.out _).mono ?_
   rintro e w' ⟨rfl,rfl⟩
   go_wp2_with fail
   refine (H1.out _).mono ?_
   rintro e w' ⟨rfl,rfl⟩
   go_wp2
   go_ret
   exact ⟨rfl,((Below.refl _ _).alloc (Nat.le_refl _) _)⟩
  ·cases b2
   ·go_enter Tryz.func91,Tryz.ntmps91
    go_wp2_with fail
    refine (H0.out _).mono ?_
    rintro e w' ⟨rfl,rfl⟩
    go_wp2_with fail
    refine (H1.out _).mono ?_
    rintro e w' ⟨rfl,rfl⟩
    go_wp2_with fail
    refine (H2.out _).mono ?_
    rintro e w' ⟨rfl,rfl⟩
    go_wp2
    go_ret
    exact ⟨rfl,((Below.refl _ _).alloc (Nat.le_refl _) _)⟩
   ·cases b3
    ·go_enter Tryz.func91,Tryz.ntmps91
     go_wp2_with fail
     refine (H0.out _).mono ?_
     rintro e w' ⟨rfl,rfl⟩
     go_wp2_with fail
     refine (H1.out _).mono ?_
     rintro e w' ⟨rfl,rfl⟩
     go_wp2_with fail
     refine (H2.out _).mono ?_
     rintro e w' ⟨rfl,rfl⟩
     go_wp2_with fail
     refine (H3.out _).mono ?_
     rintro e w' ⟨rfl,rfl⟩
     go_wp2
     go_ret
     exact ⟨rfl,((Below.refl _ _).alloc (Nat.le_refl _) _)⟩
    ·go_enter Tryz.func91,Tryz.ntmps91
     go_wp2_with fail
     refine (H0.out _).mono ?_
     rintro e w' ⟨rfl,rfl⟩
     go_wp2_with fail
     refine (H1.out _).mono ?_
     rintro e w' ⟨rfl,rfl⟩
     go_wp2_with fail
     refine (H2.out _).mono ?_
     rintro e w' ⟨rfl,rfl⟩
     go_wp2_with fail
     refine (H3.out _).mono ?_
     rintro e w' ⟨rfl,rfl⟩
     go_wp2_with fail
     refine (H4.out _).mono ?_
     rintro e w' ⟨rfl,rfl⟩
     go_wp2
     go_ret
     exact ⟨rfl,((Below.refl _ _).alloc (Nat.le_refl _) _)⟩
set_option maxHeartbeats 400000 in
theorem rgvalid_any (g:Geo) (w:World):Calls Tryz.prog 50 #[.agg #[.int .i64 g.random,.int .i64 g.bands,.int .i64 g.tracks,.int .i64 g.sectors,.int .i64 g.overlap]] w fun e w'=>e= .returned (.bool (validG g))∧Below w.heap.size w w':=by
 unfold validG inR
 go_enter Tryz.func50,Tryz.ntmps50
 go_wp2
 all_goals (go_ret; exact ⟨by first | (simp [*]; done) | (simp [*]; omega),((Below.refl _ _).alloc (Nat.le_refl _) _)⟩)
set_option maxHeartbeats 400000 in
theorem gbz_any (g:Geo) (w:World):Calls Tryz.prog 90 #[.agg #[.int .i64 g.random,.int .i64 g.bands,.int .i64 g.tracks,.int .i64 g.sectors,.int .i64 g.overlap]] w fun e w'=>e= .returned (.int .i64 (bzN g))∧Below w.heap.size w w':=by
 cases hv:validG g
 ·have HZ:Hid (bzN g=0):=by unfold Hid bzN; rw [hv]; rfl
  go_enter Tryz.func90,Tryz.ntmps90
  go_wp2_with fail
  refine (gvalid_any g _).mono ?_
  rintro e w1 ⟨rfl,hb1⟩
  rw [hv]
  clear hv
  go_wp2
  go_ret
  exact ⟨by rw [HZ.out]; rfl,((Below.refl _ _).alloc (Nat.le_refl _) _).trans (hb1.mono (by simp))⟩
 ·have hg:=(validG_iff g).1 hv
  have h0:=hg.t0; have h1:=hg.t1; have h2:=hg.s0; have h3:=hg.s1
  have h4:=hg.bz
  have HZ:=Lib.hid (bzN_valid hg)
  go_enter Tryz.func90,Tryz.ntmps90
  go_wp2_with fail
  refine (gvalid_any g _).mono ?_
  rintro e w1 ⟨rfl,hb1⟩
  rw [hv]
  clear hv hg
  have PG:=(Cells5.new w 42 _ _ _ _ _).below hb1 (by simp)
  have p0:=PG.c0; have p1:=PG.c1; have p2:=PG.c2; have p3:=PG.c3; have p4:=PG.c4
  go_wp2
  go_ret
  exact ⟨by rw [HZ.out]; rfl,((Below.refl _ _).alloc (Nat.le_refl _) _).trans (hb1.mono (by simp))⟩
set_option maxHeartbeats 400000 in
theorem rbz_any (g:Geo) (w:World):Calls Tryz.prog 29 #[.agg #[.int .i64 g.random,.int .i64 g.bands,.int .i64 g.tracks,.int .i64 g.sectors,.int .i64 g.overlap]] w fun e w'=>e= .returned (.int .i64 (bzN g))∧Below w.heap.size w w':=by
 cases hv:validG g
 ·have HZ:Hid (bzN g=0):=by unfold Hid bzN; rw [hv]; rfl
  go_enter Tryz.func29,Tryz.ntmps29
  go_wp2_with fail
  refine (rgvalid_any g _).mono ?_
  rintro e w1 ⟨rfl,hb1⟩
  rw [hv]
  clear hv
  go_wp2
  go_ret
  exact ⟨by rw [HZ.out]; rfl,((Below.refl _ _).alloc (Nat.le_refl _) _).trans (hb1.mono (by simp))⟩
 ·have hg:=(validG_iff g).1 hv
  have h0:=hg.t0; have h1:=hg.t1; have h2:=hg.s0; have h3:=hg.s1
  have h4:=hg.bz
  have HZ:=Lib.hid (bzN_valid hg)
  go_enter Tryz.func29,Tryz.ntmps29
  go_wp2_with fail
  refine (rgvalid_any g _).mono ?_
  rintro e w1 ⟨rfl,hb1⟩
  rw [hv]
  clear hv hg
  have PG:=(Cells5.new w 42 _ _ _ _ _).below hb1 (by simp)
  have p0:=PG.c0; have p1:=PG.c1; have p2:=PG.c2; have p3:=PG.c3; have p4:=PG.c4
  go_wp2
  go_ret
  exact ⟨by rw [HZ.out]; rfl,((Below.refl _ _).alloc (Nat.le_refl _) _).trans (hb1.mono (by simp))⟩
set_option maxHeartbeats 400000 in
theorem gsz_any (g:Geo) (w:World):Calls Tryz.prog 58 #[.agg #[.int .i64 g.random,.int .i64 g.bands,.int .i64 g.tracks,.int .i64 g.sectors,.int .i64 g.overlap]] w fun e w'=>e= .returned (.int .i64 (szN g))∧Below w.heap.size w w':=by
 cases hv:validG g
 ·have HZ:Hid (szN g=0):=by unfold Hid szN; rw [hv]; rfl
  go_enter Tryz.func58,Tryz.ntmps58
  go_wp2_with fail
  refine (gvalid_any g _).mono ?_
  rintro e w1 ⟨rfl,hb1⟩
  rw [hv]
  clear hv
  go_wp2
  go_ret
  exact ⟨by rw [HZ.out]; rfl,((Below.refl _ _).alloc (Nat.le_refl _) _).trans (hb1.mono (by simp))⟩
 ·have hg:=(validG_iff g).1 hv
  have h4:=hg.bz
  have h5:=hg.sz
  have h6:=hg.r0; have h7:=hg.r1
  have HZ:=Lib.hid (szN_valid hg)
  have HB:∀ W,Calls Tryz.prog 90 #[.agg #[.int .i64 g.random,.int .i64 g.bands,.int .i64 g.tracks,.int .i64 g.sectors,.int .i64 g.overlap]] W fun e w'=>e= .returned (.int .i64 (g.tracks * g.sectors))∧Below W.heap.size W w':=fun W=>by
   have:=gbz_any g W; rw [bzN_valid hg] at this; exact this
  have HB':=Lib.hid HB
  clear HB
  go_enter Tryz.func58,Tryz.ntmps58
  go_wp2_with fail
  refine (gvalid_any g _).mono ?_
  rintro e w1 ⟨rfl,hb1⟩
  rw [hv]
  clear hv hg
  have PG:=(Cells5.new w 42 _ _ _ _ _).below hb1 (by simp)
  have hbl1:Below w.heap.size w w1:=((Below.refl _ _).alloc (Nat.le_refl _) _).trans (hb1.mono (by simp))
  have hz1:w.heap.size < w1.heap.size:=by have:=hb1.size; simp at this; omega
  go_wp2_with fail
  have s0:=Held.cell PG.c0 hz1; have s1:=Held.cell PG.c1 hz1; have s2:=Held.cell PG.c2 hz1; have s3:=Held.cell PG.c3 hz1; have s4:=Held.cell PG.c4 hz1
  have p0:=PG.c0; have p1:=PG.c1; have p2:=PG.c2; have p3:=PG.c3; have p4:=PG.c4
  generalize g.tracks * g.sectors=Z at *
  have hw1:IntKind.i64.wrap (g.bands * Z)=g.bands * Z:=by rw [IntKind.wrap_i64]; omega
  have hw2:IntKind.i64.wrap (g.random+g.bands * Z)=g.random+g.bands * Z:=by rw [IntKind.wrap_i64]; omega
  have hne:Nonempty (Held (Below w1.heap.size w1)):=⟨⟨_,(Held.drew_below (Nat.le_refl _))⟩⟩
  refine wp_region_heldq (S:=(Below w1.heap.size w1)) (by kernel_rfl) (by kernel_rfl) (Held.drew_below (Nat.le_refl _)) ?_
  repeat (go_big_quiet_step ((go_at_call 90; exact Calls.held_below (Nat.le_refl _) (HB'.out _))))
  refine wpQuiet_nil ?_
  intro _ hw'
  obtain ⟨sq,hw''⟩:=hw'
  subst hw''
  clear hne
  go_wp2
  go_ret
  exact ⟨by rw [HZ.out]; rfl,hbl1.trans (sq.h.mono hbl1.size)⟩
set_option maxHeartbeats 400000 in
theorem rsz_any (g:Geo) (w:World):Calls Tryz.prog 51 #[.agg #[.int .i64 g.random,.int .i64 g.bands,.int .i64 g.tracks,.int .i64 g.sectors,.int .i64 g.overlap]] w fun e w'=>e= .returned (.int .i64 (szN g))∧Below w.heap.size w w':=by
 cases hv:validG g
 ·have HZ:Hid (szN g=0):=by unfold Hid szN; rw [hv]; rfl
  go_enter Tryz.func51,Tryz.ntmps51
  go_wp2_with fail
  refine (rgvalid_any g _).mono ?_
  rintro e w1 ⟨rfl,hb1⟩
  rw [hv]
  clear hv
  go_wp2
  go_ret
  exact ⟨by rw [HZ.out]; rfl,((Below.refl _ _).alloc (Nat.le_refl _) _).trans (hb1.mono (by simp))⟩
 ·have hg:=(validG_iff g).1 hv
  have h4:=hg.bz
  have h5:=hg.sz
  have h6:=hg.r0; have h7:=hg.r1
  have HZ:=Lib.hid (szN_valid hg)
  have HB:∀ W,Calls Tryz.prog 29 #[.agg #[.int .i64 g.random,.int .i64 g.bands,.int .i64 g.tracks,.int .i64 g.sectors,.int .i64 g.overlap]] W fun e w'=>e= .returned (.int .i64 (g.tracks * g.sectors))∧Below W.heap.size W w':=fun W=>by
   have:=rbz_any g W; rw [bzN_valid hg] at this; exact this
  have HB':=Lib.hid HB
  clear HB
  go_enter Tryz.func51,Tryz.ntmps51
  go_wp2_with fail
  refine (rgvalid_any g _).mono ?_
  rintro e w1 ⟨rfl,hb1⟩
  rw [hv]
  clear hv hg
  have PG:=(Cells5.new w 42 _ _ _ _ _).below hb1 (by simp)
  have hbl1:Below w.heap.size w w1:=((Below.refl _ _).alloc (Nat.le_refl _) _).trans (hb1.mono (by simp))
  have hz1:w.heap.size < w1.heap.size:=by have:=hb1.size; simp at this; omega
  go_wp2_with fail
  have s0:=Held.cell PG.c0 hz1; have s1:=Held.cell PG.c1 hz1; have s2:=Held.cell PG.c2 hz1; have s3:=Held.cell PG.c3 hz1; have s4:=Held.cell PG.c4 hz1
  have p0:=PG.c0; have p1:=PG.c1; have p2:=PG.c2; have p3:=PG.c3; have p4:=PG.c4
  generalize g.tracks * g.sectors=Z at *
  have hw1:IntKind.i64.wrap (g.bands * Z)=g.bands * Z:=by rw [IntKind.wrap_i64]; omega
  have hw2:IntKind.i64.wrap (g.random+g.bands * Z)=g.random+g.bands * Z:=by rw [IntKind.wrap_i64]; omega
  have hne:Nonempty (Held (Below w1.heap.size w1)):=⟨⟨_,(Held.drew_below (Nat.le_refl _))⟩⟩
  refine wp_region_heldq (S:=(Below w1.heap.size w1)) (by kernel_rfl) (by kernel_rfl) (Held.drew_below (Nat.le_refl _)) ?_
  repeat (go_big_quiet_step ((go_at_call 29; exact Calls.held_below (Nat.le_refl _) (HB'.out _))))
  refine wpQuiet_nil ?_
  intro _ hw'
  obtain ⟨sq,hw''⟩:=hw'
  subst hw''
  clear hne
  go_wp2
  go_ret
  exact ⟨by rw [HZ.out]; rfl,hbl1.trans (sq.h.mono hbl1.size)⟩
end Go.Proofs.YtggkengmlkhdiaaGreat
