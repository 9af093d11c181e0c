/-
  WHAT IS SHOWN: plain facts on memory, of no program: a slice that reads as a list of cells; lists that are written out cell by cell. a region that draws its order, whose operations read and whose calls make memory, is walked once, in the order of its text: the worlds in which it may stand are those that meet one condition. plain facts on memory, of no program: worlds that differ in some blocks alone; slices of bytes; structs behind pointers. plain facts on geometries: places, addresses and shadows of sectors. plain facts, of no program, on the encodings of codec: numbers as bytes, and back. plain facts on memory and bytes; what Clone of bytes returns. what Sum of crc64 and of tegularef08 return: the same number. what AppendUint of codec and of tegularef09 return: the bytes, and those of the number behind them. Conditions: as each theorem names them.
-/
import Derived.WalkKit
import Derived.WalkSpells
import Derived.WalkLawsBesides
import Derived.Lib.Hide
import Derived.Laws.OwnMore
import Derived.Deep.Draws
import Derived.Deep.QuietTactic
import Derived.BigQuiet
import Derived.Laws.Rows
import Derived.Test.YtaggiceejcegdaaGreatRows
import Derived.Handy
import Derived.Laws.BytesArg
import Derived.Lib.ConvBytes
import Derived.Deep.AppendLies
import Derived.Lib.VarintBits
namespace Go.Proofs.YtaggiceejcegdaaGreat
set_option linter.unusedVariables false
open Go.RowKit
theorem add_off (g o j : Nat) : (⟨g,o,none⟩ : Addr).add j = ⟨g,o + j,none⟩:=by
 unfold Addr.add; by_cases h : j = 0 <;> simp [h]
def Rd (w : World) (B : Nat) (A : Option Addr) (xs : List Value) : Prop:=
 ∀ j u,xs[j]? = some u → ∃ g o,A = some ⟨g,o,none⟩ ∧ g < B ∧ w.cell? ⟨g,o + j,none⟩ = some u
section
variable {w w' : World} {B B' : Nat} {A : Option Addr} {xs : List Value}
theorem Rd.nil_ (w : World) (B : Nat) (A : Option Addr) : Rd w B A []:=fun j u h=>by simp at h
theorem Rd.keep (h : Rd w B A xs) (hk : ∀ p : Addr,p.block < B → w'.cell? p = w.cell? p) : Rd w' B A xs:=fun j u hu=>by
 obtain ⟨g,o,e,hg,hc⟩:=h j u hu
 exact ⟨g,o,e,hg,(hk _ hg).trans hc⟩
theorem Rd.more (h : Rd w B A xs) (hB : B ≤ B') : Rd w B' A xs:=fun j u hu=>by
 obtain ⟨g,o,e,hg,hc⟩:=h j u hu
 exact ⟨g,o,e,by omega,hc⟩
theorem Rd.below {C : Nat} (h : Rd w B A xs) (hb : Below C w w') (hC : B ≤ C) : Rd w' B A xs:=h.keep fun _ hp=>hb.cell (by omega)
theorem Rd.drewN (h : Rd w B A xs) (k : Nat) : Rd (w.drewN k) B A xs:=h
theorem Rd.alloc (h : Rd w B A xs) (hB : B ≤ w.heap.size) (o : Obj) : Rd (w.alloc o) B A xs:=h.keep fun p hp=>World.cell?_alloc_lt w o p (by omega)
theorem Rd.take (h : Rd w B A xs) (n : Nat) : Rd w B A (xs.take n):=fun j u hu=>by
 rw [List.getElem?_take] at hu
 split at hu
 ·exact h j u hu
 ·cases hu
theorem Rd.of_own {base : Nat} {e : TypeId} {size n c : Nat} (h : w.ownsRow base e size (.slice A n c) n xs) : Rd w w.heap.size A xs:=fun j u hu=>by
 obtain ⟨hl,h2⟩:=h
 rcases h2 with ⟨h2,hn⟩ | ⟨g,cap,cur,hv,_,hh,_,_,_,ht⟩
 ·subst hn; simp at hl; subst hl; simp at hu
 ·injection hv with hA
  refine ⟨g,0,hA,?_,?_⟩
  ·exact lt_of_block hh
  ·rw [Nat.zero_add,cell_of_row w g j cur e (0,0) hh]
   rw [← ht,List.getElem?_take] at hu
   split at hu
   ·simpa using hu
   ·cases hu
end
theorem own_form {w : World} {base : Nat} {e : TypeId} {size n : Nat} {v : Value} {xs : List Value} (h : w.ownsRow base e size v n xs) : ∃ A c,v = .slice A n c:=by
 rcases h.2 with ⟨rfl,rfl⟩ | ⟨g,cap,cur,rfl,_⟩
 ·exact ⟨_,_,rfl⟩
 ·exact ⟨_,_,rfl⟩
theorem own_mono {w : World} {base base' : Nat} {e : TypeId} {size n : Nat} {v : Value} {xs : List Value} (h : w.ownsRow base e size v n xs) (hb : base' ≤ base) : w.ownsRow base' e size v n xs:=by
 refine ⟨h.1,?_⟩
 rcases h.2 with h2 | ⟨g,cap,cur,h1,h2,h3⟩
 ·exact .inl h2
 ·exact .inr ⟨g,cap,cur,h1,Nat.le_trans hb h2,h3⟩
theorem own_at {w : World} {base : Nat} {e : TypeId} {size n c : Nat} {A : Option Addr} {xs : List Value} (h : w.ownsRow base e size (.slice A n c) n xs) (hn : 0 < n) : ∃ g,A = some ⟨g,0,none⟩ ∧ base ≤ g ∧ g < w.heap.size:=by
 rcases h.2 with ⟨_,h2⟩ | ⟨g,cap,cur,hv,hb,hh,_⟩
 ·omega
 ·injection hv with hA
  exact ⟨g,hA,hb,lt_of_block hh⟩
theorem flat_get {α : Type} (f : α → List Value) (n : Nat) (hf : ∀ a,(f a).length = n) : ∀ (l : List α) (i t : Nat),t < n → (l.flatMap f)[i * n + t]? = (l[i]?).bind fun a=>(f a)[t]?
 | [],i,t,_=>by simp
 | a :: l,0,t,ht=>by
   rw [List.flatMap_cons,Nat.zero_mul,Nat.zero_add,List.getElem?_append_left (by rw [hf]; exact ht)]
   simp
 | a :: l,i + 1,t,ht=>by
   rw [List.flatMap_cons,List.getElem?_append_right (by rw [hf,Nat.add_mul]; omega),hf]
   rw [show (i + 1) * n + t - n = i * n + t from by rw [Nat.add_mul]; omega,flat_get f n hf l i t ht]
   simp
theorem flat_len {α : Type} (f : α → List Value) (n : Nat) (hf : ∀ a,(f a).length = n) (l : List α) : (l.flatMap f).length = l.length * n:=by
 induction l with
 | nil=>simp
 | cons a l ih=>rw [List.flatMap_cons,List.length_append,ih,hf,List.length_cons,Nat.add_mul]; omega
theorem bcell {W w1 : World} {B : Nat} (hb : Below B W w1) : (∀ b o,b < B → w1.cell? ⟨b,o,none⟩ = W.cell? ⟨b,o,none⟩) ∧ (∀ b o,b < B → w1.frozen? ⟨b,o,none⟩ = W.frozen? ⟨b,o,none⟩):=
 ⟨fun b o h=>hb.cell (p:=⟨b,o,none⟩) h,fun b o h=>hb.frozen (p:=⟨b,o,none⟩) h⟩
theorem below_drewN' {B : Nat} {a w : World} (h : Below B a w) (n : Nat) : Below B a (w.drewN n):=⟨h.os,h.tape,h.output,h.size,h.block⟩
structure Cells4 (w : World) (b : Nat) (v0 v1 v2 v3 : Value) : Prop where
 c0 : w.cell? ⟨b,0,none⟩ = some v0
 c1 : w.cell? ⟨b,1,none⟩ = some v1
 c2 : w.cell? ⟨b,2,none⟩ = some v2
 c3 : w.cell? ⟨b,3,none⟩ = some v3
theorem Cells4.new (w : World) (t : TypeId) (v0 v1 v2 v3 : Value) : Cells4 (w.alloc (.cells #[v0,v1,v2,v3] t)) w.heap.size v0 v1 v2 v3:=⟨by simp,by simp,by simp,by simp⟩
end Go.Proofs.YtaggiceejcegdaaGreat
namespace Go.Proofs.YtaggiceejcegdaaGreat
set_option linter.unusedVariables false
open Go.RowKit
theorem cell_new (w : World) (cs : Array Value) (t : TypeId) (n j : Nat) (v : Value) (h : n = w.heap.size) (hv : cs[j]? = some v) : (w.alloc (.cells cs t)).cell? ⟨n,j,none⟩ = some v:=by
 subst h
 simp only [World.cell?_alloc_new]
 simpa using hv
theorem results_tmp4 {fn : Func} {t u s r : Tmp} (h : fn.results = #[.tmp t,.tmp u,.tmp s,.tmp r]) (tmps : Array Value) (P : Program) (w : World) :
  (results fn tmps).run P w = .ok (.tuple #[tmps.getD t undef,tmps.getD u undef,tmps.getD s undef,tmps.getD r undef]) w:=by
 simp [results,h]
structure Cells5 (w : World) (b : Nat) (v0 v1 v2 v3 v4 : Value) : Prop where
 c0 : w.cell? ⟨b,0,none⟩ = some v0
 c1 : w.cell? ⟨b,1,none⟩ = some v1
 c2 : w.cell? ⟨b,2,none⟩ = some v2
 c3 : w.cell? ⟨b,3,none⟩ = some v3
 c4 : w.cell? ⟨b,4,none⟩ = some v4
theorem Cells5.new_at (w : World) (t : TypeId) (n : Nat) (v0 v1 v2 v3 v4 : Value) (h : n = w.heap.size) : Cells5 (w.alloc (.cells #[v0,v1,v2,v3,v4] t)) n v0 v1 v2 v3 v4:=
 ⟨cell_new _ _ _ _ _ _ h rfl,cell_new _ _ _ _ _ _ h rfl,cell_new _ _ _ _ _ _ h rfl,cell_new _ _ _ _ _ _ h rfl,cell_new _ _ _ _ _ _ h rfl⟩
theorem Cells5.new (w : World) (t : TypeId) (v0 v1 v2 v3 v4 : Value) : Cells5 (w.alloc (.cells #[v0,v1,v2,v3,v4] t)) w.heap.size v0 v1 v2 v3 v4:=Cells5.new_at w t _ _ _ _ _ _ rfl
theorem Cells5.below {w w' : World} {B b : Nat} {v0 v1 v2 v3 v4 : Value} (h : Cells5 w b v0 v1 v2 v3 v4) (hb : Below B w w') (hB : b < B) : Cells5 w' b v0 v1 v2 v3 v4:=
 ⟨(hb.cell (p:=⟨b,0,none⟩) hB).trans h.c0,(hb.cell (p:=⟨b,1,none⟩) hB).trans h.c1,(hb.cell (p:=⟨b,2,none⟩) hB).trans h.c2,(hb.cell (p:=⟨b,3,none⟩) hB).trans h.c3,(hb.cell (p:=⟨b,4,none⟩) hB).trans h.c4⟩
structure Held (S : World → Prop) where
 w : World
 h : S w
theorem Held.drew_below {B : Nat} {w : World} (h : B ≤ w.heap.size) : Below B w w.drew:=((Below.refl _ _).mono h).drew
section
variable {P : Program} {S : World → Prop}
theorem wp_region_heldq {id : Nat} {Q : Exit → Act → World → Prop} {a : Act} {w : World} {l : List Oper} (hm : P.follows .mixedOrders = true) (hB : Region.lexB .any l.toArray = true) (hS : S w.drew)
  (h : wpQuiet P l.toArray (fun W=>∃ s : Held S,W = s.w) (fun a'=>∀ W,(∃ s : Held S,W = s.w) → Q .normal a' W) l a) : (Code.region id l.toArray true).wp P Q a w:=
 wp_region_quiet (C:=fun W=>∃ s : Held S,W = s.w) hm hB ⟨⟨w.drew,hS⟩,rfl⟩ (by simpa using h)
theorem Calls.held {f : FuncId} {args : Array Value} {s : Held S} {v : Value} (h : Calls P f args s.w fun e w'=>e = .returned v ∧ S w') : Calls P f args s.w fun e w'=>e = .returned v ∧ ∃ t : Held S,w' = t.w:=
 h.mono fun _ _ ⟨he,hw⟩=>⟨he,⟨_,hw⟩,rfl⟩
theorem Calls.held_below {f : FuncId} {args : Array Value} {B : Nat} {w : World} {s : Held (Below B w)} {v : Value} (hB : B ≤ w.heap.size) (h : Calls P f args s.w fun e w'=>e = .returned v ∧ Below s.w.heap.size s.w w') :
  Calls P f args s.w fun e w'=>e = .returned v ∧ ∃ t : Held (Below B w),w' = t.w:=
 Calls.held (h.mono fun _ _ ⟨he,hb⟩=>⟨he,s.h.trans (hb.mono (Nat.le_trans hB s.h.size))⟩)
theorem Calls.held_same {f : FuncId} {args : Array Value} {s : Held S} {v : Value} (h : Calls P f args s.w fun e w'=>e = .returned v ∧ w' = s.w) : Calls P f args s.w fun e w'=>e = .returned v ∧ ∃ t : Held S,w' = t.w:=
 h.mono fun _ _ ⟨he,hw⟩=>⟨he,s,hw⟩
end
theorem Held.cell {B : Nat} {w : World} {b o : Nat} {v : Value} (h : w.cell? ⟨b,o,none⟩ = some v) (hb : b < B) : ∀ s : Held (Below B w),s.w.cell? ⟨b,o,none⟩ = some v:=fun s=>(s.h.cell (p:=⟨b,o,none⟩) hb).trans h
end Go.Proofs.YtaggiceejcegdaaGreat
namespace Go.Proofs.YtaggiceejcegdaaGreat
set_option linter.unusedVariables false
open Go.RowKit
structure Kept (S : Nat → Prop) (w w' : World) : Prop where
 os : w'.os = w.os
 tape : w'.tape = w.tape
 output : w'.output = w.output
 size : w.heap.size ≤ w'.heap.size
 block : ∀ k,k < w.heap.size → ¬ S k → w'.heap[k]? = w.heap[k]?
section
variable {S T : Nat → Prop} {w w' w'' : World} {B : Nat}
theorem Kept.refl (S : Nat → Prop) (w : World) : Kept S w w:=⟨rfl,rfl,rfl,Nat.le_refl _,fun _ _ _=>rfl⟩
theorem Kept.trans (h : Kept S w w') (k : Kept T w' w'') (hT : ∀ i,i < w.heap.size → T i → S i) : Kept S w w'':=
 ⟨k.os.trans h.os,k.tape.trans h.tape,k.output.trans h.output,Nat.le_trans h.size k.size,fun i hi hS=>(k.block i (Nat.lt_of_lt_of_le hi h.size) (fun ht=>hS (hT i hi ht))).trans (h.block i hi hS)⟩
theorem Kept.more (h : Kept S w w') (hT : ∀ i,i < w.heap.size → S i → T i) : Kept T w w':=⟨h.os,h.tape,h.output,h.size,fun i hi hS=>h.block i hi (fun hs=>hS (hT i hi hs))⟩
theorem belKept (h : Below B w w') : Kept (fun i=>B ≤ i) w w':=⟨h.os,h.tape,h.output,h.size,fun i _ hS=>h.block i (by omega)⟩
theorem belKept0 (h : Below w.heap.size w w') : Kept S w w':=⟨h.os,h.tape,h.output,h.size,fun i hi _=>h.block i hi⟩
theorem Kept.below (h : Kept S w w') (hS : ∀ i,S i → B ≤ i) (hB : B ≤ w.heap.size) : Below B w w':=⟨h.os,h.tape,h.output,h.size,fun i hi=>h.block i (by omega) (fun hs=>by have:=hS i hs; omega)⟩
theorem Kept.below0 (h : Kept (fun _=>False) w w') : Below w.heap.size w w':=h.below (fun _ h=>h.elim) (Nat.le_refl _)
theorem Kept.thenBelow (h : Kept S w w') (k : Below w'.heap.size w' w'') : Kept S w w'':=h.trans (belKept0 (S:=fun _=>False) k) (fun _ _ hf=>hf.elim)
theorem Kept.alloc (h : Kept S w w') (o : Obj) : Kept S w (w'.alloc o):=h.thenBelow ((Below.refl _ _).alloc (Nat.le_refl _) o)
theorem Kept.drew (h : Kept S w w') : Kept S w w'.drew:=⟨h.os,h.tape,h.output,h.size,h.block⟩
theorem Kept.drewN (h : Kept S w w') (n : Nat) : Kept S w (w'.drewN n):=⟨h.os,h.tape,h.output,h.size,h.block⟩
theorem Kept.setCell (h : Kept S w w') {p : Addr} (hp : p.block < w.heap.size → S p.block) (u : Value) : Kept S w (w'.setCell p u):=
 h.trans (T:=fun i=>i = p.block) ⟨rfl,rfl,rfl,by simp,fun i hi hS=>Below.heap_setCell _ _ _ _ hS⟩ (fun i hi e=>by subst e; exact hp hi)
theorem Kept.grown (h : Kept S w w') {row : Option Nat} (hg : w'.grownBy w'' row) (hr : ∀ i,i < w.heap.size → row = some i → S i) : Kept S w w'':=
 h.trans (T:=fun i=>row = some i) ⟨hg.os,hg.tape,hg.output,hg.size,fun i hi hS=>hg.block i hi (fun e=>hS e.symm)⟩ (fun i hi e=>hr i hi e)
theorem Kept.obj (h : Kept S w w') {b : Nat} {o : Obj} (ho : w.heap[b]? = some o) (hS : ¬ S b) : w'.heap[b]? = some o:=(h.block b (lt_of_block ho) hS).trans ho
theorem Kept.cell (h : Kept S w w') {p : Addr} {v : Value} (hc : w.cell? p = some v) (hS : ¬ S p.block) : w'.cell? p = some v:=(World.cell?_of_block (w:=w) (h.block p.block (block_lt_of_cell hc) hS)).trans hc
theorem belObj (h : Below B w w') {b : Nat} {o : Obj} (ho : w.heap[b]? = some o) (hb : b < B) : w'.heap[b]? = some o:=(h.block b hb).trans ho
end
def RdT (w : World) (t : TypeId) (A : Option Addr) (xs : List Value) : Prop:=
 ∀ j u,xs[j]? = some u → ∃ g o cur fr,A = some ⟨g,o,none⟩ ∧ w.heap[g]? = some (.cells cur t fr) ∧ cur[o + j]? = some u
def Free (w : World) (t : TypeId) (S : Nat → Prop) : Prop:=∀ k,S k → k < w.heap.size → ∀ cur fr,w.heap[k]? ≠ some (.cells cur t fr)
section
variable {S T : Nat → Prop} {w w' w'' : World} {t t' : TypeId} {A : Option Addr} {xs : List Value}
theorem Free.none (w : World) (t : TypeId) : Free w t (fun _=>False):=fun _ h=>h.elim
theorem Free.one {b : Nat} {cs : Array Value} {fr : Nat × Nat} (h : w.heap[b]? = some (.cells cs t' fr)) (ht : t' ≠ t) : Free w t (fun k=>k = b):=fun k hk _ cur fr' e=>by
 subst hk; rw [h] at e; injection e with e; injection e with _ e; exact ht e
theorem Free.or (h : Free w t S) (k : Free w t T) : Free w t (fun i=>S i ∨ T i):=fun i hi hl=>by
 rcases hi with hi | hi
 ·exact h i hi hl
 ·exact k i hi hl
theorem RdT.kept (h : RdT w t A xs) (hk : Kept S w w') (hf : Free w t S) : RdT w' t A xs:=fun j u hu=>by
 obtain ⟨g,o,cur,fr,e,hg,hc⟩:=h j u hu
 exact ⟨g,o,cur,fr,e,(hk.block g (lt_of_block hg) (fun hs=>hf g hs (lt_of_block hg) _ _ hg)).trans hg,hc⟩
theorem RdT.below0 (h : RdT w t A xs) (hk : Below w.heap.size w w') : RdT w' t A xs:=h.kept (belKept0 (S:=fun _=>False) hk) (Free.none _ _)
theorem RdT.rd (h : RdT w t A xs) : Rd w w.heap.size A xs:=fun j u hu=>by
 obtain ⟨g,o,cur,fr,e,hg,hc⟩:=h j u hu
 exact ⟨g,o,e,lt_of_block hg,by rw [cell_of_row w g (o + j) cur t fr hg]; exact hc⟩
theorem RdT.nil (w : World) (t : TypeId) (A : Option Addr) : RdT w t A []:=fun j u h=>by simp at h
theorem RdT.of_own {base : Nat} {size n c : Nat} (h : w.ownsRow base t size (.slice A n c) n xs) : RdT w t A xs:=fun j u hu=>by
 obtain ⟨hl,h2⟩:=h
 rcases h2 with ⟨h2,hn⟩ | ⟨g,cap,cur,hv,_,hh,_,_,_,ht⟩
 ·subst hn; simp at hl; subst hl; simp at hu
 ·injection hv with hA
  refine ⟨g,0,cur,(0,0),hA,hh,?_⟩
  rw [← ht,List.getElem?_take] at hu
  split at hu
  ·simpa using hu
  ·cases hu
end
def Byt (t : TypeId) (w : World) (v : Value) (xs : List Int) : Prop:=∃ A c,v = .slice A xs.length c ∧ RdT w t A (xs.map (Value.int .u8)) ∧ (A = none → c = 0)
theorem own_kept {S : Nat → Prop} {w w' : World} {base : Nat} {e : TypeId} {size n : Nat} {v : Value} {xs : List Value} (h : w.ownsRow base e size v n xs) (hk : Kept S w w') (hS : ∀ k,v.ownBlock = some k → ¬ S k) : w'.ownsRow base e size v n xs:=by
 refine ⟨h.1,?_⟩
 rcases h.2 with h2 | ⟨g,cap,cur,h1,h2,h3,h4⟩
 ·exact .inl h2
 ·exact .inr ⟨g,cap,cur,h1,h2,hk.obj h3 (hS g (by rw [h1]; rfl)),h4⟩
end Go.Proofs.YtaggiceejcegdaaGreat
namespace Go.Proofs.YtaggiceejcegdaaGreat
set_option linter.unusedVariables false
open Go.RowKit
def I64 (n : Int) : Prop:=-9223372036854775808 ≤ n ∧ n ≤ 9223372036854775807
theorem w64_id {x : Int} (h0 : -9223372036854775808 ≤ x) (h1 : x ≤ 9223372036854775807) : wrap64 x = x:=by unfold wrap64; omega
theorem quo_pos {n s : Int} (h0 : 0 ≤ n) (h1 : n ≤ 1000000000) (hs : 1 ≤ s) : wrap64 (n.tdiv s) = n / s ∧ 0 ≤ n / s ∧ n / s ≤ 1000000000 ∧ n.tmod s = n % s:=by
 have h2 : n / s ≤ n:=Int.ediv_le_self _ h0
 have h3 : 0 ≤ n / s:=Int.ediv_nonneg h0 (by omega)
 rw [Int.tdiv_eq_ediv_of_nonneg h0,Int.tmod_eq_emod_of_nonneg h0,w64_id (by omega) (by omega)]
 exact ⟨rfl,h3,by omega,rfl⟩
structure Geo where
 random : Int
 bands : Int
 tracks : Int
 sectors : Int
 overlap : Int
def inR (n lo hi : Int) : Bool:=decide (lo ≤ n) && decide (n ≤ hi)
theorem inR_iff (n lo hi : Int) : inR n lo hi = true ↔ lo ≤ n ∧ n ≤ hi:=by unfold inR; simp
def validG (g : Geo) : Bool:=inR g.random 0 16384 && (inR g.bands 1 64 && (inR g.tracks 1 16 && (inR g.sectors 1 64 && inR g.overlap 0 3)))
structure Vg (g : Geo) : Prop where
 r0 : 0 ≤ g.random
 r1 : g.random ≤ 16384
 b0 : 1 ≤ g.bands
 b1 : g.bands ≤ 64
 t0 : 1 ≤ g.tracks
 t1 : g.tracks ≤ 16
 s0 : 1 ≤ g.sectors
 s1 : g.sectors ≤ 64
 o0 : 0 ≤ g.overlap
 o1 : g.overlap ≤ 3
theorem validG_iff (g : Geo) : validG g = true ↔ Vg g:=by
 unfold validG
 simp only [Bool.and_eq_true,inR_iff]
 constructor
 ·intro h; exact ⟨h.1.1,h.1.2,h.2.1.1,h.2.1.2,h.2.2.1.1,h.2.2.1.2,h.2.2.2.1.1,h.2.2.2.1.2,h.2.2.2.2.1,h.2.2.2.2.2⟩
 ·intro h; exact ⟨⟨h.r0,h.r1⟩,⟨h.b0,h.b1⟩,⟨h.t0,h.t1⟩,⟨h.s0,h.s1⟩,h.o0,h.o1⟩
theorem mul_lim {a b A B : Int} (ha : 0 ≤ a) (hb : 0 ≤ b) (hA : a ≤ A) (hB : b ≤ B) : 0 ≤ a * b ∧ a * b ≤ A * B:=
 ⟨Int.mul_nonneg ha hb,Int.mul_le_mul hA hB hb (Int.le_trans ha hA)⟩
def bz (g : Geo) : Int:=g.tracks * g.sectors
def sz (g : Geo) : Int:=g.random + g.bands * (g.tracks * g.sectors)
theorem Vg.bz {g : Geo} (h : Vg g) : 1 ≤ g.tracks * g.sectors ∧ g.tracks * g.sectors ≤ 1024:=by
 have h1:=mul_lim (a:=g.tracks) (b:=g.sectors) (A:=16) (B:=64) (by have:=h.t0; omega) (by have:=h.s0; omega) h.t1 h.s1
 have h2:=Int.mul_pos (show 0 < g.tracks by have:=h.t0; omega) (show 0 < g.sectors by have:=h.s0; omega)
 omega
theorem Vg.sz {g : Geo} (h : Vg g) : 1 ≤ g.bands * (g.tracks * g.sectors) ∧ g.bands * (g.tracks * g.sectors) ≤ 65536:=by
 have h0:=h.bz
 have h1:=mul_lim (a:=g.bands) (b:=g.tracks * g.sectors) (A:=64) (B:=1024) (by have:=h.b0; omega) (by omega) h.b1 h0.2
 have h2:=Int.mul_pos (show 0 < g.bands by have:=h.b0; omega) (show 0 < g.tracks * g.sectors by omega)
 omega
def bzN (g : Geo) : Int:=if validG g then g.tracks * g.sectors else 0
def szN (g : Geo) : Int:=if validG g then g.random + g.bands * (g.tracks * g.sectors) else 0
theorem bzN_valid {g : Geo} (h : Vg g) : bzN g = g.tracks * g.sectors:=by unfold bzN; rw [if_pos ((validG_iff g).2 h)]
theorem szN_valid {g : Geo} (h : Vg g) : szN g = g.random + g.bands * (g.tracks * g.sectors):=by unfold szN; rw [if_pos ((validG_iff g).2 h)]
theorem szN_bound (g : Geo) : 0 ≤ szN g ∧ szN g ≤ 81920:=by
 unfold szN
 split
 ·rename_i h
  have hv:=(validG_iff g).1 h
  have:=hv.sz; have:=hv.r0; have:=hv.r1; omega
 ·omega
structure Loc where
 band : Int
 track : Int
 pos : Int
 e : Int
def locN (g : Geo) (a : Int) : Loc:=
 if validG g then (if inR a g.random (szN g - 1) then ⟨(a - g.random) / g.sectors / g.tracks,(a - g.random) / g.sectors % g.tracks,(a - g.random) % g.sectors,0⟩ else ⟨0,0,0,2⟩) else ⟨0,0,0,1⟩
theorem loc_invalid {g : Geo} (a : Int) (h : validG g = false) : locN g a = ⟨0,0,0,1⟩:=by unfold locN; rw [h]; rfl
theorem loc_out {g : Geo} {a : Int} (h : validG g = true) (ha : inR a g.random (szN g - 1) = false) : locN g a = ⟨0,0,0,2⟩:=by unfold locN; rw [h,ha]; rfl
theorem loc_in {g : Geo} {a : Int} (h : validG g = true) (ha : inR a g.random (szN g - 1) = true) : locN g a = ⟨(a - g.random) / g.sectors / g.tracks,(a - g.random) / g.sectors % g.tracks,(a - g.random) % g.sectors,0⟩:=by unfold locN; rw [h,ha]; rfl
theorem div_lt_of {n a b : Int} (hb : 0 < b) (h : n < a * b) : n / b < a:=Int.ediv_lt_of_lt_mul hb h
theorem loc_spec {g : Geo} {a : Int} (h : Vg g) (h0 : g.random ≤ a) (h1 : a < g.random + g.bands * (g.tracks * g.sectors)) :
  0 ≤ (a - g.random) / g.sectors / g.tracks ∧ (a - g.random) / g.sectors / g.tracks < g.bands ∧ 0 ≤ (a - g.random) / g.sectors % g.tracks ∧ (a - g.random) / g.sectors % g.tracks < g.tracks ∧
  0 ≤ (a - g.random) % g.sectors ∧ (a - g.random) % g.sectors < g.sectors ∧ g.random + ((a - g.random) / g.sectors / g.tracks * g.tracks + (a - g.random) / g.sectors % g.tracks) * g.sectors + (a - g.random) % g.sectors = a:=by
 have ht:=h.t0
 have hs:=h.s0
 have e1:=Int.mul_ediv_add_emod (a - g.random) g.sectors
 have e2:=Int.mul_ediv_add_emod ((a - g.random) / g.sectors) g.tracks
 have m1:=Int.emod_nonneg (a - g.random) (show g.sectors ≠ 0 by omega)
 have m2:=Int.emod_lt_of_pos (a - g.random) (show 0 < g.sectors by omega)
 have m3:=Int.emod_nonneg ((a - g.random) / g.sectors) (show g.tracks ≠ 0 by omega)
 have m4:=Int.emod_lt_of_pos ((a - g.random) / g.sectors) (show 0 < g.tracks by omega)
 have d1 : 0 ≤ (a - g.random) / g.sectors:=Int.ediv_nonneg (by omega) (by omega)
 have d2 : 0 ≤ (a - g.random) / g.sectors / g.tracks:=Int.ediv_nonneg d1 (by omega)
 have d3 : (a - g.random) / g.sectors < g.bands * g.tracks:=div_lt_of (by omega) (by rw [Int.mul_assoc]; omega)
 have d4 : (a - g.random) / g.sectors / g.tracks < g.bands:=div_lt_of (by omega) d3
 refine ⟨d2,d4,m3,m4,m1,m2,?_⟩
 rw [Int.mul_comm ((a - g.random) / g.sectors / g.tracks) g.tracks,e2,Int.mul_comm ((a - g.random) / g.sectors)]
 omega
def adrN (g : Geo) (b t p : Int) : Int × Int:=
 if validG g then (if inR b 0 (g.bands - 1) && (inR t 0 (g.tracks - 1) && inR p 0 (g.sectors - 1)) then (g.random + (b * g.tracks + t) * g.sectors + p,0) else (0,2)) else (0,1)
def shCnt (g : Geo) (t : Int) : Nat:=(min g.overlap (g.tracks - 1 - t)).toNat
def shadowL (g : Geo) (a : Int) : List Int:=if (locN g a).e = 0 then (List.range (shCnt g (locN g a).track)).map fun (i : Nat)=>a + ((i : Int) + 1) * g.sectors else []
end Go.Proofs.YtaggiceejcegdaaGreat
namespace Go.Proofs.YtaggiceejcegdaaGreat
set_option linter.unusedVariables false
def uintF : Nat → Nat → List Int
 | 0,_=>[]
 | k + 1,n=>if n < 128 then [(n : Int)] else ((n % 128 + 128 : Nat) : Int) :: uintF k (n / 128)
def uintB (n : Nat) : List Int:=uintF 10 n
theorem uintF_small {k n : Nat} (h : n < 128) : uintF (k + 1) n = [(n : Int)]:=by unfold uintF; rw [if_pos h]
theorem uintF_big {k n : Nat} (h : ¬ n < 128) : uintF (k + 1) n = ((n % 128 + 128 : Nat) : Int) :: uintF k (n / 128):=by
 conv=>lhs; unfold uintF
 rw [if_neg h]
theorem uintF_u8 : ∀ (k n : Nat),∀ x ∈ uintF k n,0 ≤ x ∧ x ≤ 255
 | 0,_,x,h=>by simp [uintF] at h
 | k + 1,n,x,h=>by
   by_cases hn : n < 128
   ·rw [uintF_small hn] at h; simp at h; omega
   ·rw [uintF_big hn] at h
    rcases List.mem_cons.1 h with h | h
    ·subst h; omega
    ·exact uintF_u8 k (n / 128) x h
theorem uintF_len : ∀ (k n : Nat),(uintF k n).length ≤ k
 | 0,_=>by simp [uintF]
 | k + 1,n=>by
   by_cases hn : n < 128
   ·rw [uintF_small hn]; simp
   ·rw [uintF_big hn]
    have:=uintF_len k (n / 128)
    simp; omega
theorem uintB_len (n : Nat) : (uintB n).length ≤ 10:=uintF_len 10 n
theorem uintB_pos (n : Nat) : 0 < (uintB n).length:=by
 unfold uintB
 by_cases h : n < 128
 ·rw [uintF_small h]; simp
 ·rw [uintF_big h]; simp
theorem uintB_u8 (n : Nat) : ∀ x ∈ uintB n,0 ≤ x ∧ x ≤ 255:=uintF_u8 10 n
def zigN (n : Int) : Nat:=if 0 ≤ n then (2 * n).toNat else (-2 * n - 1).toNat
def uintGo : Nat → Nat → List Int → Option (Nat × List Int)
 | _,_,[]=>none
 | i,n,c :: r=>
   if 9 < i then none
   else if i = 9 ∧ 1 < c then none
   else if c < 128 then (if c = 0 ∧ 0 < i then none else some (n + (c % 128).toNat * 2 ^ (7 * i),r))
   else uintGo (i + 1) (n + (c % 128).toNat * 2 ^ (7 * i)) r
def uintD (xs : List Int) : Option (Nat × List Int):=uintGo 0 0 xs
structure Rdr where
 rest : List Int
 bad : Bool
def Rdr.ok (r : Rdr) : Prop:=r.bad = true → r.rest = []
def Rdr.fail : Rdr:=⟨[],true⟩
def Rdr.uint (r : Rdr) : Nat × Int × Rdr:=match uintD r.rest with
 | some (n,l)=>(n,0,⟨l,r.bad⟩)
 | none=>(0,5,Rdr.fail)
def Rdr.take (r : Rdr) (n : Nat) : List Int × Int × Rdr:=if r.bad = true ∨ r.rest.length < n then ([],5,Rdr.fail) else (r.rest.take n,0,⟨r.rest.drop n,r.bad⟩)
def Rdr.bytes (r : Rdr) : List Int × Int × Rdr:=if r.uint.2.1 = 0 then r.uint.2.2.take r.uint.1 else ([],r.uint.2.1,r.uint.2.2)
def Rdr.count (r : Rdr) (m : Nat) : Nat × Int × Rdr:=if r.uint.2.1 = 0 ∧ m < r.uint.1 then (0,5,Rdr.fail) else r.uint
def Rdr.blk (r : Rdr) : List Int × Int × Rdr:=(if (r.take 8).2.1 = 0 then (r.take 8).1 else [0,0,0,0,0,0,0,0],(r.take 8).2)
def zagN (n : Nat) : Int:=if n % 2 = 0 then ((n / 2 : Nat) : Int) else -((n / 2 : Nat) : Int) - 1
theorem zag_zig {n : Int} : zagN (zigN n) = n:=by
 unfold zagN zigN
 split <;> split <;> omega
def Rdr.done (r : Rdr) : Int:=if r.bad = true ∨ 0 < r.rest.length then 5 else 0
theorem uintGo_lt : ∀ (l : List Int) (i n : Nat) (m : Nat) (r : List Int),(∀ x ∈ l,0 ≤ x ∧ x ≤ 255) → i ≤ 9 → n < 2 ^ (7 * i) → uintGo i n l = some (m,r) → m < 2 ^ 64 ∧ ∃ p,l = p ++ r
 | [],i,n,m,r,_,_,_,h=>by simp [uintGo] at h
 | c :: l,i,n,m,r,hu,hi,hn,h=>by
   have hc:=hu c (by simp)
   unfold uintGo at h
   rw [if_neg (by omega)] at h
   split at h
   ·cases h
   rename_i h9
   have e7 : 2 ^ (7 * (i + 1)) = 2 ^ (7 * i) * 128:=by rw [show 7 * (i + 1) = 7 * i + 7 by omega,Nat.pow_add]
   have hcm : (c % 128).toNat ≤ 127:=by omega
   have hmul : (c % 128).toNat * 2 ^ (7 * i) ≤ 127 * 2 ^ (7 * i):=Nat.mul_le_mul_right _ hcm
   have hlt : n + (c % 128).toNat * 2 ^ (7 * i) < 2 ^ (7 * (i + 1)):=by rw [e7]; omega
   split at h
   ·split at h
    ·cases h
    ·injection h with h; injection h with h1 h2
     subst h1; subst h2
     refine ⟨?_,[c],rfl⟩
     by_cases h9' : i = 9
     ·subst h9'
      have : c ≤ 1:=by omega
      have : (c % 128).toNat ≤ 1:=by omega
      have : (c % 128).toNat * 2 ^ (7 * 9) ≤ 1 * 2 ^ (7 * 9):=Nat.mul_le_mul_right _ this
      omega
     ·have : 2 ^ (7 * (i + 1)) ≤ 2 ^ 63:=Nat.pow_le_pow_right (by decide) (by omega)
      omega
   ·have hi' : i + 1 ≤ 9:=by
     by_cases h9' : i = 9
     ·omega
     ·omega
    obtain ⟨h1,p,hp⟩:=uintGo_lt l (i + 1) _ m r (fun x hx=>hu x (by simp [hx])) hi' hlt h
    exact ⟨h1,c :: p,by rw [hp]; rfl⟩
theorem uintD_lt {l : List Int} {m : Nat} {r : List Int} (hu : ∀ x ∈ l,0 ≤ x ∧ x ≤ 255) (h : uintD l = some (m,r)) : m < 2 ^ 64 ∧ ∃ p,l = p ++ r:=uintGo_lt l 0 0 m r hu (by omega) (by decide) h
theorem uintGo_F : ∀ (k i n m : Nat) (r : List Int),k + i = 10 → n + m * 2 ^ (7 * i) < 2 ^ 64 → (0 < i → 0 < m) → uintGo i n (uintF k m ++ r) = some (n + m * 2 ^ (7 * i),r)
 | 0,i,n,m,r,hk,hm,h0=>by
   obtain rfl : i = 10:=by omega
   have:=h0 (by omega)
   have h2 : 1 * 2 ^ (7 * 10) ≤ m * 2 ^ (7 * 10):=Nat.mul_le_mul_right _ (by omega)
   have h3 : (2 : Nat) ^ 64 < 2 ^ (7 * 10):=by decide
   omega
 | k + 1,i,n,m,r,hk,hm,h0=>by
   have h9 : i = 9 → m ≤ 1:=fun e=>by
    subst e
    have h3 : (2 : Nat) ^ 64 = 2 * 2 ^ (7 * 9):=by decide
    rw [h3] at hm
    have : m * 2 ^ (7 * 9) < 2 * 2 ^ (7 * 9):=by omega
    have:=Nat.lt_of_mul_lt_mul_right this
    omega
   by_cases hn : m < 128
   ·rw [uintF_small hn]
    show uintGo i n ((m : Int) :: r) = _
    unfold uintGo
    rw [if_neg (by omega),if_neg (by rintro ⟨h1,h2⟩; have:=h9 h1; omega),if_pos (by omega),if_neg (by rintro ⟨h1,h2⟩; have:=h0 h2; omega)]
    have : ((m : Int) % 128).toNat = m:=by omega
    rw [this]
   ·rw [uintF_big hn]
    show uintGo i n (((m % 128 + 128 : Nat) : Int) :: (uintF k (m / 128) ++ r)) = _
    unfold uintGo
    rw [if_neg (by omega),if_neg (by rintro ⟨h1,h2⟩; have:=h9 h1; omega),if_neg (by omega)]
    have hc : (((m % 128 + 128 : Nat) : Int) % 128).toNat = m % 128:=by omega
    rw [hc]
    have e7 : 2 ^ (7 * (i + 1)) = 128 * 2 ^ (7 * i):=by rw [show 7 * (i + 1) = 7 * i + 7 by omega,Nat.pow_add,Nat.mul_comm]
    have es : n + m % 128 * 2 ^ (7 * i) + m / 128 * 2 ^ (7 * (i + 1)) = n + m * 2 ^ (7 * i):=by
     rw [e7,← Nat.mul_assoc,Nat.add_assoc,← Nat.add_mul]
     congr 2
     omega
    rw [uintGo_F k (i + 1) _ (m / 128) r (by omega) (by rw [es]; exact hm) (fun _=>by omega),es]
theorem uintD_B {m : Nat} (hm : m < 2 ^ 64) (r : List Int) : uintD (uintB m ++ r) = some (m,r):=by
 unfold uintD uintB
 rw [uintGo_F 10 0 0 m r rfl (by simpa using hm) (fun h=>by omega)]
 simp
end Go.Proofs.YtaggiceejcegdaaGreat
namespace Go.Proofs.YtaggiceejcegdaaGreat
set_option linter.unusedVariables false
open Go.RowKit
theorem qown_type {w : World} {base : Nat} {e : TypeId} {size n c g : Nat} {xs : List Value} (h : w.ownsRow base e size (.slice (some ⟨g,0,none⟩) n c) n xs) : ∃ cur,w.heap[g]? = some (.cells cur e (0,0)):=by
 rcases h.2 with ⟨h2,_⟩ | ⟨g',cap,cur,h1,_,h3,_⟩
 ·cases h2
 ·injection h1 with h1; injection h1 with h1; injection h1 with h1; subst h1
  exact ⟨cur,h3⟩
theorem qinfo_u8 : (Tryz.prog.info? 5).map (fun i=>(i.zero,i.size,i.bytes)) = some (some (.int .u8 0),1,1):=by kernel_rfl
theorem Rd.qat_add {w : World} {B : Nat} {a : Addr} {xs : List Value} (h : Rd w B (some a) xs) : ∀ j u,xs[j]? = some u → w.cell? (a.add j) = some u:=fun j u hu=>by
 obtain ⟨g,o,e,_,hc⟩:=h j u hu
 injection e with e; subst e
 rw [add_off]; exact hc
theorem Rd.qat_none {w : World} {B : Nat} {xs : List Value} (h : Rd w B none xs) : xs = []:=by
 cases xs with
 | nil=>rfl
 | cons b l=>obtain ⟨g,o,e,_⟩:=h 0 b rfl; cases e
theorem qbytes_one (xs : List Int) : ∀ u ∈ xs.map (Value.int .u8),u.oneCell' = true:=by
 intro u hu
 obtain ⟨b,_,rfl⟩:=List.mem_map.1 hu
 rfl
def U8s (xs : List Int) : Prop:=∀ x ∈ xs,0 ≤ x ∧ x ≤ 255
def NewO (w : World) (xs : List Int) (e : Ending) (w' : World) : Prop:=∃ A c,e = .returned (.slice A xs.length c) ∧ w'.ownsRow w.heap.size 5 1 (.slice A xs.length c) xs.length (xs.map (Value.int .u8)) ∧ Below w.heap.size w w'
set_option maxRecDepth 100000 in
set_option maxHeartbeats 400000 in
theorem cloneo_any (xs : List Int) (A : Option Addr) (c : Nat) (w : World) (hr : Rd w w.heap.size A (xs.map (Value.int .u8))) (hn : xs.length ≤ 1000000) :
  Calls Tryz.prog 82 #[.slice A xs.length c] w (NewO w xs):=by
 obtain ⟨i0,hi,hz0,hz1,hz2⟩:=info_parts qinfo_u8
 have hnil:=fun (w : World) a n c=>Lib.run_eql_slice_nil (P:=Tryz.prog) w 26 5 a n c 0 0 Tryz.underlying26
 cases A with
 | none=>
   have hx:=hr.qat_none
   obtain rfl : xs = []:=by cases xs; rfl; simp at hx
   go_enter Tryz.func82,Tryz.ntmps82
   go_wp2
   go_ret
   exact ⟨none,0,rfl,World.ownsRow_nil _ _ _ _,Below.refl _ _⟩
 | some a=>
   have hro:=World.ownsRow_lit (base:=w.heap.size) (e:=5) (size:=1) w #[] 0 (Nat.le_refl _) (by decide) rfl
   have hla:=hr.alloc (Nat.le_refl _) (.cells #[] 5)
   go_enter Tryz.func82,Tryz.ntmps82
   go_wp2_with (at_builtin; refine wpList_append_own _ rfl _ _ 26 rfl w.heap.size 5 i0 _ 1 1 Tryz.underlying26 hi hz0 hz1 hz2 rfl (by decide) _ 0 [] rfl hro a xs.length c (xs.map (Value.int .u8)) rfl (by simp) hla.qat_add (qbytes_one xs) ?c1 ?c2 ?c3 ?_)
   case c1=>unfold maxLen; omega
   case c2=>omega
   intro v' w' hown hgrow hiff
   try simp only [Nat.zero_add,List.nil_append] at hown
   obtain ⟨A',c',hv⟩:=own_form hown
   subst hv
   go_wp2
   go_ret
   exact ⟨A',c',rfl,hown,((Below.refl _ _).alloc (Nat.le_refl _) _).grown hgrow (by simp) (fun k hk=>by simp [Value.ownBlock] at hk; omega)⟩
theorem qgetD_cells {w : World} {B : Nat} {A : Option Addr} {xs : List Int} {b off : Nat} (h : Rd w B A (xs.map (Value.int .u8))) (hA : A = some ⟨b,off,none⟩) : ∀ i,i < xs.length → w.cell? ⟨b,off + i,none⟩ = some (.int .u8 (xs.getD i 0)):=by
 intro i hi
 obtain ⟨g,o,e,_,hc⟩:=h i (.int .u8 xs[i]) (by simp [hi])
 rw [hA] at e
 injection e with e; injection e with e1 e2; subst e1; subst e2
 rw [hc]; simp [List.getD,hi]
set_option maxRecDepth 100000 in
theorem qconv_bytes {w : World} {B : Nat} {A : Option Addr} {xs : List Int} (c : Nat) (h : Rd w B A (xs.map (Value.int .u8))) : (convert 26 9 (.slice A xs.length c)).run Tryz.prog w = .ok (.string (strOfNums xs)) w:=by
 cases A with
 | none=>
   have hx:=h.qat_none
   obtain rfl : xs = []:=by cases xs; rfl; simp at hx
   exact run_convert_bytes_nil w 26 5 Tryz.underlying26 Tryz.underlying5 _ _ 9 Tryz.underlying9
 | some a=>
   cases xs with
   | nil=>
     rw [run_convert_bytes_string w 26 9 5 _ _ c Tryz.underlying26 Tryz.underlying5 Tryz.underlying9]
     rfl
   | cons x xs=>
     obtain ⟨g,o,e,_,hc⟩:=h 0 (.int .u8 x) rfl
     injection e with e
     subst e
     have hcs:=qgetD_cells h rfl
     have key:=run_convert_bytes_arg (P:=Tryz.prog) w 26 5 Tryz.underlying26 Tryz.underlying5 g o (x :: xs).length c (x :: xs) rfl hcs 9 Tryz.underlying9
     exact key
theorem byte_at {w : World} {B : Nat} {A : Option Addr} {xs : List Int} (h : Rd w B A (xs.map (Value.int .u8))) {k : Nat} (hk : k < xs.length) : ∃ g o,A = some ⟨g,o,none⟩ ∧ g < B ∧ w.cell? ⟨g,o + k,none⟩ = some (.int .u8 xs[k]):=by
 obtain ⟨g,o,e,hg,hc⟩:=h k (.int .u8 xs[k]) (by simp [hk])
 exact ⟨g,o,e,hg,hc⟩
end Go.Proofs.YtaggiceejcegdaaGreat
namespace Go.Proofs.YtaggiceejcegdaaGreat
set_option linter.unusedVariables false
open Go.RowKit
def stepC (x : Int) : Int:=if (bits BinOp.and IntKind.u64 x 1 == 1) = true then bits BinOp.xor IntKind.u64 (x / 2) 14514072000185962306 else x / 2
def stepsC : Nat → Int → Int
 | 0,x=>x
 | k + 1,x=>stepC (stepsC k x)
def crcX (x : Int) (xs : List Int) : Int:=xs.foldl (fun x c=>stepsC 8 (bits BinOp.xor IntKind.u64 x (IntKind.u64.wrap c))) x
theorem crcX_take (x : Int) (xs : List Int) (k : Nat) (h : k < xs.length) : crcX x (xs.take (k + 1)) = stepsC 8 (bits BinOp.xor IntKind.u64 (crcX x (xs.take k)) (IntKind.u64.wrap xs[k])):=by
 unfold crcX; rw [List.take_succ_eq_append_getElem h,List.foldl_append]; rfl
set_option maxHeartbeats 400000 in
theorem step_any (x : Int) (w : World) : Calls Tryz.prog 175 #[.int .u64 x] w fun e w'=>e = .returned (.int .u64 (stepC x)) ∧ Below w.heap.size w w':=by
 cases hb : (bits BinOp.and IntKind.u64 x 1 == 1)
 ·have HS : Hid (stepC x = x / 2):=by unfold Hid stepC; rw [hb]; rfl
  go_enter Tryz.func175,Tryz.ntmps175
  go_wp2
  go_ret
  exact ⟨by rw [HS.out]; rfl,Below.refl _ _⟩
 ·have HS : Hid (stepC x = bits BinOp.xor IntKind.u64 (x / 2) 14514072000185962306):=by unfold Hid stepC; rw [hb]; rfl
  go_enter Tryz.func175,Tryz.ntmps175
  go_wp2
  go_ret
  exact ⟨by rw [HS.out]; rfl,Below.refl _ _⟩
set_option maxHeartbeats 1000000 in
theorem steps_any (x : Int) (w : World) : Calls Tryz.prog 178 #[.int .u64 x,.int .i64 8] w fun e w'=>e = .returned (.int .u64 (stepsC 8 x)) ∧ Below w.heap.size w w':=by
 go_enter Tryz.func178,Tryz.ntmps178
 go_wp2
 go_loop [0,5,6] (fun s0 s5 s6=>∃ k : Nat,k ≤ 8 ∧ s5 = .int .i64 k ∧ s0 = .int .u64 (stepsC k x)) (fun _ v _=>8 - (intOf v).toNat)
 case atStart=>exact ⟨0,by omega,rfl,rfl⟩
 case round=>
  obtain ⟨k,hk,rfl,rfl⟩:=hrel
  by_cases hlt : k < 8
  ·have k1 : (k : Int) < 8:=by omega
   have HT : Hid (stepsC (k + 1) x = stepC (stepsC k x)):=rfl
   generalize stepsC k x = y at *
   cases hb : (bits BinOp.and IntKind.u64 y 1 == 1)
   ·have HS : Hid (stepC y = y / 2):=by unfold Hid stepC; rw [hb]; rfl
    go_wp2
    go_round
    case rel=>exact ⟨k + 1,by omega,by go_num,by rw [HT.out,HS.out]⟩
    case measure=>simp [intOf]; omega
   ·have HS : Hid (stepC y = bits BinOp.xor IntKind.u64 (y / 2) 14514072000185962306):=by unfold Hid stepC; rw [hb]; rfl
    go_wp2
    go_round
    case rel=>exact ⟨k + 1,by omega,by go_num,by rw [HT.out,HS.out]⟩
    case measure=>simp [intOf]; omega
  ·obtain rfl : k = 8:=by omega
   go_wp2
   go_ret
   exact ⟨rfl,Below.refl _ _⟩
def notC (x : Int) : Int:=bits BinOp.xor IntKind.u64 IntKind.u64.max x
def sumC (xs : List Int) : Int:=notC (crcX (notC 0) xs)
set_option maxHeartbeats 1000000 in
theorem update_any (s : Int) (xs : List Int) (A : Option Addr) (c : Nat) (w : World) (hr : Rd w w.heap.size A (xs.map (Value.int .u8))) (hn : xs.length ≤ 1000000) :
  Calls Tryz.prog 165 #[.int .u64 s,.slice A xs.length c] w fun e w'=>e = .returned (.int .u64 (notC (crcX (notC s) xs))) ∧ Below w.heap.size w w':=by
 have HR:=Lib.hid hr
 have HS:=Lib.hid step_any
 clear hr
 go_enter Tryz.func165,Tryz.ntmps165
 go_wp2
 go_loopw [5,12] (fun s5 s12 wr=>∃ k : Nat,k ≤ xs.length ∧ s12 = .int .i64 k ∧ s5 = .int .u64 (crcX (notC s) (xs.take k)) ∧ Below w.heap.size w wr) (fun _ v _=>xs.length - (intOf v).toNat)
 case atStart=>exact ⟨0,Nat.zero_le _,rfl,rfl,Below.refl _ _⟩
 case round=>
  obtain ⟨k,hk,rfl,rfl,hbr⟩:=hrel
  by_cases hlt : k < xs.length
  ·obtain ⟨g,o,rfl,hg,hc⟩:=byte_at (HR.out.below hbr (Nat.le_refl _)) hlt
   have HT:=Lib.hid (crcX_take (notC s) xs k hlt)
   have k0 : (0 : Int) ≤ k:=by omega
   have k1 : (k : Int) < xs.length:=by omega
   generalize crcX (notC s) (xs.take k) = y at *
   generalize xs[k] = b at *
   go_wp2
   go_loopw [5,20] (fun s5 s20 wx=>∃ j : Nat,j ≤ 8 ∧ s20 = .int .i64 j ∧ s5 = .int .u64 (stepsC j (bits BinOp.xor IntKind.u64 y (IntKind.u64.wrap b))) ∧ Below w.heap.size w wx) (fun _ v _=>8 - (intOf v).toNat)
   case atStart=>exact ⟨0,by omega,rfl,rfl,hbr⟩
   case round=>
    obtain ⟨j,hj,rfl,rfl,hbx⟩:=hrel
    by_cases hl8 : j < 8
    ·have j1 : (j : Int) < 8:=by omega
     have HJ : Hid (stepsC (j + 1) (bits BinOp.xor IntKind.u64 y (IntKind.u64.wrap b)) = stepC (stepsC j (bits BinOp.xor IntKind.u64 y (IntKind.u64.wrap b)))):=rfl
     generalize stepsC j (bits BinOp.xor IntKind.u64 y (IntKind.u64.wrap b)) = z at *
     go_wp2_with fail
     refine (HS.out z _).mono ?_
     rintro e w2 ⟨rfl,hb2⟩
     have hbl2:=hbx.trans (hb2.mono hbx.size)
     go_wp2
     go_roundw
     case rel=>exact ⟨j + 1,by omega,by go_num,by rw [HJ.out],hbl2⟩
     case measure=>simp [intOf]; omega
    ·obtain rfl : j = 8:=by omega
     generalize stepsC 8 (bits BinOp.xor IntKind.u64 y (IntKind.u64.wrap b)) = z at *
     go_wp2
     go_roundw
     case rel=>exact ⟨k + 1,by omega,by go_num,by rw [HT.out],hbx⟩
     case measure=>simp [intOf]; omega
  ·obtain rfl : k = xs.length:=by omega
   rw [List.take_of_length_le (Nat.le_refl _)]
   generalize hy : crcX (notC s) xs = y at *
   have HY:=Lib.hid hy
   clear hy
   go_wp2
   go_ret
   exact ⟨by rw [HY.out]; rfl,hbr⟩
set_option maxHeartbeats 1000000 in
theorem rupdate_any (s : Int) (xs : List Int) (A : Option Addr) (c : Nat) (w : World) (hr : Rd w w.heap.size A (xs.map (Value.int .u8))) (hn : xs.length ≤ 1000000) :
  Calls Tryz.prog 171 #[.int .u64 s,.slice A xs.length c] w fun e w'=>e = .returned (.int .u64 (notC (crcX (notC s) xs))) ∧ Below w.heap.size w w':=by
 have HR:=Lib.hid hr
 have HS:=Lib.hid steps_any
 clear hr
 go_enter Tryz.func171,Tryz.ntmps171
 go_wp2
 go_loopw [5,6] (fun s5 s6 wr=>∃ k : Nat,k ≤ xs.length ∧ s6 = .int .i64 k ∧ s5 = .int .u64 (crcX (notC s) (xs.take k)) ∧ Below w.heap.size w wr) (fun _ v _=>xs.length - (intOf v).toNat)
 case atStart=>exact ⟨0,Nat.zero_le _,rfl,rfl,Below.refl _ _⟩
 case round=>
  obtain ⟨k,hk,rfl,rfl,hbr⟩:=hrel
  by_cases hlt : k < xs.length
  ·obtain ⟨g,o,rfl,hg,hc⟩:=byte_at (HR.out.below hbr (Nat.le_refl _)) hlt
   have HT:=Lib.hid (crcX_take (notC s) xs k hlt)
   have k0 : (0 : Int) ≤ k:=by omega
   have k1 : (k : Int) < xs.length:=by omega
   generalize crcX (notC s) (xs.take k) = y at *
   generalize xs[k] = b at *
   go_wp2_with fail
   refine (HS.out _ _).mono ?_
   rintro e w2 ⟨rfl,hb2⟩
   have hbl2:=hbr.trans (hb2.mono hbr.size)
   go_wp2
   go_roundw
   case rel=>exact ⟨k + 1,by omega,by go_num,by rw [HT.out],hbl2⟩
   case measure=>simp [intOf]; omega
  ·obtain rfl : k = xs.length:=by omega
   rw [List.take_of_length_le (Nat.le_refl _)]
   generalize hy : crcX (notC s) xs = y at *
   have HY:=Lib.hid hy
   clear hy
   go_wp2
   go_ret
   exact ⟨by rw [HY.out]; rfl,hbr⟩
theorem sum_any (xs : List Int) (A : Option Addr) (c : Nat) (w : World) (hr : Rd w w.heap.size A (xs.map (Value.int .u8))) (hn : xs.length ≤ 1000000) :
  Calls Tryz.prog 131 #[.slice A xs.length c] w fun e w'=>e = .returned (.int .u64 (sumC xs)) ∧ Below w.heap.size w w':=by
 have H:=Lib.hid (update_any 0 xs A c w hr hn)
 have HN : Hid (sumC xs = notC (crcX (notC 0) xs)):=rfl
 clear hr
 generalize notC (crcX (notC 0) xs) = y at *
 go_enter Tryz.func131,Tryz.ntmps131
 go_wp2_with fail
 refine H.out.mono ?_
 rintro e w1 ⟨rfl,hb1⟩
 go_wp2
 go_ret
 exact ⟨by rw [HN.out]; rfl,hb1⟩
theorem rsum_any (xs : List Int) (A : Option Addr) (c : Nat) (w : World) (hr : Rd w w.heap.size A (xs.map (Value.int .u8))) (hn : xs.length ≤ 1000000) :
  Calls Tryz.prog 146 #[.slice A xs.length c] w fun e w'=>e = .returned (.int .u64 (sumC xs)) ∧ Below w.heap.size w w':=by
 have H:=Lib.hid (rupdate_any 0 xs A c w hr hn)
 have HN : Hid (sumC xs = notC (crcX (notC 0) xs)):=rfl
 clear hr
 generalize notC (crcX (notC 0) xs) = y at *
 go_enter Tryz.func146,Tryz.ntmps146
 go_wp2_with fail
 refine H.out.mono ?_
 rintro e w1 ⟨rfl,hb1⟩
 go_wp2
 go_ret
 exact ⟨by rw [HN.out]; rfl,hb1⟩
end Go.Proofs.YtaggiceejcegdaaGreat
namespace Go.Proofs.YtaggiceejcegdaaGreat
set_option linter.unusedVariables false
open Go.RowKit
theorem or128 (m : Nat) : bits BinOp.or IntKind.u8 ((m : Int) % 256) 128 = ((m % 128 + 128 : Nat) : Int):=by
 have h : ∀ x : Fin 256,bits BinOp.or IntKind.u8 (x.val : Int) 128 = ((x.val % 128 + 128 : Nat) : Int):=by decide +kernel
 have hw : (m : Int) % 256 = ((m % 256 : Nat) : Int):=by omega
 rw [hw,h ⟨m % 256,by omega⟩]
 simp only
 omega
theorem own_low {w : World} {base : Nat} {e : TypeId} {size n k : Nat} {v : Value} {xs : List Value} (h : w.ownsRow base e size v n xs) (hk : v.ownBlock = some k) : base ≤ k:=by
 rcases h.2 with ⟨h2,_⟩ | ⟨g,cap,cur,h2,h3,_⟩
 ·rw [h2] at hk; cases hk
 ·rw [h2] at hk; injection hk with hk; subst hk; exact h3
set_option maxRecDepth 100000 in
set_option maxHeartbeats 1000000 in
theorem appuint_any (n : Nat) (hn : n < 2 ^ 64) (xs : List Int) (A : Option Addr) (c : Nat) (w : World) (hr : Rd w w.heap.size A (xs.map (Value.int .u8))) (hx : xs.length ≤ 900000) :
  Calls Tryz.prog 130 #[.slice A xs.length c,.int .u64 n] w (NewO w (xs ++ uintB n)):=by
 obtain ⟨i0,hi,hz0,hz1,hz2⟩:=info_parts qinfo_u8
 have HC:=Lib.hid (cloneo_any xs A c w hr (by omega))
 clear hr
 go_enter Tryz.func130,Tryz.ntmps130
 go_wp2_with fail
 refine HC.out.mono ?_
 rintro e w1 ⟨A1,c1,rfl,ho1,hb1⟩
 have HO1:=Lib.hid ho1
 clear ho1
 go_wp2
 go_loopw [1,5] (fun s1 s5 wr=>∃ (k m : Nat) (ys : List Int) (DA : Option Addr) (dc : Nat),m < 128 ^ (k + 1) ∧ s1 = .int .u64 m ∧ s5 = .slice DA ys.length dc ∧ Hid (wr.ownsRow w.heap.size 5 1 (.slice DA ys.length dc) ys.length (ys.map (Value.int .u8))) ∧ Hid (ys ++ uintF (k + 1) m = xs ++ uintB n) ∧ ys.length ≤ xs.length + 10 ∧ Below w.heap.size w wr) (fun v _ _=>(intOf v).toNat)
 case atStart=>exact ⟨9,n,xs,A1,c1,Nat.lt_trans hn (by decide),rfl,rfl,HO1,rfl,by omega,hb1⟩
 case round=>
  obtain ⟨k,m,ys,DA,dc,hm,rfl,rfl,HO,HE,hl,hbr⟩:=hrel
  by_cases hlt : m < 128
  ·have m1 : ¬ ((128 : Int) ≤ m):=by omega
   have hE : ys ++ [(m : Int)] = xs ++ uintB n:=by rw [← HE.out,uintF_small hlt]
   have HE2:=Lib.hid hE
   clear hE
   have hbs:=hbr.size
   go_wp2_with (at_builtin; refine wpList_append_own _ rfl _ _ 26 rfl w.heap.size 5 i0 _ 1 1 Tryz.underlying26 hi hz0 hz1 hz2 rfl (by decide) _ ys.length (ys.map (Value.int .u8)) rfl (HO.out.alloc _) ⟨wr.heap.size,0,none⟩ 1 1 [.int .u8 (m)] rfl rfl (World.news_of_block (heap_alloc_new _ _)) (by intro u hu; simp at hu; subst hu; rfl) ?c1 ?c2 ?c3 ?_)
   case c1=>unfold maxLen; omega
   case c2=>omega
   case c3=>first | omega | (simp; omega)
   intro v' w' hown hgrow hiff
   obtain ⟨DA',dc',hv⟩:=own_form hown
   subst hv
   have hbl : Below w.heap.size w w':=(hbr.alloc hbr.size _).grown hgrow (by simp; omega) (fun k hk=>own_low HO.out hk)
   have HOW : Hid (w'.ownsRow w.heap.size 5 1 (.slice DA' (xs ++ uintB n).length dc') (xs ++ uintB n).length ((xs ++ uintB n).map (Value.int .u8))):=by
    unfold Hid; rw [← HE2.out,List.length_append,List.map_append]; exact hown
   have HLN : Hid (ys.length + 1 = (xs ++ uintB n).length):=by unfold Hid; rw [← HE2.out]; simp
   clear hown hgrow hiff
   go_wp2
   go_ret
   exact ⟨DA',dc',by rw [← HLN.out]; rfl,HOW.out,hbl⟩
  ·have m1 : (128 : Int) ≤ m:=by omega
   have hE : (ys ++ [((m % 128 + 128 : Nat) : Int)]) ++ uintF k (m / 128) = xs ++ uintB n:=by rw [← HE.out,uintF_big hlt]; simp
   have HE2:=Lib.hid hE
   have hkk : 0 < k:=by
    rcases Nat.eq_zero_or_pos k with h | h
    ·subst h; simp at hm; omega
    ·exact h
   have hlen : (ys ++ [((m % 128 + 128 : Nat) : Int)]).length ≤ xs.length + 10:=by
    have h1:=congrArg List.length hE
    have h2:=uintB_len n
    simp only [List.length_append,List.length_cons,List.length_nil] at h1 ⊢
    omega
   clear hE
   have hbs:=hbr.size
   have hor:=or128 m
   generalize ((m % 128 + 128 : Nat) : Int) = b at *
   go_wp2_with (at_builtin; refine wpList_append_own _ rfl _ _ 26 rfl w.heap.size 5 i0 _ 1 1 Tryz.underlying26 hi hz0 hz1 hz2 rfl (by decide) _ ys.length (ys.map (Value.int .u8)) rfl (HO.out.alloc _) ⟨wr.heap.size,0,none⟩ 1 1 [.int .u8 (b)] rfl rfl (World.news_of_block (heap_alloc_new _ _)) (by intro u hu; simp at hu; subst hu; rfl) ?c1 ?c2 ?c3 ?_)
   case c1=>unfold maxLen; omega
   case c2=>omega
   case c3=>first | omega | (simp; omega)
   intro v' w' hown hgrow hiff
   obtain ⟨DA',dc',hv⟩:=own_form hown
   subst hv
   have hbl : Below w.heap.size w w':=(hbr.alloc hbr.size _).grown hgrow (by simp; omega) (fun k hk=>own_low HO.out hk)
   have HOW : Hid (w'.ownsRow w.heap.size 5 1 (.slice DA' (ys ++ [b]).length dc') (ys ++ [b]).length ((ys ++ [b]).map (Value.int .u8))):=by
    unfold Hid; rw [List.length_append,List.map_append]; exact hown
   have HLN : Hid (ys.length + 1 = (ys ++ [b]).length):=by unfold Hid; simp
   obtain ⟨k',rfl⟩ : ∃ k',k = k' + 1:=⟨k - 1,by omega⟩
   have hm2 : m / 128 < 128 ^ (k' + 1):=by
    rw [Nat.div_lt_iff_lt_mul (by decide)]
    rw [Nat.pow_succ] at hm; exact hm
   have hdv : ((m / 128 : Nat) : Int) = (m : Int) / 128:=by omega
   clear hown hgrow hiff hor
   go_wp2
   go_roundw
   case rel=>exact ⟨k',m / 128,ys ++ [b],DA',dc',hm2,by rw [hdv],by rw [← HLN.out],HOW.out,HE2,hlen,hbl⟩
   case measure=>simp [intOf]; omega
set_option maxRecDepth 100000 in
set_option maxHeartbeats 1000000 in
theorem rappuint_any (n : Nat) (hn : n < 2 ^ 64) (xs : List Int) (A : Option Addr) (c : Nat) (w : World) (hr : Rd w w.heap.size A (xs.map (Value.int .u8))) (hx : xs.length ≤ 900000) :
  Calls Tryz.prog 105 #[.slice A xs.length c,.int .u64 n] w (NewO w (xs ++ uintB n)):=by
 obtain ⟨i0,hi,hz0,hz1,hz2⟩:=info_parts qinfo_u8
 cases A with
 | none=>
   have hx0:=hr.qat_none
   obtain rfl : xs = []:=by cases xs; rfl; simp at hx0
   have ho1:=World.ownsRow_lit (base:=w.heap.size) (e:=5) (size:=1) w #[] 0 (Nat.le_refl _) (by decide) rfl
   have HO1:=Lib.hid ho1
   have hb1 : Below w.heap.size w (w.alloc (.cells #[] 5)):=(Below.refl _ _).alloc (Nat.le_refl _) _
   clear hr hx0 ho1
   go_enter Tryz.func105,Tryz.ntmps105
   go_wp2
   go_loopw [1,5] (fun s1 s5 wr=>∃ (k m : Nat) (ys : List Int) (DA : Option Addr) (dc : Nat),m < 128 ^ (k + 1) ∧ m < 2 ^ 64 ∧ s1 = .int .u64 m ∧ s5 = .slice DA ys.length dc ∧ Hid (wr.ownsRow w.heap.size 5 1 (.slice DA ys.length dc) ys.length (ys.map (Value.int .u8))) ∧ Hid (ys ++ uintF (k + 1) m = ([] : List Int) ++ uintB n) ∧ ys.length ≤ ([] : List Int).length + 10 ∧ Below w.heap.size w wr) (fun v _ _=>(intOf v).toNat)
   case atStart=>exact ⟨9,n,([] : List Int),(some ⟨w.heap.size,0,none⟩),0,Nat.lt_trans hn (by decide),hn,rfl,rfl,HO1,rfl,by omega,hb1⟩
   case round=>
    obtain ⟨k,m,ys,DA,dc,hm,hm64,rfl,rfl,HO,HE,hl,hbr⟩:=hrel
    by_cases hlt : m < 128
    ·have m1 : ¬ ((128 : Int) ≤ m):=by omega
     have hE : ys ++ [(m : Int)] = ([] : List Int) ++ uintB n:=by rw [← HE.out,uintF_small hlt]
     have HE2:=Lib.hid hE
     clear hE
     have hbs:=hbr.size
     go_wp2_with (at_builtin; refine wpList_append_own _ rfl _ _ 26 rfl w.heap.size 5 i0 _ 1 1 Tryz.underlying26 hi hz0 hz1 hz2 rfl (by decide) _ ys.length (ys.map (Value.int .u8)) rfl (HO.out.alloc _) ⟨wr.heap.size,0,none⟩ 1 1 [.int .u8 (m)] rfl rfl (World.news_of_block (heap_alloc_new _ _)) (by intro u hu; simp at hu; subst hu; rfl) ?c1 ?c2 ?c3 ?_)
     case c1=>unfold maxLen; omega
     case c2=>omega
     case c3=>first | omega | (simp; omega)
     intro v' w' hown hgrow hiff
     obtain ⟨DA',dc',hv⟩:=own_form hown
     subst hv
     have hbl : Below w.heap.size w w':=(hbr.alloc hbr.size _).grown hgrow (by simp; omega) (fun k hk=>own_low HO.out hk)
     have HOW : Hid (w'.ownsRow w.heap.size 5 1 (.slice DA' (([] : List Int) ++ uintB n).length dc') (([] : List Int) ++ uintB n).length ((([] : List Int) ++ uintB n).map (Value.int .u8))):=by
      unfold Hid; rw [← HE2.out,List.length_append,List.map_append]; exact hown
     have HLN : Hid (ys.length + 1 = (([] : List Int) ++ uintB n).length):=by unfold Hid; rw [← HE2.out]; simp
     clear hown hgrow hiff
     go_wp2
     go_ret
     exact ⟨DA',dc',by first | (rw [← HLN.out]; rfl) | (have h:=HLN.out; simp only [List.nil_append] at h; rw [← h]; rfl),HOW.out,hbl⟩
    ·have m1 : (128 : Int) ≤ m:=by omega
     have hE : (ys ++ [((m % 128 + 128 : Nat) : Int)]) ++ uintF k (m / 128) = ([] : List Int) ++ uintB n:=by rw [← HE.out,uintF_big hlt]; simp
     have HE2:=Lib.hid hE
     have hkk : 0 < k:=by
      rcases Nat.eq_zero_or_pos k with h | h
      ·subst h; simp at hm; omega
      ·exact h
     have hlen : (ys ++ [((m % 128 + 128 : Nat) : Int)]).length ≤ ([] : List Int).length + 10:=by
      have h1:=congrArg List.length hE
      have h2:=uintB_len n
      simp only [List.length_append,List.length_cons,List.length_nil] at h1 ⊢
      omega
     clear hE
     have hbs:=hbr.size
     have hor : ((m : Int) % 128 + 128 : Int) = ((m % 128 + 128 : Nat) : Int):=by omega
     generalize ((m % 128 + 128 : Nat) : Int) = b at *
     go_wp2_with (at_builtin; refine wpList_append_own _ rfl _ _ 26 rfl w.heap.size 5 i0 _ 1 1 Tryz.underlying26 hi hz0 hz1 hz2 rfl (by decide) _ ys.length (ys.map (Value.int .u8)) rfl (HO.out.alloc _) ⟨wr.heap.size,0,none⟩ 1 1 [.int .u8 (b)] rfl rfl (World.news_of_block (heap_alloc_new _ _)) (by intro u hu; simp at hu; subst hu; rfl) ?c1 ?c2 ?c3 ?_)
     case c1=>unfold maxLen; omega
     case c2=>omega
     case c3=>first | omega | (simp; omega)
     intro v' w' hown hgrow hiff
     obtain ⟨DA',dc',hv⟩:=own_form hown
     subst hv
     have hbl : Below w.heap.size w w':=(hbr.alloc hbr.size _).grown hgrow (by simp; omega) (fun k hk=>own_low HO.out hk)
     have HOW : Hid (w'.ownsRow w.heap.size 5 1 (.slice DA' (ys ++ [b]).length dc') (ys ++ [b]).length ((ys ++ [b]).map (Value.int .u8))):=by
      unfold Hid; rw [List.length_append,List.map_append]; exact hown
     have HLN : Hid (ys.length + 1 = (ys ++ [b]).length):=by unfold Hid; simp
     obtain ⟨k',rfl⟩ : ∃ k',k = k' + 1:=⟨k - 1,by omega⟩
     have hm2 : m / 128 < 128 ^ (k' + 1):=by
      rw [Nat.div_lt_iff_lt_mul (by decide)]
      rw [Nat.pow_succ] at hm; exact hm
     have hdv : ((m / 128 : Nat) : Int) = (m : Int) / 128:=by omega
     clear hown hgrow hiff hor
     go_wp2
     go_roundw
     case rel=>exact ⟨k',m / 128,ys ++ [b],DA',dc',hm2,by omega,by rw [hdv],by rw [← HLN.out],HOW.out,HE2,hlen,hbl⟩
     case measure=>simp [intOf]; omega
 | some a=>
   have hro:=World.ownsRow_lit (base:=w.heap.size) (e:=5) (size:=1) w #[] 0 (Nat.le_refl _) (by decide) rfl
   have hla:=hr.alloc (Nat.le_refl _) (.cells #[] 5)
   clear hr
   go_enter Tryz.func105,Tryz.ntmps105
   go_wp2_with (at_builtin; refine wpList_append_own _ rfl _ _ 26 rfl w.heap.size 5 i0 _ 1 1 Tryz.underlying26 hi hz0 hz1 hz2 rfl (by decide) _ 0 [] rfl hro a xs.length c (xs.map (Value.int .u8)) rfl (by simp) hla.qat_add (qbytes_one xs) ?a1 ?a2 ?a3 ?_)
   case a1=>unfold maxLen; omega
   case a2=>omega
   intro v' w1 hown hgrow hiff
   try simp only [Nat.zero_add,List.nil_append] at hown
   obtain ⟨A1,c1,hv⟩:=own_form hown
   subst hv
   have HO1:=Lib.hid hown
   have hb1 : Below w.heap.size w w1:=((Below.refl _ _).alloc (Nat.le_refl _) _).grown hgrow (by simp) (fun k hk=>by simp [Value.ownBlock] at hk; omega)
   clear hro hla hown hgrow hiff
   go_wp2
   go_loopw [1,5] (fun s1 s5 wr=>∃ (k m : Nat) (ys : List Int) (DA : Option Addr) (dc : Nat),m < 128 ^ (k + 1) ∧ m < 2 ^ 64 ∧ s1 = .int .u64 m ∧ s5 = .slice DA ys.length dc ∧ Hid (wr.ownsRow w.heap.size 5 1 (.slice DA ys.length dc) ys.length (ys.map (Value.int .u8))) ∧ Hid (ys ++ uintF (k + 1) m = xs ++ uintB n) ∧ ys.length ≤ xs.length + 10 ∧ Below w.heap.size w wr) (fun v _ _=>(intOf v).toNat)
   case atStart=>exact ⟨9,n,xs,A1,c1,Nat.lt_trans hn (by decide),hn,rfl,rfl,HO1,rfl,by omega,hb1⟩
   case round=>
    obtain ⟨k,m,ys,DA,dc,hm,hm64,rfl,rfl,HO,HE,hl,hbr⟩:=hrel
    by_cases hlt : m < 128
    ·have m1 : ¬ ((128 : Int) ≤ m):=by omega
     have hE : ys ++ [(m : Int)] = xs ++ uintB n:=by rw [← HE.out,uintF_small hlt]
     have HE2:=Lib.hid hE
     clear hE
     have hbs:=hbr.size
     go_wp2_with (at_builtin; refine wpList_append_own _ rfl _ _ 26 rfl w.heap.size 5 i0 _ 1 1 Tryz.underlying26 hi hz0 hz1 hz2 rfl (by decide) _ ys.length (ys.map (Value.int .u8)) rfl (HO.out.alloc _) ⟨wr.heap.size,0,none⟩ 1 1 [.int .u8 (m)] rfl rfl (World.news_of_block (heap_alloc_new _ _)) (by intro u hu; simp at hu; subst hu; rfl) ?c1 ?c2 ?c3 ?_)
     case c1=>unfold maxLen; omega
     case c2=>omega
     case c3=>first | omega | (simp; omega)
     intro v' w' hown hgrow hiff
     obtain ⟨DA',dc',hv⟩:=own_form hown
     subst hv
     have hbl : Below w.heap.size w w':=(hbr.alloc hbr.size _).grown hgrow (by simp; omega) (fun k hk=>own_low HO.out hk)
     have HOW : Hid (w'.ownsRow w.heap.size 5 1 (.slice DA' (xs ++ uintB n).length dc') (xs ++ uintB n).length ((xs ++ uintB n).map (Value.int .u8))):=by
      unfold Hid; rw [← HE2.out,List.length_append,List.map_append]; exact hown
     have HLN : Hid (ys.length + 1 = (xs ++ uintB n).length):=by unfold Hid; rw [← HE2.out]; simp
     clear hown hgrow hiff
     go_wp2
     go_ret
     exact ⟨DA',dc',by first | (rw [← HLN.out]; rfl) | (have h:=HLN.out; simp only [List.nil_append] at h; rw [← h]; rfl),HOW.out,hbl⟩
    ·have m1 : (128 : Int) ≤ m:=by omega
     have hE : (ys ++ [((m % 128 + 128 : Nat) : Int)]) ++ uintF k (m / 128) = xs ++ uintB n:=by rw [← HE.out,uintF_big hlt]; simp
     have HE2:=Lib.hid hE
     have hkk : 0 < k:=by
      rcases Nat.eq_zero_or_pos k with h | h
      ·subst h; simp at hm; omega
      ·exact h
     have hlen : (ys ++ [((m % 128 + 128 : Nat) : Int)]).length ≤ xs.length + 10:=by
      have h1:=congrArg List.length hE
      have h2:=uintB_len n
      simp only [List.length_append,List.length_cons,List.length_nil] at h1 ⊢
      omega
     clear hE
     have hbs:=hbr.size
     have hor : ((m : Int) % 128 + 128 : Int) = ((m % 128 + 128 : Nat) : Int):=by omega
     generalize ((m % 128 + 128 : Nat) : Int) = b at *
     go_wp2_with (at_builtin; refine wpList_append_own _ rfl _ _ 26 rfl w.heap.size 5 i0 _ 1 1 Tryz.underlying26 hi hz0 hz1 hz2 rfl (by decide) _ ys.length (ys.map (Value.int .u8)) rfl (HO.out.alloc _) ⟨wr.heap.size,0,none⟩ 1 1 [.int .u8 (b)] rfl rfl (World.news_of_block (heap_alloc_new _ _)) (by intro u hu; simp at hu; subst hu; rfl) ?c1 ?c2 ?c3 ?_)
     case c1=>unfold maxLen; omega
     case c2=>omega
     case c3=>first | omega | (simp; omega)
     intro v' w' hown hgrow hiff
     obtain ⟨DA',dc',hv⟩:=own_form hown
     subst hv
     have hbl : Below w.heap.size w w':=(hbr.alloc hbr.size _).grown hgrow (by simp; omega) (fun k hk=>own_low HO.out hk)
     have HOW : Hid (w'.ownsRow w.heap.size 5 1 (.slice DA' (ys ++ [b]).length dc') (ys ++ [b]).length ((ys ++ [b]).map (Value.int .u8))):=by
      unfold Hid; rw [List.length_append,List.map_append]; exact hown
     have HLN : Hid (ys.length + 1 = (ys ++ [b]).length):=by unfold Hid; simp
     obtain ⟨k',rfl⟩ : ∃ k',k = k' + 1:=⟨k - 1,by omega⟩
     have hm2 : m / 128 < 128 ^ (k' + 1):=by
      rw [Nat.div_lt_iff_lt_mul (by decide)]
      rw [Nat.pow_succ] at hm; exact hm
     have hdv : ((m / 128 : Nat) : Int) = (m : Int) / 128:=by omega
     clear hown hgrow hiff hor
     go_wp2
     go_roundw
     case rel=>exact ⟨k',m / 128,ys ++ [b],DA',dc',hm2,by omega,by rw [hdv],by rw [← HLN.out],HOW.out,HE2,hlen,hbl⟩
     case measure=>simp [intOf]; omega
end Go.Proofs.YtaggiceejcegdaaGreat
