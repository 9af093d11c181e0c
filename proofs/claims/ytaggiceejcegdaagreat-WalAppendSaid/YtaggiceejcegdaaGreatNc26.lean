/-
  WHAT IS SHOWN: how a disk and a power supply of the reference lie in memory; what the power supply's functions, Ready and has return and leave. Conditions: they lie in memory.
-/
import Derived.Test.YtaggiceejcegdaaGreatNc22
import Derived.Test.YtaggiceejcegdaaGreatNc24
import Derived.Test.YtaggiceejcegdaaGreatNc25
namespace Go.Proofs.YtaggiceejcegdaaGreat
set_option linter.unusedVariables false
open Go.RowKit
def RelP (P R : Pow) : Prop:=P.off = R.off ∧ P.armed = R.armed ∧ P.fails = R.fails ∧ (P.armed = true → P.left = R.left)
def rcallP (R : Pow) : Pow:=if R.armed then (if R.left = 0 then ⟨true,false,R.left,wrap64 (R.fails + 1)⟩ else ⟨R.off,R.armed,wrap64 (R.left - 1),R.fails⟩) else R
def rObj (g : Geo) (s : DS) (p pw : Nat) (FA : Option Addr) (fn fc : Nat) : List Value:=
 [.int .i64 g.random,.int .i64 g.bands,.int .i64 g.tracks,.int .i64 g.sectors,.int .i64 g.overlap,.pointer (some ⟨p,0,none⟩),.slice FA fn fc,.pointer (some ⟨pw,0,none⟩),.int .u64 s.key,.bool s.dead,.int .i64 s.seen,.int .i64 s.ops,
  .int .i64 s.r,.int .i64 s.w,.int .i64 s.e,.int .i64 s.f]
structure RPow (w : World) (B : Bd) (pw : Nat) (R : Pow) : Prop where
 obj : w.ownsRow B.n 131 4 (.slice (some ⟨pw,0,none⟩) 1 1) 1 (pObj R)
 px : ¬ B.X pw
structure RDsk (w : World) (B : Bd) (q pw : Nat) (g : Geo) (F : List Flt) (s : DS) (LM : List Sec) (O : List OpV) (p : Nat) (FA : Option Addr) (fc : Nat) : Prop where
 obj : w.ownsRow B.n 145 16 (.slice (some ⟨q,0,none⟩) 1 1) 1 (rObj g s p pw FA F.length fc)
 px : ¬ B.X q
 c : RCacheM w B p g LM O
 fl : RdT w 138 FA (flatF F)
def RDT : List TypeId:=[234,204,145,131]
structure RDPm (w : World) (B : Bd) (q pw : Nat) (g : Geo) (F : List Flt) (s : DS) (P : Pow) (LM : List Sec) (O : List OpV) : Prop where
 d : ∃ p FA fc,RDsk w B q pw g F s LM O p FA fc
 p : ∃ R,RelP P R ∧ RPow w B pw R
 f : Fit g LM
 s : ShortB LM
 B : B.top ≤ w.heap.size
section
variable {w w' : World} {B C : Bd} {q pw p : Nat} {g : Geo} {F : List Flt} {s : DS} {P R : Pow} {LM : List Sec} {O : List OpV} {FA : Option Addr} {fc : Nat}
theorem RCacheM.keptT {ts : List TypeId} {B' : Bd} (h : RCacheM w B p g LM O) (hk : KeptT ts B' w w') (ht : ∀ t,t ∈ [204,200,234,172,5] → t ∉ ts) : RCacheM w' B p g LM O:=by
 obtain ⟨l,m,b,A,c,e,h⟩:=h
 exact ⟨l,m,b,A,c,e,h.keptT hk ht⟩
theorem RDsk.keptT {ts : List TypeId} {B' : Bd} (h : RDsk w B q pw g F s LM O p FA fc) (hk : KeptT ts B' w w') (ht : ∀ t,t ∈ [204,200,234,172,5] → t ∉ ts) (h1 : 145 ∉ ts) (h2 : 138 ∉ ts) : RDsk w' B q pw g F s LM O p FA fc:=
 ⟨own_kept h.obj hk (fun k e=>by simp [Value.ownBlock] at e; subst e; exact KeptT.no (IsT.own h.obj) h1),h.px,h.c.keptT hk ht,h.fl.kept hk (KeptT.free h2)⟩
theorem RDsk.keptP {B' : Bd} (h : RDsk w B q pw g F s LM O p FA fc) (hk : KeptT [131] B' w w') : RDsk w' B q pw g F s LM O p FA fc:=h.keptT hk (by decide) (by decide) (by decide)
theorem RDsk.below0 (h : RDsk w B q pw g F s LM O p FA fc) (hk : Below w.heap.size w w') : RDsk w' B q pw g F s LM O p FA fc:=h.keptP (B':=Bd.of 0) (KeptT.bel hk)
theorem RPow.keptT {ts : List TypeId} {B' : Bd} (h : RPow w B pw R) (hk : KeptT ts B' w w') (ht : 131 ∉ ts) : RPow w' B pw R:=⟨own_kept h.obj hk (fun k e=>by simp [Value.ownBlock] at e; subst e; exact KeptT.no (IsT.own h.obj) ht),h.px⟩
theorem RPow.below0 (h : RPow w B pw R) (hk : Below w.heap.size w w') : RPow w' B pw R:=h.keptT (ts:=[]) (B':=Bd.of 0) (KeptT.bel hk) (by simp)
theorem RPow.cells (h : RPow w B pw R) : w.cell? ⟨pw,0,none⟩ = some (.bool R.off) ∧ w.cell? ⟨pw,1,none⟩ = some (.bool R.armed) ∧ w.cell? ⟨pw,2,none⟩ = some (.int .i64 R.left) ∧ w.cell? ⟨pw,3,none⟩ = some (.int .i64 R.fails):=
 ⟨(World.ownsRow.cellAt h.obj 0 (by decide)).trans rfl,(World.ownsRow.cellAt h.obj 1 (by decide)).trans rfl,(World.ownsRow.cellAt h.obj 2 (by decide)).trans rfl,(World.ownsRow.cellAt h.obj 3 (by decide)).trans rfl⟩
theorem rnewpower_any (w : World) : Calls Tryz.prog 43 #[] w fun e w'=>∃ pw,e = .returned (.pointer (some ⟨pw,0,none⟩)) ∧ RPow w' (Bd.of w.heap.size) pw ⟨false,false,0,0⟩ ∧ Below w.heap.size w w':=by
 have hr:=World.ownsRow_lit (base:=w.heap.size) (e:=131) (size:=4) w #[.bool false,.bool false,.int .i64 0,.int .i64 0] 1 (Nat.le_refl _) (by decide) rfl
 have HR:=Lib.hid hr
 clear hr
 go_enter Tryz.func43,Tryz.ntmps43
 go_wp2
 go_ret
 exact ⟨_,rfl,⟨HR.out,fun h=>h⟩,(Below.refl _ _).alloc (Nat.le_refl _) _⟩
def passP (R : Pow) : Bool:=!(R.armed && decide (R.left = 0))
def readyB (s : DS) (P : Pow) : Bool:=!P.off && decide (s.seen = P.fails)
end
end Go.Proofs.YtaggiceejcegdaaGreat
