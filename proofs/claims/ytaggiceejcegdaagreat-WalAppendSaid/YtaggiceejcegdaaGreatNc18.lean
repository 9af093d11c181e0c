/-
  WHAT IS SHOWN: plain facts on faults, powers and disks, of no program. what Valid and At of fault, and Valid of tegularef13, return. plain facts on memory, of no program: worlds that differ in blocks of some types alone; how a cache lies in memory, and what keeps it. what the pending operations of a cache do, and what do, Write and Erase of a cache return and leave. what Write and Erase of a cache return and leave, and do of tegulalaw12. what Cut and Flush of a cache leave. what New, State, Read, Pending, Durable and Clone of a cache return. how a disk and a power supply lie in memory; what state, call and has of disk return and leave. Conditions: as each theorem names them.
-/
import Derived.Test.YtaggiceejcegdaaGreatNc17
import Derived.Deep.AppendLies
import Derived.BigQuiet
import Derived.Deep.RegionHeld3
namespace Go.Proofs.YtaggiceejcegdaaGreat
set_option linter.unusedVariables false
open Go.RowKit
structure Flt where
 at_ : Int
 kind : Int
 to_ : Int
def Flt.cells (f : Flt) : List Value:=[.int .i64 f.at_,.int .i64 f.kind,.int .i64 f.to_]
def Flt.val (f : Flt) : Value:=.agg #[.int .i64 f.at_,.int .i64 f.kind,.int .i64 f.to_]
theorem fltcells_len (f : Flt) : f.cells.length = 3:=rfl
def flatF (l : List Flt) : List Value:=l.flatMap Flt.cells
def noF : Flt:=⟨0,0,0⟩
def okF (last : Int) (f : Flt) : Bool:=!decide (f.at_ ≤ last) && (!decide (f.kind < 1) && (!decide (7 < f.kind) && (!decide (f.to_ < 0) && (decide (f.to_ = 0) || (decide (f.kind = 3) || decide (f.kind = 5))))))
def validFrom : Int → List Flt → Bool
 | _,[]=>true
 | last,f :: l=>okF last f && validFrom f.at_ l
def validF (l : List Flt) : Bool:=validFrom (-1) l
def atF : List Flt → Int → Flt
 | [],_=>noF
 | f :: l,op=>if f.at_ = op then f else atF l op
theorem flt_at {w : World} {B : Nat} {A : Option Addr} {l : List Flt} (h : Rd w B A (flatF l)) {k : Nat} (hk : k < l.length) : ∃ g o,A = some ⟨g,o,none⟩ ∧ g < B ∧ w.cell? ⟨g,o + k * 3,none⟩ = some (.int .i64 l[k].at_) ∧ w.cell? ⟨g,o + k * 3 + 1,none⟩ = some (.int .i64 l[k].kind) ∧ w.cell? ⟨g,o + k * 3 + 2,none⟩ = some (.int .i64 l[k].to_):=by
 have e : ∀ t,t < 3 → (flatF l)[k * 3 + t]? = l[k].cells[t]?:=fun t ht=>by
  unfold flatF; rw [flat_get _ 3 fltcells_len l k t ht,List.getElem?_eq_getElem hk]; rfl
 obtain ⟨g,o,e0,hg,h0⟩:=h (k * 3 + 0) _ (e 0 (by omega))
 obtain ⟨g1,o1,e1,_,h1⟩:=h (k * 3 + 1) _ (e 1 (by omega))
 obtain ⟨g2,o2,e2,_,h2⟩:=h (k * 3 + 2) _ (e 2 (by omega))
 rw [e0] at e1 e2
 injection e1 with e1; injection e1 with e1 e1'; subst e1; subst e1'
 injection e2 with e2; injection e2 with e2 e2'; subst e2; subst e2'
 exact ⟨g,o,e0,hg,h0,h1,h2⟩
def lastF (l : List Flt) (k : Nat) : Int:=if k = 0 then -1 else (l.getD (k - 1) noF).at_
theorem lastF_succ (l : List Flt) (k : Nat) (h : k < l.length) : lastF l (k + 1) = l[k].at_:=by
 unfold lastF; rw [if_neg (by omega)]; simp [List.getD,h]
theorem valid_drop (l : List Flt) : ∀ k last,k ≤ l.length → validFrom last l = true → (∀ hk : k < l.length,okF (if k = 0 then last else (l.getD (k - 1) noF).at_) l[k] = true):=by
 induction l with
 | nil=>intro k last h _ hk; simp at hk
 | cons f l ih=>
   intro k last h hv hk
   unfold validFrom at hv
   rw [Bool.and_eq_true] at hv
   cases k with
   | zero=>simpa using hv.1
   | succ k=>
     have:=ih k f.at_ (by simpa using h) hv.2 (by simpa using hk)
     simp only [List.getElem_cons_succ]
     rw [if_neg (by omega)]
     cases k with
     | zero=>simpa using this
     | succ k=>simpa using this
theorem valid_ok {l : List Flt} (h : validF l = true) {k : Nat} (hk : k < l.length) : okF (lastF l k) l[k] = true:=valid_drop l k (-1) (by omega) h hk
theorem valid_of (l : List Flt) : ∀ last,(∀ k (hk : k < l.length),okF (if k = 0 then last else (l.getD (k - 1) noF).at_) l[k] = true) → validFrom last l = true:=by
 induction l with
 | nil=>intro last _; rfl
 | cons f l ih=>
   intro last h
   unfold validFrom
   rw [Bool.and_eq_true]
   refine ⟨by have:=h 0 (by simp); rw [if_pos rfl] at this; exact this,ih f.at_ (fun k hk=>?_)⟩
   have:=h (k + 1) (by simpa using hk)
   simp only [List.getElem_cons_succ] at this
   rw [if_neg (by omega)] at this
   cases k with
   | zero=>simpa using this
   | succ k=>simpa using this
theorem validF_of {l : List Flt} (h : ∀ k (hk : k < l.length),okF (lastF l k) l[k] = true) : validF l = true:=valid_of l (-1) h
theorem validF_not {l : List Flt} {k : Nat} (hk : k < l.length) (h : okF (lastF l k) l[k] = false) : validF l = false:=by
 cases hv : validF l
 ·rfl
 ·have:=valid_ok hv hk; rw [h] at this; cases this
theorem atF_hit (l : List Flt) (op : Int) : ∀ k (hk : k < l.length),(∀ j (hj : j < k),(l[j]'(by omega)).at_ ≠ op) → l[k].at_ = op → atF l op = l[k]:=by
 induction l with
 | nil=>intro k hk; simp at hk
 | cons f l ih=>
   intro k hk h he
   unfold atF
   cases k with
   | zero=>simp at he; rw [if_pos he]; rfl
   | succ k=>
     have h0:=h 0 (by omega)
     simp at h0
     rw [if_neg h0]
     simp only [List.getElem_cons_succ] at he ⊢
     exact ih k (by simpa using hk) (fun j hj=>by have:=h (j + 1) (by omega); simpa using this) he
theorem atF_miss (l : List Flt) (op : Int) (h : ∀ j (hj : j < l.length),l[j].at_ ≠ op) : atF l op = noF:=by
 induction l with
 | nil=>rfl
 | cons f l ih=>
   unfold atF
   have h0:=h 0 (by simp)
   simp at h0
   rw [if_neg h0]
   exact ih (fun j hj=>by have:=h (j + 1) (by simpa using hj); simpa using this)
end Go.Proofs.YtaggiceejcegdaaGreat
namespace Go.Proofs.YtaggiceejcegdaaGreat
set_option linter.unusedVariables false
open Go.RowKit
theorem aims_any (k : Int) (w : World) : Calls Tryz.prog 120 #[.int .i64 k] w fun e w'=>e = .returned (.bool (decide (k = 3) || decide (k = 5))) ∧ w = w':=by
 by_cases h3 : k = 3
 ·subst h3
  go_enter Tryz.func120,Tryz.ntmps120
  go_wp2
  go_ret
  exact ⟨by first | rfl | simp,rfl⟩
 ·by_cases h5 : k = 5
  ·subst h5
   go_enter Tryz.func120,Tryz.ntmps120
   go_wp2
   go_ret
   exact ⟨by first | rfl | simp,rfl⟩
  ·have e3 : (k == 3) = false:=by simpa using h3
   have e5 : (k == 5) = false:=by simpa using h5
   go_enter Tryz.func120,Tryz.ntmps120
   go_wp2
   go_ret
   exact ⟨by simp [h3,h5],rfl⟩
set_option maxRecDepth 100000 in
set_option maxHeartbeats 2000000 in
theorem fvalid_any (l : List Flt) (A : Option Addr) (c : Nat) (w : World) (hl : Rd w w.heap.size A (flatF l)) (hn : l.length ≤ 9223372036854775807) :
  Calls Tryz.prog 74 #[.slice A l.length c] w fun e w'=>e = .returned (.bool (validF l)) ∧ Below w.heap.size w w':=by
 have HR:=Lib.hid hl
 have HAI:=Lib.hid (fun k W=>aims_any k W)
 clear hl
 go_enter Tryz.func74,Tryz.ntmps74
 go_wp2
 go_loopw [3,8] (fun s3 s8 wr=>∃ k : Nat,k ≤ l.length ∧ s8 = .int .i64 k ∧ s3 = .int .i64 (lastF l k) ∧ Below w.heap.size w wr ∧ Hid (∀ j (hj : j < l.length),j < k → okF (lastF l j) l[j] = true)) (fun _ v _=>l.length - (intOf v).toNat)
 case atStart=>exact ⟨0,Nat.zero_le _,rfl,rfl,Below.refl _ _,by unfold Hid; intro j _ h; omega⟩
 case round=>
  obtain ⟨k,hk,rfl,rfl,hbr,HA⟩:=hrel
  by_cases hlt : k < l.length
  ·obtain ⟨go,oo,rfl,hgo,c0,c1,c2⟩:=flt_at (HR.out.below hbr (Nat.le_refl _)) hlt
   have HN : Hid (okF (lastF l k) l[k] = false → validF l = false):=validF_not hlt
   have HY : Hid (okF (lastF l k) l[k] = true → ∀ j (hj : j < l.length),j < k + 1 → okF (lastF l j) l[j] = true):=by
    unfold Hid; intro h j hj hj2
    by_cases e : j = k
    ·subst e; exact h
    ·exact HA.out j hj (by omega)
   have HL:=Lib.hid (lastF_succ l k hlt)
   have hbn : ∀ o,Below w.heap.size w (wr.alloc o):=fun o=>hbr.alloc hbr.size o
   have HBN:=Lib.hid hbn
   generalize lastF l k = last at *
   generalize l[k] = f at *
   have k0 : (0 : Int) ≤ k:=by omega
   have k1 : (k : Int) < l.length:=by omega
   clear hbn
   by_cases h1 : f.at_ ≤ last
   ·have HF:=Lib.hid (HN.out (by unfold okF; simp [h1]))
    go_wp2
    all_goals go_ret
    all_goals exact ⟨by rw [HF.out]; rfl,HBN.out _⟩
   by_cases h2 : f.kind < 1
   ·have HF:=Lib.hid (HN.out (by unfold okF; simp [h2]))
    go_wp2
    all_goals go_ret
    all_goals exact ⟨by rw [HF.out]; rfl,HBN.out _⟩
   by_cases h3 : 7 < f.kind
   ·have HF:=Lib.hid (HN.out (by unfold okF; simp [h3]))
    go_wp2
    all_goals go_ret
    all_goals exact ⟨by rw [HF.out]; rfl,HBN.out _⟩
   by_cases h4 : f.to_ < 0
   ·have HF:=Lib.hid (HN.out (by unfold okF; simp [h4]))
    go_wp2
    all_goals go_ret
    all_goals exact ⟨by rw [HF.out]; rfl,HBN.out _⟩
   by_cases h5 : f.to_ = 0
   ·have HF:=Lib.hid (HY.out (by unfold okF; simp [h1,h2,h3,h5]))
    have e5 : (f.to_ != 0) = false:=by simpa using h5
    clear h5
    go_wp2
    go_roundw
    case rel=>exact ⟨k + 1,by omega,by go_num,by rw [HL.out],HBN.out _,HF.out⟩
    case measure=>simp [intOf]; omega
   have e5 : (f.to_ != 0) = true:=by simpa using h5
   cases ha : (decide (f.kind = 3) || decide (f.kind = 5))
   ·have HF:=Lib.hid (HN.out (by unfold okF; rw [ha]; simp [h5]))
    have HAJ : Hid (∀ W,Calls Tryz.prog 120 #[.int .i64 f.kind] W fun e w'=>e = .returned (.bool false) ∧ W = w'):=by
     unfold Hid; intro W; have:=HAI.out f.kind W; rw [ha] at this; exact this
    clear h5 ha
    go_wp2_with fail
    refine (HAJ.out _).mono ?_
    rintro e w2 ⟨rfl,rfl⟩
    go_wp2
    go_ret
    exact ⟨by rw [HF.out]; rfl,HBN.out _⟩
   ·have HF:=Lib.hid (HY.out (by unfold okF; rw [ha]; simp [h1,h2,h3,h4]))
    have HAJ : Hid (∀ W,Calls Tryz.prog 120 #[.int .i64 f.kind] W fun e w'=>e = .returned (.bool true) ∧ W = w'):=by
     unfold Hid; intro W; have:=HAI.out f.kind W; rw [ha] at this; exact this
    clear h5 ha
    go_wp2_with fail
    refine (HAJ.out _).mono ?_
    rintro e w2 ⟨rfl,rfl⟩
    go_wp2
    go_roundw
    case rel=>exact ⟨k + 1,by omega,by go_num,by rw [HL.out],HBN.out _,HF.out⟩
    case measure=>simp [intOf]; omega
  ·have HF : Hid (validF l = true):=validF_of (fun j hj=>HA.out j hj (by omega))
   go_wp2
   go_ret
   exact ⟨by rw [HF.out]; rfl,hbr⟩
def AtPost (w : World) (f : Flt) (e : Ending) (w' : World) : Prop:=∃ b : Bool,e = .returned (.tuple #[f.val,.bool b]) ∧ Below w.heap.size w w'
set_option maxRecDepth 100000 in
set_option maxHeartbeats 2000000 in
theorem fat_any (l : List Flt) (op : Int) (A : Option Addr) (c : Nat) (w : World) (hl : Rd w w.heap.size A (flatF l)) (hn : l.length ≤ 9223372036854775807) :
  Calls Tryz.prog 134 #[.slice A l.length c,.int .i64 op] w (AtPost w (atF l op)):=by
 have hb0 : Below w.heap.size w (w.alloc (.cells #[.int .i64 0,.int .i64 0,.int .i64 0] 138)):=(Below.refl _ _).alloc (Nat.le_refl _) _
 have o0:=World.ownsRow_lit (base:=w.heap.size) (e:=138) (size:=3) w #[.int .i64 0,.int .i64 0,.int .i64 0] 1 (Nat.le_refl _) (by decide) rfl
 have HR:=Lib.hid (hl.below hb0 (Nat.le_refl _))
 have HM:=Lib.hid (atF_miss l op)
 have HH:=Lib.hid (atF_hit l op)
 have HO : Hid (∀ W,Below (w.heap.size + 1) (w.alloc (.cells #[.int .i64 0,.int .i64 0,.int .i64 0] 138)) W → W.ownsRow w.heap.size 138 3 (.slice (some ⟨w.heap.size,0,none⟩) 1 1) 1 [.int .i64 0,.int .i64 0,.int .i64 0]):=by
  unfold Hid; intro W hW; exact own_kept o0 (belKept hW) (fun k e=>by simp [Value.ownBlock] at e; subst e; show ¬ (w.heap.size + 1 ≤ w.heap.size); omega)
 clear hl o0
 go_enter Tryz.func134,Tryz.ntmps134
 go_wp2
 go_loopw [10] (fun v wr=>∃ k : Nat,k ≤ l.length ∧ v = .int .i64 k ∧ Below (w.heap.size + 1) (w.alloc (.cells #[.int .i64 0,.int .i64 0,.int .i64 0] 138)) wr ∧ Hid (∀ j (hj : j < l.length),j < k → l[j].at_ ≠ op)) (fun v _=>l.length - (intOf v).toNat)
 case atStart=>exact ⟨0,Nat.zero_le _,rfl,Below.refl _ _,by unfold Hid; intro j _ h; omega⟩
 case round=>
  obtain ⟨k,hk,rfl,hbr,HA⟩:=hrel
  have hbr0 : Below w.heap.size w wr:=hb0.trans (hbr.mono (by omega))
  have hsz : w.heap.size + 1 ≤ wr.heap.size:=by have:=hbr.size; simpa using this
  by_cases hlt : k < l.length
  ·obtain ⟨go,oo,rfl,hgo,c0,c1,c2⟩:=flt_at (HR.out.below (hbr.mono (by omega)) (Nat.le_refl _)) hlt
   have k0 : (0 : Int) ≤ k:=by omega
   have k1 : (k : Int) < l.length:=by omega
   have hbn : ∀ o,Below (w.heap.size + 1) (w.alloc (.cells #[.int .i64 0,.int .i64 0,.int .i64 0] 138)) (wr.alloc o):=fun o=>hbr.alloc hsz o
   have HBN:=Lib.hid hbn
   by_cases he : l[k].at_ = op
   ·have HE : Hid (atF l op = l[k]):=HH.out k hlt (fun j hj=>HA.out j (by omega) hj) he
    have e1 : (l[k].at_ == op) = true:=by simpa using he
    generalize l[k] = f at *
    clear he hbn
    have q:=HO.out _ (HBN.out (.cells #[.int .i64 f.at_,.int .i64 f.kind,.int .i64 f.to_] 138))
    have hbw:=hb0.trans ((HBN.out (.cells #[.int .i64 f.at_,.int .i64 f.kind,.int .i64 f.to_] 138)).mono (by omega))
    have r0:=(World.ownsRow.cellAt q 0 (by decide)).trans rfl
    have r1:=(World.ownsRow.cellAt q 1 (by decide)).trans rfl
    have r2:=(World.ownsRow.cellAt q 2 (by decide)).trans rfl
    have f0:=q.frozenAt 0
    have f1:=q.frozenAt 1
    have f2:=q.frozenAt 2
    clear q
    go_wp2
    have hbe:=Lib.hid (((hbw.setCell (p:=⟨w.heap.size,0,none⟩) (Nat.le_refl _) (.int .i64 f.at_)).setCell (p:=⟨w.heap.size,1,none⟩) (Nat.le_refl _) (.int .i64 f.kind)).setCell (p:=⟨w.heap.size,2,none⟩) (Nat.le_refl _) (.int .i64 f.to_))
    exact bodyPost_ret (v:=.tuple #[.agg #[.int .i64 f.at_,.int .i64 f.kind,.int .i64 f.to_],.bool true]) (by simp [results,Tryz.results134,go_sem, *]) rfl ⟨true,by rw [HE.out]; rfl,hbe.out⟩
   ·have e1 : (l[k].at_ == op) = false:=by simpa using he
    have HY : Hid (∀ j (hj : j < l.length),j < k + 1 → l[j].at_ ≠ op):=by
     unfold Hid; intro j hj hj2
     by_cases e : j = k
     ·subst e; exact he
     ·exact HA.out j hj (by omega)
    generalize l[k] = f at *
    clear he hbn
    go_wp2
    go_roundw
    case rel=>exact ⟨k + 1,by omega,by go_num,HBN.out _,HY.out⟩
    case measure=>simp [intOf]; omega
  ·have HE : Hid (atF l op = noF):=HM.out (fun j hj=>HA.out j hj (by omega))
   have q:=HO.out wr hbr
   have hbw:=hbr0
   have r0:=(World.ownsRow.cellAt q 0 (by decide)).trans rfl
   have r1:=(World.ownsRow.cellAt q 1 (by decide)).trans rfl
   have r2:=(World.ownsRow.cellAt q 2 (by decide)).trans rfl
   have f0:=q.frozenAt 0
   have f1:=q.frozenAt 1
   have f2:=q.frozenAt 2
   clear q
   go_wp2
   have hbe:=Lib.hid (((hbw.setCell (p:=⟨w.heap.size,0,none⟩) (Nat.le_refl _) (.int .i64 0)).setCell (p:=⟨w.heap.size,1,none⟩) (Nat.le_refl _) (.int .i64 0)).setCell (p:=⟨w.heap.size,2,none⟩) (Nat.le_refl _) (.int .i64 0))
   exact bodyPost_ret (v:=.tuple #[.agg #[.int .i64 0,.int .i64 0,.int .i64 0],.bool false]) (by simp [results,Tryz.results134,go_sem, *]) rfl ⟨false,by rw [HE.out]; rfl,hbe.out⟩
end Go.Proofs.YtaggiceejcegdaaGreat
namespace Go.Proofs.YtaggiceejcegdaaGreat
set_option linter.unusedVariables false
open Go.RowKit
def IsT (t : TypeId) (w : World) (k : Nat) : Prop:=∃ cur fr,w.heap[k]? = some (.cells cur t fr)
def HasT (ts : List TypeId) (w : World) (k : Nat) : Prop:=∃ t,t ∈ ts ∧ IsT t w k
structure Bd where
 n : Nat
 X : Nat → Prop
 top : Nat
 hx : ∀ k,X k → k < top
 le : n ≤ top
def Bd.has (B : Bd) (k : Nat) : Prop:=B.n ≤ k ∧ ¬ B.X k
def Bd.of (n : Nat) : Bd:=⟨n,fun _=>False,n,fun _ h=>h.elim,Nat.le_refl _⟩
theorem Bd.fresh {B : Bd} {k : Nat} (h : B.top ≤ k) : B.has k:=⟨Nat.le_trans B.le h,fun hx=>by have:=B.hx k hx; omega⟩
theorem Bd.nx {B : Bd} {k : Nat} (h : B.top ≤ k) : ¬ B.X k:=(Bd.fresh h).2
def Bd.Sub (N : Nat) (C B : Bd) : Prop:=B.n ≤ C.n ∧ ∀ k,k < N → C.has k → B.has k
theorem Bd.subOf {N : Nat} {B : Bd} {n : Nat} (h : B.top ≤ n) : Bd.Sub N (Bd.of n) B:=⟨Nat.le_trans B.le h,fun _ _ hk=>Bd.fresh (Nat.le_trans h hk.1)⟩
def KeptT (ts : List TypeId) (B : Bd) (w w' : World) : Prop:=Kept (fun k=>B.has k ∧ HasT ts w k) w w'
section
variable {ts us : List TypeId} {B C : Bd} {w w' w'' : World} {S : Nat → Prop} {t t' : TypeId}
theorem IsT.same {k : Nat} (h : IsT t w k) (h' : IsT t' w k) : t = t':=by
 obtain ⟨c1,f1,h1⟩:=h
 obtain ⟨c2,f2,h2⟩:=h'
 rw [h1] at h2; injection h2 with h2; injection h2
theorem IsT.ne {a b : Nat} (h : IsT t w a) (h' : IsT t' w b) (ht : t ≠ t') : a ≠ b:=fun e=>by subst e; exact ht (h.same h')
theorem IsT.lt {k : Nat} (h : IsT t w k) : k < w.heap.size:=by obtain ⟨_,_,h⟩:=h; exact lt_of_block h
theorem IsT.of {k : Nat} {cur : Array Value} {fr : Nat × Nat} (h : w.heap[k]? = some (.cells cur t fr)) : IsT t w k:=⟨cur,fr,h⟩
theorem IsT.own {base : Nat} {size n c k : Nat} {xs : List Value} (h : w.ownsRow base t size (.slice (some ⟨k,0,none⟩) n c) n xs) : IsT t w k:=by
 obtain ⟨cur,h⟩:=own_type h; exact ⟨cur,_,h⟩
theorem HasT.no {k : Nat} (h : IsT t w k) (ht : t ∉ ts) : ¬ HasT ts w k:=fun ⟨u,hu,h'⟩=>ht (h.same h' ▸ hu)
theorem HasT.mem {k : Nat} (h : IsT t w k) (ht : t ∈ ts) : HasT ts w k:=⟨t,ht,h⟩
theorem KeptT.refl (ts : List TypeId) (B : Bd) (w : World) : KeptT ts B w w:=Kept.refl _ _
theorem KeptT.trans (h : KeptT ts B w w') (k : KeptT ts B w' w'') : KeptT ts B w w'':=
 Kept.trans h k (fun i hi hs=>by
  by_cases hh : B.has i ∧ HasT ts w i
  ·exact hh
  ·have e:=h.block i hi hh
   obtain ⟨h1,t,ht,cur,fr,h2⟩:=hs
   exact ⟨h1,t,ht,cur,fr,e.symm.trans h2⟩)
theorem KeptT.of (h : Kept S w w') (hS : ∀ k,k < w.heap.size → S k → B.has k ∧ HasT ts w k) : KeptT ts B w w':=h.more hS
theorem KeptT.bel (h : Below w.heap.size w w') : KeptT ts B w w':=belKept0 h
theorem KeptT.thenBelow (h : KeptT ts B w w') (k : Below w'.heap.size w' w'') : KeptT ts B w w'':=Kept.thenBelow h k
theorem KeptT.below (h : KeptT ts B w w') (hB : B.n ≤ w.heap.size) : Below B.n w w':=Kept.below h (fun _ h=>h.1.1) hB
theorem KeptT.wider (h : KeptT ts C w w') (hs : ∀ k,C.has k → B.has k) : KeptT ts B w w':=Kept.more h (fun _ _ ⟨h1,h2⟩=>⟨hs _ h1,h2⟩)
theorem KeptT.sub (h : KeptT ts B w w') (hs : ∀ t,t ∈ ts → t ∈ us) : KeptT us B w w':=Kept.more h (fun _ _ ⟨h1,t,ht,h2⟩=>⟨h1,t,hs t ht,h2⟩)
theorem KeptT.free (ht : t ∉ ts) : Free w t (fun k=>B.has k ∧ HasT ts w k):=fun k hk _ cur fr e=>HasT.no (IsT.of e) ht hk.2
theorem KeptT.no {k : Nat} (h : IsT t w k) (ht : t ∉ ts) : ¬ (B.has k ∧ HasT ts w k):=fun h'=>HasT.no h ht h'.2
theorem KeptT.size (h : KeptT ts B w w') : w.heap.size ≤ w'.heap.size:=Kept.size h
theorem Med.types {m bs : Nat} {g : Geo} {L : List Sec} (h : Med w m bs g L) : IsT 197 w m ∧ IsT 216 w bs:=by
 obtain ⟨c,V,h1,h2,h3,h4⟩:=h
 exact ⟨IsT.of h1,IsT.own h2⟩
theorem RMed.types {m bs : Nat} {g : Geo} {L : List Sec} (h : RMed w m bs g L) : IsT 200 w m ∧ IsT 234 w bs:=by
 obtain ⟨c,h1,h2⟩:=h
 exact ⟨IsT.of h1,IsT.own h2⟩
end
def OpV.bare (o : OpV) : OpV:={ o with A:=none,c:=0 }
theorem playL_snoc (g : Geo) (L : List Sec) (l : List OpV) (o : OpV) : playL g L (l ++ [o]) = doL g (playL g L l) o:=by unfold playL; rw [List.foldl_append]; rfl
theorem doL_err {g : Geo} {L : List Sec} {o : OpV} (h : doE g L o ≠ 0) : doL g L o = L:=by
 unfold doE at h; unfold doL
 split
 ·rename_i he
  rw [if_pos he] at h
  unfold eraseE at h; unfold eraseL
  split
  ·rename_i hi
   rw [if_pos hi] at h; exact absurd rfl h
  ·rfl
 ·rename_i he
  rw [if_neg he] at h
  unfold writeE at h; unfold writeL
  cases hi : inL L o.at_
  ·rfl
  ·rw [hi,if_pos rfl] at h
   by_cases hl : o.xs.length ≤ 64
   ·rw [if_pos hl] at h; exact absurd rfl h
   ·rw [decide_eq_false hl]; rfl
def cutN (keep : Int) (n : Nat) : Nat:=(min (max keep 0) n).toNat
theorem cutN_le (keep : Int) (n : Nat) : cutN keep n ≤ n:=by unfold cutN; omega
theorem cutN_all {keep : Int} {n : Nat} (h : ¬ keep < n) : cutN keep n = n:=by unfold cutN; omega
def CT : List TypeId:=[216,180,182]
def RT : List TypeId:=[234,204]
def OpFn (w : World) (v : Value) (o : OpV) : Prop:=
 I64 o.at_ ∧ o.xs.length ≤ 100000 ∧
 ((o.er = true ∧ ∃ (pa : Nat) (fr : Nat × Nat),False ∧ w.heap[pa]? = some (.cells #[.int .i64 o.at_] 3 fr)) ∨
  (o.er = false ∧ ∃ pa pb A c fr fr',v = .func (.func 136) #[] #[.pointer (some ⟨pa,0,none⟩),.pointer (some ⟨pb,0,none⟩)] ∧ w.heap[pa]? = some (.cells #[.int .i64 o.at_] 3 fr) ∧
    w.heap[pb]? = some (.cells #[.slice A o.xs.length c] 26 fr') ∧ RdT w 5 A (o.xs.map (Value.int .u8))))
def FreeF (w : World) (S : Nat → Prop) : Prop:=Free w 3 S ∧ Free w 26 S ∧ Free w 5 S
section
variable {w w' : World} {S : Nat → Prop} {B : Bd} {p : Nat} {g : Geo} {LM : List Sec} {ops : List OpV}
theorem FreeF.none (w : World) : FreeF w (fun _=>False):=⟨Free.none _ _,Free.none _ _,Free.none _ _⟩
theorem FreeF.one {k : Nat} {t : TypeId} (h : IsT t w k) (h1 : t ≠ 3) (h2 : t ≠ 26) (h3 : t ≠ 5) : FreeF w (fun i=>i = k):=by
 obtain ⟨cur,fr,h⟩:=h
 exact ⟨Free.one h h1,Free.one h h2,Free.one h h3⟩
theorem FreeF.all {ts : List TypeId} (h1 : 3 ∉ ts) (h2 : 26 ∉ ts) (h3 : 5 ∉ ts) : FreeF w (fun k=>B.has k ∧ HasT ts w k):=⟨KeptT.free h1,KeptT.free h2,KeptT.free h3⟩
theorem FreeF.or {T : Nat → Prop} (h : FreeF w S) (k : FreeF w T) : FreeF w (fun i=>S i ∨ T i):=⟨h.1.or k.1,h.2.1.or k.2.1,h.2.2.or k.2.2⟩
theorem OpFn.kept {v : Value} {o : OpV} (h : OpFn w v o) (hk : Kept S w w') (hf : FreeF w S) : OpFn w' v o:=by
 obtain ⟨h1,h2,h3⟩:=h
 refine ⟨h1,h2,?_⟩
 rcases h3 with ⟨e,pa,fr,hv,ha⟩ | ⟨e,pa,pb,A,c,fr,fr',hv,ha,hb,hr⟩
 ·exact .inl ⟨e,pa,fr,hv,hk.obj ha (fun hs=>hf.1 pa hs (lt_of_block ha) _ _ ha)⟩
 ·exact .inr ⟨e,pa,pb,A,c,fr,fr',hv,hk.obj ha (fun hs=>hf.1 pa hs (lt_of_block ha) _ _ ha),hk.obj hb (fun hs=>hf.2.1 pb hs (lt_of_block hb) _ _ hb),hr.kept hk hf.2.2⟩
structure Cac (w : World) (B : Bd) (p : Nat) (g : Geo) (LM : List Sec) (ops : List OpV) (m1 b1 m2 b2 : Nat) (A : Option Addr) (c : Nat) (F : List Value) : Prop where
 obj : w.ownsRow B.n 180 3 (.slice (some ⟨p,0,none⟩) 1 1) 1 [.pointer (some ⟨m1,0,none⟩),.pointer (some ⟨m2,0,none⟩),.slice A ops.length c]
 px : ¬ B.X p
 ax : ∀ k,(Value.slice A ops.length c).ownBlock = some k → ¬ B.X k
 lb1 : B.has b1
 lb2 : B.has b2
 ne : b1 ≠ b2
 med1 : Med w m1 b1 g LM
 med2 : Med w m2 b2 g (playL g LM ops)
 own : w.ownsRow B.n 182 1 (.slice A ops.length c) ops.length F
 fn : ∀ (i : Nat) (o : OpV),ops[i]? = some o → ∃ v,F[i]? = some v ∧ OpFn w v o
def CacheM (w : World) (B : Bd) (p : Nat) (g : Geo) (LM : List Sec) (ops : List OpV) : Prop:=∃ m1 b1 m2 b2 A c F,Cac w B p g LM ops m1 b1 m2 b2 A c F
section
variable {m1 b1 m2 b2 : Nat} {A : Option Addr} {c : Nat} {F : List Value}
theorem Cac.kept (h : Cac w B p g LM ops m1 b1 m2 b2 A c F) (hk : Kept S w w') (hp : ¬ S p) (h1 : ¬ S m1) (h2 : ¬ S b1) (h3 : ¬ S m2) (h4 : ¬ S b2) (hA : ∀ k,(Value.slice A ops.length c).ownBlock = some k → ¬ S k) (hf : FreeF w S) : Cac w' B p g LM ops m1 b1 m2 b2 A c F:=
 ⟨own_kept h.obj hk (fun k e=>by simp [Value.ownBlock] at e; subst e; exact hp),h.px,h.ax,h.lb1,h.lb2,h.ne,h.med1.kept hk h1 h2 hf.2.2,h.med2.kept hk h3 h4 hf.2.2,own_kept h.own hk hA,fun i o ho=>by
   obtain ⟨v,hv,hF⟩:=h.fn i o ho
   exact ⟨v,hv,hF.kept hk hf⟩⟩
theorem Cac.typ (h : Cac w B p g LM ops m1 b1 m2 b2 A c F) : IsT 180 w p:=IsT.own h.obj
theorem Cac.typA (h : Cac w B p g LM ops m1 b1 m2 b2 A c F) : ∀ k,(Value.slice A ops.length c).ownBlock = some k → IsT 182 w k ∧ B.has k:=by
 intro k hk
 rcases h.own.2 with ⟨h2,_⟩ | ⟨g',cap,cur,h2,h3,h4,_⟩
 ·rw [h2] at hk; cases hk
 ·rw [h2] at hk; injection hk with hk; subst hk; exact ⟨IsT.of h4,h3,h.ax _ (by rw [h2]; rfl)⟩
theorem Cac.low (h : Cac w B p g LM ops m1 b1 m2 b2 A c F) : B.has p:=by
 rcases h.obj.2 with ⟨h2,_⟩ | ⟨g',cap,cur,h2,h3,_⟩
 ·cases h2
 ·injection h2 with h2; injection h2 with h2; injection h2 with h2; subst h2; exact ⟨h3,h.px⟩
theorem Cac.cells (h : Cac w B p g LM ops m1 b1 m2 b2 A c F) : w.cell? ⟨p,0,none⟩ = some (.pointer (some ⟨m1,0,none⟩)) ∧ w.cell? ⟨p,1,none⟩ = some (.pointer (some ⟨m2,0,none⟩)) ∧ w.cell? ⟨p,2,none⟩ = some (.slice A ops.length c):=
 ⟨(World.ownsRow.cellAt h.obj 0 (by decide)).trans rfl,(World.ownsRow.cellAt h.obj 1 (by decide)).trans rfl,(World.ownsRow.cellAt h.obj 2 (by decide)).trans rfl⟩
theorem Cac.lt (h : Cac w B p g LM ops m1 b1 m2 b2 A c F) : p < w.heap.size:=h.typ.lt
theorem Cac.keptT {ts : List TypeId} {B' : Bd} (h : Cac w B p g LM ops m1 b1 m2 b2 A c F) (hk : KeptT ts B' w w') (ht : ∀ t,t ∈ [180,197,216,182,3,26,5] → t ∉ ts) : Cac w' B p g LM ops m1 b1 m2 b2 A c F:=
 h.kept hk (KeptT.no h.typ (ht _ (by simp))) (KeptT.no h.med1.types.1 (ht _ (by simp))) (KeptT.no h.med1.types.2 (ht _ (by simp))) (KeptT.no h.med2.types.1 (ht _ (by simp))) (KeptT.no h.med2.types.2 (ht _ (by simp)))
  (fun k hk'=>KeptT.no (h.typA k hk').1 (ht _ (by simp))) (FreeF.all (ht 3 (by simp)) (ht 26 (by simp)) (ht 5 (by simp)))
end
theorem CacheM.keptR {B' : Bd} (h : CacheM w B p g LM ops) (hk : KeptT RT B' w w') : CacheM w' B p g LM ops:=by
 obtain ⟨m1,b1,m2,b2,A,c,F,h⟩:=h
 exact ⟨m1,b1,m2,b2,A,c,F,h.keptT hk (by unfold RT; decide)⟩
theorem CacheM.below0 (h : CacheM w B p g LM ops) (hk : Below w.heap.size w w') : CacheM w' B p g LM ops:=h.keptR (B':=Bd.of 0) (KeptT.bel hk)
structure RCac (w : World) (B : Bd) (p : Nat) (g : Geo) (LM : List Sec) (l : List OpV) (m b : Nat) (A : Option Addr) (c : Nat) : Prop where
 obj : w.ownsRow B.n 204 2 (.slice (some ⟨p,0,none⟩) 1 1) 1 [.pointer (some ⟨m,0,none⟩),.slice A l.length c]
 px : ¬ B.X p
 lb : B.has b
 med : RMed w m b g LM
 rd : RdT w 172 A (flatOps l)
 op : ∀ o ∈ l,I64 o.at_ ∧ o.xs.length ≤ 100000 ∧ RdT w 5 o.A (o.xs.map (Value.int .u8))
 nil : l = [] → A = none ∧ c = 0
def RCacheM (w : World) (B : Bd) (p : Nat) (g : Geo) (LM : List Sec) (ops : List OpV) : Prop:=∃ l m b A c,l.map OpV.bare = ops ∧ RCac w B p g LM l m b A c
section
variable {m b : Nat} {A : Option Addr} {c : Nat} {l : List OpV}
theorem RCac.kept (h : RCac w B p g LM l m b A c) (hk : Kept S w w') (hp : ¬ S p) (h1 : ¬ S m) (h2 : ¬ S b) (hA : Free w 172 S) (hf : Free w 5 S) : RCac w' B p g LM l m b A c:=
 ⟨own_kept h.obj hk (fun k e=>by simp [Value.ownBlock] at e; subst e; exact hp),h.px,h.lb,h.med.kept hk h1 h2,h.rd.kept hk hA,fun o ho=>by
   obtain ⟨a1,a2,a3⟩:=h.op o ho
   exact ⟨a1,a2,a3.kept hk hf⟩,h.nil⟩
theorem RCac.typ (h : RCac w B p g LM l m b A c) : IsT 204 w p:=IsT.own h.obj
theorem RCac.low (h : RCac w B p g LM l m b A c) : B.has p:=by
 rcases h.obj.2 with ⟨h2,_⟩ | ⟨g',cap,cur,h2,h3,_⟩
 ·cases h2
 ·injection h2 with h2; injection h2 with h2; injection h2 with h2; subst h2; exact ⟨h3,h.px⟩
theorem RCac.lt (h : RCac w B p g LM l m b A c) : p < w.heap.size:=h.typ.lt
theorem RCac.keptT {ts : List TypeId} {B' : Bd} (h : RCac w B p g LM l m b A c) (hk : KeptT ts B' w w') (ht : ∀ t,t ∈ [204,200,234,172,5] → t ∉ ts) : RCac w' B p g LM l m b A c:=
 h.kept hk (KeptT.no h.typ (ht _ (by simp))) (KeptT.no h.med.types.1 (ht _ (by simp))) (KeptT.no h.med.types.2 (ht _ (by simp))) (KeptT.free (ht 172 (by simp))) (KeptT.free (ht 5 (by simp)))
end
theorem RCacheM.keptC {B' : Bd} (h : RCacheM w B p g LM ops) (hk : KeptT CT B' w w') : RCacheM w' B p g LM ops:=by
 obtain ⟨l,m,b,A,c,e,h⟩:=h
 exact ⟨l,m,b,A,c,e,h.keptT hk (by unfold CT; decide)⟩
theorem RCacheM.below0 (h : RCacheM w B p g LM ops) (hk : Below w.heap.size w w') : RCacheM w' B p g LM ops:=h.keptC (B':=Bd.of 0) (KeptT.bel hk)
end
end Go.Proofs.YtaggiceejcegdaaGreat
namespace Go.Proofs.YtaggiceejcegdaaGreat
set_option linter.unusedVariables false
open Go.RowKit
theorem info_fn : (Tryz.prog.info? 182).map (fun i=>(i.zero,i.size,i.bytes)) = some (some .nilFunc,1,8):=by kernel_rfl
section
variable {w w' : World} {S : Nat → Prop} {B : Bd} {p : Nat} {g : Geo} {LM : List Sec} {ops : List OpV}
set_option maxHeartbeats 400000 in
theorem wfn_any {m bs : Nat} {L : List Sec} (a : Int) (ha : I64 a) (xs : List Int) (A : Option Addr) (c : Nat) (pa pb : Nat) (hm : Med w m bs g L) (hf : Fit g L) (h0 : w.cell? ⟨pa,0,none⟩ = some (.int .i64 a)) (h1 : w.cell? ⟨pb,0,none⟩ = some (.slice A xs.length c))
  (hr : Rd w w.heap.size A (xs.map (Value.int .u8))) (hn : xs.length ≤ 100000) :
  Calls Tryz.prog 136 #[.pointer (some ⟨m,0,none⟩),.pointer (some ⟨pa,0,none⟩),.pointer (some ⟨pb,0,none⟩)] w (WritePost w m bs g (writeE L a xs) (writeL g L a xs)):=by
 have HE:=Lib.hid (write_any a ha hm hf xs A c hr hn)
 clear hm hf hr ha
 go_enter Tryz.func136,Tryz.ntmps136
 go_wp2_with fail
 refine HE.out.mono ?_
 rintro e w1 ⟨rfl,hm1,hk1⟩
 go_wp2
 go_ret
 exact ⟨rfl,hm1,hk1⟩
theorem fn_any {v : Value} {o : OpV} {m bs : Nat} {L : List Sec} (hv : OpFn w v o) (hm : Med w m bs g L) (hf : Fit g L) :
  (∃ pa : Nat,v = .func (.func pa) #[] #[] ∧ False) ∨
  (∃ pa pb : Nat,v = .func (.func 136) #[] #[.pointer (some ⟨pa,0,none⟩),.pointer (some ⟨pb,0,none⟩)] ∧ Calls Tryz.prog 136 #[.pointer (some ⟨m,0,none⟩),.pointer (some ⟨pa,0,none⟩),.pointer (some ⟨pb,0,none⟩)] w (WritePost w m bs g (doE g L o) (doL g L o))):=by
 obtain ⟨h1,h2,h3⟩:=hv
 rcases h3 with ⟨e,pa,fr,hv,ha⟩ | ⟨e,pa,pb,A,c,fr,fr',hv,ha,hb,hr⟩
 ·exact hv.elim
 ·refine .inr ⟨pa,pb,hv,?_⟩
  unfold doE doL; rw [if_neg (by simp [e]),if_neg (by simp [e])]
  exact wfn_any o.at_ h1 o.xs A c pa pb hm hf (by rw [cell_of_row _ _ _ _ _ _ ha]; rfl) (by rw [cell_of_row _ _ _ _ _ _ hb]; rfl) hr.rd h2
variable {m1 b1 m2 b2 : Nat} {A : Option Addr} {c : Nat} {F : List Value}
theorem cac_push {w1 w2 : World} {v : Value} {o : OpV} {q cap : Nat} {fr : Nat × Nat} (h : Cac w B p g LM ops m1 b1 m2 b2 A c F) (hq : ¬ B.X q) (hm : Med w1 m2 b2 g (doL g (playL g LM ops) o)) (hk : Kept (fun k=>k = b2) w w1) (hv : OpFn w v o)
  (hown : w2.ownsRow B.n 182 1 (.slice (some ⟨q,0,none⟩) (ops.length + 1) cap) (ops.length + 1) (F ++ [v])) (hgr : (w1.alloc (.cells #[v] 182 fr)).grownBy w2 (Value.slice A ops.length c).ownBlock) :
  Cac (w2.setCell ⟨p,2,none⟩ (.slice (some ⟨q,0,none⟩) (ops.length + 1) cap)) B p g LM (ops ++ [o]) m1 b1 m2 b2 (some ⟨q,0,none⟩) cap (F ++ [v]) ∧
  KeptT CT B w (w2.setCell ⟨p,2,none⟩ (.slice (some ⟨q,0,none⟩) (ops.length + 1) cap)):=by
 have hlow:=h.low
 have t1:=h.med1.types
 have t2:=h.med2.types
 have tp:=h.typ
 have tA:=h.typA
 have hpb : p ≠ b2:=tp.ne t2.2 (by decide)
 have hk2 : Kept (fun k=>k = b2 ∨ (Value.slice A ops.length c).ownBlock = some k) w w2:=
  (hk.alloc (.cells #[v] 182 fr)).more (T:=fun k=>k = b2 ∨ (Value.slice A ops.length c).ownBlock = some k) (fun _ _ h=>.inl h) |>.grown hgr (fun i _ e=>.inr e)
 have hpA : ¬ ((Value.slice A ops.length c).ownBlock = some p):=fun e=>(tp.ne (tA p e).1 (by decide)) rfl
 have hobj2 : w2.ownsRow B.n 180 3 (.slice (some ⟨p,0,none⟩) 1 1) 1 [.pointer (some ⟨m1,0,none⟩),.pointer (some ⟨m2,0,none⟩),.slice A ops.length c]:=
  own_kept h.obj hk2 (fun k e=>by simp [Value.ownBlock] at e; subst e; exact fun hs=>hs.elim hpb hpA)
 have hk3 : Kept (fun k=>(k = b2 ∨ (Value.slice A ops.length c).ownBlock = some k) ∨ k = p) w (w2.setCell ⟨p,2,none⟩ (.slice (some ⟨q,0,none⟩) (ops.length + 1) cap)):=
  (hk2.more (T:=fun k=>(k = b2 ∨ (Value.slice A ops.length c).ownBlock = some k) ∨ k = p) (fun _ _ h=>.inl h)).setCell (p:=⟨p,2,none⟩) (fun _=>.inr rfl) _
 have hf : FreeF w (fun k=>(k = b2 ∨ (Value.slice A ops.length c).ownBlock = some k) ∨ k = p):=by
  have fA : FreeF w (fun k=>(Value.slice A ops.length c).ownBlock = some k):=
   ⟨fun k hk _ cur fr e=>absurd ((tA k hk).1.same (IsT.of e)) (by decide),fun k hk _ cur fr e=>absurd ((tA k hk).1.same (IsT.of e)) (by decide),fun k hk _ cur fr e=>absurd ((tA k hk).1.same (IsT.of e)) (by decide)⟩
  exact ((FreeF.one t2.2 (by decide) (by decide) (by decide)).or fA).or (FreeF.one tp (by decide) (by decide) (by decide))
 have hqp : q ≠ p:=fun e=>by
  subst e
  exact absurd ((IsT.own hown).same (IsT.own hobj2)) (by decide)
 have hk13 : Kept (fun k=>(Value.slice A ops.length c).ownBlock = some k ∨ k = p) w1 (w2.setCell ⟨p,2,none⟩ (.slice (some ⟨q,0,none⟩) (ops.length + 1) cap)):=
  (((Kept.refl (fun k=>(Value.slice A ops.length c).ownBlock = some k) w1).alloc (.cells #[v] 182 fr)).grown hgr (fun i _ e=>e)).more (T:=fun k=>(Value.slice A ops.length c).ownBlock = some k ∨ k = p) (fun _ _ h=>.inl h) |>.setCell (p:=⟨p,2,none⟩) (fun _=>.inr rfl) _
 have tA1 : ∀ k,(Value.slice A ops.length c).ownBlock = some k → IsT 182 w1 k:=fun k e=>by
  obtain ⟨⟨cur,fr,h1⟩,_⟩:=tA k e
  exact ⟨cur,fr,hk.obj h1 (fun e'=>(tA k e).1.ne t2.2 (by decide) e')⟩
 have tp1 : IsT 180 w1 p:=by
  obtain ⟨cur,fr,h1⟩:=tp
  exact ⟨cur,fr,hk.obj h1 (fun e'=>hpb e')⟩
 have s2:=hm.types
 have hm2 : Med (w2.setCell ⟨p,2,none⟩ (.slice (some ⟨q,0,none⟩) (ops.length + 1) cap)) m2 b2 g (playL g LM (ops ++ [o])):=by
  rw [playL_snoc]
  exact hm.kept hk13 (fun hs=>hs.elim (fun e=>absurd ((tA1 _ e).same s2.1) (by decide)) (fun e=>absurd (tp1.same (e ▸ s2.1)) (by decide)))
   (fun hs=>hs.elim (fun e=>absurd ((tA1 _ e).same s2.2) (by decide)) (fun e=>absurd (tp1.same (e ▸ s2.2)) (by decide)))
   (fun k hk _ cur fr e=>hk.elim (fun e'=>absurd ((tA1 _ e').same (IsT.of e)) (by decide)) (fun e'=>absurd (tp1.same (e' ▸ IsT.of e)) (by decide)))
 refine ⟨⟨?_,h.px,fun k e=>by simp [Value.ownBlock] at e; subst e; exact hq,h.lb1,h.lb2,h.ne,?_,hm2,?_,?_⟩,?_⟩
 ·have:=(World.ownsRow.stored hobj2 2 (.slice (some ⟨q,0,none⟩) (ops.length + 1) cap)).1
  simpa using this
 ·exact h.med1.kept hk3 (fun hs=>by
   rcases hs with (e | e) | e
   ·exact t1.1.ne t2.2 (by decide) e
   ·exact absurd ((tA _ e).1.same t1.1) (by decide)
   ·exact t1.1.ne tp (by decide) e)
   (fun hs=>by
   rcases hs with (e | e) | e
   ·exact h.ne e
   ·exact absurd ((tA _ e).1.same t1.2) (by decide)
   ·exact t1.2.ne tp (by decide) e) hf.2.2
 ·have h':=own_kept hown ((Kept.refl (fun k=>k = p) w2).setCell (p:=⟨p,2,none⟩) (fun _=>rfl) (.slice (some ⟨q,0,none⟩) (ops.length + 1) cap)) (fun k e=>by simp [Value.ownBlock] at e; subst e; exact hqp)
  simpa using h'
 ·intro i o' ho
  rw [List.getElem?_append] at ho
  have hFl : F.length = ops.length:=by have:=h.own.1; omega
  by_cases hi : i < ops.length
  ·rw [if_pos hi] at ho
   obtain ⟨u,hu,hF⟩:=h.fn i o' ho
   exact ⟨u,by rw [List.getElem?_append,if_pos (by omega)]; exact hu,hF.kept hk3 hf⟩
  ·rw [if_neg hi] at ho
   have hi' : i - ops.length = 0:=by
    rcases Nat.eq_zero_or_pos (i - ops.length) with h0 | h0
    ·exact h0
    ·rw [List.getElem?_eq_none (by simp; omega)] at ho; cases ho
   rw [hi'] at ho
   simp at ho
   subst ho
   exact ⟨v,by rw [List.getElem?_append,if_neg (by omega)]; rw [show i - F.length = 0 by omega]; rfl,hv.kept hk3 hf⟩
 ·refine KeptT.of hk3 (fun k _ hs=>?_)
  rcases hs with (e | e) | e
  ·subst e; exact ⟨h.lb2,HasT.mem t2.2 (by simp [CT])⟩
  ·exact ⟨(tA k e).2,HasT.mem (tA k e).1 (by simp [CT])⟩
  ·subst e; exact ⟨hlow,HasT.mem tp (by simp [CT])⟩
theorem cac_fail {w1 : World} {o : OpV} (h : Cac w B p g LM ops m1 b1 m2 b2 A c F) (hE : doE g (playL g LM ops) o ≠ 0) (hm : Med w1 m2 b2 g (doL g (playL g LM ops) o)) (hk : Kept (fun k=>k = b2) w w1) :
  Cac w1 B p g LM ops m1 b1 m2 b2 A c F ∧ KeptT CT B w w1:=by
 have t1:=h.med1.types
 have t2:=h.med2.types
 have tp:=h.typ
 have hf:=FreeF.one t2.2 (by decide) (by decide) (by decide)
 rw [doL_err hE] at hm
 refine ⟨⟨own_kept h.obj hk (fun k e=>by simp [Value.ownBlock] at e; subst e; exact tp.ne t2.2 (by decide)),h.px,h.ax,h.lb1,h.lb2,h.ne,h.med1.kept hk (t1.1.ne t2.2 (by decide)) h.ne hf.2.2,hm,own_kept h.own hk (fun k e=>(h.typA k e).1.ne t2.2 (by decide)),fun i o ho=>?_⟩,KeptT.of hk (fun k _ hs=>?_)⟩
 ·obtain ⟨v,hv,hF⟩:=h.fn i o ho
  exact ⟨v,hv,hF.kept hk hf⟩
 ·have e : k = b2:=hs
  subst e; exact ⟨h.lb2,HasT.mem t2.2 (by simp [CT])⟩
def DoPost (w : World) (B : Bd) (p : Nat) (g : Geo) (LM : List Sec) (ops : List OpV) (o : OpV) (e : Ending) (w' : World) : Prop:=
 e = .returned (.int .i64 (doE g (playL g LM ops) o)) ∧ CacheM w' B p g LM (if doE g (playL g LM ops) o = 0 then ops ++ [o] else ops) ∧ KeptT CT B w w'
set_option maxRecDepth 100000 in
set_option maxHeartbeats 1000000 in
theorem cdo_any {v : Value} {o : OpV} (h : CacheM w B p g LM ops) (hf : Fit g LM) (hv : OpFn w v o) (hB : B.top ≤ w.heap.size) (hn : ops.length ≤ 100000) :
  Calls Tryz.prog 135 #[.pointer (some ⟨p,0,none⟩),v] w (DoPost w B p g LM ops o):=by
 obtain ⟨m1,b1,m2,b2,A,c,F,h⟩:=h
 obtain ⟨i0,hi,hz0,hz1,hz2⟩:=info_parts info_fn
 have hf2 : Fit g (playL g LM ops):=hf.len (playL_len _ _ _)
 have hfn:=fn_any hv h.med2 hf2
 obtain ⟨c0,c1,c2⟩:=h.cells
 have hpb : ¬ (p = b2):=h.typ.ne h.med2.types.2 (by decide)
 have hown0:=h.own
 have hv1 : v.oneCell' = true:=by rcases hfn with ⟨pa,rfl,_⟩ | ⟨pa,pb,rfl,_⟩ <;> rfl
 have HOA : Hid (∀ w1,Kept (fun k=>k = b2) w w1 → w1.ownsRow B.n 182 1 (.slice A ops.length c) ops.length F):=by
  unfold Hid; intro w1 hk1; exact own_kept h.own hk1 (fun k e=>(h.typA k e).1.ne h.med2.types.2 (by decide))
 have hpA : ¬ ((Value.slice A ops.length c).ownBlock = some p):=fun e=>(h.typ.ne (h.typA p e).1 (by decide)) rfl
 have HOB : Hid (∀ w1 w2 : World,Kept (fun k=>k = b2) w w1 → (w1.alloc (.cells #[v] 182)).grownBy w2 (Value.slice A ops.length c).ownBlock → w2.ownsRow B.n 180 3 (.slice (some ⟨p,0,none⟩) 1 1) 1 [.pointer (some ⟨m1,0,none⟩),.pointer (some ⟨m2,0,none⟩),.slice A ops.length c]):=by
  unfold Hid; intro w1 w2 hk1 hgr
  have hk2 : Kept (fun k=>k = b2 ∨ (Value.slice A ops.length c).ownBlock = some k) w w2:=
   (hk1.alloc (.cells #[v] 182)).more (T:=fun k=>k = b2 ∨ (Value.slice A ops.length c).ownBlock = some k) (fun _ _ h=>.inl h) |>.grown hgr (fun i _ e=>.inr e)
  exact own_kept h.obj hk2 (fun k e=>by simp [Value.ownBlock] at e; subst e; exact fun hs=>hs.elim hpb hpA)
 have HFR : Hid (∀ w1 w2 : World,Kept (fun k=>k = b2) w w1 → (w1.alloc (.cells #[v] 182)).grownBy w2 (Value.slice A ops.length c).ownBlock → w2.frozen? ⟨p,2,none⟩ = false):=by
  unfold Hid; intro w1 w2 hk1 hgr; exact (HOB.out w1 w2 hk1 hgr).frozenAt 2
 have HCE : Hid (∀ w1 w2 : World,Kept (fun k=>k = b2) w w1 → (w1.alloc (.cells #[v] 182)).grownBy w2 (Value.slice A ops.length c).ownBlock → w2.cell? ⟨p,2,none⟩ = some (.slice A ops.length c)):=by
  unfold Hid; intro w1 w2 hk1 hgr; exact (World.ownsRow.cellAt (HOB.out w1 w2 hk1 hgr) 2 (by decide)).trans rfl
 have HAX : Hid (∀ q H,B.top ≤ H → ((Value.slice A ops.length c).ownBlock = some q ∨ q = H) → ¬ B.X q):=by
  unfold Hid; intro q H hH hq; exact hq.elim (h.ax q) (fun e=>Bd.nx (by omega))
 by_cases hE : doE g (playL g LM ops) o = 0
 ·have HP : Hid (∀ w1 w2 q cap,¬ B.X q → Med w1 m2 b2 g (doL g (playL g LM ops) o) → Kept (fun k=>k = b2) w w1 → w2.ownsRow B.n 182 1 (.slice (some ⟨q,0,none⟩) (ops.length + 1) cap) (ops.length + 1) (F ++ [v]) → (w1.alloc (.cells #[v] 182)).grownBy w2 (Value.slice A ops.length c).ownBlock → CacheM (w2.setCell ⟨p,2,none⟩ (.slice (some ⟨q,0,none⟩) (ops.length + 1) cap)) B p g LM (if doE g (playL g LM ops) o = 0 then ops ++ [o] else ops) ∧ KeptT CT B w (w2.setCell ⟨p,2,none⟩ (.slice (some ⟨q,0,none⟩) (ops.length + 1) cap))):=by
   unfold Hid; intro w1 w2 q cap hq hm hk ho hg
   have:=cac_push h hq hm hk hv ho hg
   rw [if_pos hE]
   exact ⟨⟨_,_,_,_,_,_,_,this.1⟩,this.2⟩
  have HE:=Lib.hid hE
  rw [hE] at hfn
  clear hE h hf hf2 hv hown0
  rcases hfn with ⟨pa,rfl,hc⟩ | ⟨pa,pb,rfl,hc⟩
  ·exact hc.elim
  ·have HC:=Lib.hid hc
   clear hc
   go_enter Tryz.func135,Tryz.ntmps135
   go_wp2_with fail
   refine HC.out.mono ?_
   rintro e w1 ⟨rfl,hm1,hk1⟩
   have k2:=hk1.cell c2 hpb
   have hoA:=(HOA.out w1 hk1).alloc (.cells #[(.func (.func 136) #[] #[.pointer (some ⟨pa,0,none⟩),.pointer (some ⟨pb,0,none⟩)])] 182)
   have hB2 : B.top ≤ w1.heap.size:=Nat.le_trans hB hk1.size
   have hB1 : B.n ≤ w1.heap.size:=Nat.le_trans B.le hB2
   go_wp2_with (at_builtin; refine wpList_append_lies _ rfl _ _ 178 rfl B.n 182 i0 _ 1 8 Tryz.underlying178 hi hz0 hz1 hz2 rfl (by decide) _ ops.length F rfl hoA ⟨w1.heap.size,0,none⟩ 1 1 [(.func (.func 136) #[] #[.pointer (some ⟨pa,0,none⟩),.pointer (some ⟨pb,0,none⟩)])] rfl rfl (World.news_of_block (heap_alloc_new _ _)) (by intro u hu; simp at hu; subst hu; rfl) (by decide) (by unfold maxLen; omega) (by omega) (by simp; omega) _ rfl ?_)
   intro q cap w2 hown hgrow hloc hlt
   have hF:=HP.out w1 w2 q cap (HAX.out _ _ (by first | omega | (simp; omega)) hloc) hm1 hk1 hown hgrow
   have HF:=Lib.hid hF
   have hp1:=hk1.size
   have hfr : w2.frozen? ⟨p,2,none⟩ = false:=HFR.out w1 w2 hk1 hgrow
   have hce : w2.cell? ⟨p,2,none⟩ = some (.slice A ops.length c):=HCE.out w1 w2 hk1 hgrow
   clear hF hown hgrow hloc hoA k2 hm1
   go_wp2
   go_ret
   exact ⟨by rw [HE.out]; rfl,HF.out⟩
 ·have HP : Hid (∀ w1,Med w1 m2 b2 g (doL g (playL g LM ops) o) → Kept (fun k=>k = b2) w w1 → CacheM w1 B p g LM (if doE g (playL g LM ops) o = 0 then ops ++ [o] else ops) ∧ KeptT CT B w w1):=by
   unfold Hid; intro w1 hm hk
   have:=cac_fail h hE hm hk
   rw [if_neg hE]
   exact ⟨⟨_,_,_,_,_,_,_,this.1⟩,this.2⟩
  have hE2 : (doE g (playL g LM ops) o == 0) = false:=by simpa using hE
  generalize hEE : doE g (playL g LM ops) o = E at *
  have HEE:=Lib.hid hEE
  clear hE h hf hf2 hv hown0 hEE
  rcases hfn with ⟨pa,rfl,hc⟩ | ⟨pa,pb,rfl,hc⟩
  ·exact hc.elim
  ·have HC:=Lib.hid hc
   clear hc
   go_enter Tryz.func135,Tryz.ntmps135
   go_wp2_with fail
   refine HC.out.mono ?_
   rintro e w1 ⟨rfl,hm1,hk1⟩
   go_wp2
   go_ret
   unfold DoPost
   rw [HEE.out]
   exact ⟨rfl,HP.out w1 hm1 hk1⟩
end
end Go.Proofs.YtaggiceejcegdaaGreat
namespace Go.Proofs.YtaggiceejcegdaaGreat
set_option linter.unusedVariables false
open Go.RowKit
section
variable {w w' : World} {S : Nat → Prop} {B : Bd} {p : Nat} {g : Geo} {LM : List Sec} {ops : List OpV}
theorem DoPost.from {w0 : World} {o : OpV} {e : Ending} (h : DoPost w B p g LM ops o e w') (hk : KeptT CT B w0 w) : DoPost w0 B p g LM ops o e w':=⟨h.1,h.2.1,hk.trans h.2.2⟩
set_option maxRecDepth 100000 in
set_option maxHeartbeats 1000000 in
theorem cwrite_any (a : Int) (ha : I64 a) (xs : List Int) (A : Option Addr) (c : Nat) (hr : Rd w w.heap.size A (xs.map (Value.int .u8))) (hx : xs.length ≤ 100000) (h : CacheM w B p g LM ops) (hf : Fit g LM) (hB : B.top ≤ w.heap.size) (hn : ops.length ≤ 100000) :
  Calls Tryz.prog 93 #[.pointer (some ⟨p,0,none⟩),.int .i64 a,.slice A xs.length c] w (DoPost w B p g LM ops ⟨false,a,xs,none,0⟩):=by
 have hb0 : Below w.heap.size w ((w.alloc (.cells #[.int .i64 a] 3)).alloc (.cells #[.slice A xs.length c] 26)):=((Below.refl _ _).alloc (Nat.le_refl _) _).alloc (by simp) _
 have HC:=Lib.hid (cloneb_any xs A c _ ((hr.below hb0 (Nat.le_refl _)).more hb0.size) hx)
 have o0 : ((w.alloc (.cells #[.int .i64 a] 3)).alloc (.cells #[.slice A xs.length c] 26)).heap[w.heap.size]? = some (.cells #[.int .i64 a] 3 (0,0)):=by
  rw [belObj (B:=w.heap.size + 1) (w:=w.alloc (.cells #[.int .i64 a] 3)) ((Below.refl _ _).alloc (by simp) _) (heap_alloc_new w _) (by omega)]
 have o1 : ((w.alloc (.cells #[.int .i64 a] 3)).alloc (.cells #[.slice A xs.length c] 26)).heap[w.heap.size + 1]? = some (.cells #[.slice A xs.length c] 26 (0,0)):=by
  have:=heap_alloc_new (w.alloc (.cells #[.int .i64 a] 3)) (.cells #[.slice A xs.length c] 26)
  simpa using this
 have HD : Hid (∀ w1 v,Bys 5 w1 v xs → Below ((w.alloc (.cells #[.int .i64 a] 3)).alloc (.cells #[.slice A xs.length c] 26)).heap.size ((w.alloc (.cells #[.int .i64 a] 3)).alloc (.cells #[.slice A xs.length c] 26)) w1 →
   Calls Tryz.prog 135 #[.pointer (some ⟨p,0,none⟩),.func (.func 136) #[] #[.pointer (some ⟨w.heap.size,0,none⟩),.pointer (some ⟨w.heap.size + 1,0,none⟩)]] (w1.setCell ⟨w.heap.size + 1,0,none⟩ v) (DoPost w B p g LM ops ⟨false,a,xs,none,0⟩)):=by
  unfold Hid; intro w1 v hv hb1
  have q0:=belObj hb1 o0 (by simp; omega)
  have q1:=belObj hb1 o1 (by simp)
  have hk:=(Kept.refl (fun k=>k = w.heap.size + 1) w1).setCell (p:=⟨w.heap.size + 1,0,none⟩) (fun _=>rfl) v
  have hbs : Below w.heap.size w (w1.setCell ⟨w.heap.size + 1,0,none⟩ v):=(hb0.trans (hb1.mono hb0.size)).setCell (p:=⟨w.heap.size + 1,0,none⟩) (by simp) v
  have hv2:=hv.kept hk (Free.one q1 (by decide))
  obtain ⟨A',c',rfl,hrd,_⟩:=hv2
  have hF : OpFn (w1.setCell ⟨w.heap.size + 1,0,none⟩ (.slice A' xs.length c')) (.func (.func 136) #[] #[.pointer (some ⟨w.heap.size,0,none⟩),.pointer (some ⟨w.heap.size + 1,0,none⟩)]) ⟨false,a,xs,none,0⟩:=
   ⟨ha,hx,.inr ⟨rfl,w.heap.size,w.heap.size + 1,A',c',_,_,rfl,hk.obj q0 (by show ¬ (w.heap.size = w.heap.size + 1); omega),one_setCell q1,hrd⟩⟩
  exact (cdo_any (h.below0 hbs) hf hF (Nat.le_trans hB hbs.size) hn).mono fun e w' hp=>DoPost.from hp (KeptT.bel hbs)
 have HO1 : Hid (∀ w1,Below ((w.alloc (.cells #[.int .i64 a] 3)).alloc (.cells #[.slice A xs.length c] 26)).heap.size ((w.alloc (.cells #[.int .i64 a] 3)).alloc (.cells #[.slice A xs.length c] 26)) w1 → w1.heap[w.heap.size + 1]? = some (.cells #[.slice A xs.length c] 26 (0,0))):=by
  unfold Hid; intro w1 hb1; exact belObj hb1 o1 (by simp)
 clear h hf hr ha o0 o1
 go_enter Tryz.func93,Tryz.ntmps93
 go_wp2_with fail
 refine HC.out.mono ?_
 rintro e w1 ⟨v,rfl,hv,hb1⟩
 have q1:=HO1.out w1 hb1
 have r0:=cell_of_one q1
 have r1:=free_of_one q1
 have HF:=Lib.hid (HD.out w1 v hv hb1)
 obtain ⟨A',c',rfl,_,_⟩:=hv
 clear q1
 go_wp2_with fail
 refine HF.out.mono ?_
 rintro e w2 ⟨rfl,h2,hk2⟩
 go_wp2
 go_ret
 exact ⟨rfl,h2,hk2⟩
end
end Go.Proofs.YtaggiceejcegdaaGreat
namespace Go.Proofs.YtaggiceejcegdaaGreat
set_option linter.unusedVariables false
open Go.RowKit
section
variable {w w' : World} {S : Nat → Prop} {B : Bd} {p : Nat} {g : Geo} {LM : List Sec} {ops : List OpV}
def CutPost (w : World) (B : Bd) (p : Nat) (g : Geo) (LM : List Sec) (ops : List OpV) (n : Nat) (e : Ending) (w' : World) : Prop:=
 e = .returned (.tuple #[]) ∧ CacheM w' B p g (playL g LM (ops.take n)) [] ∧ KeptT CT B w w'
section
variable {m1 b1 m2 b2 : Nat} {A : Option Addr} {c : Nat} {F : List Value}
theorem cac_cut {w1 : World} {L' : List Sec} (h : Cac w B p g LM ops m1 b1 m2 b2 A c F) (hm : Med w1 m1 b1 g L') (hk : Kept (fun k=>k = b1) w w1) :
  (w1.setCell ⟨p,2,none⟩ (.slice none 0 0)).ownsRow B.n 180 3 (.slice (some ⟨p,0,none⟩) 1 1) 1 [.pointer (some ⟨m1,0,none⟩),.pointer (some ⟨m2,0,none⟩),.slice none 0 0] ∧
  Med (w1.setCell ⟨p,2,none⟩ (.slice none 0 0)) m1 b1 g L' ∧ Med (w1.setCell ⟨p,2,none⟩ (.slice none 0 0)) m2 b2 g (playL g LM ops) ∧ KeptT CT B w (w1.setCell ⟨p,2,none⟩ (.slice none 0 0)):=by
 have t1:=h.med1.types
 have t2:=h.med2.types
 have tp:=h.typ
 have hlow:=h.low
 have hpb : ¬ (p = b1):=tp.ne t1.2 (by decide)
 have hobj:=own_kept h.obj hk (fun k e=>by simp [Value.ownBlock] at e; subst e; exact hpb)
 have tp1 : IsT 180 w1 p:=IsT.own hobj
 have hk2 : Kept (fun k=>k = b1 ∨ k = p) w (w1.setCell ⟨p,2,none⟩ (.slice none 0 0)):=
  (hk.more (T:=fun k=>k = b1 ∨ k = p) (fun _ _ h=>.inl h)).setCell (p:=⟨p,2,none⟩) (fun _=>.inr rfl) _
 have hk1 : Kept (fun k=>k = p) w1 (w1.setCell ⟨p,2,none⟩ (.slice none 0 0)):=(Kept.refl (fun k=>k = p) _).setCell (p:=⟨p,2,none⟩) (fun _=>rfl) _
 refine ⟨?_,?_,?_,?_⟩
 ·have:=(World.ownsRow.stored hobj 2 (.slice none 0 0)).1
  simpa using this
 ·exact hm.kept hk1 (hm.types.1.ne tp1 (by decide)) (hm.types.2.ne tp1 (by decide)) (FreeF.one tp1 (by decide) (by decide) (by decide)).2.2
 ·exact h.med2.kept hk2 (fun e=>e.elim (t2.1.ne t1.2 (by decide)) (t2.1.ne tp (by decide))) (fun e=>e.elim (fun e=>h.ne e.symm) (t2.2.ne tp (by decide)))
   ((FreeF.one t1.2 (by decide) (by decide) (by decide)).or (FreeF.one tp (by decide) (by decide) (by decide))).2.2
 ·refine KeptT.of hk2 (fun k _ hs=>?_)
  rcases hs with e | e
  ·subst e; exact ⟨h.lb1,HasT.mem t1.2 (by simp [CT])⟩
  ·subst e; exact ⟨hlow,HasT.mem tp (by simp [CT])⟩
theorem own_nil (w : World) (B : Nat) (t : TypeId) : w.ownsRow B t 1 (.slice none 0 0) 0 []:=⟨rfl,.inl ⟨rfl,rfl⟩⟩
theorem cac_lost {w2 w3 : World} {L' : List Sec} {m b : Nat} (hB : B.top ≤ w2.heap.size) (h1 : B.has b1) (hr : w2.ownsRow B.n 180 3 (.slice (some ⟨p,0,none⟩) 1 1) 1 [.pointer (some ⟨m1,0,none⟩),.pointer (some ⟨m2,0,none⟩),.slice none 0 0])
  (hm : Med w2 m1 b1 g L') (hbl : Below w2.heap.size w2 w3) (hm' : Med w3 m b g L') (hb : w2.heap.size ≤ b) (hlow : B.has p) :
  CacheM (w3.setCell ⟨p,1,none⟩ (.pointer (some ⟨m,0,none⟩))) B p g L' [] ∧ KeptT CT B w2 (w3.setCell ⟨p,1,none⟩ (.pointer (some ⟨m,0,none⟩))):=by
 have hr3:=own_kept hr (belKept0 (S:=fun _=>False) hbl) (fun _ _ h=>h)
 have tp:=IsT.own hr3
 have hm3:=hm.below0 hbl
 have hk1 : Kept (fun k=>k = p) w3 (w3.setCell ⟨p,1,none⟩ (.pointer (some ⟨m,0,none⟩))):=(Kept.refl (fun k=>k = p) _).setCell (p:=⟨p,1,none⟩) (fun _=>rfl) _
 have hf:=(FreeF.one tp (by decide) (by decide) (by decide)).2.2
 have hlt:=hm.lt
 refine ⟨⟨m1,b1,m,b,none,0,[],?_,hlow.2,fun k e=>by simp [Value.ownBlock] at e,h1,Bd.fresh (Nat.le_trans hB hb),by omega,hm3.kept hk1 (hm3.types.1.ne tp (by decide)) (hm3.types.2.ne tp (by decide)) hf,hm'.kept hk1 (hm'.types.1.ne tp (by decide)) (hm'.types.2.ne tp (by decide)) hf,own_nil _ _ _,fun i o ho=>by simp at ho⟩,?_⟩
 ·have:=(World.ownsRow.stored hr3 1 (.pointer (some ⟨m,0,none⟩))).1
  simpa using this
 ·exact (KeptT.bel hbl).trans (KeptT.of hk1 (fun k _ hs=>by have e : k = p:=hs; subst e; exact ⟨hlow,HasT.mem tp (by simp [CT])⟩))
end
set_option maxRecDepth 100000 in
set_option maxHeartbeats 1000000 in
theorem ccut_any (keep : Int) (h : CacheM w B p g LM ops) (hf : Fit g LM) (hB : B.top ≤ w.heap.size) (hn : ops.length ≤ 100000) :
  Calls Tryz.prog 70 #[.pointer (some ⟨p,0,none⟩),.int .i64 keep] w (CutPost w B p g LM ops (cutN keep ops.length)):=by
 obtain ⟨m1,b1,m2,b2,A,c,F,h⟩:=h
 obtain ⟨c0,c1,c2⟩:=h.cells
 have hcc : ops.length ≤ c:=by
  rcases h.own.2 with ⟨h2,h3⟩ | ⟨g',cap,cur,e1,_,_,e4,_⟩
  ·omega
  ·injection e1 with _ _ e1; subst e1; exact e4
 have hNL : Hid (decide (keep < (ops.length : Int)) = false → cutN keep ops.length = ops.length):=by
  unfold Hid; intro h; exact cutN_all (of_decide_eq_false h)
 obtain ⟨K,e1⟩ : ∃ K,(if keep < 0 then (0 : Int) else keep) = K:=⟨_,rfl⟩
 have e2 : (if (ops.length : Int) < K then (ops.length : Int) else K) = (cutN keep ops.length : Nat):=by
  unfold cutN; subst e1; split <;> split <;> omega
 have hnl:=cutN_le keep ops.length
 generalize cutN keep ops.length = n at *
 have n0 : (0 : Int) ≤ n:=by omega
 have n1 : (n : Int) ≤ c:=by omega
 have hpb : ¬ (p = b1):=h.typ.ne h.med1.types.2 (by decide)
 have hlow:=h.low
 have HF:=Lib.hid hf
 have H:=Lib.hid h
 have hm1:=h.med1
 have hlb1:=h.lb1
 clear hf h
 go_enter Tryz.func70,Tryz.ntmps70
 go_wp2
 go_quiet (fail)
 have hkq : Kept (fun k=>k = b1) w (w.drewN nq):=(Kept.refl (fun k=>k = b1) w).drewN nq
 have hmq : Med (w.drewN nq) m1 b1 g LM:=hm1.kept ((Kept.refl (fun _=>False) w).drewN nq) (fun h=>h) (fun h=>h) (Free.none _ _)
 generalize w.drewN nq = wq at *
 generalize decide (keep < (ops.length : Int)) = lo at *
 clear e1 e2 hm1
 go_wp2
 go_loopw [6,30] (fun x v wr=>∃ k : Nat,k ≤ n ∧ v = .int .i64 k ∧ Med wr m1 b1 g (playL g LM (ops.take k)) ∧ Kept (fun k=>k = b1) w wr) (fun _ v _=>n - (intOf v).toNat)
 case atStart=>exact ⟨0,Nat.zero_le _,rfl,hmq,hkq⟩
 case round=>
  obtain ⟨k,hk,rfl,hmr,hkr⟩:=hrel
  by_cases hlt : k < n
  ·have hop : k < ops.length:=by omega
   obtain ⟨v,hv,hF⟩:=H.out.fn k _ (List.getElem?_eq_getElem hop)
   obtain ⟨q,rfl,hq,_⟩:=own_at H.out.own (by omega)
   have tq:=H.out.typA q rfl
   have hqb : ¬ (q = b1):=tq.1.ne H.out.med1.types.2 (by decide)
   have hcq : w.cell? ⟨q,k,none⟩ = some v:=by
    rw [World.ownsRow.cellAt H.out.own k (by omega)]; exact hv
   have hcr:=hkr.cell hcq hqb
   have hT:=Lib.hid (playL_take g LM ops k hop)
   have hFr:=hF.kept hkr (FreeF.one H.out.med1.types.2 (by decide) (by decide) (by decide))
   have hfn:=fn_any hFr hmr (HF.out.len (playL_len _ _ _))
   have d0:=(hkr.cell c0 hpb)
   have k0 : (0 : Int) ≤ k:=by omega
   have k1 : (k : Int) < n:=by omega
   generalize playL g LM (ops.take k) = X at *
   generalize ops[k] = o at *
   clear hF hFr hv hmr hcq
   rcases hfn with ⟨pa,rfl,hc⟩ | ⟨pa,pb,rfl,hc⟩
   ·exact hc.elim
   ·have HC:=Lib.hid hc
    clear hc
    go_wp2_with fail
    refine HC.out.mono ?_
    rintro e w1 ⟨rfl,hm1,hk1⟩
    have hk2:=hkr.trans hk1 (fun _ _ h=>h)
    have HM1:=Lib.hid hm1
    clear hm1 hk1 hcr d0
    go_wp2
    go_roundw
    case rel=>exact ⟨k + 1,by omega,by go_num,by rw [hT.out]; exact HM1.out,hk2⟩
    case measure=>simp [intOf]; omega
  ·obtain rfl : k = n:=by omega
   obtain ⟨hr2,hm2,hm2',hk2⟩:=cac_cut H.out hmr hkr
   have hobj:=own_kept H.out.obj hkr (fun k e=>by simp [Value.ownBlock] at e; subst e; exact hpb)
   have d2 : wr.cell? ⟨p,2,none⟩ = some (.slice A ops.length c):=(World.ownsRow.cellAt hobj 2 (by decide)).trans rfl
   have f2:=hobj.frozenAt 2
   have hsz : w.heap.size ≤ (wr.setCell ⟨p,2,none⟩ (.slice none 0 0)).heap.size:=hk2.size
   cases lo
   ·have hn':=hNL.out rfl
    have HC : Hid (CacheM (wr.setCell ⟨p,2,none⟩ (.slice none 0 0)) B p g (playL g LM (ops.take k)) []):=by
     unfold Hid
     refine ⟨m1,b1,m2,b2,none,0,[],hr2,hlow.2,fun k e=>by simp [Value.ownBlock] at e,hlb1,H.out.lb2,H.out.ne,hm2,?_,own_nil _ _ _,fun i o ho=>by simp at ho⟩
     rw [hn',List.take_of_length_le (Nat.le_refl _)]; exact hm2'
    clear hmr hkr hr2 hm2 hm2' hmq hkq hobj hn'
    go_wp2
    go_end0
    exact ⟨rfl,HC.out,hk2⟩
   ·have HLST:=Lib.hid (fun w3 m b hbl hm' hb=>cac_lost (w3:=w3) (m:=m) (b:=b) (Nat.le_trans hB hsz) hlb1 hr2 hm2 hbl hm' hb hlow)
    have HCL:=Lib.hid (clone_any hm2 (HF.out.len (playL_len _ _ _)))
    have s0 : (wr.setCell ⟨p,2,none⟩ (.slice none 0 0)).cell? ⟨p,0,none⟩ = some (.pointer (some ⟨m1,0,none⟩)):=(World.ownsRow.cellAt hr2 0 (by decide)).trans rfl
    have HRO:=Lib.hid hr2
    have hk2':=hk2
    clear hmr hkr hr2 hm2 hm2' hmq hkq hobj
    go_wp2_with fail
    refine HCL.out.mono ?_
    rintro e w3 ⟨m3,b3,rfl,hm3,hmm3,hbb3,hb3⟩
    have hr3:=own_kept HRO.out (belKept0 (S:=fun _=>False) hb3) (fun _ _ h=>h)
    have r1 : w3.cell? ⟨p,1,none⟩ = some (.pointer (some ⟨m2,0,none⟩)):=(World.ownsRow.cellAt hr3 1 (by decide)).trans rfl
    have r2:=hr3.frozenAt 1
    have HL:=Lib.hid (HLST.out w3 m3 b3 hb3 hm3 hbb3)
    clear hm3 hb3 hr3 s0
    go_wp2
    go_end0
    exact ⟨rfl,HL.out.1,hk2.trans HL.out.2⟩
set_option maxHeartbeats 400000 in
theorem cflush_any (h : CacheM w B p g LM ops) (hf : Fit g LM) (hB : B.top ≤ w.heap.size) (hn : ops.length ≤ 100000) :
  Calls Tryz.prog 94 #[.pointer (some ⟨p,0,none⟩)] w (CutPost w B p g LM ops ops.length):=by
 have HC:=Lib.hid (ccut_any (ops.length : Int) h hf hB hn)
 have hnn : cutN (ops.length : Int) ops.length = ops.length:=cutN_all (by omega)
 rw [hnn] at HC
 obtain ⟨m1,b1,m2,b2,A,c,F,h⟩:=h
 obtain ⟨c0,c1,c2⟩:=h.cells
 clear h hf hnn
 go_enter Tryz.func94,Tryz.ntmps94
 go_wp2_with fail
 refine HC.out.mono ?_
 rintro e w1 ⟨rfl,h1,hk1⟩
 go_wp2
 go_end0
 exact ⟨rfl,h1,hk1⟩
end
end Go.Proofs.YtaggiceejcegdaaGreat
namespace Go.Proofs.YtaggiceejcegdaaGreat
set_option linter.unusedVariables false
open Go.RowKit
section
variable {w w' : World} {S : Nat → Prop} {B : Bd} {p : Nat} {g : Geo} {LM : List Sec} {ops : List OpV}
theorem cread_any (a : Int) (h : CacheM w B p g LM ops) (hf : Fit g LM) (hb : ShortB LM) :
  Calls Tryz.prog 101 #[.pointer (some ⟨p,0,none⟩),.int .i64 a] w (ReadPost w (readB (playL g LM ops) a) (readE (playL g LM ops) a)):=by
 obtain ⟨m1,b1,m2,b2,A,c,F,h⟩:=h
 obtain ⟨c0,c1,c2⟩:=h.cells
 have HC:=Lib.hid (read_any a h.med2 (hf.len (playL_len _ _ _)) (short_play ops hb))
 clear h hf
 go_enter Tryz.func101,Tryz.ntmps101
 go_wp2_with fail
 refine HC.out.mono ?_
 rintro e w1 ⟨v,rfl,hv,hb1⟩
 go_wp2
 go_ret2
 exact ⟨_,rfl,hv,hb1⟩
def CNewPost (w : World) (g : Geo) (LM : List Sec) (ops : List OpV) (e : Ending) (w' : World) : Prop:=
 ∃ p,e = .returned (.pointer (some ⟨p,0,none⟩)) ∧ CacheM w' (Bd.of w.heap.size) p g LM ops ∧ Below w.heap.size w w'
theorem cac_new {w2 : World} {m1 b1 m2 b2 : Nat} {A : Option Addr} {c : Nat} {F : List Value} (hb : w.heap.size ≤ w2.heap.size) (h1 : w.heap.size ≤ b1) (h2 : w.heap.size ≤ b2) (hne : b1 ≠ b2) (hm1 : Med w2 m1 b1 g LM) (hm2 : Med w2 m2 b2 g (playL g LM ops))
  (ho : w2.ownsRow w.heap.size 182 1 (.slice A ops.length c) ops.length F) (hF : ∀ (i : Nat) (o : OpV),ops[i]? = some o → ∃ v,F[i]? = some v ∧ OpFn w2 v o) :
  CacheM (w2.alloc (.cells #[.pointer (some ⟨m1,0,none⟩),.pointer (some ⟨m2,0,none⟩),.slice A ops.length c] 180)) (Bd.of w.heap.size) w2.heap.size g LM ops:=by
 have hb2 : Below w2.heap.size w2 (w2.alloc (.cells #[.pointer (some ⟨m1,0,none⟩),.pointer (some ⟨m2,0,none⟩),.slice A ops.length c] 180)):=(Below.refl _ _).alloc (Nat.le_refl _) _
 refine ⟨m1,b1,m2,b2,A,c,F,?_,fun h=>h,fun _ _ h=>h,⟨h1,fun h=>h⟩,⟨h2,fun h=>h⟩,hne,hm1.below0 hb2,hm2.below0 hb2,ho.alloc _,fun i o h=>?_⟩
 ·exact World.ownsRow_lit (base:=w.heap.size) (e:=180) (size:=3) w2 #[.pointer (some ⟨m1,0,none⟩),.pointer (some ⟨m2,0,none⟩),.slice A ops.length c] 1 hb (by decide) rfl
 ·obtain ⟨v,hv,h'⟩:=hF i o h
  exact ⟨v,hv,h'.kept (belKept0 (S:=fun _=>False) hb2) (FreeF.none _)⟩
set_option maxHeartbeats 1000000 in
theorem cnew_any {m bs : Nat} {L : List Sec} (hm : Med w m bs g L) (hf : Fit g L) : Calls Tryz.prog 75 #[.pointer (some ⟨m,0,none⟩)] w (CNewPost w g L []):=by
 have HC : Hid (∀ W,Below w.heap.size w W → Calls Tryz.prog 110 #[.pointer (some ⟨m,0,none⟩)] W (ClonePost W g L)):=by
  unfold Hid; intro W hW; exact clone_any (hm.below0 hW) hf
 clear hm hf
 go_enter Tryz.func75,Tryz.ntmps75
 go_wp2_with fail
 refine (HC.out _ (Below.refl _ _)).mono ?_
 rintro e w1 ⟨m1,b1,rfl,hm1,hmm1,hbb1,hb1⟩
 go_wp2_with fail
 refine (HC.out _ hb1).mono ?_
 rintro e w2 ⟨m2,b2,rfl,hm2,hmm2,hbb2,hb2⟩
 have hl1:=hm1.lt
 have hN:=cac_new (w:=w) (ops:=[]) (LM:=L) (A:=none) (c:=0) (F:=[]) (Nat.le_trans hb1.size hb2.size) hbb1 (Nat.le_trans hb1.size hbb2) (by omega) (hm1.below0 hb2) hm2 (own_nil _ _ _) (fun i o h=>by simp at h)
 have HN:=Lib.hid hN
 have hbl : Below w.heap.size w w2:=hb1.trans (hb2.mono hb1.size)
 clear hm1 hm2 hN
 go_wp2
 go_ret
 exact ⟨_,rfl,HN.out,hbl.alloc hbl.size _⟩
end
end Go.Proofs.YtaggiceejcegdaaGreat
namespace Go.Proofs.YtaggiceejcegdaaGreat
set_option linter.unusedVariables false
open Go.RowKit
structure DS where
 r : Int
 w : Int
 e : Int
 f : Int
 ops : Int
 seen : Int
 key : Int
 dead : Bool
structure Pow where
 off : Bool
 armed : Bool
 left : Int
 fails : Int
def stE (s : DS) (P : Pow) : Int:=if s.dead then 14 else if P.off || decide (s.seen ≠ P.fails) then 13 else 0
def trip (P : Pow) : Bool:=P.armed && decide (P.left = 0)
def callP (P : Pow) : Pow:=if trip P then ⟨true,false,wrap64 (P.left - 1),wrap64 (P.fails + 1)⟩ else ⟨P.off,P.armed,wrap64 (P.left - 1),P.fails⟩
def dObj (g : Geo) (s : DS) (p pw : Nat) (FA : Option Addr) (fn fc : Nat) : List Value:=
 [.int .i64 s.r,.int .i64 s.w,.int .i64 s.e,.int .i64 s.f,.int .i64 s.ops,.int .i64 g.random,.int .i64 g.bands,.int .i64 g.tracks,.int .i64 g.sectors,.int .i64 g.overlap,
  .pointer (some ⟨p,0,none⟩),.slice FA fn fc,.pointer (some ⟨pw,0,none⟩),.int .i64 s.seen,.int .u64 s.key,.bool s.dead]
def pObj (P : Pow) : List Value:=[.bool P.off,.bool P.armed,.int .i64 P.left,.int .i64 P.fails]
structure PowM (w : World) (B : Bd) (pw : Nat) (P : Pow) : Prop where
 obj : w.ownsRow B.n 120 4 (.slice (some ⟨pw,0,none⟩) 1 1) 1 (pObj P)
 px : ¬ B.X pw
structure Dsk (w : World) (B : Bd) (q pw : Nat) (g : Geo) (F : List Flt) (s : DS) (LM : List Sec) (O : List OpV) (p : Nat) (FA : Option Addr) (fc : Nat) : Prop where
 obj : w.ownsRow B.n 127 16 (.slice (some ⟨q,0,none⟩) 1 1) 1 (dObj g s p pw FA F.length fc)
 px : ¬ B.X q
 c : CacheM w B p g LM O
 fl : RdT w 138 FA (flatF F)
def DiskM (w : World) (B : Bd) (q pw : Nat) (g : Geo) (F : List Flt) (s : DS) (LM : List Sec) (O : List OpV) : Prop:=∃ p FA fc,Dsk w B q pw g F s LM O p FA fc
section
variable {w w' : World} {B : Bd} {q pw p : Nat} {g : Geo} {F : List Flt} {s : DS} {P : Pow} {LM : List Sec} {O : List OpV} {FA : Option Addr} {fc : Nat}
theorem row_low {w : World} {B : Nat} {t : TypeId} {n k : Nat} {xs : List Value} (h : w.ownsRow B t n (.slice (some ⟨k,0,none⟩) 1 1) 1 xs) : B ≤ k:=by
 rcases h.2 with ⟨h2,_⟩ | ⟨g',cap,cur,h2,h3,_⟩
 ·cases h2
 ·injection h2 with h2; injection h2 with h2; injection h2 with h2; subst h2; exact h3
theorem CacheM.keptT {ts : List TypeId} {B' : Bd} (h : CacheM w B p g LM O) (hk : KeptT ts B' w w') (ht : ∀ t,t ∈ [180,197,216,182,3,26,5] → t ∉ ts) : CacheM w' B p g LM O:=by
 obtain ⟨m1,b1,m2,b2,A,c,G,h⟩:=h
 exact ⟨m1,b1,m2,b2,A,c,G,h.keptT hk ht⟩
theorem Dsk.keptT {ts : List TypeId} {B' : Bd} (h : Dsk w B q pw g F s LM O p FA fc) (hk : KeptT ts B' w w') (ht : ∀ t,t ∈ [180,197,216,182,3,26,5] → t ∉ ts) (h1 : 127 ∉ ts) (h2 : 138 ∉ ts) : Dsk w' B q pw g F s LM O p FA fc:=
 ⟨own_kept h.obj hk (fun k e=>by simp [Value.ownBlock] at e; subst e; exact KeptT.no (IsT.own h.obj) h1),h.px,h.c.keptT hk ht,h.fl.kept hk (KeptT.free h2)⟩
theorem Dsk.keptP {B' : Bd} (h : Dsk w B q pw g F s LM O p FA fc) (hk : KeptT [120] B' w w') : Dsk w' B q pw g F s LM O p FA fc:=h.keptT hk (by decide) (by decide) (by decide)
theorem Dsk.below0 (h : Dsk w B q pw g F s LM O p FA fc) (hk : Below w.heap.size w w') : Dsk w' B q pw g F s LM O p FA fc:=h.keptP (B':=Bd.of 0) (KeptT.bel hk)
theorem PowM.keptT {ts : List TypeId} {B' : Bd} (h : PowM w B pw P) (hk : KeptT ts B' w w') (ht : 120 ∉ ts) : PowM w' B pw P:=⟨own_kept h.obj hk (fun k e=>by simp [Value.ownBlock] at e; subst e; exact KeptT.no (IsT.own h.obj) ht),h.px⟩
theorem PowM.below0 (h : PowM w B pw P) (hk : Below w.heap.size w w') : PowM w' B pw P:=h.keptT (ts:=[]) (B':=Bd.of 0) (KeptT.bel hk) (by simp)
theorem Dsk.store (h : Dsk w B q pw g F s LM O p FA fc) (j : Nat) (v : Value) (s' : DS) (e : (dObj g s p pw FA F.length fc).set j v = dObj g s' p pw FA F.length fc) :
  Dsk (w.setCell ⟨q,j,none⟩ v) B q pw g F s' LM O p FA fc ∧ KeptT [127] B w (w.setCell ⟨q,j,none⟩ v):=by
 have tq:=IsT.own h.obj
 have hk : Kept (fun k=>k = q) w (w.setCell ⟨q,j,none⟩ v):=(Kept.refl (fun k=>k = q) w).setCell (p:=⟨q,j,none⟩) (fun _=>rfl) _
 have hkT : KeptT [127] B w (w.setCell ⟨q,j,none⟩ v):=KeptT.of hk (fun k _ e=>by have e' : k = q:=e; subst e'; exact ⟨⟨row_low h.obj,h.px⟩,HasT.mem tq (by simp)⟩)
 refine ⟨⟨?_,h.px,h.c.keptT hkT (by decide),h.fl.kept hkT (KeptT.free (by decide))⟩,hkT⟩
 have:=(World.ownsRow.stored h.obj j v).1
 rw [e] at this; exact this
theorem PowM.store (h : PowM w B pw P) (j : Nat) (v : Value) (P' : Pow) (e : (pObj P).set j v = pObj P') : PowM (w.setCell ⟨pw,j,none⟩ v) B pw P' ∧ KeptT [120] B w (w.setCell ⟨pw,j,none⟩ v):=by
 have tq:=IsT.own h.obj
 have hk : Kept (fun k=>k = pw) w (w.setCell ⟨pw,j,none⟩ v):=(Kept.refl (fun k=>k = pw) w).setCell (p:=⟨pw,j,none⟩) (fun _=>rfl) _
 refine ⟨⟨?_,h.px⟩,KeptT.of hk (fun k _ e=>by have e' : k = pw:=e; subst e'; exact ⟨⟨row_low h.obj,h.px⟩,HasT.mem tq (by simp)⟩)⟩
 have:=(World.ownsRow.stored h.obj j v).1
 rw [e] at this; exact this
theorem PowM.cells (h : PowM w B pw P) : w.cell? ⟨pw,0,none⟩ = some (.bool P.off) ∧ w.cell? ⟨pw,1,none⟩ = some (.bool P.armed) ∧ w.cell? ⟨pw,2,none⟩ = some (.int .i64 P.left) ∧ w.cell? ⟨pw,3,none⟩ = some (.int .i64 P.fails):=
 ⟨(World.ownsRow.cellAt h.obj 0 (by decide)).trans rfl,(World.ownsRow.cellAt h.obj 1 (by decide)).trans rfl,(World.ownsRow.cellAt h.obj 2 (by decide)).trans rfl,(World.ownsRow.cellAt h.obj 3 (by decide)).trans rfl⟩
theorem Dsk.cell (h : Dsk w B q pw g F s LM O p FA fc) (j : Nat) (hj : j < 16) : w.cell? ⟨q,j,none⟩ = (dObj g s p pw FA F.length fc)[j]?:=World.ownsRow.cellAt h.obj j (by omega)
theorem Dsk.free (h : Dsk w B q pw g F s LM O p FA fc) (j : Nat) : w.frozen? ⟨q,j,none⟩ = false:=h.obj.frozenAt j
set_option maxHeartbeats 1000000 in
theorem dstate_any (h : Dsk w B q pw g F s LM O p FA fc) (hp : PowM w B pw P) : Calls Tryz.prog 132 #[.pointer (some ⟨q,0,none⟩)] w fun e w'=>e = .returned (.int .i64 (stE s P)) ∧ Below w.heap.size w w':=by
 have c12 : w.cell? ⟨q,12,none⟩ = some (.pointer (some ⟨pw,0,none⟩)):=(h.cell 12 (by decide)).trans rfl
 have c13 : w.cell? ⟨q,13,none⟩ = some (.int .i64 s.seen):=(h.cell 13 (by decide)).trans rfl
 have c15 : w.cell? ⟨q,15,none⟩ = some (.bool s.dead):=(h.cell 15 (by decide)).trans rfl
 obtain ⟨p0,_,_,p3⟩:=hp.cells
 clear h hp
 cases hd : s.dead
 ·rw [hd] at c15
  cases ho : P.off
  ·rw [ho] at p0
   by_cases hs : s.seen = P.fails
   ·have HE : Hid (stE s P = 0):=by unfold Hid stE; simp [hd,ho,hs]
    have e1 : (s.seen != P.fails) = false:=by simpa using hs
    clear hd ho hs
    go_enter Tryz.func132,Tryz.ntmps132
    go_wp2
    go_quiet (fail)
    go_wp2
    go_ret
    exact ⟨by rw [HE.out]; rfl,((Kept.refl (fun _=>False) _).drewN _).below0⟩
   ·have HE : Hid (stE s P = 13):=by unfold Hid stE; simp [hd,ho,hs]
    have e1 : (s.seen != P.fails) = true:=by simpa using hs
    clear hd ho hs
    go_enter Tryz.func132,Tryz.ntmps132
    go_wp2
    go_quiet (fail)
    go_wp2
    go_ret
    exact ⟨by rw [HE.out]; rfl,((Kept.refl (fun _=>False) _).drewN _).below0⟩
  ·rw [ho] at p0
   have HE : Hid (stE s P = 13):=by unfold Hid stE; simp [hd,ho]
   clear hd ho
   go_enter Tryz.func132,Tryz.ntmps132
   go_wp2
   go_quiet (fail)
   go_wp2
   go_ret
   exact ⟨by rw [HE.out]; rfl,((Kept.refl (fun _=>False) _).drewN _).below0⟩
 ·rw [hd] at c15
  have HE : Hid (stE s P = 14):=by unfold Hid stE; simp [hd]
  clear hd
  go_enter Tryz.func132,Tryz.ntmps132
  go_wp2
  go_ret
  exact ⟨by rw [HE.out]; rfl,Below.refl _ _⟩
set_option maxHeartbeats 1000000 in
theorem pcall_any (hp : PowM w B pw P) : Calls Tryz.prog 133 #[.pointer (some ⟨pw,0,none⟩)] w fun e w'=>e = .returned (.bool (!(callP P).off)) ∧ PowM w' B pw (callP P) ∧ KeptT [120] B w w':=by
 obtain ⟨p0,p1,p2,p3⟩:=hp.cells
 have f0:=hp.obj.frozenAt 0
 have f1:=hp.obj.frozenAt 1
 have f2:=hp.obj.frozenAt 2
 have f3:=hp.obj.frozenAt 3
 obtain ⟨off,armed,left,fails⟩:=P
 simp only at p0 p1 p2 p3
 by_cases ht : trip ⟨off,armed,left,fails⟩ = true
 ·have hc : callP ⟨off,armed,left,fails⟩ = ⟨true,false,wrap64 (left - 1),wrap64 (fails + 1)⟩:=by unfold callP; rw [if_pos ht]
  have ⟨ha,hl⟩ : armed = true ∧ left = 0:=by unfold trip at ht; simpa using ht
  subst ha; subst hl
  obtain ⟨hp1,hk1⟩:=hp.store 0 (.bool true) ⟨true,true,0,fails⟩ rfl
  obtain ⟨hp2,hk2⟩:=hp1.store 1 (.bool false) ⟨true,false,0,fails⟩ rfl
  obtain ⟨hp3,hk3⟩:=hp2.store 3 (.int .i64 (wrap64 (fails + 1))) ⟨true,false,0,wrap64 (fails + 1)⟩ rfl
  obtain ⟨hp4,hk4⟩:=hp3.store 2 (.int .i64 (-1)) ⟨true,false, -1,wrap64 (fails + 1)⟩ rfl
  have HP:=Lib.hid hp4
  have HK:=Lib.hid (((hk1.trans hk2).trans hk3).trans hk4)
  have hw0 : wrap64 (0 - 1) = -1:=by decide +kernel
  rw [hw0] at hc
  have HC:=Lib.hid hc
  clear hp hp1 hp2 hp3 hp4 hk1 hk2 hk3 hk4 hc ht hw0
  go_enter Tryz.func133,Tryz.ntmps133
  go_wp2
  go_ret
  rw [HC.out]
  exact ⟨rfl,HP.out,HK.out⟩
 ·have hc : callP ⟨off,armed,left,fails⟩ = ⟨off,armed,wrap64 (left - 1),fails⟩:=by unfold callP; rw [if_neg ht]
  obtain ⟨hp4,hk4⟩:=hp.store 2 (.int .i64 (wrap64 (left - 1))) ⟨off,armed,wrap64 (left - 1),fails⟩ rfl
  have HP:=Lib.hid hp4
  have HK:=Lib.hid hk4
  have HC:=Lib.hid hc
  clear hp hp4 hk4 hc
  cases armed
  ·clear ht
   go_enter Tryz.func133,Tryz.ntmps133
   go_wp2
   go_ret
   rw [HC.out]
   exact ⟨rfl,HP.out,HK.out⟩
  ·have hl : (left == 0) = false:=by unfold trip at ht; simpa using ht
   clear ht
   go_enter Tryz.func133,Tryz.ntmps133
   go_wp2
   go_ret
   rw [HC.out]
   exact ⟨rfl,HP.out,HK.out⟩
end
end Go.Proofs.YtaggiceejcegdaaGreat
