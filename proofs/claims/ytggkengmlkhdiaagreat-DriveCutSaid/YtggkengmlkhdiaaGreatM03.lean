/-
  WHAT IS SHOWN: plain facts on faults, powers and disks, of no program. what Valid and At of fault, and Valid of tegularef13, return. plain facts on memory, of no program: worlds that differ in blocks of some types alone; how a cache lies in memory, and what keeps it. Conditions: as each theorem names them.
-/
import Derived.Test.YtggkengmlkhdiaaGreatM02
namespace Go.Proofs.YtggkengmlkhdiaaGreat
set_option linter.unusedVariables false
open Go.RowKit
structure Flt where
 at_:Int
 kind:Int
 to_:Int
def Flt.cells (f:Flt):List Value:=[.int .i64 f.at_,.int .i64 f.kind,.int .i64 f.to_]
def Flt.val (f:Flt):Value:=.agg #[.int .i64 f.at_,.int .i64 f.kind,.int .i64 f.to_]
theorem fltcells_len (f:Flt):f.cells.length=3:=rfl
def flatF (l:List Flt):List Value:=l.flatMap Flt.cells
def noF:Flt:=⟨0,0,0⟩
def okF (last:Int) (f:Flt):Bool:=!decide (f.at_≤last) && (!decide (f.kind < 1) && (!decide (7 < f.kind) && (!decide (f.to_ < 0) && (decide (f.to_=0) || (decide (f.kind=3) || decide (f.kind=5))))))
def validFrom:Int→List Flt→Bool
 | _,[]=>true
 | last,f::l=>okF last f && validFrom f.at_ l
def validF (l:List Flt):Bool:=validFrom (-1) l
def atF:List Flt→Int→Flt
 | [],_=>noF
 | f::l,op=>if f.at_=op then f else atF l op
theorem flt_at {w:World} {B:Nat} {A:Option Addr} {l:List Flt} (h:Rd w B A (flatF l)) {k:Nat} (hk:k < l.length):∃ g o,A=some ⟨g,o,none⟩∧g < B∧w.cell? ⟨g,o+k * 3,none⟩=some (.int .i64 l[k].at_)∧w.cell? ⟨g,o+k * 3+1,none⟩=some (.int .i64 l[k].kind)∧w.cell? ⟨g,o+k * 3+2,none⟩=some (.int .i64 l[k].to_):=by
 have e:∀ t,t < 3→(flatF l)[k * 3+t]?=l[k].cells[t]?:=fun t ht=>by
  unfold flatF; rw [flat_get _ 3 fltcells_len l k t ht,List.getElem?_eq_getElem hk]; rfl
 obtain ⟨g,o,e0,hg,h0⟩:=h (k * 3+0) _ (e 0 (by omega))
 obtain ⟨g1,o1,e1,_,h1⟩:=h (k * 3+1) _ (e 1 (by omega))
 obtain ⟨g2,o2,e2,_,h2⟩:=h (k * 3+2) _ (e 2 (by omega))
 rw [e0] at e1 e2
 injection e1 with e1; injection e1 with e1 e1'; subst e1; subst e1'
 injection e2 with e2; injection e2 with e2 e2'; subst e2; subst e2'
 exact ⟨g,o,e0,hg,h0,h1,h2⟩
def lastF (l:List Flt) (k:Nat):Int:=if k=0 then -1 else (l.getD (k - 1) noF).at_
theorem lastF_succ (l:List Flt) (k:Nat) (h:k < l.length):lastF l (k+1)=l[k].at_:=by
 unfold lastF; rw [if_neg (by omega)]; simp [List.getD,h]
theorem valid_drop (l:List Flt):∀ k last,k≤l.length→validFrom last l=true→(∀ hk:k < l.length,okF (if k=0 then last else (l.getD (k - 1) noF).at_) l[k]=true):=by
 induction l with
 | nil=>intro k last h _ hk; simp at hk
 | cons f l ih=>
   intro k last h hv hk
   unfold validFrom at hv
   rw [Bool.and_eq_true] at hv
   cases k with
   | zero=>simpa using hv.1
   | succ k=>
     have:=ih k f.at_ (by simpa using h) hv.2 (by simpa using hk)
     simp only [List.getElem_cons_succ]
     rw [if_neg (by omega)]
     cases k with
     | zero=>simpa using this
     | succ k=>simpa using this
theorem valid_ok {l:List Flt} (h:validF l=true) {k:Nat} (hk:k < l.length):okF (lastF l k) l[k]=true:=valid_drop l k (-1) (by omega) h hk
theorem valid_of (l:List Flt):∀ last,(∀ k (hk:k < l.length),okF (if k=0 then last else (l.getD (k - 1) noF).at_) l[k]=true)→validFrom last l=true:=by
 induction l with
 | nil=>intro last _; rfl
 | cons f l ih=>
   intro last h
   unfold validFrom
   rw [Bool.and_eq_true]
   refine ⟨by have:=h 0 (by simp); rw [if_pos rfl] at this; exact this,ih f.at_ (fun k hk=>?_)⟩
   have:=h (k+1) (by simpa using hk)
   simp only [List.getElem_cons_succ] at this
   rw [if_neg (by omega)] at this
   cases k with
   | zero=>simpa using this
   | succ k=>simpa using this
theorem validF_of {l:List Flt} (h:∀ k (hk:k < l.length),okF (lastF l k) l[k]=true):validF l=true:=valid_of l (-1) h
theorem validF_not {l:List Flt} {k:Nat} (hk:k < l.length) (h:okF (lastF l k) l[k]=false):validF l=false:=by
 cases hv:validF l
 ·rfl
 ·have:=valid_ok hv hk; rw [h] at this; cases this
theorem atF_hit (l:List Flt) (op:Int):∀ k (hk:k < l.length),(∀ j (hj:j < k),(l[j]'(by omega)).at_≠op)→l[k].at_=op→atF l op=l[k]:=by
 induction l with
 | nil=>intro k hk; simp at hk
 | cons f l ih=>
   intro k hk h he
   unfold atF
   cases k with
   | zero=>simp at he; rw [if_pos he]; rfl
   | succ k=>
     have h0:=h 0 (by omega)
     simp at h0
     rw [if_neg h0]
     simp only [List.getElem_cons_succ] at he ⊢
     exact ih k (by simpa using hk) (fun j hj=>by have:=h (j+1) (by omega); simpa using this) he
theorem atF_miss (l:List Flt) (op:Int) (h:∀ j (hj:j < l.length),l[j].at_≠op):atF l op=noF:=by
 induction l with
 | nil=>rfl
 | cons f l ih=>
   unfold atF
   have h0:=h 0 (by simp)
   simp at h0
   rw [if_neg h0]
   exact ih (fun j hj=>by have:=h (j+1) (by simpa using hj); simpa using this)
end Go.Proofs.YtggkengmlkhdiaaGreat
namespace Go.Proofs.YtggkengmlkhdiaaGreat
set_option linter.unusedVariables false
open Go.RowKit
theorem aims_any (k:Int) (w:World):Calls Tryz.prog 116 #[.int .i64 k] w fun e w'=>e= .returned (.bool (decide (k=3) || decide (k=5)))∧w=w':=by
 by_cases h3:k=3
 ·subst h3
  go_enter Tryz.func116,Tryz.ntmps116
  go_wp2
  go_ret
  exact ⟨by first | rfl | simp,rfl⟩
 ·by_cases h5:k=5
  ·subst h5
   go_enter Tryz.func116,Tryz.ntmps116
   go_wp2
   go_ret
   exact ⟨by first | rfl | simp,rfl⟩
  ·have e3:(k==3)=false:=by simpa using h3
   have e5:(k==5)=false:=by simpa using h5
   go_enter Tryz.func116,Tryz.ntmps116
   go_wp2
   go_ret
   exact ⟨by simp [h3,h5],rfl⟩
set_option maxRecDepth 100000 in
set_option maxHeartbeats 2000000 in
theorem fvalid_any (l:List Flt) (A:Option Addr) (c:Nat) (w:World) (hl:Rd w w.heap.size A (flatF l)) (hn:l.length≤9223372036854775807):
  Calls Tryz.prog 84 #[.slice A l.length c] w fun e w'=>e= .returned (.bool (validF l))∧Below w.heap.size w w':=by
 have HR:=Lib.hid hl
 have HAI:=Lib.hid (fun k W=>aims_any k W)
 clear hl
 go_enter Tryz.func84,Tryz.ntmps84
 go_wp2
 go_loopw [3,8] (fun s3 s8 wr=>∃ k:Nat,k≤l.length∧s8= .int .i64 k∧s3= .int .i64 (lastF l k)∧Below w.heap.size w wr∧Hid (∀ j (hj:j < l.length),j < k→okF (lastF l j) l[j]=true)) (fun _ v _=>l.length - (intOf v).toNat)
 case atStart=>exact ⟨0,Nat.zero_le _,rfl,rfl,Below.refl _ _,by unfold Hid; intro j _ h; omega⟩
 case round=>
  obtain ⟨k,hk,rfl,rfl,hbr,HA⟩:=hrel
  by_cases hlt:k < l.length
  ·obtain ⟨go,oo,rfl,hgo,c0,c1,c2⟩:=flt_at (HR.out.below hbr (Nat.le_refl _)) hlt
   have HN:Hid (okF (lastF l k) l[k]=false→validF l=false):=validF_not hlt
   have HY:Hid (okF (lastF l k) l[k]=true→∀ j (hj:j < l.length),j < k+1→okF (lastF l j) l[j]=true):=by
    unfold Hid; intro h j hj hj2
    by_cases e:j=k
    ·subst e; exact h
    ·exact HA.out j hj (by omega)
   have HL:=Lib.hid (lastF_succ l k hlt)
   have hbn:∀ o,Below w.heap.size w (wr.alloc o):=fun o=>hbr.alloc hbr.size o
   have HBN:=Lib.hid hbn
   generalize lastF l k=last at *
   generalize l[k]=f at *
   have k0:(0:Int)≤k:=by omega
   have k1:(k:Int) < l.length:=by omega
   clear hbn
   by_cases h1:f.at_≤last
   ·have HF:=Lib.hid (HN.out (by unfold okF; simp [h1]))
    go_wp2
    all_goals go_ret
    all_goals exact ⟨by rw [HF.out]; rfl,HBN.out _⟩
   by_cases h2:f.kind < 1
   ·have HF:=Lib.hid (HN.out (by unfold okF; simp [h2]))
    go_wp2
    all_goals go_ret
    all_goals exact ⟨by rw [HF.out]; rfl,HBN.out _⟩
   by_cases h3:7 < f.kind
   ·have HF:=Lib.hid (HN.out (by unfold okF; simp [h3]))
    go_wp2
    all_goals go_ret
    all_goals exact ⟨by rw [HF.out]; rfl,HBN.out _⟩
   by_cases h4:f.to_ < 0
   ·have HF:=Lib.hid (HN.out (by unfold okF; simp [h4]))
    go_wp2
    all_goals go_ret
    all_goals exact ⟨by rw [HF.out]; rfl,HBN.out _⟩
   by_cases h5:f.to_=0
   ·have HF:=Lib.hid (HY.out (by unfold okF; simp [h1,h2,h3,h5]))
    have e5:(f.to_ !=0)=false:=by simpa using h5
    clear h5
    go_wp2
    go_roundw
    case rel=>exact ⟨k+1,by omega,by go_num,by rw [HL.out],HBN.out _,HF.out⟩
    case measure=>simp [intOf]; omega
   have e5:(f.to_ !=0)=true:=by simpa using h5
   cases ha:(decide (f.kind=3) || decide (f.kind=5))
   ·have HF:=Lib.hid (HN.out (by unfold okF; rw [ha]; simp [h5]))
    have HAJ:Hid (∀ W,Calls Tryz.prog 116 #[.int .i64 f.kind] W fun e w'=>e= .returned (.bool false)∧W=w'):=by
     unfold Hid; intro W; have:=HAI.out f.kind W; rw [ha] at this; exact this
    clear h5 ha
    go_wp2_with fail
    refine (HAJ.out _).mono ?_
    rintro e w2 ⟨rfl,rfl⟩
    go_wp2
    go_ret
    exact ⟨by rw [HF.out]; rfl,HBN.out _⟩
   ·have HF:=Lib.hid (HY.out (by unfold okF; rw [ha]; simp [h1,h2,h3,h4]))
    have HAJ:Hid (∀ W,Calls Tryz.prog 116 #[.int .i64 f.kind] W fun e w'=>e= .returned (.bool true)∧W=w'):=by
     unfold Hid; intro W; have:=HAI.out f.kind W; rw [ha] at this; exact this
    clear h5 ha
    go_wp2_with fail
    refine (HAJ.out _).mono ?_
    rintro e w2 ⟨rfl,rfl⟩
    go_wp2
    go_roundw
    case rel=>exact ⟨k+1,by omega,by go_num,by rw [HL.out],HBN.out _,HF.out⟩
    case measure=>simp [intOf]; omega
  ·have HF:Hid (validF l=true):=validF_of (fun j hj=>HA.out j hj (by omega))
   go_wp2
   go_ret
   exact ⟨by rw [HF.out]; rfl,hbr⟩
def AtPost (w:World) (f:Flt) (e:Ending) (w':World):Prop:=∃ b:Bool,e= .returned (.tuple #[f.val,.bool b])∧Below w.heap.size w w'
set_option maxRecDepth 100000 in
set_option maxHeartbeats 2000000 in
theorem fat_any (l:List Flt) (op:Int) (A:Option Addr) (c:Nat) (w:World) (hl:Rd w w.heap.size A (flatF l)) (hn:l.length≤9223372036854775807):
  Calls Tryz.prog 119 #[.slice A l.length c,.int .i64 op] w (AtPost w (atF l op)):=by
 have hb0:Below w.heap.size w (w.alloc (.cells #[.int .i64 0,.int .i64 0,.int .i64 0] 49)):=(Below.refl _ _).alloc (Nat.le_refl _) _
 have o0:=World.ownsRow_lit (base:=w.heap.size) (e:=49) (size:=3) w #[.int .i64 0,.int .i64 0,.int .i64 0] 1 (Nat.le_refl _) (by decide) rfl
 have HR:=Lib.hid (hl.below hb0 (Nat.le_refl _))
 have HM:=Lib.hid (atF_miss l op)
 have HH:=Lib.hid (atF_hit l op)
 have HO:Hid (∀ W,Below (w.heap.size+1) (w.alloc (.cells #[.int .i64 0,.int .i64 0,.int .i64 0] 49)) W→W.ownsRow w.heap.size 49 3 (.slice (some ⟨w.heap.size,0,none⟩) 1 1) 1 [.int .i64 0,.int .i64 0,.int .i64 0]):=by
  unfold Hid; intro W hW; exact own_kept o0 (belKept hW) (fun k e=>by simp [Value.ownBlock] at e; subst e; show ¬ (w.heap.size+1≤w.heap.size); omega)
 clear hl o0
 go_enter Tryz.func119,Tryz.ntmps119
 go_wp2
 go_loopw [10] (fun v wr=>∃ k:Nat,k≤l.length∧v= .int .i64 k∧Below (w.heap.size+1) (w.alloc (.cells #[.int .i64 0,.int .i64 0,.int .i64 0] 49)) wr∧Hid (∀ j (hj:j < l.length),j < k→l[j].at_≠op)) (fun v _=>l.length - (intOf v).toNat)
 case atStart=>exact ⟨0,Nat.zero_le _,rfl,Below.refl _ _,by unfold Hid; intro j _ h; omega⟩
 case round=>
  obtain ⟨k,hk,rfl,hbr,HA⟩:=hrel
  have hbr0:Below w.heap.size w wr:=hb0.trans (hbr.mono (by omega))
  have hsz:w.heap.size+1≤wr.heap.size:=by have:=hbr.size; simpa using this
  by_cases hlt:k < l.length
  ·obtain ⟨go,oo,rfl,hgo,c0,c1,c2⟩:=flt_at (HR.out.below (hbr.mono (by omega)) (Nat.le_refl _)) hlt
   have k0:(0:Int)≤k:=by omega
   have k1:(k:Int) < l.length:=by omega
   have hbn:∀ o,Below (w.heap.size+1) (w.alloc (.cells #[.int .i64 0,.int .i64 0,.int .i64 0] 49)) (wr.alloc o):=fun o=>hbr.alloc hsz o
   have HBN:=Lib.hid hbn
   by_cases he:l[k].at_=op
   ·have HE:Hid (atF l op=l[k]):=HH.out k hlt (fun j hj=>HA.out j (by omega) hj) he
    have e1:(l[k].at_==op)=true:=by simpa using he
    generalize l[k]=f at *
    clear he hbn
    have q:=HO.out _ (HBN.out (.cells #[.int .i64 f.at_,.int .i64 f.kind,.int .i64 f.to_] 49))
    have hbw:=hb0.trans ((HBN.out (.cells #[.int .i64 f.at_,.int .i64 f.kind,.int .i64 f.to_] 49)).mono (by omega))
    have r0:=(World.ownsRow.cellAt q 0 (by decide)).trans rfl
    have r1:=(World.ownsRow.cellAt q 1 (by decide)).trans rfl
    have r2:=(World.ownsRow.cellAt q 2 (by decide)).trans rfl
    have f0:=q.frozenAt 0
    have f1:=q.frozenAt 1
    have f2:=q.frozenAt 2
    clear q
    go_wp2
    have hbe:=Lib.hid (((hbw.setCell (p:=⟨w.heap.size,0,none⟩) (Nat.le_refl _) (.int .i64 f.at_)).setCell (p:=⟨w.heap.size,1,none⟩) (Nat.le_refl _) (.int .i64 f.kind)).setCell (p:=⟨w.heap.size,2,none⟩) (Nat.le_refl _) (.int .i64 f.to_))
    exact bodyPost_ret (v:=.tuple #[.agg #[.int .i64 f.at_,.int .i64 f.kind,.int .i64 f.to_],.bool true]) (by simp [results,Tryz.results119,go_sem, *]) rfl ⟨true,by rw [HE.out]; rfl,hbe.out⟩
   ·have e1:(l[k].at_==op)=false:=by simpa using he
    have HY:Hid (∀ j (hj:j < l.length),j < k+1→l[j].at_≠op):=by
     unfold Hid; intro j hj hj2
     by_cases e:j=k
     ·subst e; exact he
     ·exact HA.out j hj (by omega)
    generalize l[k]=f at *
    clear he hbn
    go_wp2
    go_roundw
    case rel=>exact ⟨k+1,by omega,by go_num,HBN.out _,HY.out⟩
    case measure=>simp [intOf]; omega
  ·have HE:Hid (atF l op=noF):=HM.out (fun j hj=>HA.out j hj (by omega))
   have q:=HO.out wr hbr
   have hbw:=hbr0
   have r0:=(World.ownsRow.cellAt q 0 (by decide)).trans rfl
   have r1:=(World.ownsRow.cellAt q 1 (by decide)).trans rfl
   have r2:=(World.ownsRow.cellAt q 2 (by decide)).trans rfl
   have f0:=q.frozenAt 0
   have f1:=q.frozenAt 1
   have f2:=q.frozenAt 2
   clear q
   go_wp2
   have hbe:=Lib.hid (((hbw.setCell (p:=⟨w.heap.size,0,none⟩) (Nat.le_refl _) (.int .i64 0)).setCell (p:=⟨w.heap.size,1,none⟩) (Nat.le_refl _) (.int .i64 0)).setCell (p:=⟨w.heap.size,2,none⟩) (Nat.le_refl _) (.int .i64 0))
   exact bodyPost_ret (v:=.tuple #[.agg #[.int .i64 0,.int .i64 0,.int .i64 0],.bool false]) (by simp [results,Tryz.results119,go_sem, *]) rfl ⟨false,by rw [HE.out]; rfl,hbe.out⟩
end Go.Proofs.YtggkengmlkhdiaaGreat
namespace Go.Proofs.YtggkengmlkhdiaaGreat
set_option linter.unusedVariables false
open Go.RowKit
def IsT (t:TypeId) (w:World) (k:Nat):Prop:=∃ cur fr,w.heap[k]?=some (.cells cur t fr)
def HasT (ts:List TypeId) (w:World) (k:Nat):Prop:=∃ t,t∈ts∧IsT t w k
structure Bd where
 n:Nat
 X:Nat→Prop
 top:Nat
 hx:∀ k,X k→k < top
 le:n≤top
def Bd.has (B:Bd) (k:Nat):Prop:=B.n≤k∧¬ B.X k
def Bd.of (n:Nat):Bd:=⟨n,fun _=>False,n,fun _ h=>h.elim,Nat.le_refl _⟩
theorem Bd.fresh {B:Bd} {k:Nat} (h:B.top≤k):B.has k:=⟨Nat.le_trans B.le h,fun hx=>by have:=B.hx k hx; omega⟩
theorem Bd.nx {B:Bd} {k:Nat} (h:B.top≤k):¬ B.X k:=(Bd.fresh h).2
theorem Bd.hasOf {n k:Nat}:(Bd.of n).has k↔n≤k:=⟨fun h=>h.1,fun h=>⟨h,fun h=>h⟩⟩
def Bd.Sub (N:Nat) (C B:Bd):Prop:=B.n≤C.n∧∀ k,k < N→C.has k→B.has k
theorem Bd.subOf {N:Nat} {B:Bd} {n:Nat} (h:B.top≤n):Bd.Sub N (Bd.of n) B:=⟨Nat.le_trans B.le h,fun _ _ hk=>Bd.fresh (Nat.le_trans h hk.1)⟩
def KeptT (ts:List TypeId) (B:Bd) (w w':World):Prop:=Kept (fun k=>B.has k∧HasT ts w k) w w'
section
variable {ts us:List TypeId} {B C:Bd} {w w' w'':World} {S:Nat→Prop} {t t':TypeId}
theorem IsT.same {k:Nat} (h:IsT t w k) (h':IsT t' w k):t=t':=by
 obtain ⟨c1,f1,h1⟩:=h
 obtain ⟨c2,f2,h2⟩:=h'
 rw [h1] at h2; injection h2 with h2; injection h2
theorem IsT.ne {a b:Nat} (h:IsT t w a) (h':IsT t' w b) (ht:t≠t'):a≠b:=fun e=>by subst e; exact ht (h.same h')
theorem IsT.lt {k:Nat} (h:IsT t w k):k < w.heap.size:=by obtain ⟨_,_,h⟩:=h; exact lt_of_block h
theorem IsT.of {k:Nat} {cur:Array Value} {fr:Nat × Nat} (h:w.heap[k]?=some (.cells cur t fr)):IsT t w k:=⟨cur,fr,h⟩
theorem IsT.own {base:Nat} {size n c k:Nat} {xs:List Value} (h:w.ownsRow base t size (.slice (some ⟨k,0,none⟩) n c) n xs):IsT t w k:=by
 obtain ⟨cur,h⟩:=own_type h; exact ⟨cur,_,h⟩
theorem HasT.no {k:Nat} (h:IsT t w k) (ht:t ∉ ts):¬ HasT ts w k:=fun ⟨u,hu,h'⟩=>ht (h.same h' ▸ hu)
theorem HasT.mem {k:Nat} (h:IsT t w k) (ht:t∈ts):HasT ts w k:=⟨t,ht,h⟩
theorem KeptT.refl (ts:List TypeId) (B:Bd) (w:World):KeptT ts B w w:=Kept.refl _ _
theorem KeptT.trans (h:KeptT ts B w w') (k:KeptT ts B w' w''):KeptT ts B w w'':=
 Kept.trans h k (fun i hi hs=>by
  by_cases hh:B.has i∧HasT ts w i
  ·exact hh
  ·have e:=h.block i hi hh
   obtain ⟨h1,t,ht,cur,fr,h2⟩:=hs
   exact ⟨h1,t,ht,cur,fr,e.symm.trans h2⟩)
theorem KeptT.of (h:Kept S w w') (hS:∀ k,k < w.heap.size→S k→B.has k∧HasT ts w k):KeptT ts B w w':=h.more hS
theorem KeptT.bel (h:Below w.heap.size w w'):KeptT ts B w w':=belKept0 h
theorem KeptT.thenBelow (h:KeptT ts B w w') (k:Below w'.heap.size w' w''):KeptT ts B w w'':=Kept.thenBelow h k
theorem KeptT.below (h:KeptT ts B w w') (hB:B.n≤w.heap.size):Below B.n w w':=Kept.below h (fun _ h=>h.1.1) hB
theorem KeptT.wider (h:KeptT ts C w w') (hs:∀ k,C.has k→B.has k):KeptT ts B w w':=Kept.more h (fun _ _ ⟨h1,h2⟩=>⟨hs _ h1,h2⟩)
theorem KeptT.sub (h:KeptT ts B w w') (hs:∀ t,t∈ts→t∈us):KeptT us B w w':=Kept.more h (fun _ _ ⟨h1,t,ht,h2⟩=>⟨h1,t,hs t ht,h2⟩)
theorem KeptT.free (ht:t ∉ ts):Free w t (fun k=>B.has k∧HasT ts w k):=fun k hk _ cur fr e=>HasT.no (IsT.of e) ht hk.2
theorem KeptT.no {k:Nat} (h:IsT t w k) (ht:t ∉ ts):¬ (B.has k∧HasT ts w k):=fun h'=>HasT.no h ht h'.2
theorem KeptT.size (h:KeptT ts B w w'):w.heap.size≤w'.heap.size:=Kept.size h
theorem Med.types {m bs:Nat} {g:Geo} {L:List Sec} (h:Med w m bs g L):IsT 162 w m∧IsT 196 w bs:=by
 obtain ⟨c,V,h1,h2,h3,h4⟩:=h
 exact ⟨IsT.of h1,IsT.own h2⟩
theorem Med.keptT {m bs:Nat} {g:Geo} {L:List Sec} (h:Med w m bs g L) (hk:KeptT ts B w w') (h1:162 ∉ ts) (h2:196 ∉ ts) (h3:5 ∉ ts):Med w' m bs g L:=
 h.kept hk (KeptT.no h.types.1 h1) (KeptT.no h.types.2 h2) (KeptT.free h3)
end
def OpV.bare (o:OpV):OpV:={ o with A:=none,c:=0 }
theorem playL_snoc (g:Geo) (L:List Sec) (l:List OpV) (o:OpV):playL g L (l++[o])=doL g (playL g L l) o:=by unfold playL; rw [List.foldl_append]; rfl
theorem doL_err {g:Geo} {L:List Sec} {o:OpV} (h:doE g L o≠0):doL g L o=L:=by
 unfold doE at h; unfold doL
 split
 ·rename_i he
  rw [if_pos he] at h
  unfold eraseE at h; unfold eraseL
  split
  ·rename_i hi
   rw [if_pos hi] at h; exact absurd rfl h
  ·rfl
 ·rename_i he
  rw [if_neg he] at h
  unfold writeE at h; unfold writeL
  cases hi:inL L o.at_
  ·rfl
  ·rw [hi,if_pos rfl] at h
   by_cases hl:o.xs.length≤64
   ·rw [if_pos hl] at h; exact absurd rfl h
   ·rw [decide_eq_false hl]; rfl
def cutN (keep:Int) (n:Nat):Nat:=(min (max keep 0) n).toNat
theorem cutN_le (keep:Int) (n:Nat):cutN keep n≤n:=by unfold cutN; omega
theorem cutN_all {keep:Int} {n:Nat} (h:¬ keep < n):cutN keep n=n:=by unfold cutN; omega
def CT:List TypeId:=[196,166,173]
def OpFn (w:World) (v:Value) (o:OpV):Prop:=
 I64 o.at_∧o.xs.length≤100000∧
 ((o.er=true∧∃ (pa:Nat) (fr:Nat × Nat),v= .func (.func 126) #[] #[.pointer (some ⟨pa,0,none⟩)]∧w.heap[pa]?=some (.cells #[.int .i64 o.at_] 3 fr))∨
  (o.er=false∧∃ pa pb A c fr fr',v= .func (.func 171) #[] #[.pointer (some ⟨pa,0,none⟩),.pointer (some ⟨pb,0,none⟩)]∧w.heap[pa]?=some (.cells #[.int .i64 o.at_] 3 fr)∧
    w.heap[pb]?=some (.cells #[.slice A o.xs.length c] 65 fr')∧RdT w 5 A (o.xs.map (Value.int .u8))))
def FreeF (w:World) (S:Nat→Prop):Prop:=Free w 3 S∧Free w 65 S∧Free w 5 S
section
variable {w w':World} {S:Nat→Prop} {B:Bd} {p:Nat} {g:Geo} {LM:List Sec} {ops:List OpV}
theorem FreeF.none (w:World):FreeF w (fun _=>False):=⟨Free.none _ _,Free.none _ _,Free.none _ _⟩
theorem FreeF.one {k:Nat} {t:TypeId} (h:IsT t w k) (h1:t≠3) (h2:t≠65) (h3:t≠5):FreeF w (fun i=>i=k):=by
 obtain ⟨cur,fr,h⟩:=h
 exact ⟨Free.one h h1,Free.one h h2,Free.one h h3⟩
theorem FreeF.all {ts:List TypeId} (h1:3 ∉ ts) (h2:65 ∉ ts) (h3:5 ∉ ts):FreeF w (fun k=>B.has k∧HasT ts w k):=⟨KeptT.free h1,KeptT.free h2,KeptT.free h3⟩
theorem FreeF.or {T:Nat→Prop} (h:FreeF w S) (k:FreeF w T):FreeF w (fun i=>S i∨T i):=⟨h.1.or k.1,h.2.1.or k.2.1,h.2.2.or k.2.2⟩
theorem OpFn.kept {v:Value} {o:OpV} (h:OpFn w v o) (hk:Kept S w w') (hf:FreeF w S):OpFn w' v o:=by
 obtain ⟨h1,h2,h3⟩:=h
 refine ⟨h1,h2,?_⟩
 rcases h3 with ⟨e,pa,fr,hv,ha⟩ | ⟨e,pa,pb,A,c,fr,fr',hv,ha,hb,hr⟩
 ·exact .inl ⟨e,pa,fr,hv,hk.obj ha (fun hs=>hf.1 pa hs (lt_of_block ha) _ _ ha)⟩
 ·exact .inr ⟨e,pa,pb,A,c,fr,fr',hv,hk.obj ha (fun hs=>hf.1 pa hs (lt_of_block ha) _ _ ha),hk.obj hb (fun hs=>hf.2.1 pb hs (lt_of_block hb) _ _ hb),hr.kept hk hf.2.2⟩
structure Cac (w:World) (B:Bd) (p:Nat) (g:Geo) (LM:List Sec) (ops:List OpV) (m1 b1 m2 b2:Nat) (A:Option Addr) (c:Nat) (F:List Value):Prop where
 obj:w.ownsRow B.n 166 3 (.slice (some ⟨p,0,none⟩) 1 1) 1 [.pointer (some ⟨m1,0,none⟩),.pointer (some ⟨m2,0,none⟩),.slice A ops.length c]
 px:¬ B.X p
 ax:∀ k,(Value.slice A ops.length c).ownBlock=some k→¬ B.X k
 lb1:B.has b1
 lb2:B.has b2
 ne:b1≠b2
 med1:Med w m1 b1 g LM
 med2:Med w m2 b2 g (playL g LM ops)
 own:w.ownsRow B.n 173 1 (.slice A ops.length c) ops.length F
 fn:∀ (i:Nat) (o:OpV),ops[i]?=some o→∃ v,F[i]?=some v∧OpFn w v o
def CacheM (w:World) (B:Bd) (p:Nat) (g:Geo) (LM:List Sec) (ops:List OpV):Prop:=∃ m1 b1 m2 b2 A c F,Cac w B p g LM ops m1 b1 m2 b2 A c F
section
variable {m1 b1 m2 b2:Nat} {A:Option Addr} {c:Nat} {F:List Value}
theorem Cac.kept (h:Cac w B p g LM ops m1 b1 m2 b2 A c F) (hk:Kept S w w') (hp:¬ S p) (h1:¬ S m1) (h2:¬ S b1) (h3:¬ S m2) (h4:¬ S b2) (hA:∀ k,(Value.slice A ops.length c).ownBlock=some k→¬ S k) (hf:FreeF w S):Cac w' B p g LM ops m1 b1 m2 b2 A c F:=
 ⟨own_kept h.obj hk (fun k e=>by simp [Value.ownBlock] at e; subst e; exact hp),h.px,h.ax,h.lb1,h.lb2,h.ne,h.med1.kept hk h1 h2 hf.2.2,h.med2.kept hk h3 h4 hf.2.2,own_kept h.own hk hA,fun i o ho=>by
   obtain ⟨v,hv,hF⟩:=h.fn i o ho
   exact ⟨v,hv,hF.kept hk hf⟩⟩
theorem Cac.typ (h:Cac w B p g LM ops m1 b1 m2 b2 A c F):IsT 166 w p:=IsT.own h.obj
theorem Cac.typA (h:Cac w B p g LM ops m1 b1 m2 b2 A c F):∀ k,(Value.slice A ops.length c).ownBlock=some k→IsT 173 w k∧B.has k:=by
 intro k hk
 rcases h.own.2 with ⟨h2,_⟩ | ⟨g',cap,cur,h2,h3,h4,_⟩
 ·rw [h2] at hk; cases hk
 ·rw [h2] at hk; injection hk with hk; subst hk; exact ⟨IsT.of h4,h3,h.ax _ (by rw [h2]; rfl)⟩
theorem Cac.low (h:Cac w B p g LM ops m1 b1 m2 b2 A c F):B.has p:=by
 rcases h.obj.2 with ⟨h2,_⟩ | ⟨g',cap,cur,h2,h3,_⟩
 ·cases h2
 ·injection h2 with h2; injection h2 with h2; injection h2 with h2; subst h2; exact ⟨h3,h.px⟩
theorem Cac.cells (h:Cac w B p g LM ops m1 b1 m2 b2 A c F):w.cell? ⟨p,0,none⟩=some (.pointer (some ⟨m1,0,none⟩))∧w.cell? ⟨p,1,none⟩=some (.pointer (some ⟨m2,0,none⟩))∧w.cell? ⟨p,2,none⟩=some (.slice A ops.length c):=
 ⟨(World.ownsRow.cellAt h.obj 0 (by decide)).trans rfl,(World.ownsRow.cellAt h.obj 1 (by decide)).trans rfl,(World.ownsRow.cellAt h.obj 2 (by decide)).trans rfl⟩
theorem Cac.lt (h:Cac w B p g LM ops m1 b1 m2 b2 A c F):p < w.heap.size:=h.typ.lt
theorem Cac.keptT {ts:List TypeId} {B':Bd} (h:Cac w B p g LM ops m1 b1 m2 b2 A c F) (hk:KeptT ts B' w w') (ht:∀ t,t∈[166,162,196,173,3,65,5]→t ∉ ts):Cac w' B p g LM ops m1 b1 m2 b2 A c F:=
 h.kept hk (KeptT.no h.typ (ht _ (by simp))) (KeptT.no h.med1.types.1 (ht _ (by simp))) (KeptT.no h.med1.types.2 (ht _ (by simp))) (KeptT.no h.med2.types.1 (ht _ (by simp))) (KeptT.no h.med2.types.2 (ht _ (by simp)))
  (fun k hk'=>KeptT.no (h.typA k hk').1 (ht _ (by simp))) (FreeF.all (ht 3 (by simp)) (ht 65 (by simp)) (ht 5 (by simp)))
end
theorem CacheM.below0 (h:CacheM w B p g LM ops) (hk:Below w.heap.size w w'):CacheM w' B p g LM ops:=(by obtain ⟨m1,b1,m2,b2,A,c,G,h⟩:=h; exact ⟨m1,b1,m2,b2,A,c,G,h.keptT (ts:=[]) (B':=Bd.of 0) (KeptT.bel hk) (by simp)⟩)
section
variable {m b:Nat} {A:Option Addr} {c:Nat} {l:List OpV}
end
end
end Go.Proofs.YtggkengmlkhdiaaGreat
