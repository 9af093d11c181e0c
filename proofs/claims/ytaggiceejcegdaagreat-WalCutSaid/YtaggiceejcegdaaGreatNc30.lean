/-
  WHAT IS SHOWN: what Write of wal returns and leaves. what Read of wal returns and leaves. what Write, Read and Flush of tegularef49 return and leave. Conditions: as each theorem names them.
-/
import Derived.Test.YtaggiceejcegdaaGreatNc29
import Derived.Test.YtaggiceejcegdaaGreatNc09
namespace Go.Proofs.YtaggiceejcegdaaGreat
set_option linter.unusedVariables false
open Go.RowKit
section
variable {w w' : World} {B : Bd} {q pw : Nat} {g : Geo} {F : List Flt} {d : DC}
def Box3 (w : World) (b q : Nat) (key at_ : Int) : Prop:=
 w.heap[b]? = some (.cells #[.pointer (some ⟨q,0,none⟩)] 52 (0,0)) ∧ w.heap[b + 1]? = some (.cells #[.int .u64 key] 23 (0,0)) ∧ w.heap[b + 1 + 1]? = some (.cells #[.int .i64 at_] 3 (0,0))
theorem Box3.kept {ts : List TypeId} {b : Nat} {key at_ : Int} (h : Box3 w b q key at_) (hk : KeptT ts B w w') (ht : 52 ∉ ts ∧ 23 ∉ ts ∧ 3 ∉ ts) : Box3 w' b q key at_:=
 ⟨Kept.obj hk h.1 (KeptT.no (IsT.of h.1) ht.1),Kept.obj hk h.2.1 (KeptT.no (IsT.of h.2.1) ht.2.1),Kept.obj hk h.2.2 (KeptT.no (IsT.of h.2.2) ht.2.2)⟩
theorem Box3.new (w : World) (q : Nat) (key at_ : Int) : Box3 (((w.alloc (.cells #[.pointer (some ⟨q,0,none⟩)] 52)).alloc (.cells #[.int .u64 key] 23)).alloc (.cells #[.int .i64 at_] 3)) w.heap.size q key at_:=by
 refine ⟨?_,?_,?_⟩
 ·rw [belObj (B:=w.heap.size + 1) (w:=w.alloc (.cells #[.pointer (some ⟨q,0,none⟩)] 52)) (((Below.refl _ _).alloc (by simp) _).alloc (by first | (simp; done) | (simp; omega)) _) (heap_alloc_new w _) (by omega)]
 ·have:=heap_alloc_new (w.alloc (.cells #[.pointer (some ⟨q,0,none⟩)] 52)) (.cells #[.int .u64 key] 23)
  rw [World.size_alloc] at this
  rw [belObj (B:=w.heap.size + 2) (w:=(w.alloc (.cells #[.pointer (some ⟨q,0,none⟩)] 52)).alloc (.cells #[.int .u64 key] 23)) ((Below.refl _ _).alloc (by simp) _) this (by omega)]
 ·have:=heap_alloc_new ((w.alloc (.cells #[.pointer (some ⟨q,0,none⟩)] 52)).alloc (.cells #[.int .u64 key] 23)) (.cells #[.int .i64 at_] 3)
  rw [World.size_alloc,World.size_alloc] at this
  exact this
theorem box_int_sl (w : World) (i : Int) (A : Option Addr) (n c : Nat) : ((w.alloc (.cells #[.int .i64 i] 3)).alloc (.cells #[.slice A n c] 26)).heap[w.heap.size]? = some (.cells #[.int .i64 i] 3 (0,0)) ∧
  ((w.alloc (.cells #[.int .i64 i] 3)).alloc (.cells #[.slice A n c] 26)).heap[w.heap.size + 1]? = some (.cells #[.slice A n c] 26 (0,0)):=by
 refine ⟨?_,?_⟩
 ·rw [belObj (B:=w.heap.size + 1) (w:=w.alloc (.cells #[.int .i64 i] 3)) ((Below.refl _ _).alloc (by simp) _) (heap_alloc_new w _) (by omega)]
 ·have:=heap_alloc_new (w.alloc (.cells #[.int .i64 i] 3)) (.cells #[.slice A n c] 26)
  rw [World.size_alloc] at this
  exact this
set_option maxRecDepth 100000 in
set_option maxHeartbeats 2000000 in
theorem wwrite_any {key at_ : Int} {ss : List Sl} {A : Option Addr} {c : Nat} (h : DM w B q pw g F d) (hF : ∀ f ∈ F,I64 f.to_) (hn : F.length ≤ 9223372036854775807) (hon : d.O.length + 9 * ss.length ≤ 99000) (ha0 : -1000000 ≤ at_) (ha1 : at_ ≤ 1000000)
  (hr : ∀ W,KeptT DAT B w W → SlsR W W.heap.size A ss) (hx : ∀ s ∈ ss,s.xs.length ≤ 100000 ∧ s.xs.length ≤ s.c) (hl : ss.length ≤ 100000) :
  Calls Tryz.prog 16 #[.pointer (some ⟨q,0,none⟩),.int .u64 key,.int .i64 at_,.slice A ss.length c] w fun e w'=>e = .returned (.int .i64 (wrD g F key at_ (ss.map Sl.xs) d).2) ∧ DM w' B q pw g F (wrD g F key at_ (ss.map Sl.xs) d).1 ∧ KeptT DAT B w w':=by
 have HR:=Lib.hid hr
 have HX:=Lib.hid hx
 have HF:=Lib.hid hF
 have hb0 : Below w.heap.size w (((w.alloc (.cells #[.pointer (some ⟨q,0,none⟩)] 52)).alloc (.cells #[.int .u64 key] 23)).alloc (.cells #[.int .i64 at_] 3)):=(((Below.refl _ _).alloc (Nat.le_refl _) _).alloc (by simp) _).alloc (by first | (simp; done) | (simp; omega)) _
 have hb:=Box3.new w q key at_
 have h0 : DM _ B q pw g F d:=DPm.below0 h hb0
 have hk0 : KeptT DAT B w _:=KeptT.bel hb0
 clear hr hx hF h hb0
 have H0 : Hid (Box3 (((w.alloc (.cells #[.pointer (some ⟨q,0,none⟩)] 52)).alloc (.cells #[.int .u64 key] 23)).alloc (.cells #[.int .i64 at_] 3)) w.heap.size q key at_ ∧ DM (((w.alloc (.cells #[.pointer (some ⟨q,0,none⟩)] 52)).alloc (.cells #[.int .u64 key] 23)).alloc (.cells #[.int .i64 at_] 3)) B q pw g F (wrAll g F key at_ (ss.map Sl.xs) d 0).1 ∧ (wrAll g F key at_ (ss.map Sl.xs) d 0).2 = 0 ∧
   KeptT DAT B w (((w.alloc (.cells #[.pointer (some ⟨q,0,none⟩)] 52)).alloc (.cells #[.int .u64 key] 23)).alloc (.cells #[.int .i64 at_] 3))):=⟨hb,h0,rfl,hk0⟩
 clear hb h0 hk0
 go_enter Tryz.func16,Tryz.ntmps16
 go_wp2
 go_loopw [16] (fun i wr=>∃ k : Nat,k ≤ ss.length ∧ i = .int .i64 k ∧ Hid (Box3 wr w.heap.size q key at_ ∧ DM wr B q pw g F (wrAll g F key at_ (ss.map Sl.xs) d k).1 ∧ (wrAll g F key at_ (ss.map Sl.xs) d k).2 = 0 ∧ KeptT DAT B w wr)) (fun i _=>ss.length - (intOf i).toNat)
 case atStart=>exact ⟨0,Nat.zero_le _,rfl,H0⟩
 case round=>
  obtain ⟨k,hk,rfl,HW⟩:=hrel
  by_cases hlt : k < ss.length
  ·have hkw:=HW.out.2.2.2
   obtain ⟨g1,o1,rfl,hg1,j1,hr1⟩:=sl_at (HR.out wr hkw) hlt
   have hb1 : Below wr.heap.size wr ((wr.alloc (.cells #[.int .i64 (k : Int)] 3)).alloc (.cells #[.slice ss[k].A ss[k].xs.length ss[k].c] 26)):=((Below.refl _ _).alloc (Nat.le_refl _) _).alloc (by simp) _
   have hk1 : KeptT DAT B wr _:=KeptT.bel hb1
   have hx1:=HX.out _ (List.getElem_mem hlt)
   have hbx:=HW.out.1.kept hk1 (by unfold DAT; decide)
   have hnx:=box_int_sl wr (k : Int) ss[k].A ss[k].xs.length ss[k].c
   have HC:=Lib.hid (trywr_any (i:=(k : Int)) (DPm.below0 HW.out.2.1 hb1) HF.out hn (by have:=wrAll_len g F key at_ (ss.map Sl.xs) d k; omega) (by constructor <;> omega)
    (fun W hW=>(HR.out W (hkw.trans (hk1.trans hW))).each _ (List.getElem_mem hlt)) hx1.1 hx1.2 hbx.1 hbx.2.1 hbx.2.2 hnx.1 hnx.2)
   have HN : Hid (wrAll g F key at_ (ss.map Sl.xs) d (k + 1) = ((tryD (wOne g F key (at_ + k) ss[k].xs) (wrAll g F key at_ (ss.map Sl.xs) d k).1).1,(tryD (wOne g F key (at_ + k) ss[k].xs) (wrAll g F key at_ (ss.map Sl.xs) d k).1).2.er)):=by
    unfold Hid
    rw [wrAll,if_pos HW.out.2.2.1,show (ss.map Sl.xs).getD k [] = ss[k].xs by simp [List.getD,hlt]]
   have HK : Hid (KeptT DAT B w _):=hkw.trans hk1
   have hbw:=HW.out.1
   have HBX : Hid (∀ W,KeptT DAT B ((wr.alloc (.cells #[.int .i64 (k : Int)] 3)).alloc (.cells #[.slice ss[k].A ss[k].xs.length ss[k].c] 26)) W → Box3 W w.heap.size q key at_):=fun W hW=>hbx.kept hW (by unfold DAT; decide)
   generalize tryD (wOne g F key (at_ + k) ss[k].xs) (wrAll g F key at_ (ss.map Sl.xs) d k).1 = T at *
   generalize ss[k] = s1 at *
   clear hr1 hb1 hk1 hx1 hbx hnx hkw hbw
   go_wp2_with fail
   refine HC.out.mono ?_
   rintro e w2 ⟨rfl,hd2,hk2⟩
   have HD:=Lib.hid (And.intro hd2 (HK.out.trans hk2))
   have HB2:=Lib.hid (HBX.out w2 hk2)
   clear hd2 hk2 HC HK HBX
   obtain ⟨T1,⟨er,by_⟩⟩:=T
   simp only at *
   by_cases he : er = 0
   ·subst he
    go_wp2
    go_roundw
    case rel=>exact ⟨k + 1,hlt,by go_num,⟨HB2.out,by rw [HN.out]; exact HD.out.1,by rw [HN.out],HD.out.2⟩⟩
    case measure=>simp [intOf]; omega
   ·have he' : (er != 0) = true:=by simpa using he
    have HE : Hid (wrD g F key at_ (ss.map Sl.xs) d = (T1,er)):=by
     unfold Hid wrD
     have h1:=wrAll_stay (g:=g) (F:=F) (key:=key) (a:=at_) (ls:=ss.map Sl.xs) (d:=d) (k:=k + 1) (by rw [HN.out]; exact he) (ss.length - (k + 1))
     rw [show k + 1 + (ss.length - (k + 1)) = (ss.map Sl.xs).length by rw [List.length_map]; omega] at h1
     rw [h1,HN.out]
    go_wp2
    go_ret
    rw [HE.out]
    exact ⟨rfl,HD.out⟩
  ·obtain rfl : k = ss.length:=by omega
   have HD : Hid (wrD g F key at_ (ss.map Sl.xs) d = wrAll g F key at_ (ss.map Sl.xs) d ss.length):=by unfold Hid wrD; rw [List.length_map]
   go_wp2
   go_ret
   rw [HD.out]
   exact ⟨by rw [HW.out.2.2.1]; rfl,HW.out.2.1,HW.out.2.2.2⟩
end
end Go.Proofs.YtaggiceejcegdaaGreat
namespace Go.Proofs.YtaggiceejcegdaaGreat
set_option linter.unusedVariables false
open Go.RowKit
set_option maxRecDepth 100000 in
set_option maxHeartbeats 4000000 in
theorem tryread_any {w : World} (bd bk ba bi bb : Nat) (J : Nat → World → Prop) (er : Nat → Int) (h0 : J 0 w) (HC : ∀ n W,n ≤ 8 → J n W → Calls Tryz.prog 61 #[.pointer (some ⟨bd,0,none⟩),.pointer (some ⟨bk,0,none⟩),.pointer (some ⟨ba,0,none⟩),.pointer (some ⟨bi,0,none⟩),.pointer (some ⟨bb,0,none⟩)] W fun e w'=>e = .returned (.int .i64 (er n)) ∧ J (n + 1) w') :
  Calls Tryz.prog 54 #[.func (.func 61) #[] #[.pointer (some ⟨bd,0,none⟩),.pointer (some ⟨bk,0,none⟩),.pointer (some ⟨ba,0,none⟩),.pointer (some ⟨bi,0,none⟩),.pointer (some ⟨bb,0,none⟩)]] w fun e w'=>∃ k,e = .returned (.int .i64 (er k)) ∧ J (k + 1) w' ∧ (∀ j,j < k → er j = 16) ∧ (k = 8 ∨ (k ≤ 8 ∧ ¬ er k = 16)):=by
 have HC':=Lib.hid HC
 clear HC
 go_enter Tryz.func54,Tryz.ntmps54
 go_wp2_with fail
 refine (HC'.out 0 w (by omega) h0).mono ?_
 rintro e w1 ⟨rfl,h1⟩
 go_wp2
 go_loopw [3,4] (fun e n wr=>∃ k : Nat,k ≤ 8 ∧ e = .int .i64 (er k) ∧ n = .int .i64 ((k + 1 : Nat) : Int) ∧ J (k + 1) wr ∧ Hid (∀ j,j < k → er j = 16)) (fun _ n _=>10 - (intOf n).toNat)
 case atStart=>exact ⟨0,by omega,rfl,rfl,h1,by unfold Hid; intro j hj; omega⟩
 case round=>
  obtain ⟨k,hk,rfl,rfl,hJ,HJ⟩:=hrel
  generalize hE : er k = E at *
  by_cases h8 : k < 8
  ·by_cases h16 : E = 16
   ·subst h16
    have d1 : decide (((k + 1 : Nat) : Int) < 9) = true:=decide_eq_true (by omega)
    have hw : IntKind.i64.wrap (((k + 1 : Nat) : Int) + 1) = ((k + 1 + 1 : Nat) : Int):=by rw [IntKind.wrap_i64]; omega
    have HJ2 : Hid (∀ j,j < k + 1 → er j = 16):=by
     unfold Hid; intro j hj
     by_cases e : j = k
     ·subst e; exact hE
     ·exact HJ.out j (by omega)
    go_wp2_with fail
    refine (HC'.out (k + 1) wr (by omega) hJ).mono ?_
    rintro e w2 ⟨rfl,h2⟩
    go_wp2
    go_roundw
    case rel=>exact ⟨k + 1,by omega,rfl,by go_num,h2,HJ2⟩
    case measure=>simp [intOf]; omega
   ·have d1 : decide (((k + 1 : Nat) : Int) < 9) = true:=decide_eq_true (by omega)
    have d2 : (E == 16) = false:=by simpa using h16
    go_wp2
    go_ret
    exact ⟨k,by rw [hE]; rfl,hJ,HJ.out,.inr ⟨hk,by rw [hE]; exact h16⟩⟩
  ·have d1 : decide (((k + 1 : Nat) : Int) < 9) = false:=decide_eq_false (by omega)
   go_wp2
   go_ret
   exact ⟨k,by rw [hE]; rfl,hJ,HJ.out,.inl (by omega)⟩
structure SlsB (w : World) (base : Nat) (A : Option Addr) (c : Nat) (ss : List Sl) : Prop where
 own : w.ownsRow base 26 1 (.slice A ss.length c) ss.length (ss.map Sl.v)
 each : ∀ s ∈ ss,RdT w 5 s.A (s.xs.map (Value.int .u8)) ∧ CapOk s.A s.xs.length s.c
theorem SlsB.rd {w : World} {base : Nat} {A : Option Addr} {c : Nat} {ss : List Sl} (h : SlsB w base A c ss) : SlsR w w.heap.size A ss:=⟨Rd.of_own h.own,fun s hs=>(h.each s hs).1.rd⟩
theorem SlsB.below {w w' : World} {base : Nat} {A : Option Addr} {c : Nat} {ss : List Sl} (h : SlsB w base A c ss) (hb : Below w.heap.size w w') : SlsB w' base A c ss:=
 ⟨own_kept h.own (belKept0 (S:=fun _=>False) hb) (fun _ _ h=>h),fun s hs=>⟨(h.each s hs).1.below0 hb,(h.each s hs).2⟩⟩
def RBT : List TypeId:=[127,120,26]
theorem dpt_rbt : ∀ t,t ∈ DPT → t ∈ RBT:=by unfold DPT RBT; decide
def KB (bb : Nat) (w w' : World) : Prop:=Kept (fun k=>k = bb ∨ HasT DPT w k) w w'
theorem KB.refl (bb : Nat) (w : World) : KB bb w w:=Kept.refl _ w
theorem KB.trans {bb : Nat} {w w' w'' : World} (h : KB bb w w') (k : KB bb w' w'') : KB bb w w'':=
 Kept.trans h k (fun i hi hs=>by
  by_cases hh : i = bb ∨ HasT DPT w i
  ·exact hh
  ·have e:=h.block i hi hh
   rcases hs with h1 | ⟨t,ht,cur,fr,h2⟩
   ·exact .inl h1
   ·exact .inr ⟨t,ht,cur,fr,e.symm.trans h2⟩)
theorem KB.of {bb : Nat} {B : Bd} {w w' : World} (h : KeptT DPT B w w') : KB bb w w':=Kept.more h (fun _ _ h=>.inr h.2)
theorem KB.set {bb : Nat} {w : World} (u : Value) : KB bb w (w.setCell ⟨bb,0,none⟩ u):=Kept.more ((Kept.refl (fun k=>k = bb) w).setCell (p:=⟨bb,0,none⟩) (fun _=>rfl) u) (fun _ _ h=>.inl h)
theorem KB.rbt {bb : Nat} {w w' : World} {v : Value} {fr : Nat × Nat} (h : KB bb w w') (hb : w.heap[bb]? = some (.cells #[v] 26 fr)) : KeptT RBT (Bd.of 0) w w':=
 KeptT.of h (fun k _ e=>⟨⟨Nat.zero_le _,fun h=>h⟩,by
  rcases e with e | ⟨t,ht,h2⟩
  ·subst e; exact HasT.mem (IsT.of hb) (by simp [RBT])
  ·exact ⟨t,dpt_rbt t ht,h2⟩⟩)
theorem SlsB.kb {bb : Nat} {w w' : World} {base : Nat} {A : Option Addr} {c : Nat} {ss : List Sl} (h : SlsB w base A c ss) (hk : KB bb w w') (hb : ∀ k,(Value.slice A ss.length c).ownBlock = some k → k ≠ bb) {v : Value} {fr : Nat × Nat} (ho : w.heap[bb]? = some (.cells #[v] 26 fr)) : SlsB w' base A c ss:=by
 refine ⟨own_kept h.own hk (fun k e hh=>?_),fun s hs=>⟨(h.each s hs).1.kept (hk.rbt ho) (KeptT.free (by unfold RBT; decide)),(h.each s hs).2⟩⟩
 rcases hh with hh | hh
 ·exact hb k e hh
 ·rcases h.own.2 with ⟨h2,_⟩ | ⟨g,cap,cur,h2,_,h4,_⟩
  ·rw [h2] at e; cases e
  ·rw [h2] at e
   obtain rfl : g = k:=by simpa [Value.ownBlock] using e
   exact HasT.no (IsT.of h4) (by unfold DPT; decide) hh
theorem SlsB.lt {w : World} {base : Nat} {A : Option Addr} {c : Nat} {ss : List Sl} (h : SlsB w base A c ss) : ∀ k,(Value.slice A ss.length c).ownBlock = some k → k < w.heap.size:=fun k e=>by
 rcases h.own.2 with ⟨h2,_⟩ | ⟨g,cap,cur,h2,_,h4,_⟩
 ·rw [h2] at e; cases e
 ·rw [h2] at e
  obtain rfl : g = k:=by simpa [Value.ownBlock] using e
  exact lt_of_block h4
section
variable {w w' w0 : World} {B : Bd} {q pw p : Nat} {g : Geo} {F : List Flt} {s : DS} {P : Pow} {L : List Sec} {O : List OpV} {FA : Option Addr} {fc : Nat}
theorem Mid.box {bb n : Nat} {v u : Value} {fr : Nat × Nat} (h : Mid w0 w B q pw g n fc p FA s P) (hb : w0.heap.size ≤ bb) (ho : w.heap[bb]? = some (.cells #[v] 26 fr)) : Mid w0 (w.setCell ⟨bb,0,none⟩ u) B q pw g n fc p FA s P:=by
 have hk : Kept (fun k=>k = bb) w (w.setCell ⟨bb,0,none⟩ u):=(Kept.refl (fun k=>k = bb) w).setCell (p:=⟨bb,0,none⟩) (fun _=>rfl) _
 have hkT : KeptT [26] (Bd.of 0) w (w.setCell ⟨bb,0,none⟩ u):=KeptT.of hk (fun k _ e=>by have e' : k = bb:=e; subst e'; exact ⟨⟨Nat.zero_le _,fun h=>h⟩,HasT.mem (IsT.of ho) (by simp)⟩)
 exact ⟨own_ty h.o hkT (by decide),h.p.keptT hkT (by decide),Kept.trans h.k hk (fun i hi e=>by have e' : i = bb:=e; omega),h.x⟩
set_option maxRecDepth 100000 in
set_option maxHeartbeats 2000000 in
theorem rdcl_any {key at_ i : Int} {bd bk ba bi bb : Nat} {fd fk fa fi : Nat × Nat} {v0 : Value} (hm : Mid w0 w B q pw g F.length fc p FA s P) (hc : CacheM w0 B p g L O) (hfl : RdT w0 138 FA (flatF F)) (hf : Fit g L) (hsb : ShortB L) (hB : B.top ≤ w0.heap.size) (hn : F.length ≤ 9223372036854775807) (hai : I64 (at_ + i))
  (hd : w.heap[bd]? = some (.cells #[.pointer (some ⟨q,0,none⟩)] 52 fd)) (hk : w.heap[bk]? = some (.cells #[.int .u64 key] 23 fk)) (ha : w.heap[ba]? = some (.cells #[.int .i64 at_] 3 fa)) (hi : w.heap[bi]? = some (.cells #[.int .i64 i] 3 fi)) (hb : w.heap[bb]? = some (.cells #[v0] 26 (0,0))) (h0 : w0.heap.size ≤ bb) :
  Calls Tryz.prog 61 #[.pointer (some ⟨bd,0,none⟩),.pointer (some ⟨bk,0,none⟩),.pointer (some ⟨ba,0,none⟩),.pointer (some ⟨bi,0,none⟩),.pointer (some ⟨bb,0,none⟩)] w fun e w'=>e = .returned (.int .i64 (rOne g F key (at_ + i) ⟨s,P,L,O⟩).2.er) ∧
   Mid w0 w' B q pw g F.length fc p FA (rOne g F key (at_ + i) ⟨s,P,L,O⟩).1.s (rOne g F key (at_ + i) ⟨s,P,L,O⟩).1.P ∧ (∃ v,w'.heap[bb]? = some (.cells #[v] 26 (0,0)) ∧ Bys 5 w' v (rOne g F key (at_ + i) ⟨s,P,L,O⟩).2.by_) ∧ KB bb w w':=by
 have c0:=cell_one hd
 have c1:=cell_one hk
 have c2:=cell_one ha
 have c3:=cell_one hi
 have hw : IntKind.i64.wrap (at_ + i) = at_ + i:=by obtain ⟨h1,h2⟩:=hai; rw [IntKind.wrap_i64]; omega
 have HC:=Lib.hid (dreadM_any key (at_ + i) (Dsk.of hm.o hm.x hc hfl hm.k) hm.p hf hsb (Nat.le_trans hB hm.k.size) hn)
 have HM : Hid (∀ W s' P' v,Mid w W B q pw g F.length fc p FA s' P' → Bys 5 W v (dRdB F s P L (playL g L O) key (at_ + i)) → W.heap[bb]? = some (.cells #[v0] 26 (0,0)) ∧ Mid w0 (W.setCell ⟨bb,0,none⟩ v) B q pw g F.length fc p FA s' P' ∧
   (∃ u,(W.setCell ⟨bb,0,none⟩ v).heap[bb]? = some (.cells #[u] 26 (0,0)) ∧ Bys 5 (W.setCell ⟨bb,0,none⟩ v) u (dRdB F s P L (playL g L O) key (at_ + i))) ∧ KB bb w (W.setCell ⟨bb,0,none⟩ v)):=by
  unfold Hid
  intro W s' P' v hW hv
  have hbW : W.heap[bb]? = some (.cells #[v0] 26 (0,0)):=Kept.obj hW.k hb (KeptT.no (IsT.of hb) (by unfold DPT; decide))
  have hk : Kept (fun k=>k = bb) W (W.setCell ⟨bb,0,none⟩ v):=(Kept.refl (fun k=>k = bb) W).setCell (p:=⟨bb,0,none⟩) (fun _=>rfl) _
  refine ⟨hbW,Mid.box (⟨hW.o,hW.p,hm.k.trans hW.k,hW.x⟩ : Mid w0 W B q pw g F.length fc p FA s' P') h0 hbW,⟨v,one_setCell hbW,hv.kept hk (Free.one hbW (by decide))⟩,(KB.of hW.k).trans (KB.set v)⟩
 clear hd hk ha hi hb hm hc hfl hf hsb hB hai
 have HR : Hid ((rOne g F key (at_ + i) ⟨s,P,L,O⟩).2.er = dRdE F s P L (playL g L O) key (at_ + i)):=rfl
 unfold rOne
 simp only
 go_enter Tryz.func61,Tryz.ntmps61
 go_wp2_with fail
 refine HC.out.mono ?_
 rintro e w1 ⟨v,rfl,hv,hm1⟩
 have HD:=Lib.hid (HM.out w1 _ _ v hm1 hv)
 obtain ⟨A1,c1,rfl,_,_⟩:=hv
 have hfz:=free_of_one HD.out.1
 have c8:=cell_one HD.out.1
 clear hm1 HC HM
 go_wp2
 go_ret
 exact ⟨rfl,HD.out.2⟩
theorem callN_eta {key a : Int} {d : DC} (n : Nat) : (⟨(callN (rOne g F key a) d n).s,(callN (rOne g F key a) d n).P,d.L,d.O⟩ : DC) = callN (rOne g F key a) d n:=by
 have h:=callN_r (g:=g) (F:=F) (key:=key) (a:=a) (d:=d) n
 rw [← h.1,← h.2]
theorem tryrd_any {key at_ i : Int} {d : DC} {bd bk ba bi bb : Nat} {fd fk fa fi : Nat × Nat} {v0 : Value} (hm : Mid w0 w B q pw g F.length fc p FA d.s d.P) (hc : CacheM w0 B p g d.L d.O) (hfl : RdT w0 138 FA (flatF F)) (hf : Fit g d.L) (hsb : ShortB d.L) (hB : B.top ≤ w0.heap.size) (hn : F.length ≤ 9223372036854775807) (hai : I64 (at_ + i))
  (hd : w.heap[bd]? = some (.cells #[.pointer (some ⟨q,0,none⟩)] 52 fd)) (hk : w.heap[bk]? = some (.cells #[.int .u64 key] 23 fk)) (ha : w.heap[ba]? = some (.cells #[.int .i64 at_] 3 fa)) (hi : w.heap[bi]? = some (.cells #[.int .i64 i] 3 fi)) (hb : w.heap[bb]? = some (.cells #[v0] 26 (0,0))) (h0 : w0.heap.size ≤ bb) :
  Calls Tryz.prog 54 #[.func (.func 61) #[] #[.pointer (some ⟨bd,0,none⟩),.pointer (some ⟨bk,0,none⟩),.pointer (some ⟨ba,0,none⟩),.pointer (some ⟨bi,0,none⟩),.pointer (some ⟨bb,0,none⟩)]] w fun e w'=>e = .returned (.int .i64 (tryD (rOne g F key (at_ + i)) d).2.er) ∧
   Mid w0 w' B q pw g F.length fc p FA (tryD (rOne g F key (at_ + i)) d).1.s (tryD (rOne g F key (at_ + i)) d).1.P ∧ (∃ v,w'.heap[bb]? = some (.cells #[v] 26 (0,0)) ∧ Bys 5 w' v (tryD (rOne g F key (at_ + i)) d).2.by_) ∧ KB bb w w':=by
 refine (tryread_any bd bk ba bi bb (fun n W=>Mid w0 W B q pw g F.length fc p FA (callN (rOne g F key (at_ + i)) d n).s (callN (rOne g F key (at_ + i)) d n).P ∧ (∃ v,W.heap[bb]? = some (.cells #[v] 26 (0,0)) ∧ (0 < n → Bys 5 W v (ansN (rOne g F key (at_ + i)) d (n - 1)).by_)) ∧ KB bb w W)
  (fun n=>(ansN (rOne g F key (at_ + i)) d n).er) ⟨hm,⟨v0,hb,fun h=>absurd h (by omega)⟩,KB.refl _ w⟩ ?_).mono ?_
 ·rintro n W hn8 ⟨hW,⟨v,hv,_⟩,hkB⟩
  have hkW:=hkB.rbt hb
  refine (rdcl_any hW hc hfl hf hsb hB hn hai (Kept.obj hkW hd (KeptT.no (IsT.of hd) (by unfold RBT; decide))) (Kept.obj hkW hk (KeptT.no (IsT.of hk) (by unfold RBT; decide)))
   (Kept.obj hkW ha (KeptT.no (IsT.of ha) (by unfold RBT; decide))) (Kept.obj hkW hi (KeptT.no (IsT.of hi) (by unfold RBT; decide))) hv h0).mono ?_
  rintro e w' ⟨rfl,hm',⟨u,hu,hby⟩,hk'⟩
  rw [callN_eta] at hm' hby ⊢
  exact ⟨rfl,hm',⟨u,hu,fun _=>hby⟩,hkB.trans hk'⟩
 ·rintro e w' ⟨k,rfl,⟨hm',⟨u,hu,hby⟩,hk'⟩,hbz,hlast⟩
  rw [try_stop hbz hlast]
  exact ⟨rfl,hm',⟨u,hu,hby (by omega)⟩,hk'⟩
theorem Mid.below0 {n : Nat} (h : Mid w0 w B q pw g n fc p FA s P) (hb : Below w.heap.size w w') : Mid w0 w' B q pw g n fc p FA s P:=
 ⟨own_kept h.o (belKept0 (S:=fun _=>False) hb) (fun _ _ h=>h),h.p.below0 hb,h.k.thenBelow hb,h.x⟩
theorem Mid.grown {n base m : Nat} {v : Value} {xs : List Value} (h : Mid w0 w B q pw g n fc p FA s P) (hg : w.grownBy w' v.ownBlock) (ho : w.ownsRow base 26 1 v m xs) (hb : w0.heap.size ≤ base) : Mid w0 w' B q pw g n fc p FA s P:=by
 have hk : Kept (fun k=>v.ownBlock = some k) w w':=⟨hg.os,hg.tape,hg.output,hg.size,fun k hk hS=>hg.block k hk (fun e=>hS e.symm)⟩
 refine ⟨h.o.kept hg (own_apart h.o ho (by decide)),⟨h.p.obj.kept hg (own_apart h.p.obj ho (by decide)),h.p.px⟩,Kept.trans h.k hk (fun i hi e=>?_),h.x⟩
 have:=own_low ho e
 omega
theorem grown_rbt {base m : Nat} {v : Value} {xs : List Value} (hg : w.grownBy w' v.ownBlock) (ho : w.ownsRow base 26 1 v m xs) : KeptT RBT (Bd.of 0) w w':=by
 have hk : Kept (fun k=>v.ownBlock = some k) w w':=⟨hg.os,hg.tape,hg.output,hg.size,fun k hk hS=>hg.block k hk (fun e=>hS e.symm)⟩
 refine KeptT.of hk (fun k _ e=>⟨⟨Nat.zero_le _,fun h=>h⟩,?_⟩)
 rcases ho.2 with ⟨h2,_⟩ | ⟨g,cap,cur,h2,_,h4,_⟩
 ·rw [h2] at e; cases e
 ·rw [h2] at e
  obtain rfl : g = k:=by simpa [Value.ownBlock] using e
  exact HasT.mem (IsT.of h4) (by simp [RBT])
theorem SlsB.push {base : Nat} {A A' : Option Addr} {c c' : Nat} {ss : List Sl} {x : Sl} {tmp : Obj} (h : SlsB w base A c ss) (hs : RdT w 5 x.A (x.xs.map (Value.int .u8)) ∧ CapOk x.A x.xs.length x.c)
  (hown : w'.ownsRow base 26 1 (.slice A' (ss.length + 1) c') (ss.length + 1) (ss.map Sl.v ++ [x.v])) (hg : (w.alloc tmp).grownBy w' (Value.slice A ss.length c).ownBlock) : SlsB w' base A' c' (ss ++ [x]):=by
 refine ⟨?_,fun t ht=>?_⟩
 ·rw [List.length_append,List.map_append]; exact hown
 ·have ht' : RdT w 5 t.A (t.xs.map (Value.int .u8)) ∧ CapOk t.A t.xs.length t.c:=by
   rcases List.mem_append.1 ht with ht | ht
   ·exact h.each t ht
   ·simp at ht; subst ht; exact hs
  have ho:=h.own.alloc tmp
  refine ⟨(ht'.1.below0 ((Below.refl _ _).alloc (Nat.le_refl _) tmp)).kept (S:=fun k=>(Value.slice A ss.length c).ownBlock = some k) ⟨hg.os,hg.tape,hg.output,hg.size,fun k hk hS=>hg.block k hk (fun e=>hS e.symm)⟩ (fun k hk _ cur fr e=>?_),ht'.2⟩
  have hk' : (Value.slice A ss.length c).ownBlock = some k:=hk
  rcases ho.2 with ⟨e1,_⟩ | ⟨g',cap,cur2,e1,_,hgg,_⟩
  ·rw [e1] at hk'; cases hk'
  ·rw [e1] at hk'
   obtain rfl : g' = k:=by simpa [Value.ownBlock] using hk'
   rw [hgg] at e; injection e with e; injection e with _ h3; exact absurd h3 (by decide)
theorem heap_new_set (w : World) (a : Addr) (v : Value) (o : Obj) : ((w.setCell a v).alloc o).heap[w.heap.size]? = some o:=by
 have h:=heap_alloc_new (w.setCell a v) o
 simpa using h
theorem box_int_nil (w : World) (i : Int) : ((w.alloc (.cells #[.int .i64 i] 3)).alloc (.cells #[.slice none 0 0] 26)).heap[w.heap.size]? = some (.cells #[.int .i64 i] 3 (0,0)) ∧
  ((w.alloc (.cells #[.int .i64 i] 3)).alloc (.cells #[.slice none 0 0] 26)).heap[w.heap.size + 1]? = some (.cells #[.slice none 0 0] 26 (0,0)):=box_int_sl w i none 0 0
def RdsPost (w : World) (B : Bd) (q pw : Nat) (g : Geo) (F : List Flt) (x : DC × List (List Int) × Int) (e : Ending) (w' : World) : Prop:=
 ∃ A c ss,e = .returned (.tuple #[.slice A ss.length c,.int .i64 x.2.2]) ∧ ss.map Sl.xs = x.2.1 ∧ SlsB w' w.heap.size A c ss ∧ DM w' B q pw g F x.1 ∧ KeptT DAT B w w'
set_option maxRecDepth 100000 in
set_option maxHeartbeats 4000000 in
theorem wread_pos {key at_ : Int} {d : DC} {N : Nat} (hN0 : 0 < N) (hNl : N ≤ 1000) (h : DM w B q pw g F d) (hn : F.length ≤ 9223372036854775807) (ha0 : -1000000 ≤ at_) (ha1 : at_ ≤ 1000000) :
  Calls Tryz.prog 20 #[.pointer (some ⟨q,0,none⟩),.int .u64 key,.int .i64 at_,.int .i64 (N : Int)] w (RdsPost w B q pw g F (rdAll g F key at_ d N)):=by
 obtain ⟨i0,hi0,hz0,hz1,hz2⟩:=info_parts info_sl
 obtain ⟨⟨p,FA,fc,hd⟩,hp,hf,hs,hB⟩:=h
 have hb0 : Below w.heap.size w (((w.alloc (.cells #[.pointer (some ⟨q,0,none⟩)] 52)).alloc (.cells #[.int .u64 key] 23)).alloc (.cells #[.int .i64 at_] 3)):=(((Below.refl _ _).alloc (Nat.le_refl _) _).alloc (by simp) _).alloc (by first | (simp; done) | (simp; omega)) _
 have hm0 : Mid w w B q pw g F.length fc p FA d.s d.P:=⟨hd.obj,hp,KeptT.refl _ _ _,hd.px⟩
 have HB3:=Lib.hid (Box3.new w q key at_)
 have HC:=Lib.hid hd.c
 have HFL:=Lib.hid hd.fl
 have HF:=Lib.hid hf
 have HS:=Lib.hid hs
 have HBt:=Lib.hid hB
 generalize hW0 : (((w.alloc (.cells #[.pointer (some ⟨q,0,none⟩)] 52)).alloc (.cells #[.int .u64 key] 23)).alloc (.cells #[.int .i64 at_] 3)) = W0 at *
 have H0 : Hid (Mid w W0 B q pw g F.length fc p FA (rdAll g F key at_ d 0).1.s (rdAll g F key at_ d 0).1.P ∧ (rdAll g F key at_ d 0).2.2 = 0 ∧ ([] : List Sl).map Sl.xs = (rdAll g F key at_ d 0).2.1 ∧ SlsB W0 w.heap.size none 0 [] ∧ KeptT RBT (Bd.of 0) W0 W0):=
  ⟨hm0.below0 hb0,rfl,rfl,⟨World.ownsRow_nil _ _ _ _,fun s hs=>by simp at hs⟩,KeptT.refl _ _ _⟩
 subst hW0
 have HZ0:=Lib.hid hb0.size
 clear hd hp hf hs hB hb0 hm0
 go_enter Tryz.func20,Tryz.ntmps20
 go_wp2
 go_loopw [10,18] (fun o i wr=>∃ (k : Nat) (A : Option Addr) (c : Nat) (ss : List Sl),k ≤ N ∧ o = .slice A ss.length c ∧ i = .int .i64 k ∧ Hid (Mid w wr B q pw g F.length fc p FA (rdAll g F key at_ d k).1.s (rdAll g F key at_ d k).1.P ∧ (rdAll g F key at_ d k).2.2 = 0 ∧ ss.map Sl.xs = (rdAll g F key at_ d k).2.1 ∧ SlsB wr w.heap.size A c ss ∧
   KeptT RBT (Bd.of 0) (((w.alloc (.cells #[.pointer (some ⟨q,0,none⟩)] 52)).alloc (.cells #[.int .u64 key] 23)).alloc (.cells #[.int .i64 at_] 3)) wr)) (fun _ i _=>N - (intOf i).toNat)
 case atStart=>exact ⟨0,none,0,[],Nat.zero_le _,rfl,rfl,H0⟩
 case round=>
  obtain ⟨k,A,c,ss,hk,rfl,rfl,HW⟩:=hrel
  by_cases hlt : k < N
  ·have hbW : Below wr.heap.size wr ((wr.alloc (.cells #[.int .i64 (k : Int)] 3)).alloc (.cells #[.slice none 0 0] 26)):=((Below.refl _ _).alloc (Nat.le_refl _) _).alloc (by simp) _
   have hkB : KeptT RBT (Bd.of 0) wr ((wr.alloc (.cells #[.int .i64 (k : Int)] 3)).alloc (.cells #[.slice none 0 0] 26)):=KeptT.bel hbW
   have hnx:=box_int_nil wr (k : Int)
   have hkA:=HW.out.2.2.2.2.trans hkB
   have hb1:=Kept.obj hkA HB3.out.1 (KeptT.no (IsT.of HB3.out.1) (by unfold RBT; decide))
   have hb2:=Kept.obj hkA HB3.out.2.1 (KeptT.no (IsT.of HB3.out.2.1) (by unfold RBT; decide))
   have hb3:=Kept.obj hkA HB3.out.2.2 (KeptT.no (IsT.of HB3.out.2.2) (by unfold RBT; decide))
   have hLO:=rdAll_r (g:=g) (F:=F) (key:=key) (a:=at_) (d:=d) k
   have hwz:=HW.out.1.k.size
   have HT:=Lib.hid (tryrd_any (i:=(k : Int)) (d:=(rdAll g F key at_ d k).1) (HW.out.1.below0 hbW) (by rw [hLO.1,hLO.2]; exact HC.out) HFL.out (by rw [hLO.1]; exact HF.out) (by rw [hLO.1]; exact HS.out) HBt.out hn (by constructor <;> omega)
    hb1 hb2 hb3 hnx.1 hnx.2 (by omega))
   have HN:=Lib.hid (rdAll_yes (g:=g) (F:=F) (key:=key) (a:=at_) (d:=d) HW.out.2.1)
   have HSW:=Lib.hid (HW.out.2.2.2.1.below hbW)
   have HXW:=Lib.hid HW.out.2.2.1
   have HKA:=Lib.hid hkA
   have HWZ:=Lib.hid hwz
   have HNX:=Lib.hid hnx
   have HLT:=Lib.hid HW.out.2.2.2.1.lt
   have hbz : ((wr.alloc (.cells #[.int .i64 (k : Int)] 3)).alloc (.cells #[.slice none 0 0] 26)).heap.size = wr.heap.size + 2:=by simp
   have HBW:=Lib.hid hbW
   have hsl : ss.length ≤ 1000:=by
    have:=congrArg List.length HW.out.2.2.1
    rw [List.length_map,rdAll_len k HW.out.2.1] at this
    omega
   generalize tryD (rOne g F key (at_ + k)) (rdAll g F key at_ d k).1 = T at *
   clear hbW hkB hnx hkA hb1 hb2 hb3 hLO hwz
   go_wp2_with fail
   refine HT.out.mono ?_
   rintro e w2 ⟨rfl,hm2,⟨v2,hv2,hby2⟩,hk2⟩
   obtain ⟨T1,⟨er,by_⟩⟩:=T
   simp only at *
   obtain ⟨A1,c1,rfl,hr1,hA1⟩:=hby2
   have HR1 : Hid (RdT w2 5 A1 (by_.map (Value.int .u8)) ∧ CapOk A1 by_.length c1):=⟨hr1,hA1⟩
   have HM2:=Lib.hid hm2
   have hbx0:=HNX.out.2
   have HK2:=Lib.hid (HKA.out.trans (hk2.rbt hbx0))
   have HS2 : Hid (SlsB w2 w.heap.size A c ss):=HSW.out.kb hk2 (fun k e=>by have:=HLT.out k e; omega) hbx0
   have HV2:=Lib.hid hv2
   have c2:=cell_one hv2
   have hfz:=free_of_one hv2
   clear hm2 hk2 hr1 HT hA1 hbx0 hv2
   by_cases he : er = 0
   ·subst he
    have HN2 : Hid (rdAll g F key at_ d (k + 1) = (T1,(rdAll g F key at_ d k).2.1 ++ [by_],0)):=by
     unfold Hid; rw [HN.out]; unfold rdNext; rw [if_pos rfl]
    have hO:=HS2.out.own
    go_wp2_with (at_builtin; go_loud (refine wpList_append_own _ rfl _ _ 49 rfl w.heap.size 26 i0 _ 1 24 Tryz.underlying49 hi0 hz0 hz1 hz2 rfl (by decide) (.slice A ss.length c) ss.length (ss.map Sl.v) rfl (hO.alloc _) ⟨(w2).heap.size,0,none⟩ 1 1 [.slice A1 (by_).length c1] rfl rfl (World.news_of_block (by first | exact heap_alloc_new _ _ | exact heap_new_set _ _ _ _)) (by intro u hu; simp at hu; subst hu; rfl) ?c1 ?c2 ?c3 ?_))
    case c1=>unfold maxLen; omega
    case c2=>omega
    case c3=>have h71:=HM2.out.k.size; first | omega | (simp; omega)
    intro v' w9 hown hgrow hiff
    obtain ⟨A9,c9,hv⟩:=own_form hown
    subst hv
    have hba : Below (w2).heap.size (w2) ((w2).alloc (.cells #[.slice A1 (by_).length c1] 26)):=(Below.refl _ _).alloc (Nat.le_refl _) _
    have HW9 : Hid (Mid w w9 B q pw g F.length fc p FA (rdAll g F key at_ d (k + 1)).1.s (rdAll g F key at_ d (k + 1)).1.P ∧ (rdAll g F key at_ d (k + 1)).2.2 = 0 ∧ (ss ++ [(⟨A1,by_,c1⟩ : Sl)]).map Sl.xs = (rdAll g F key at_ d (k + 1)).2.1 ∧ SlsB w9 w.heap.size A9 c9 (ss ++ [(⟨A1,by_,c1⟩ : Sl)]) ∧ KeptT RBT (Bd.of 0) (((w.alloc (.cells #[.pointer (some ⟨q,0,none⟩)] 52)).alloc (.cells #[.int .u64 key] 23)).alloc (.cells #[.int .i64 at_] 3)) w9):=by
     rw [HN2.out]
     refine ⟨(HM2.out.below0 hba).grown hgrow (hO.alloc _) (Nat.le_refl _),rfl,by rw [List.map_append,HXW.out]; rfl,HS2.out.push HR1.out hown hgrow,(HK2.out.trans (KeptT.bel hba)).trans (grown_rbt hgrow (hO.alloc _))⟩
    clear hown hgrow hiff hO hba
    go_wp2
    go_roundw
    case rel=>exact ⟨k + 1,A9,c9,ss ++ [(⟨A1,by_,c1⟩ : Sl)],hlt,by rw [List.length_append]; rfl,by go_num,HW9⟩
    case measure=>simp [intOf]; omega
   ·by_cases h15 : er = 15
    ·subst h15
     have HN2 : Hid (rdAll g F key at_ d (k + 1) = (T1,(rdAll g F key at_ d k).2.1 ++ [[]],0)):=by
      unfold Hid; rw [HN.out]; unfold rdNext; rw [if_neg he,if_pos (.inl rfl)]
     skip
     have hW3k : KB (wr.heap.size + 1) w2 (w2.setCell ⟨wr.heap.size + 1,0,none⟩ (.slice none 0 0)):=KB.set _
     have HM3:=Lib.hid (HM2.out.box (u:=.slice none 0 0) (by have:=HWZ.out; omega) HV2.out)
     have HS3:=Lib.hid (HS2.out.kb hW3k (fun k e=>by have:=HLT.out k e; omega) HV2.out)
     have HK3:=Lib.hid (HK2.out.trans (hW3k.rbt HV2.out))
     clear hW3k
     have hO:=HS3.out.own
     go_wp2_with (at_builtin; go_loud (refine wpList_append_own _ rfl _ _ 49 rfl w.heap.size 26 i0 _ 1 24 Tryz.underlying49 hi0 hz0 hz1 hz2 rfl (by decide) (.slice A ss.length c) ss.length (ss.map Sl.v) rfl (hO.alloc _) ⟨(w2).heap.size,0,none⟩ 1 1 [.slice none (([] : List Int)).length 0] rfl rfl (World.news_of_block (by first | exact heap_alloc_new _ _ | exact heap_new_set _ _ _ _)) (by intro u hu; simp at hu; subst hu; rfl) ?c1 ?c2 ?c3 ?_))
     case c1=>unfold maxLen; omega
     case c2=>omega
     case c3=>have h71:=HM2.out.k.size; first | omega | (simp; omega)
     intro v' w9 hown hgrow hiff
     obtain ⟨A9,c9,hv⟩:=own_form hown
     subst hv
     have hba : Below ((w2.setCell ⟨wr.heap.size + 1,0,none⟩ (.slice none 0 0))).heap.size ((w2.setCell ⟨wr.heap.size + 1,0,none⟩ (.slice none 0 0))) (((w2.setCell ⟨wr.heap.size + 1,0,none⟩ (.slice none 0 0))).alloc (.cells #[.slice none (([] : List Int)).length 0] 26)):=(Below.refl _ _).alloc (Nat.le_refl _) _
     have HW9 : Hid (Mid w w9 B q pw g F.length fc p FA (rdAll g F key at_ d (k + 1)).1.s (rdAll g F key at_ d (k + 1)).1.P ∧ (rdAll g F key at_ d (k + 1)).2.2 = 0 ∧ (ss ++ [(⟨none,([] : List Int),0⟩ : Sl)]).map Sl.xs = (rdAll g F key at_ d (k + 1)).2.1 ∧ SlsB w9 w.heap.size A9 c9 (ss ++ [(⟨none,([] : List Int),0⟩ : Sl)]) ∧ KeptT RBT (Bd.of 0) (((w.alloc (.cells #[.pointer (some ⟨q,0,none⟩)] 52)).alloc (.cells #[.int .u64 key] 23)).alloc (.cells #[.int .i64 at_] 3)) w9):=by
      rw [HN2.out]
      refine ⟨(HM3.out.below0 hba).grown hgrow (hO.alloc _) (Nat.le_refl _),rfl,by rw [List.map_append,HXW.out]; rfl,HS3.out.push ⟨RdT.nil _ _ _,CapOk.nil⟩ hown hgrow,(HK3.out.trans (KeptT.bel hba)).trans (grown_rbt hgrow (hO.alloc _))⟩
     clear hown hgrow hiff hO hba
     go_wp2
     go_roundw
     case rel=>exact ⟨k + 1,A9,c9,ss ++ [(⟨none,([] : List Int),0⟩ : Sl)],hlt,by rw [List.length_append]; rfl,by go_num,HW9⟩
     case measure=>simp [intOf]; omega
    ·by_cases h16 : er = 16
     ·subst h16
      have HN2 : Hid (rdAll g F key at_ d (k + 1) = (T1,(rdAll g F key at_ d k).2.1 ++ [[]],0)):=by
       unfold Hid; rw [HN.out]; unfold rdNext; rw [if_neg he,if_pos (.inr rfl)]
      skip
      have hW3k : KB (wr.heap.size + 1) w2 (w2.setCell ⟨wr.heap.size + 1,0,none⟩ (.slice none 0 0)):=KB.set _
      have HM3:=Lib.hid (HM2.out.box (u:=.slice none 0 0) (by have:=HWZ.out; omega) HV2.out)
      have HS3:=Lib.hid (HS2.out.kb hW3k (fun k e=>by have:=HLT.out k e; omega) HV2.out)
      have HK3:=Lib.hid (HK2.out.trans (hW3k.rbt HV2.out))
      clear hW3k
      have hO:=HS3.out.own
      go_wp2_with (at_builtin; go_loud (refine wpList_append_own _ rfl _ _ 49 rfl w.heap.size 26 i0 _ 1 24 Tryz.underlying49 hi0 hz0 hz1 hz2 rfl (by decide) (.slice A ss.length c) ss.length (ss.map Sl.v) rfl (hO.alloc _) ⟨(w2).heap.size,0,none⟩ 1 1 [.slice none (([] : List Int)).length 0] rfl rfl (World.news_of_block (by first | exact heap_alloc_new _ _ | exact heap_new_set _ _ _ _)) (by intro u hu; simp at hu; subst hu; rfl) ?c1 ?c2 ?c3 ?_))
      case c1=>unfold maxLen; omega
      case c2=>omega
      case c3=>have h71:=HM2.out.k.size; first | omega | (simp; omega)
      intro v' w9 hown hgrow hiff
      obtain ⟨A9,c9,hv⟩:=own_form hown
      subst hv
      have hba : Below ((w2.setCell ⟨wr.heap.size + 1,0,none⟩ (.slice none 0 0))).heap.size ((w2.setCell ⟨wr.heap.size + 1,0,none⟩ (.slice none 0 0))) (((w2.setCell ⟨wr.heap.size + 1,0,none⟩ (.slice none 0 0))).alloc (.cells #[.slice none (([] : List Int)).length 0] 26)):=(Below.refl _ _).alloc (Nat.le_refl _) _
      have HW9 : Hid (Mid w w9 B q pw g F.length fc p FA (rdAll g F key at_ d (k + 1)).1.s (rdAll g F key at_ d (k + 1)).1.P ∧ (rdAll g F key at_ d (k + 1)).2.2 = 0 ∧ (ss ++ [(⟨none,([] : List Int),0⟩ : Sl)]).map Sl.xs = (rdAll g F key at_ d (k + 1)).2.1 ∧ SlsB w9 w.heap.size A9 c9 (ss ++ [(⟨none,([] : List Int),0⟩ : Sl)]) ∧ KeptT RBT (Bd.of 0) (((w.alloc (.cells #[.pointer (some ⟨q,0,none⟩)] 52)).alloc (.cells #[.int .u64 key] 23)).alloc (.cells #[.int .i64 at_] 3)) w9):=by
       rw [HN2.out]
       refine ⟨(HM3.out.below0 hba).grown hgrow (hO.alloc _) (Nat.le_refl _),rfl,by rw [List.map_append,HXW.out]; rfl,HS3.out.push ⟨RdT.nil _ _ _,CapOk.nil⟩ hown hgrow,(HK3.out.trans (KeptT.bel hba)).trans (grown_rbt hgrow (hO.alloc _))⟩
      clear hown hgrow hiff hO hba
      go_wp2
      go_roundw
      case rel=>exact ⟨k + 1,A9,c9,ss ++ [(⟨none,([] : List Int),0⟩ : Sl)],hlt,by rw [List.length_append]; rfl,by go_num,HW9⟩
      case measure=>simp [intOf]; omega
     ·have HD : Hid (RdsPost w B q pw g F (rdAll g F key at_ d N) (.returned (.tuple #[.slice none 0 0,.int .i64 er])) w2):=by
       have hN2 : rdAll g F key at_ d (k + 1) = (T1,[],er):=by rw [HN.out]; unfold rdNext; rw [if_neg he,if_neg (by rintro (h | h); exact h15 h; exact h16 h)]
       have hN3 : rdAll g F key at_ d N = (T1,[],er):=by
        have:=rdAll_stay (g:=g) (F:=F) (key:=key) (a:=at_) (d:=d) (k:=k + 1) (by rw [hN2]; exact he) (N - (k + 1))
        rw [show k + 1 + (N - (k + 1)) = N by omega,hN2] at this
        exact this
       have hLO:=rdAll_r (g:=g) (F:=F) (key:=key) (a:=at_) (d:=d) N
       rw [hN3] at hLO ⊢
       have hm:=HM2.out
       refine ⟨none,0,[],rfl,rfl,⟨World.ownsRow_nil _ _ _ _,fun s hs=>by simp at hs⟩,⟨⟨p,FA,fc,?_⟩,hm.p,by rw [hLO.1]; exact HF.out,by rw [hLO.1]; exact HS.out,Nat.le_trans HBt.out hm.k.size⟩,hm.k.sub dpt_dat⟩
       rw [hLO.1,hLO.2]
       exact Dsk.of hm.o hm.x HC.out HFL.out hm.k
      have e0 : (er == 0) = false:=by simpa using he
      have e15 : (er == 15) = false:=by simpa using h15
      have e16 : (er == 16) = false:=by simpa using h16
      go_wp2
      go_ret2
      exact HD.out
  ·obtain rfl : k = N:=by omega
   have HD : Hid (RdsPost w B q pw g F (rdAll g F key at_ d k) (.returned (.tuple #[.slice A ss.length c,.int .i64 0])) wr):=by
    have hLO:=rdAll_r (g:=g) (F:=F) (key:=key) (a:=at_) (d:=d) k
    obtain ⟨hm,h0,hx,hsb,_⟩:=HW.out
    refine ⟨A,c,ss,by rw [h0],hx,hsb,⟨⟨p,FA,fc,?_⟩,hm.p,by rw [hLO.1]; exact HF.out,by rw [hLO.1]; exact HS.out,Nat.le_trans HBt.out hm.k.size⟩,hm.k.sub dpt_dat⟩
    rw [hLO.1,hLO.2]
    exact Dsk.of hm.o hm.x HC.out HFL.out hm.k
   go_wp2
   go_ret2
   exact HD.out
end
end Go.Proofs.YtaggiceejcegdaaGreat
namespace Go.Proofs.YtaggiceejcegdaaGreat
set_option linter.unusedVariables false
open Go.RowKit
def Tried (f : DC → DC × Ans) (d : DC) (n : Nat) (er : Int) : Prop:=(n = 0 ∧ er = 16) ∨ (0 < n ∧ er = (ansN f d (n - 1)).er ∧ ∀ j,j < n - 1 → (ansN f d j).er = 16)
section
variable {w w' : World} {B : Bd} {q pw : Nat} {g : Geo} {F : List Flt} {d : DC}
def RRdsPost (w : World) (B : Bd) (q pw : Nat) (g : Geo) (F : List Flt) (x : DC × List (List Int) × Int) (e : Ending) (w' : World) : Prop:=
 ∃ A c ss,e = .returned (.tuple #[.slice A ss.length c,.int .i64 x.2.2]) ∧ ss.map Sl.xs = x.2.1 ∧ SlsB w' w.heap.size A c ss ∧ RDM w' B q pw g F x.1 ∧ KeptT RDT B w w'
end
end Go.Proofs.YtaggiceejcegdaaGreat
