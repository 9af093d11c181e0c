/-
  WHAT IS SHOWN: awake of the laws of the drive returns true. the program's laying out, as the laws of the drive need it. plain facts, of no program: what cleaning a band makes of a drive's account of its bands: how many cleanings there can be, and where there is room. Conditions: as each theorem names them.
-/
import Derived.Test.YtggkengmlkhdiaaGreatH25
import Derived.Test.YtggkengmlkhdiaaGreatRows
import Derived.ProofKit
import Derived.OpenShut
import Derived.ChangeOld
import Derived.Deep.Slices
import Derived.Deep.Fields
import Derived.Lib.SmallJoins
import Derived.Test.YtggkengmlkhdiaaGreatH12
namespace Go.Proofs.YtggkengmlkhdiaaGreat
set_option linter.unusedVariables false
open Go.RowKit
set_option maxRecDepth 100000 in
set_option maxHeartbeats 8000000 in
theorem awake20_any (w : World) : Calls Tryz.prog 16 #[] w fun e w'=>e = .returned (.bool true) ∧ Below w.heap.size w w':=by
 have hbe:=fun W : World=>blk_eql W 7 0 0 0 0 0 0 0 7 0 0 0 0 0 0 0
 go_enter Tryz.func16,Tryz.ntmps16
 go_wp2_with fail
 refine (newpower_any _).mono ?_
 rintro e w1 ⟨pw,rfl,hp1,hb1⟩
 have HB1:=Lib.hid hb1
 have HN:=Lib.hid (dnew_yes (B:=Bd.of w.heap.size) (g:=exG) [] none 0 (by decide) (by decide) (by intro i v hi; simp [flatF] at hi) (by decide) hp1 hb1.size)
 clear hp1 hb1
 go_wp2_with fail
 refine HN.out.mono ?_
 rintro e w2 ⟨q,rfl,hd2,hb2⟩
 have HB2 : Hid (Below w.heap.size w w2):=HB1.out.trans (hb2.mono HB1.out.size)
 have HC:=Lib.hid (exnew hd2)
 clear hd2 hb2 HN
 go_wp2_with fail
 refine HC.out.mono ?_
 rintro e w3 ⟨p,ea,ec,BA,bc,rfl,hd3,hk3⟩
 have HB3 : Hid (Below w.heap.size w w3):=HB2.out.trans (hk3.below HB2.out.size)
 have HW1:=Lib.hid (exw1 hd3)
 clear hd3 hk3 HC
 go_wp2_with fail
 refine HW1.out.mono ?_
 rintro e w4 ⟨rfl,BA4,bc4,hd4,hk4⟩
 have HB4 : Hid (Below w.heap.size w w4):=HB3.out.trans (hk4.below HB3.out.size)
 have HR:=Lib.hid (exr1 hd4)
 clear hd4 hk4 HW1
 go_wp2_with fail
 refine HR.out.mono ?_
 rintro e w5 ⟨rfl,BA5,bc5,hd5,hk5⟩
 have HB5 : Hid (Below w.heap.size w w5):=HB4.out.trans (hk5.below HB4.out.size)
 have hbl6 : Below w5.heap.size w5 (w5.alloc (.cells #[.int .u8 7,.int .u8 0,.int .u8 0,.int .u8 0,.int .u8 0,.int .u8 0,.int .u8 0,.int .u8 0] 27)):=(Below.refl _ _).alloc (Nat.le_refl _) _
 have HB6 : Hid (Below w.heap.size w (w5.alloc (.cells #[.int .u8 7,.int .u8 0,.int .u8 0,.int .u8 0,.int .u8 0,.int .u8 0,.int .u8 0,.int .u8 0] 27))):=HB5.out.alloc HB5.out.size _
 have HX6 : Hid ((w5.alloc (.cells #[.int .u8 7,.int .u8 0,.int .u8 0,.int .u8 0,.int .u8 0,.int .u8 0,.int .u8 0,.int .u8 0] 27)).heap[w5.heap.size]? = some (.cells #[.int .u8 7,.int .u8 0,.int .u8 0,.int .u8 0,.int .u8 0,.int .u8 0,.int .u8 0,.int .u8 0] 27 (0,0))):=heap_alloc_new _ _
 have HW2:=Lib.hid (exw2 (hd5.below0 hbl6))
 clear hd5 hk5 HR hbl6
 go_upto_region 10 with fail
 generalize (w5.alloc (.cells #[.int .u8 7,.int .u8 0,.int .u8 0,.int .u8 0,.int .u8 0,.int .u8 0,.int .u8 0,.int .u8 0] 27)) = w6 at *
 go_wp2_with fail
 refine HW2.out.mono ?_
 rintro e w7 ⟨rfl,BA7,bc7,hd7,hk7⟩
 have HB7 : Hid (Below w.heap.size w w7):=HB6.out.trans (hk7.below HB6.out.size)
 have HX7:=Lib.hid (Kept.obj hk7 HX6.out (KeptT.no (IsT.of HX6.out) (by unfold DRT; decide)))
 have HT:=Lib.hid (ext4 hd7)
 clear hd7 hk7 HW2 HX6
 go_wp2_with fail
 refine HT.out.mono ?_
 rintro e w8 ⟨rfl,BA8,bc8,hd8,hk8⟩
 have HB8 : Hid (Below w.heap.size w w8):=HB7.out.trans (hk8.below HB7.out.size)
 have HX8:=Lib.hid (Kept.obj hk8 HX7.out (KeptT.no (IsT.of HX7.out) (by unfold DRT; decide)))
 have HR5:=Lib.hid (exr5 hd8)
 clear hd8 hk8 HT HX7
 go_wp2_with fail
 refine HR5.out.mono ?_
 rintro e w9 ⟨rfl,BA9,bc9,hd9,hk9⟩
 have HB9 : Hid (Below w.heap.size w w9):=HB8.out.trans (hk9.below HB8.out.size)
 have HX9:=Lib.hid (Kept.obj hk9 HX8.out (KeptT.no (IsT.of HX8.out) (by unfold DRT; decide)))
 clear hd9 hk9 HR5 HX8
 have hbl10 : Below w9.heap.size w9 (w9.alloc (.cells #[.int .u8 0,.int .u8 0,.int .u8 0,.int .u8 0,.int .u8 0,.int .u8 0,.int .u8 0,.int .u8 0] 27)):=(Below.refl _ _).alloc (Nat.le_refl _) _
 have HB10 : Hid (Below w.heap.size w (w9.alloc (.cells #[.int .u8 0,.int .u8 0,.int .u8 0,.int .u8 0,.int .u8 0,.int .u8 0,.int .u8 0,.int .u8 0] 27))):=HB9.out.alloc HB9.out.size _
 have HX10:=Lib.hid (belObj hbl10 HX9.out (lt_of_block HX9.out))
 clear HX9 hbl10
 go_upto_region 13 with fail
 generalize (w9.alloc (.cells #[.int .u8 0,.int .u8 0,.int .u8 0,.int .u8 0,.int .u8 0,.int .u8 0,.int .u8 0,.int .u8 0] 27)) = w10 at *
 obtain ⟨⟨p0,p1,p2,p3,p4,p5,p6,p7⟩,_⟩:=cells8q HX10.out
 go_wp2
 go_ret
 exact ⟨rfl,HB10.out⟩
end Go.Proofs.YtggkengmlkhdiaaGreat
namespace Go.Proofs.YtggkengmlkhdiaaGreat
set_option linter.unusedVariables false
open Go.ChangeShapes Go.WideShapes Go.ChangeAt Go.RowKit Go.Deep
theorem own : ownKnob Tryz.prog.godebug = none:=by kernel_rfl
theorem laidOut : laidOutB Tryz.prog = true:=by kernel_rfl
end Go.Proofs.YtggkengmlkhdiaaGreat
namespace Go.Proofs.YtggkengmlkhdiaaGreat
set_option linter.unusedVariables false
open Go.RowKit
def sumF (f : V.BI → Int) : List V.BI → Int
 | []=>0
 | b :: l=>f b + sumF f l
theorem sumF_set (f : V.BI → Int) : ∀ (l : List V.BI) (k : Nat) (x : V.BI) (hk : k < l.length),sumF f (l.set k x) = sumF f l - f l[k] + f x
 | b :: l,0,x,_=>by simp [sumF]; omega
 | b :: l,k + 1,x,hk=>by
   have ih:=sumF_set f l k x (by simpa using hk)
   simp only [List.set_cons_succ,sumF,List.getElem_cons_succ]; omega
theorem sumF_nn {f : V.BI → Int} : ∀ {l : List V.BI},(∀ b ∈ l,0 ≤ f b) → 0 ≤ sumF f l
 | [],_=>by simp [sumF]
 | b :: l,h=>by
   have h1:=h b (by simp)
   have h2:=sumF_nn (l:=l) (fun x hx=>h x (by simp [hx]))
   simp only [sumF]; omega
theorem sumF_one {f : V.BI → Int} : ∀ {l : List V.BI},(∀ b ∈ l,0 ≤ f b) → ∀ {k : Nat} (hk : k < l.length),f l[k] ≤ sumF f l
 | b :: l,h,0,_=>by
   have h2:=sumF_nn (l:=l) (fun x hx=>h x (by simp [hx]))
   simp only [sumF,List.getElem_cons_zero]; omega
 | b :: l,h,k + 1,hk=>by
   have h1:=h b (by simp)
   have h2:=sumF_one (l:=l) (fun x hx=>h x (by simp [hx])) (k:=k) (by simpa using hk)
   simp only [sumF,List.getElem_cons_succ]; omega
theorem sumF_two {f : V.BI → Int} {l : List V.BI} (h : ∀ b ∈ l,0 ≤ f b) {k j : Nat} (hk : k < l.length) (hj : j < l.length) (hne : j ≠ k) : f l[k] + f l[j] ≤ sumF f l:=by
 have h1:=sumF_set f l k { l[k] with used:=l[k].used } hk
 induction l generalizing k j with
 | nil=>simp at hk
 | cons b l ih=>
   have hb:=h b (by simp)
   have hl : ∀ x ∈ l,0 ≤ f x:=fun x hx=>h x (by simp [hx])
   cases k with
   | zero=>
     cases j with
     | zero=>exact absurd rfl hne
     | succ j=>
       have:=sumF_one hl (k:=j) (by simpa using hj)
       simp only [sumF,List.getElem_cons_zero,List.getElem_cons_succ]; omega
   | succ k=>
     cases j with
     | zero=>
       have:=sumF_one hl (k:=k) (by simpa using hk)
       simp only [sumF,List.getElem_cons_zero,List.getElem_cons_succ]; omega
     | succ j=>
       have:=ih hl (k:=k) (j:=j) (by simpa using hk) (by simpa using hj) (by omega) (by rw [sumF_set _ _ _ _ (by simpa using hk)])
       simp only [sumF,List.getElem_cons_succ]; omega
theorem sumF_zero {f : V.BI → Int} : ∀ {l : List V.BI},(∀ b ∈ l,f b = 0) → sumF f l = 0
 | [],_=>rfl
 | b :: l,h=>by
   have h1:=h b (by simp)
   have h2:=sumF_zero (l:=l) (fun x hx=>h x (by simp [hx]))
   simp only [sumF]; omega
theorem sumF_le {f h : V.BI → Int} : ∀ {l : List V.BI},(∀ b ∈ l,f b ≤ h b) → sumF f l ≤ sumF h l
 | [],_=>by simp [sumF]
 | b :: l,hh=>by
   have h1:=hh b (by simp)
   have h2:=sumF_le (l:=l) (fun x hx=>hh x (by simp [hx]))
   simp only [sumF]; omega
theorem sumF_const (c : Int) : ∀ (l : List V.BI),sumF (fun _=>c) l = l.length * c
 | []=>by simp [sumF]
 | b :: l=>by
   simp only [sumF]; rw [sumF_const c l,List.length_cons]
   rw [show ((l.length + 1 : Nat) : Int) = (l.length : Int) + 1 by omega,Int.add_mul]; omega
theorem sumF_sub (f h : V.BI → Int) : ∀ (l : List V.BI),sumF (fun b=>f b - h b) l = sumF f l - sumF h l
 | []=>by simp [sumF]
 | b :: l=>by simp only [sumF]; rw [sumF_sub f h l]; omega
def uF (b : V.BI) : Int:=b.used
def lF (b : V.BI) : Int:=b.live
theorem sum_used (c : Int) (l : List V.BI) : sumF (fun b=>c - b.used) l = l.length * c - sumF uF l:=by
 have h:=sumF_sub (fun _=>c) uF l
 rw [sumF_const] at h
 exact h
def pF (sz : Int) (b : V.BI) : Int:=if V.partB sz b = true then 1 else 0
def fF (b : V.BI) : Int:=if b.used = 0 then 1 else 0
theorem pF_used {sz : Int} {a b : V.BI} (h : a.used = b.used) : pF sz a = pF sz b:=by unfold pF V.partB; rw [h]
theorem fF_used {a b : V.BI} (h : a.used = b.used) : fF a = fF b:=by unfold fF; rw [h]
theorem pF_01 (sz : Int) (b : V.BI) : 0 ≤ pF sz b ∧ pF sz b ≤ 1:=by unfold pF; split <;> omega
theorem fF_01 (b : V.BI) : 0 ≤ fF b ∧ fF b ≤ 1:=by unfold fF; split <;> omega
theorem free_sum : ∀ (l : List V.BI),V.freeN l = sumF fF l
 | []=>rfl
 | b :: l=>by
   have ih:=free_sum l
   unfold V.freeN at ih ⊢
   simp only [List.filter_cons,sumF,fF]
   by_cases h : b.used = 0
   ·rw [if_pos (by simpa using h),if_pos h,List.length_cons]; omega
   ·rw [if_neg (by simpa using h),if_neg h]; omega
theorem roomFrom_no (sz except : Int) : ∀ (l : List V.BI) (i : Nat),except < i → roomFrom sz except i l = sumF (fun b=>sz - b.used) l
 | [],_,_=>rfl
 | b :: l,i,h=>by simp only [roomFrom,sumF]; rw [if_neg (by omega),roomFrom_no sz except l (i + 1) (by omega)]
theorem roomFrom_at (sz : Int) : ∀ (l : List V.BI) (i k : Nat) (hk : k < l.length),roomFrom sz ((i + k : Nat) : Int) i l = sumF (fun b=>sz - b.used) l - (sz - l[k].used)
 | b :: l,i,0,_=>by simp only [roomFrom,sumF]; rw [if_pos (by simp),roomFrom_no sz _ l (i + 1) (by omega)]; simp only [List.getElem_cons_zero]; omega
 | b :: l,i,k + 1,hk=>by
   simp only [roomFrom,sumF]
   rw [if_neg (by omega),show i + (k + 1) = i + 1 + k by omega,roomFrom_at sz l (i + 1) k (by simpa using hk)]
   simp only [List.getElem_cons_succ]; omega
theorem room_at (sz : Int) (l : List V.BI) (k : Nat) (hk : k < l.length) : roomN sz l k = l.length * sz - sumF uF l - (sz - l[k].used):=by
 have h:=roomFrom_at sz l 0 k hk
 rw [Nat.zero_add] at h
 unfold roomN
 rw [h,sum_used]
def pmx (sz : Int) (l : List V.BI) : Int:=if sumF (pF sz) l < 1 then 1 else sumF (pF sz) l
def meaB (sz : Int) (l : List V.BI) : Int:=sumF uF l - sumF lF l + pmx sz l
theorem VOk.mem {g : Geo} {v : DV} (h : VOk g v) {b : V.BI} (hb : b ∈ v.bs) : 0 ≤ b.live ∧ b.live ≤ b.used ∧ b.used ≤ bz g:=((V.validB_iff _ _).1 h.val).2.2.2 _ hb
theorem VOk.mea1 {g : Geo} {v : DV} (h : VOk g v) : 1 ≤ meaB (bz g) v.bs:=by
 have h1 : sumF lF v.bs ≤ sumF uF v.bs:=sumF_le (fun b hb=>(h.mem hb).2.1)
 unfold meaB pmx
 split <;> omega
theorem part_full (sz : Int) (b : V.BI) : V.partB sz { b with used:=sz } = false:=by simp [V.partB]
theorem openN_more {g : Geo} {v : DV} (h : VOk g v) {except : Int} (he : except < v.bs.length) :
  (∃ (k : Nat) (hk : k < v.bs.length),openN g v.bs except = ((k : Int),0) ∧ v.bs[k].used < bz g ∧ (k : Int) ≠ except ∧
    (V.partB (bz g) v.bs[k] = true ∨ (v.bs[k].used = 0 ∧ ∀ (j : Nat) (hj : j < v.bs.length),(j : Int) ≠ except → V.partB (bz g) v.bs[j] = false))) ∨
  ((openN g v.bs except).2 ≠ 0 ∧ ∀ (j : Nat) (hj : j < v.bs.length),(j : Int) ≠ except → v.bs[j].used = bz g):=by
 have hz:=h.bz1
 have hl:=fullL_len g v.bs except
 unfold openN
 rcases openB_told (fullL_valid h he) with ⟨h1,h2⟩ | ⟨i,hi,h1,h2,_⟩
 ·rw [h1]
  simp only [show ¬ ((0 : Int) ≤ -1) by omega,if_false]
  have h2' : ∀ (j : Nat) (hj : j < v.bs.length),(j : Int) ≠ except → V.partB (bz g) v.bs[j] = false:=fun j hj hne=>by
   have:=h2 j (by omega)
   rwa [fullL_get hj,if_neg hne] at this
  rcases leastN_told (fullL g v.bs except) with ⟨h3,h4⟩ | ⟨i,hi,h3,h4⟩
  ·rw [h3]
   right
   refine ⟨by simp,fun j hj hne=>?_⟩
   have hp:=h2' j hj hne
   have hm:=h.each hj
   have hu : v.bs[j].used ≠ 0:=by
    have:=h4 ((fullL g v.bs except)[j]'(by omega)) (List.getElem_mem _)
    rwa [fullL_get hj,if_neg hne] at this
   simp only [V.partB,Bool.and_eq_false_iff,decide_eq_false_iff_not] at hp
   omega
  ·rw [h3]
   left
   have hi' : i < v.bs.length:=by omega
   rw [fullL_get hi'] at h4
   by_cases e : (i : Int) = except
   ·rw [if_pos e] at h4; simp at h4; omega
   ·rw [if_neg e] at h4
    exact ⟨i,hi',by simp,by omega,e,.inr ⟨h4,h2'⟩⟩
 ·rw [h1]
  left
  have hi' : i < v.bs.length:=by omega
  simp only [show (0 : Int) ≤ (i : Int) by omega,if_true]
  rw [fullL_get hi'] at h2
  by_cases e : (i : Int) = except
  ·rw [if_pos e,part_full] at h2; cases h2
  ·rw [if_neg e] at h2
   have hp:=h2
   simp [V.partB] at h2
   exact ⟨i,hi',rfl,h2.2,e,.inl hp⟩
def othP (sz : Int) (l : List V.BI) (k : Nat) : Int:=sumF (pF sz) (l.set k ⟨sz,0,0,0⟩)
theorem othP_get {sz : Int} {l : List V.BI} {k : Nat} (hk : k < l.length) : othP sz l k = sumF (pF sz) l - pF sz l[k]:=by
 unfold othP
 rw [sumF_set _ _ _ _ hk]
 have : pF sz ⟨sz,0,0,0⟩ = 0:=by simp [pF,V.partB]
 omega
theorem othP_nn (sz : Int) (l : List V.BI) (k : Nat) : 0 ≤ othP sz l k:=sumF_nn (fun b _=>(pF_01 sz b).1)
theorem othP_none {sz : Int} {l : List V.BI} {k : Nat} (h : ∀ (j : Nat) (hj : j < l.length),j ≠ k → V.partB sz l[j] = false) : othP sz l k = 0:=by
 refine sumF_zero (fun b hb=>?_)
 obtain ⟨j,hj,rfl⟩:=List.getElem_of_mem hb
 rw [List.getElem_set]
 split
 ·simp [pF,V.partB]
 ·rename_i e
  have:=h j (by simpa using hj) (fun e'=>e e'.symm)
  simp [pF,this]
def cap1 (n : Int) : Int:=if n < 1 then 1 else n
structure Mvd (g : Geo) (v0 v : DV) (k : Nat) (u n : Int) : Prop where
 ok : VOk g v
 len : v.bs.length = v0.bs.length
 es : v.es.length = v0.es.length
 at_ : ∀ (hk : k < v.bs.length) (hk0 : k < v0.bs.length),v.bs[k].used = v0.bs[k].used ∧ v.bs[k].live = v0.bs[k].live - n
 us : sumF uF v.bs = sumF uF v0.bs + u
 ls : sumF lF v.bs = sumF lF v0.bs - n + u
 ps : othP (bz g) v.bs k ≤ cap1 (othP (bz g) v0.bs k)
 u0 : 0 ≤ u
 un : u ≤ n
 tm : v.time ≤ v0.time + u
theorem Mvd.refl {g : Geo} {v : DV} (h : VOk g v) (k : Nat) : Mvd g v v k 0 0:=
 ⟨h,rfl,rfl,fun _ _=>⟨rfl,by omega⟩,by omega,by omega,by unfold cap1; split <;> omega,by omega,by omega,by omega⟩
theorem unlink_sums {g : Geo} {v : DV} (h : VOk g v) {b k : Nat} {i : Int} {n : NE} (hb : v.es[b]? = some n) (ha : At g v.bs n.adr k i) :
  (unlinkV g v b).bs = v.bs.set k (V.unlBI (v.bs[k]'ha.hk)) ∧ sumF uF (unlinkV g v b).bs = sumF uF v.bs ∧ sumF lF (unlinkV g v b).bs = sumF lF v.bs - 1 ∧ (∀ c,othP (bz g) (unlinkV g v b).bs c = othP (bz g) v.bs c) ∧ sumF (pF (bz g)) (unlinkV g v b).bs = sumF (pF (bz g)) v.bs ∧ sumF fF (unlinkV g v b).bs = sumF fF v.bs:=by
 have hf:=unlink_form h hb ha
 have hk:=ha.hk
 have e : (unlinkV g v b).bs = v.bs.set k (V.unlBI (v.bs[k]'hk)):=by rw [hf.1]
 have hp : pF (bz g) (V.unlBI v.bs[k]) = pF (bz g) v.bs[k]:=pF_used rfl
 refine ⟨e,?_,?_,?_,?_,?_⟩
 ·rw [e,sumF_set _ _ _ _ hk]; show _ - v.bs[k].used + v.bs[k].used = _; omega
 ·rw [e,sumF_set _ _ _ _ hk]; show _ - v.bs[k].live + (v.bs[k].live - 1) = _; omega
 ·intro c
  rw [e]
  unfold othP
  by_cases hc : c = k
  ·subst hc; simp
  ·rw [List.set_comm _ _ (by omega),sumF_set _ _ _ _ (by simpa using hk)]
   rw [List.getElem_set_ne hc,hp]; omega
 ·rw [e,sumF_set _ _ _ _ hk,hp]; omega
 ·have hq : fF (V.unlBI v.bs[k]) = fF v.bs[k]:=fF_used rfl
  rw [e,sumF_set _ _ _ _ hk,hq]; omega
theorem Mvd.drop {g : Geo} {v0 v : DV} {k b : Nat} {u n i : Int} {m : NE} (h : Mvd g v0 v k u n) (hb : v.es[b]? = some m) (ha : At g v.bs m.adr k i) : Mvd g v0 (unlinkV g v b) k u (n + 1):=by
 have hbl : b < v.es.length:=(List.getElem?_eq_some_iff.1 hb).1
 obtain ⟨e,s1,s2,s3,_⟩:=unlink_sums h.ok hb ha
 obtain ⟨l1,l2,l3⟩:=unlink_len h.ok hbl
 refine ⟨unlink_ok h.ok hbl,l1.trans h.len,l2.trans h.es,fun hk hk0=>?_,by rw [s1,h.us],by rw [s2,h.ls]; omega,by rw [s3]; exact h.ps,h.u0,by have:=h.un; omega,h.tm⟩
 have hk' : k < v.bs.length:=by omega
 have h4:=h.at_ hk' hk0
 simp only [e,List.getElem_set_self]
 simp only [V.unlBI]
 omega
theorem link_sums {g : Geo} {v : DV} (h : VOk g v) {x : Ent} {j b : Nat} (hb : x.blk = (b : Int)) (hbl : b < v.es.length) (hj : j < v.bs.length) (hu : v.bs[j].used < bz g) :
  ∃ hj' : j < (unlinkV g v b).bs.length,(linkV g v x j).bs = (unlinkV g v b).bs.set j (V.appBI (tick v.time) ((unlinkV g v b).bs[j])) ∧ ((unlinkV g v b).bs[j]).used = v.bs[j].used ∧
   (∀ (f : V.BI → Int),sumF f (linkV g v x j).bs = sumF f (unlinkV g v b).bs - f ((unlinkV g v b).bs[j]) + f ⟨v.bs[j].used + 1,((unlinkV g v b).bs[j]).live + 1,tick v.time,((unlinkV g v b).bs[j]).wear⟩) ∧ (linkV g v x j).time = tick v.time ∧ (linkV g v x j).es.length = v.es.length ∧
   V.appBI (tick v.time) ((unlinkV g v b).bs[j]) = ⟨v.bs[j].used + 1,((unlinkV g v b).bs[j]).live + 1,tick v.time,((unlinkV g v b).bs[j]).wear⟩:=by
 obtain ⟨hj',hf⟩:=link_form h hb hbl hj hu
 have hz:=h.bz1
 have ho:=unlink_ok h hbl
 obtain ⟨hl,hel,hg⟩:=unlink_len h hbl
 have hev:=ho.each hj'
 have hu':=(hg j hj hj').1
 have hev2:=h.each hj
 have e1 : V.appBI (tick v.time) ((unlinkV g v b).bs[j]) = ⟨v.bs[j].used + 1,((unlinkV g v b).bs[j]).live + 1,tick v.time,((unlinkV g v b).bs[j]).wear⟩:=by
  unfold V.appBI
  rw [show wrap64 (((unlinkV g v b).bs[j]).used + 1) = v.bs[j].used + 1 by rw [hu']; unfold wrap64; omega,show wrap64 (((unlinkV g v b).bs[j]).live + 1) = ((unlinkV g v b).bs[j]).live + 1 by unfold wrap64; omega]
 refine ⟨hj',by rw [hf],hu',fun f=>?_,by rw [hf],by rw [hf]; simp,e1⟩
 have e : (linkV g v x j).bs = (unlinkV g v b).bs.set j (V.appBI (tick v.time) ((unlinkV g v b).bs[j])):=by rw [hf]
 rw [e,sumF_set _ _ _ _ hj',e1]
theorem tick_le (t : Int) (h : V.U64 t) : 0 ≤ tick t ∧ tick t ≤ t + 1:=by
 unfold tick
 rw [IntKind.wrap_u64]
 obtain ⟨h0,h1⟩:=h
 omega
theorem Mvd.move {g : Geo} {v0 v : DV} {k j b : Nat} {u n i : Int} {m : NE} {x : Ent} (h : Mvd g v0 v k u n) (hb : v.es[b]? = some m) (ha : At g v.bs m.adr k i) (hxb : x.blk = (b : Int)) (hx : validE x = true) (hxv : V.U64 x.ver)
  (hj : j < v.bs.length) (hu : v.bs[j].used < bz g) (hne : j ≠ k) (hp : V.partB (bz g) v.bs[j] = true ∨ (v.bs[j].used = 0 ∧ ∀ (c : Nat) (hc : c < v.bs.length),c ≠ k → V.partB (bz g) v.bs[c] = false)) : Mvd g v0 (linkV g v x j) k (u + 1) (n + 1):=by
 have hbl : b < v.es.length:=(List.getElem?_eq_some_iff.1 hb).1
 obtain ⟨e,s1,s2,s3,_,_⟩:=unlink_sums h.ok hb ha
 obtain ⟨l1,l2,l3⟩:=unlink_len h.ok hbl
 obtain ⟨hj',f1,f2,f3,f4,f5,f6⟩:=link_sums h.ok hxb hbl hj hu
 have hok:=link_ok h.ok hx hxv hxb hbl hj hu
 have hk:=ha.hk
 refine ⟨hok,by rw [f1]; simp [l1,h.len],f5.trans h.es,fun hk1 hk0=>?_,?_,?_,?_,by have:=h.u0; omega,by have:=h.un; omega,?_⟩
 ·have h4:=h.at_ hk hk0
  simp only [f1]
  rw [List.getElem_set_ne hne]
  simp only [e,List.getElem_set_self]
  simp only [V.unlBI]
  omega
 ·rw [f3,s1,h.us]
  show _ - (((unlinkV g v b).bs[j]).used) + (v.bs[j].used + 1) = _
  rw [f2]; omega
 ·rw [f3,s2,h.ls]
  show _ - (((unlinkV g v b).bs[j]).live) + (((unlinkV g v b).bs[j]).live + 1) = _
  omega
 ·
  have hk1 : k < (linkV g v x j).bs.length:=by rw [f1]; simp; omega
  have hku : k < (unlinkV g v b).bs.length:=by omega
  have e1 : othP (bz g) (linkV g v x j).bs k = othP (bz g) v.bs k - pF (bz g) v.bs[j] + pF (bz g) ⟨v.bs[j].used + 1,((unlinkV g v b).bs[j]).live + 1,tick v.time,((unlinkV g v b).bs[j]).wear⟩:=by
   rw [← s3 k]
   rw [f1,f6]
   unfold othP
   rw [List.set_comm _ _ hne,sumF_set _ _ _ _ (by simpa using hj'),List.getElem_set_ne (fun e=>hne e.symm)]
   have : pF (bz g) ((unlinkV g v b).bs[j]) = pF (bz g) v.bs[j]:=pF_used f2
   rw [this]
  have h01:=pF_01 (bz g) ⟨v.bs[j].used + 1,((unlinkV g v b).bs[j]).live + 1,tick v.time,((unlinkV g v b).bs[j]).wear⟩
  have hps:=h.ps
  rcases hp with hp | ⟨hp0,hp⟩
  ·have : pF (bz g) v.bs[j] = 1:=by simp [pF,hp]
   omega
  ·have h0:=othP_none hp
   have:=(pF_01 (bz g) v.bs[j]).1
   have hc : 1 ≤ cap1 (othP (bz g) v0.bs k):=by unfold cap1; split <;> omega
   omega
 ·rw [f4]
  have:=(tick_le v.time h.ok.time).2
  have:=h.tm
  omega
theorem reset_ok {g : Geo} {v : DV} (h : VOk g v) {k : Nat} (hk : k < v.bs.length) (h0 : v.bs[k].live = 0) : VOk g { v with bs:=V.resL v.bs k }:=by
 have hz:=h.bz1
 have hE : V.resE v.bs k = 0:=by unfold V.resE; rw [show V.inL v.bs k = true by simp [V.inL,hk],if_pos rfl]
 have hR:=V.resL_zero hk hE
 have hno : ∀ (b : Nat) (n : NE),v.es[b]? = some n → 0 ≤ n.adr → bandN g n.adr ≠ k:=fun b n hn hp e=>by
  have hl:=h.live k hk
  have hpos : 0 < v.es.countP (liveP g k):=by
   rw [List.countP_pos_iff]
   exact ⟨n,List.mem_of_getElem? hn,by simp [liveP,hp,e]⟩
  unfold cntIn at hl
  omega
 refine ⟨h.gv,V.resL_ok h.oks,?_,by simp only [hR,List.length_set]; exact h.len,h.e0,h.e1,fun b n hn=>?_,h.inj,fun j hj=>?_,h.ver,h.kind,h.time⟩
 ·simp only [hR]; exact V.valid_set h.val k _ ⟨by simp [V.resBI],by simp [V.resBI],by simp [V.resBI]; omega⟩
 ·rcases h.adr b n hn with h1 | ⟨k',i',h1⟩
  ·exact .inl h1
  ·refine .inr ⟨k',i',by simp only [hR,List.length_set]; exact h1.hk,h1.e,h1.i0,?_⟩
   have hne : k ≠ k':=fun e=>hno b n hn (h1.nn h).2.1 (by rw [h1.band h,e])
   simp only [hR]
   rw [List.getElem_set_ne hne]
   exact h1.i1
 ·simp only [hR,List.length_set] at hj
  have h1:=h.live j hj
  simp only [hR]
  rw [List.getElem_set]
  split
  ·rename_i e; subst e
   simp only [V.resBI]
   have:=h.live k hk
   omega
  ·exact h1
theorem resL_nat {l : List V.BI} {k : Nat} (hk : k < l.length) : V.resL l k = l.set k (V.resBI l[k]):=V.resL_zero hk (by unfold V.resE; rw [show V.inL l k = true by simp [V.inL,hk],if_pos rfl])
theorem Mvd.mea {g : Geo} {v0 v : DV} {k : Nat} {u : Int} (h : Mvd g v0 v k u ((v0.bs.getD k ⟨0,0,0,0⟩).live)) (hk : k < v0.bs.length) (hv0 : VOk g v0)
  (hch : v0.bs[k].live < v0.bs[k].used ∨ 1 ≤ othP (bz g) v0.bs k ∧ V.partB (bz g) v0.bs[k] = true) : meaB (bz g) (V.resL v.bs k) < meaB (bz g) v0.bs:=by
 have hgd : v0.bs.getD k ⟨0,0,0,0⟩ = v0.bs[k]:=by simp [List.getD,hk]
 rw [hgd] at h
 have hk' : k < v.bs.length:=by rw [h.len]; exact hk
 have ha:=h.at_ hk' hk
 have hz:=hv0.bz1
 rw [resL_nat hk']
 unfold meaB pmx
 rw [sumF_set _ _ _ _ hk',sumF_set _ _ _ _ hk',sumF_set _ _ _ _ hk',h.us,h.ls]
 have hps:=h.ps
 rw [othP_get hk'] at hps
 have hex:=othP_get (sz:=bz g) hk
 have r1 : uF (V.resBI v.bs[k]) = 0:=rfl
 have r2 : lF (V.resBI v.bs[k]) = 0:=rfl
 have r3 : pF (bz g) (V.resBI v.bs[k]) = 0:=by simp [pF,V.partB,V.resBI]
 have r4 : uF v.bs[k] = v.bs[k].used:=rfl
 have r5 : lF v.bs[k] = v.bs[k].live:=rfl
 have hm:=hv0.each hk
 have hp01:=pF_01 (bz g) v0.bs[k]
 rw [r1,r2,r3,r4,r5]
 unfold cap1 at hps
 rcases hch with hlt | ⟨h1,h2⟩
 ·split at hps <;> split <;> split <;> omega
 ·have h3 : pF (bz g) v0.bs[k] = 1:=by simp [pF,h2]
  split at hps <;> split <;> split <;> omega
structure Vict (g : Geo) (v : DV) (k : Nat) : Prop where
 hk : k < v.bs.length
 lt : v.bs[k].live < bz g
 room : v.bs[k].live ≤ roomN (bz g) v.bs k
 ch : v.bs[k].live < v.bs[k].used ∨ 1 ≤ othP (bz g) v.bs k ∧ V.partB (bz g) v.bs[k] = true
theorem free_of_sum {l : List V.BI} (h : 0 < V.freeN l) : ∃ (j : Nat) (hj : j < l.length),l[j].used = 0:=by
 unfold V.freeN at h
 have h1 : 0 < (l.filter fun b=>b.used == 0).length:=by omega
 obtain ⟨b,hb⟩:=List.exists_mem_of_length_pos h1
 obtain ⟨hb1,hb2⟩:=List.mem_filter.1 hb
 obtain ⟨j,hj,rfl⟩:=List.getElem_of_mem hb1
 exact ⟨j,hj,by simpa using hb2⟩
theorem free_none {l : List V.BI} (h : V.freeN l ≤ 0) : ∀ (j : Nat) (hj : j < l.length),l[j].used ≠ 0:=fun j hj e=>by
 unfold V.freeN at h
 have : l[j] ∈ l.filter fun b=>b.used == 0:=List.mem_filter.2 ⟨List.getElem_mem hj,by simpa using e⟩
 have:=List.length_pos_of_mem this
 omega
theorem room_of {g : Geo} {v : DV} (h : VOk g v) {k j : Nat} (hk : k < v.bs.length) (hj : j < v.bs.length) (hne : j ≠ k) : bz g - v.bs[j].used ≤ roomN (bz g) v.bs k:=by
 rw [room_at _ _ _ hk]
 have h1:=sumF_two (f:=fun b=>bz g - b.used) (l:=v.bs) (fun b hb=>by have:=(h.mem hb).2.2; omega) hk hj hne
 rw [sum_used] at h1
 omega
theorem room_none {g : Geo} {v : DV} {k : Nat} (hk : k < v.bs.length) (hall : ∀ (j : Nat) (hj : j < v.bs.length),j ≠ k → v.bs[j].used = bz g) : roomN (bz g) v.bs k = 0:=by
 rw [room_at _ _ _ hk]
 have h1:=sumF_set (fun b=>bz g - b.used) v.bs k ⟨bz g,0,0,0⟩ hk
 rw [sumF_zero (l:=v.bs.set k ⟨bz g,0,0,0⟩) (fun b hb=>by
  obtain ⟨j,hj,rfl⟩:=List.getElem_of_mem hb
  rw [List.getElem_set]
  split
  ·simp
  ·rename_i e
   rw [hall j (by simpa using hj) (fun e'=>e e'.symm)]; omega)] at h1
 simp only at h1
 rw [sum_used] at h1
 omega
theorem victim_told {g : Geo} {v : DV} (h : VOk g v) (h0 : (victimN g v).2 = 0) : ∃ k : Nat,(victimN g v).1 = (k : Int) ∧ Vict g v k:=by
 have hz:=h.bz1
 unfold victimN at h0 ⊢
 by_cases hf : 0 < V.freeN v.bs
 ·rw [if_pos hf] at h0 ⊢
  rcases V.choose_told (now:=v.time) (opn:=V.openB v.bs (bz g)) h.val (by omega) with ⟨h1,_⟩ | ⟨k,hk,h1,h2,_⟩
  ·rw [h1] at h0; simp at h0
  ·rw [h1]
   simp only [V.candB,Bool.and_eq_true,Bool.not_eq_true',decide_eq_false_iff_not,decide_eq_true_eq] at h2
   obtain ⟨c1,c2,c3⟩:=h2
   obtain ⟨j,hj,hj0⟩:=free_of_sum hf
   have hjk : j ≠ k:=fun e=>by subst e; omega
   have hr:=room_of h hk hj hjk
   have hm:=h.each hk
   refine ⟨k,rfl,hk,c3,by omega,?_⟩
   by_cases hlu : v.bs[k].live < v.bs[k].used
   ·exact .inl hlu
   ·right
    have hp : V.partB (bz g) v.bs[k] = true:=by simp [V.partB]; omega
    refine ⟨?_,hp⟩
    rcases openB_told h.val with ⟨_,h4⟩ | ⟨i,hi,h3,h4,_⟩
    ·rw [h4 k hk] at hp; cases hp
    ·have hik : i ≠ k:=fun e=>c1 (by rw [h3,e])
     rw [othP_get hk]
     have h5:=sumF_two (f:=pF (bz g)) (l:=v.bs) (fun b _=>(pF_01 _ b).1) hk hi hik
     have h6 : pF (bz g) v.bs[i] = 1:=by simp [pF,h4]
     omega
 ·rw [if_neg hf] at h0 ⊢
  have hb:=best_inv (bz g) v.bs v.bs v.bs.length (Nat.le_refl _)
  rw [List.take_length] at hb
  rcases hb with h1 | ⟨k,hk,_,h1,h2,h3⟩
  ·rw [h1] at h0; simp [V.chRes] at h0
  ·rw [h1]
   have hm:=h.each hk
   have hu:=free_none (by omega) k hk
   refine ⟨k,rfl,hk,h2,h3,?_⟩
   by_cases hlu : v.bs[k].live < v.bs[k].used
   ·exact .inl hlu
   ·right
    have hp : V.partB (bz g) v.bs[k] = true:=by simp [V.partB]; omega
    refine ⟨?_,hp⟩
    by_cases he : 1 ≤ othP (bz g) v.bs k
    ·exact he
    ·exfalso
     have h0' : othP (bz g) v.bs k = 0:=by have:=othP_nn (bz g) v.bs k; omega
     have hall : ∀ (j : Nat) (hj : j < v.bs.length),j ≠ k → v.bs[j].used = bz g:=fun j hj hne=>by
      have hpj : V.partB (bz g) v.bs[j] = false:=by
       cases hpj : V.partB (bz g) v.bs[j] with
       | false=>rfl
       | true=>
         have h5:=sumF_two (f:=pF (bz g)) (l:=v.bs) (fun b _=>(pF_01 _ b).1) hk hj hne
         have h6 : pF (bz g) v.bs[j] = 1:=by simp [pF,hpj]
         rw [othP_get hk] at h0'
         omega
      have huj:=free_none (by omega : V.freeN v.bs ≤ 0) j hj
      have hmj:=h.each hj
      simp only [V.partB,Bool.and_eq_false_iff,decide_eq_false_iff_not] at hpj
      omega
     rw [room_none hk hall] at h3
     omega
end Go.Proofs.YtggkengmlkhdiaaGreat
