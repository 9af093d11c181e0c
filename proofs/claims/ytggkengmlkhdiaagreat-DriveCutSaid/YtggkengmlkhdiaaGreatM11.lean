/-
  WHAT IS SHOWN: plain facts on the yields of bands (packages victim and tegularef18): the order that they give. plain facts on lists of bands: what Append, Unlink and Reset keep valid, what they do to the sum of Live, which band is open. plain facts on the choice of a band (packages victim and tegularef18): no candidate is better than the chosen one; bands that are no candidates do not matter. plain facts, of no program: a drive on a disk: its state, and what its methods make of it. Conditions: as each theorem names them.
-/
import Derived.Test.YtggkengmlkhdiaaGreatM10
namespace Go.Proofs.YtggkengmlkhdiaaGreat.V
set_option linter.unusedVariables false
open Go.RowKit
theorem bits_mask (x:Int) (k:Nat) (hk:k≤64) (h0:0≤x) (h1:x < 18446744073709551616):bits .and .u64 x ((2 ^ k - 1:Nat):Int)=x % ((2 ^ k:Nat):Int):=by
 obtain ⟨a,rfl⟩:=Int.eq_ofNat_of_zero_le h0
 have h2:2 ^ k≤2 ^ 64:=Nat.pow_le_pow_right (by omega) hk
 have h3:0 < 2 ^ k:=Nat.two_pow_pos k
 rw [bits_and_u64_nat a (2 ^ k - 1) (by omega) (by omega),Nat.and_two_pow_sub_one_eq_mod]
 simp
theorem mask32 (x:Int) (h0:0≤x) (h1:x < 18446744073709551616):bits .and .u64 x 4294967295=x % 4294967296:=bits_mask x 32 (by omega) h0 h1
theorem u64_mod (x:Int):IntKind.u64.wrap x=x % 18446744073709551616:=IntKind.wrap_u64 x
theorem u64_self {x:Int} (h0:0≤x) (h1:x < 18446744073709551616):IntKind.u64.wrap x=x:=by rw [u64_mod]; omega
theorem mul_bound {a b A B:Int} (ha:0≤a) (hb:0≤b) (hA:a≤A) (hB:b≤B):0≤a * b∧a * b≤A * B:=
 ⟨Int.mul_nonneg ha hb,Int.mul_le_mul hA hB hb (Int.le_trans ha hA)⟩
theorem mul_halves (x y:Int) (hx:0≤x) (hx2:x < 18446744073709551616) (hy:0≤y) (hy2:y < 18446744073709551616):
  IntKind.u64.wrap (IntKind.u64.wrap (IntKind.u64.wrap (x / 4294967296 * (y / 4294967296))+
   IntKind.u64.wrap (IntKind.u64.wrap (x / 4294967296 * bits .and .u64 y 4294967295)+IntKind.u64.wrap (bits .and .u64 x 4294967295 * bits .and .u64 y 4294967295) / 4294967296) / 4294967296)+
   IntKind.u64.wrap (bits .and .u64 (IntKind.u64.wrap (IntKind.u64.wrap (x / 4294967296 * bits .and .u64 y 4294967295)+IntKind.u64.wrap (bits .and .u64 x 4294967295 * bits .and .u64 y 4294967295) / 4294967296)) 4294967295+
    IntKind.u64.wrap (bits .and .u64 x 4294967295 * (y / 4294967296))) / 4294967296)=x * y / 18446744073709551616:=by
 rw [mask32 x hx hx2,mask32 y hy hy2]
 have ex:x=x / 4294967296 * 4294967296+x % 4294967296:=by omega
 have ey:y=y / 4294967296 * 4294967296+y % 4294967296:=by omega
 have b1:0≤x / 4294967296∧x / 4294967296≤4294967295:=by omega
 have b2:0≤x % 4294967296∧x % 4294967296≤4294967295:=by omega
 have b3:0≤y / 4294967296∧y / 4294967296≤4294967295:=by omega
 have b4:0≤y % 4294967296∧y % 4294967296≤4294967295:=by omega
 generalize x / 4294967296=x1 at *
 generalize x % 4294967296=x0 at *
 generalize y / 4294967296=y1 at *
 generalize y % 4294967296=y0 at *
 obtain ⟨a0,a1⟩:=mul_bound b2.1 b4.1 b2.2 b4.2
 obtain ⟨c0,c1⟩:=mul_bound b1.1 b4.1 b1.2 b4.2
 obtain ⟨d0,d1⟩:=mul_bound b2.1 b3.1 b2.2 b3.2
 obtain ⟨e0,e1⟩:=mul_bound b1.1 b3.1 b1.2 b3.2
 have hxy:x * y=x1 * y1 * 18446744073709551616+(x1 * y0+x0 * y1) * 4294967296+x0 * y0:=by
  rw [ex,ey]
  simp only [Int.add_mul,Int.mul_add]
  have t1:x1 * 4294967296 * (y1 * 4294967296)=x1 * y1 * 18446744073709551616:=by
   rw [Int.mul_assoc,Int.mul_left_comm 4294967296,← Int.mul_assoc]; omega
  have t2:x1 * 4294967296 * y0=x1 * y0 * 4294967296:=by rw [Int.mul_assoc,Int.mul_comm 4294967296,← Int.mul_assoc]
  have t3:x0 * (y1 * 4294967296)=x0 * y1 * 4294967296:=by rw [Int.mul_assoc]
  omega
 rw [hxy]
 generalize x1 * y1=p at *
 generalize x1 * y0=q at *
 generalize x0 * y1=r at *
 generalize x0 * y0=s at *
 clear hxy ex ey
 rw [u64_self (x:=s) (by omega) (by omega),u64_self (x:=q) (by omega) (by omega),u64_self (x:=r) (by omega) (by omega),u64_self (x:=p) (by omega) (by omega)]
 rw [u64_self (x:=q+s / 4294967296) (by omega) (by omega)]
 rw [mask32 _ (by omega) (by omega)]
 rw [u64_self (x:=(q+s / 4294967296) % 4294967296+r) (by omega) (by omega),u64_self (x:=p+(q+s / 4294967296) / 4294967296) (by omega) (by omega)]
 rw [u64_self (by omega) (by omega)]
 omega
theorem Cells4.new_at (w:World) (t:TypeId) (n:Nat) (v0 v1 v2 v3:Value) (h:n=w.heap.size):Cells4 (w.alloc (.cells #[v0,v1,v2,v3] t)) n v0 v1 v2 v3:=by subst h; exact Cells4.new w t v0 v1 v2 v3
def ageN (b:BI) (now:Int):Int:=if b.age < now then (if now - b.age < 1099511627776 then now - b.age else 1099511627776) else 0
theorem ageN_bound (b:BI) (now:Int):0≤ageN b now∧ageN b now≤1099511627776:=by unfold ageN; split <;> (try split) <;> omega
def numN (b:BI) (sz now:Int):Int:=(sz - b.live) * (ageN b now+1)
def denN (b:BI) (sz:Int):Int:=sz+b.live
def fitB (b:BI):Bool:=decide (0≤b.live) && decide (b.live≤1048576)
def szB (sz:Int):Bool:=decide (1≤sz) && decide (sz≤1048576)
def betterB (a b:BI) (sz now:Int):Bool:=fitB a && fitB b && szB sz && decide (numN b sz now * denN a sz < numN a sz now * denN b sz)
structure Fine (b:BI) (sz:Int):Prop where
 live0:0≤b.live
 live1:b.live≤1048576
 sz0:1≤sz
 sz1:sz≤1048576
theorem betterB_fine {a b:BI} {sz:Int} (now:Int) (ha:Fine a sz) (hb:Fine b sz):betterB a b sz now=decide (numN b sz now * denN a sz < numN a sz now * denN b sz):=by
 unfold betterB fitB szB
 simp [ha.live0,ha.live1,hb.live0,hb.live1,ha.sz0,ha.sz1]
theorem fine_of {a b:BI} {sz now:Int} (h:betterB a b sz now=true):Fine a sz∧Fine b sz:=by
 unfold betterB fitB szB at h
 simp at h
 exact ⟨⟨h.1.1.1.1,h.1.1.1.2,h.1.2.1,h.1.2.2⟩,⟨h.1.1.2.1,h.1.1.2.2,h.1.2.1,h.1.2.2⟩⟩
theorem denN_pos {b:BI} {sz:Int} (h:Fine b sz):0 < denN b sz:=by have:=h.live0; have:=h.sz0; unfold denN; omega
theorem frac_trans_le {A B C a b c:Int} (ha:0 < a) (hb:0 < b) (hc:0 < c) (h1:A * b≤B * a) (h2:B * c≤C * b):A * c≤C * a:=by
 have k1:A * b * c≤B * a * c:=Int.mul_le_mul_of_nonneg_right h1 (by omega)
 have k2:B * c * a≤C * b * a:=Int.mul_le_mul_of_nonneg_right h2 (by omega)
 have e1:B * c * a=B * a * c:=by rw [Int.mul_assoc,Int.mul_comm c a,← Int.mul_assoc]
 have e2:C * b * a=C * a * b:=by rw [Int.mul_assoc,Int.mul_comm b a,← Int.mul_assoc]
 have e3:A * b * c=A * c * b:=by rw [Int.mul_assoc,Int.mul_comm b c,← Int.mul_assoc]
 have k3:A * c * b≤C * a * b:=by omega
 exact Int.le_of_mul_le_mul_right k3 hb
theorem better_irrefl (a:BI) (sz now:Int):betterB a a sz now=false:=by
 unfold betterB; simp
theorem better_asymm {a b:BI} {sz now:Int} (h:betterB a b sz now=true):betterB b a sz now=false:=by
 obtain ⟨ha,hb⟩:=fine_of h
 rw [betterB_fine now ha hb] at h
 rw [betterB_fine now hb ha]
 simp at h ⊢; omega
theorem better_neg_trans {a b c:BI} {sz now:Int} (ha:Fine a sz) (hb:Fine b sz) (hc:Fine c sz) (h:betterB a b sz now=false) (h2:betterB b c sz now=false):betterB a c sz now=false:=by
 rw [betterB_fine now ha hb] at h
 rw [betterB_fine now hb hc] at h2
 rw [betterB_fine now ha hc]
 simp at h h2 ⊢
 exact frac_trans_le (denN_pos ha) (denN_pos hb) (denN_pos hc) h h2
def candB (sz opn:Int) (i:Nat) (b:BI):Bool:=!decide ((i:Int)=opn) && (decide (0 < b.used) && decide (b.live < sz))
def takeB (sz now:Int) (best b:BI):Bool:=betterB b best sz now || (!betterB best b sz now && decide (b.wear < best.wear))
def chooseStep (sz now opn:Int) (s:Option (Nat × BI)) (i:Nat) (b:BI):Option (Nat × BI):=
 if candB sz opn i b then (match s with | none=>some (i,b) | some (j,c)=>if takeB sz now c b then some (i,b) else some (j,c)) else s
def chooseFrom (sz now opn:Int):Option (Nat × BI)→Nat→List BI→Option (Nat × BI)
 | s,_,[]=>s
 | s,i,b::l=>chooseFrom sz now opn (chooseStep sz now opn s i b) (i+1) l
def chRes (s:Option (Nat × BI)):Int × Int:=match s with | none=>(0,9) | some (j,_)=>((j:Int),0)
def chooseN (l:List BI) (sz now opn:Int):Int × Int:=
 if validB l sz && decide (sz≤1048576) then chRes (chooseFrom sz now opn none 0 l) else (0,1)
theorem chooseFrom_snoc (sz now opn:Int):∀ (l:List BI) (s:Option (Nat × BI)) (k:Nat) (b:BI),chooseFrom sz now opn s k (l++[b])=chooseStep sz now opn (chooseFrom sz now opn s k l) (k+l.length) b
 | [],s,k,b=>by simp [chooseFrom]
 | a::l,s,k,b=>by
   rw [List.cons_append,chooseFrom,chooseFrom,chooseFrom_snoc sz now opn l,List.length_cons]
   congr 1; omega
theorem chooseFrom_take (sz now opn:Int) (l:List BI) (s:Option (Nat × BI)) (k:Nat) (h:k < l.length):chooseFrom sz now opn s 0 (l.take (k+1))=chooseStep sz now opn (chooseFrom sz now opn s 0 (l.take k)) k l[k]:=by
 rw [List.take_succ_eq_append_getElem h,chooseFrom_snoc,List.length_take,Nat.min_eq_left (by omega),Nat.zero_add]
theorem choose_inv (sz now opn:Int) (l:List BI):∀ k,k≤l.length→(chooseFrom sz now opn none 0 (l.take k)=none∨∃ (i:Nat) (hi:i < l.length),i < k∧chooseFrom sz now opn none 0 (l.take k)=some (i,l[i])∧candB sz opn i l[i]=true)
 | 0,_=>by left; simp [chooseFrom]
 | k+1,h=>by
   rw [chooseFrom_take sz now opn l _ k (by omega)]
   unfold chooseStep
   by_cases hc:candB sz opn k l[k]=true
   ·rw [if_pos hc]
    right
    rcases choose_inv sz now opn l k (by omega) with h1 | ⟨i,hi,hik,h1,h2⟩
    ·rw [h1]; exact ⟨k,by omega,by omega,rfl,hc⟩
    ·rw [h1]
     simp only
     split
     ·exact ⟨k,by omega,by omega,rfl,hc⟩
     ·exact ⟨i,hi,by omega,rfl,h2⟩
   ·rw [if_neg hc]
    rcases choose_inv sz now opn l k (by omega) with h1 | ⟨i,hi,hik,h1,h2⟩
    ·exact .inl h1
    ·exact .inr ⟨i,hi,by omega,h1,h2⟩
end Go.Proofs.YtggkengmlkhdiaaGreat.V
namespace Go.Proofs.YtggkengmlkhdiaaGreat.V
set_option linter.unusedVariables false
open Go.RowKit
def okB (sz:Int) (b:BI):Prop:=0≤b.live∧b.live≤b.used∧b.used≤sz
theorem badB_false (sz:Int) (b:BI):badB sz b.used b.live=false↔okB sz b:=by
 unfold badB okB; simp; omega
theorem validB_iff (l:List BI) (sz:Int):validB l sz=true↔1≤l.length∧l.length≤64∧1≤sz∧∀ b∈l,okB sz b:=by
 unfold validB anyBad
 simp only [Bool.and_eq_true,decide_eq_true_eq,Bool.not_eq_true',List.any_eq_false,and_assoc]
 constructor
 ·rintro ⟨a,b,c,d⟩
  exact ⟨a,b,c,fun x hx=>(badB_false sz x).1 (by simpa using d x hx)⟩
 ·rintro ⟨a,b,c,d⟩
  exact ⟨a,b,c,fun x hx=>by simpa using (badB_false sz x).2 (d x hx)⟩
theorem valid_set {l:List BI} {sz:Int} (h:validB l sz=true) (k:Nat) (b:BI) (hb:okB sz b):validB (l.set k b) sz=true:=by
 rw [validB_iff] at h ⊢
 obtain ⟨h1,h2,h3,h4⟩:=h
 refine ⟨by simpa using h1,by simpa using h2,h3,fun x hx=>?_⟩
 rcases List.mem_or_eq_of_mem_set hx with h | rfl
 ·exact h4 x h
 ·exact hb
theorem inL_of {l:List BI} {band:Int} (h:inL l band=true):∃ k:Nat,band=(k:Int)∧k < l.length:=by
 simp [inL] at h
 obtain ⟨k,rfl⟩:=Int.eq_ofNat_of_zero_le h.1
 exact ⟨k,rfl,by omega⟩
theorem wrap64_of {n:Int} (h:I64 n):wrap64 n=n:=by obtain ⟨h1,h2⟩:=h; unfold wrap64; omega
theorem appE_zero {l:List BI} {sz band:Int} (h:appE l sz band=0):∃ k:Nat,band=(k:Int)∧∃ hk:k < l.length,l[k].used < sz:=by
 unfold appE at h
 cases hi:inL l band
 ·rw [hi] at h; simp at h
 ·obtain ⟨k,rfl,hk⟩:=inL_of hi
  rw [hi,at_eq hk] at h
  refine ⟨k,rfl,hk,?_⟩
  by_cases h1:sz≤l[k].used
  ·simp [h1] at h
  ·omega
theorem appL_zero {l:List BI} {sz now:Int} {k:Nat} (hk:k < l.length) (h:appE l sz k=0):appL l sz k now=l.set k (appBI now l[k]):=by
 unfold appL; rw [if_pos h,at_eq hk]; rfl
theorem unlL_zero {l:List BI} {k:Nat} (hk:k < l.length) (h:unlE l k=0):unlL l k=l.set k (unlBI l[k]):=by
 unfold unlL; rw [if_pos h,at_eq hk]; rfl
theorem resL_zero {l:List BI} {k:Nat} (hk:k < l.length) (h:resE l k=0):resL l k=l.set k (resBI l[k]):=by
 unfold resL; rw [if_pos h,at_eq hk]; rfl
theorem app_valid {l:List BI} {sz band now:Int} (hs:I64 sz) (h:validB l sz=true) (he:appE l sz band=0):validB (appL l sz band now) sz=true:=by
 obtain ⟨k,rfl,hk,hu⟩:=appE_zero he
 rw [appL_zero hk he]
 have hb:=((validB_iff l sz).1 h).2.2.2 _ (List.getElem_mem hk)
 obtain ⟨h1,h2,h3⟩:=hb
 obtain ⟨h4,h5⟩:=hs
 refine valid_set h k _ ?_
 unfold okB appBI
 rw [wrap64_of ⟨by omega,by omega⟩,wrap64_of ⟨by omega,by omega⟩]
 exact ⟨by simp; omega,by simp; omega,by simp; omega⟩
def sumN (l:List BI):Int:=(l.map (·.live)).sum
theorem open_newest (sz:Int) (L:List BI) (k:Nat) (hk:k < L.length) (hp:partB sz L[k]=true) (hage:∀ j b,j≠k→L[j]?=some b→b.age < L[k].age):
  ∀ m,m≤L.length→(m≤k→True)∧(k < m→openFrom sz (-1,0) 0 (L.take m)=((k:Int),L[k].age))
 | 0,_=>⟨fun _=>trivial,fun h=>by omega⟩
 | m+1,hm=>by
   refine ⟨fun _=>trivial,fun h=>?_⟩
   rw [openFrom_take sz L _ m (by omega)]
   by_cases h1:k < m
   ·rw [(open_newest sz L k hk hp hage m (by omega)).2 h1]
    have h2:=hage m L[m] (by omega) (get_some (by omega))
    unfold openStep
    rw [if_neg]
    simp; omega
   ·have h2:m=k:=by omega
    subst h2
    unfold openStep
    rw [if_pos]
    rw [hp,Bool.true_and]
    rcases openFrom_inv sz L m (by omega) with h3 | ⟨i,hi,h3,b,hb,h4⟩
    ·simp [h3]
    ·have h5:=hage i b (by omega) hb
     rw [h4] at h5
     simp [h5]
theorem freeN_set (l:List BI) (k:Nat) (b:BI) (hk:k < l.length) (h0:l[k].used=0) (h1:b.used≠0):freeN (l.set k b)=freeN l - 1:=by
 unfold freeN
 induction l generalizing k with
 | nil=>simp at hk
 | cons a l ih=>
   cases k with
   | zero=>
     simp at h0
     simp [h0,h1]
   | succ k=>
     have:=ih k (by simpa using hk) (by simpa using h0)
     rw [List.set_cons_succ,List.filter_cons,List.filter_cons]
     by_cases ha:a.used=0
     ·simp [ha]; omega
     ·simp [ha]; omega
theorem newest {l:List BI} {sz now:Int} {k:Nat} (hk:k < l.length) (hs:I64 sz) (h:validB l sz=true) (h2:2≤sz) (h0:l[k].used=0) (hn:∀ b∈l,b.age < now):
  appE l sz k=0∧openB (appL l sz k now) sz=k∧freeN (appL l sz k now)=freeN l - 1:=by
 have he:appE l sz k=0:=by
  unfold appE
  have hi:inL l (k:Int)=true:=by simp [inL]; omega
  rw [hi,at_eq hk,if_pos rfl,if_neg (by omega)]
 have hv:=app_valid (now:=now) hs h he
 rw [appL_zero hk he] at hv ⊢
 have hu:(appBI now l[k]).used=1:=by unfold appBI; simp only [h0]; exact wrap64_of ⟨by omega,by omega⟩
 refine ⟨he,?_,freeN_set l k _ hk h0 (by rw [hu]; decide)⟩
 unfold openB
 rw [if_pos hv]
 have hk':k < (l.set k (appBI now l[k])).length:=by simpa using hk
 have hget:(l.set k (appBI now l[k]))[k]=appBI now l[k]:=by simp
 have:=(open_newest sz (l.set k (appBI now l[k])) k hk' (by rw [hget]; unfold partB; rw [hu]; simp; omega) (fun j b hj hb=>by
  rw [hget]
  rw [List.getElem?_set_ne (by omega)] at hb
  exact hn b (List.mem_of_getElem? hb)) _ (Nat.le_refl _)).2 hk'
 rw [List.take_of_length_le (Nat.le_refl _)] at this
 rw [this]
end Go.Proofs.YtggkengmlkhdiaaGreat.V
namespace Go.Proofs.YtggkengmlkhdiaaGreat.V
set_option linter.unusedVariables false
open Go.RowKit
theorem fine_valid {l:List BI} {sz:Int} (h:validB l sz=true) (hs:sz≤1048576) {b:BI} (hb:b∈l):Fine b sz:=by
 obtain ⟨_,_,h1,h2⟩:=(validB_iff l sz).1 h
 obtain ⟨u1,u2,u3⟩:=h2 b hb
 exact ⟨u1,by omega,h1,hs⟩
def noBetter (sz now:Int) (b x:BI):Prop:=betterB x b sz now=false∧(betterB b x sz now=true∨b.wear≤x.wear)
theorem noBetter_step {sz now:Int} {b c x:BI} (fb:Fine b sz) (fc:Fine c sz) (fx:Fine x sz) (h:noBetter sz now c x) (ht:takeB sz now c b=true):noBetter sz now b x:=by
 obtain ⟨h1,h2⟩:=h
 unfold takeB at ht
 cases hbc:betterB b c sz now
 ·rw [hbc] at ht
  simp at ht
  obtain ⟨hcb,hw⟩:=ht
  have k1:betterB x b sz now=false:=better_neg_trans fx fc fb h1 hcb
  refine ⟨k1,?_⟩
  rcases h2 with h2 | h2
  ·left
   cases hbx:betterB b x sz now
   ·rw [better_neg_trans fc fb fx hcb hbx] at h2; cases h2
   ·rfl
  ·right; omega
 ·have hbx:betterB b x sz now=true:=by
   cases hbx:betterB b x sz now
   ·rw [better_neg_trans fb fx fc hbx h1] at hbc; cases hbc
   ·rfl
  exact ⟨better_asymm hbx,.inl hbx⟩
theorem noBetter_self (sz now:Int) (b:BI):noBetter sz now b b:=⟨better_irrefl b sz now,.inr (Int.le_refl _)⟩
theorem noBetter_of {sz now:Int} {b c:BI} (ht:takeB sz now c b=false):noBetter sz now c b:=by
 unfold takeB at ht
 simp only [Bool.or_eq_false_iff,Bool.and_eq_false_iff,Bool.not_eq_false',decide_eq_false_iff_not] at ht
 exact ⟨ht.1,by rcases ht.2 with h | h; exact .inl h; exact .inr (by omega)⟩
theorem choose_best {l:List BI} {sz now opn:Int} (h:validB l sz=true) (hs:sz≤1048576):∀ k,k≤l.length→∀ s,chooseFrom sz now opn none 0 (l.take k)=s→
  match s with
  | none=>∀ i (hi:i < l.length),i < k→candB sz opn i l[i]=false
  | some (n,b)=>∃ hn:n < l.length,n < k∧b=l[n]∧candB sz opn n b=true∧∀ i (hi:i < l.length),i < k→candB sz opn i l[i]=true→noBetter sz now b l[i]
 | 0,_,s,e=>by
   simp [chooseFrom] at e
   subst e
   intro i hi hik; omega
 | k+1,hk,s,e=>by
   have hlt:k < l.length:=by omega
   have ih:=choose_best (now:=now) (opn:=opn) h hs k (by omega) _ rfl
   rw [chooseFrom_take sz now opn l none k hlt] at e
   unfold chooseStep at e
   cases hc:candB sz opn k l[k]
   ·rw [if_neg (by rw [hc]; simp)] at e
    rw [e] at ih
    cases s with
    | none=>
      intro i hi hik
      by_cases hik2:i < k
      ·exact ih i hi hik2
      ·obtain rfl:i=k:=by omega
       exact hc
    | some p=>
      obtain ⟨n,b⟩:=p
      obtain ⟨hn,hnk,hb,hcn,hall⟩:=ih
      refine ⟨hn,by omega,hb,hcn,fun i hi hik hci=>?_⟩
      by_cases hik2:i < k
      ·exact hall i hi hik2 hci
      ·obtain rfl:i=k:=by omega
       rw [hc] at hci; cases hci
   ·rw [if_pos hc] at e
    generalize hp:chooseFrom sz now opn none 0 (l.take k)=p at *
    cases p with
    | none=>
      simp only at e ih
      subst e
      refine ⟨hlt,by omega,rfl,hc,fun i hi hik hci=>?_⟩
      by_cases hik2:i < k
      ·rw [ih i hi hik2] at hci; cases hci
      ·obtain rfl:i=k:=by omega
       exact noBetter_self _ _ _
    | some q=>
      obtain ⟨n,b⟩:=q
      obtain ⟨hn,hnk,hb,hcn,hall⟩:=ih
      simp only at e
      cases ht:takeB sz now b l[k]
      ·rw [if_neg (by rw [ht]; simp)] at e
       subst e
       refine ⟨hn,by omega,hb,hcn,fun i hi hik hci=>?_⟩
       by_cases hik2:i < k
       ·exact hall i hi hik2 hci
       ·obtain rfl:i=k:=by omega
        exact noBetter_of ht
      ·rw [if_pos ht] at e
       subst e
       refine ⟨hlt,by omega,rfl,hc,fun i hi hik hci=>?_⟩
       by_cases hik2:i < k
       ·exact noBetter_step (fine_valid h hs (List.getElem_mem hlt)) (hb ▸ fine_valid h hs (List.getElem_mem hn)) (fine_valid h hs (List.getElem_mem hi)) (hall i hi hik2 hci) ht
       ·obtain rfl:i=k:=by omega
        exact noBetter_self _ _ _
theorem choose_told {l:List BI} {sz now opn:Int} (h:validB l sz=true) (hs:sz≤1048576):
  (chooseN l sz now opn=(0,9)∧∀ i (hi:i < l.length),candB sz opn i l[i]=false)∨
  ∃ (n:Nat) (hn:n < l.length),chooseN l sz now opn=((n:Int),0)∧candB sz opn n l[n]=true∧∀ i (hi:i < l.length),candB sz opn i l[i]=true→betterB l[i] l[n] sz now=false∧(betterB l[n] l[i] sz now=true∨l[n].wear≤l[i].wear):=by
 have hb:=choose_best (now:=now) (opn:=opn) h hs l.length (Nat.le_refl _) _ rfl
 rw [List.take_of_length_le (Nat.le_refl _)] at hb
 unfold chooseN
 rw [if_pos (by rw [h,decide_eq_true hs]; rfl)]
 generalize chooseFrom sz now opn none 0 l=s at *
 cases s with
 | none=>exact .inl ⟨rfl,fun i hi=>hb i hi hi⟩
 | some q=>
   obtain ⟨n,b⟩:=q
   obtain ⟨hn,_,rfl,hc,hall⟩:=hb
   exact .inr ⟨n,hn,rfl,hc,fun i hi hci=>hall i hi hi hci⟩
end Go.Proofs.YtggkengmlkhdiaaGreat.V
namespace Go.Proofs.YtggkengmlkhdiaaGreat
set_option linter.unusedVariables false
structure NE where
 kind:Int
 ver:Int
 adr:Int
def noNE:NE:=⟨0,0, -1⟩
structure DV where
 es:List NE
 bs:List V.BI
 time:Int
 failed:Int
structure ST where
 v:DV
 d:DC
def eOne (g:Geo) (F:List Flt) (key a:Int) (d:DC):DC × Ans:=
 (⟨dErS g F d.s d.P d.L d.O key a,(begD F d.s d.P key).P,d.L,dErO g F d.s d.P d.L d.O key a⟩,⟨dErE g F d.s d.P d.L d.O key a,[]⟩)
theorem eOne_len (g:Geo) (F:List Flt) (key a:Int) (d:DC):(eOne g F key a d).1.O.length≤d.O.length+1:=by
 unfold eOne dErO erO
 simp only
 repeat' split
 all_goals simp
def leastStep (s:Option (Nat × V.BI)) (i:Nat) (b:V.BI):Option (Nat × V.BI):=
 if b.used=0 then (match s with | none=>some (i,b) | some (j,c)=>if b.wear < c.wear then some (i,b) else some (j,c)) else s
def leastFrom:Option (Nat × V.BI)→Nat→List V.BI→Option (Nat × V.BI)
 | s,_,[]=>s
 | s,i,b::l=>leastFrom (leastStep s i b) (i+1) l
def leastN (l:List V.BI):Int × Int:=V.chRes (leastFrom none 0 l)
theorem leastFrom_snoc:∀ (l:List V.BI) (s:Option (Nat × V.BI)) (k:Nat) (b:V.BI),leastFrom s k (l++[b])=leastStep (leastFrom s k l) (k+l.length) b
 | [],s,k,b=>by simp [leastFrom]
 | a::l,s,k,b=>by
   rw [List.cons_append,leastFrom,leastFrom,leastFrom_snoc l,List.length_cons]
   congr 1; omega
theorem leastFrom_take (l:List V.BI) (k:Nat) (h:k < l.length):leastFrom none 0 (l.take (k+1))=leastStep (leastFrom none 0 (l.take k)) k l[k]:=by
 rw [List.take_succ_eq_append_getElem h,leastFrom_snoc,List.length_take,Nat.min_eq_left (by omega),Nat.zero_add]
theorem least_inv (l:List V.BI):∀ k,k≤l.length→(leastFrom none 0 (l.take k)=none∧(∀ b∈l.take k,b.used≠0))∨∃ (i:Nat) (hi:i < l.length),i < k∧leastFrom none 0 (l.take k)=some (i,l[i])∧l[i].used=0
 | 0,_=>by left; simp [leastFrom]
 | k+1,h=>by
   rw [leastFrom_take l k (by omega)]
   unfold leastStep
   by_cases hc:l[k].used=0
   ·rw [if_pos hc]
    right
    rcases least_inv l k (by omega) with ⟨h1,_⟩ | ⟨i,hi,hik,h1,h2⟩
    ·rw [h1]; exact ⟨k,by omega,by omega,rfl,hc⟩
    ·rw [h1]
     simp only
     by_cases hw:l[k].wear < l[i].wear
     ·rw [if_pos hw]; exact ⟨k,by omega,by omega,rfl,hc⟩
     ·rw [if_neg hw]; exact ⟨i,hi,by omega,rfl,h2⟩
   ·rw [if_neg hc]
    rcases least_inv l k (by omega) with ⟨h1,h3⟩ | ⟨i,hi,hik,h1,h2⟩
    ·left
     refine ⟨h1,fun b hb=>?_⟩
     rw [List.take_succ_eq_append_getElem (by omega)] at hb
     rcases List.mem_append.1 hb with hb | hb
     ·exact h3 b hb
     ·simp at hb; subst hb; exact hc
    ·exact .inr ⟨i,hi,by omega,h1,h2⟩
def fullL (g:Geo) (bs:List V.BI) (except:Int):List V.BI:=if 0≤except then bs.set except.toNat { V.at_ bs except with used:=bz g } else bs
def openN (g:Geo) (bs:List V.BI) (except:Int):Int × Int:=
 if 0≤V.openB (fullL g bs except) (bz g) then (V.openB (fullL g bs except) (bz g),0)
 else if (leastN (fullL g bs except)).2=0 then ((leastN (fullL g bs except)).1,0) else (0,11)
def roomFrom (sz except:Int):Nat→List V.BI→Int
 | _,[]=>0
 | i,b::l=>(if (i:Int)=except then 0 else sz - b.used)+roomFrom sz except (i+1) l
def roomN (sz:Int) (bs:List V.BI) (except:Int):Int:=roomFrom sz except 0 bs
def bestStep (sz:Int) (bs:List V.BI) (s:Option (Nat × V.BI)) (i:Nat) (b:V.BI):Option (Nat × V.BI):=
 if b.live < sz∧b.live≤roomN sz bs i then (match s with | none=>some (i,b) | some (j,c)=>if b.live < c.live then some (i,b) else some (j,c)) else s
def bestFrom (sz:Int) (bs:List V.BI):Option (Nat × V.BI)→Nat→List V.BI→Option (Nat × V.BI)
 | s,_,[]=>s
 | s,i,b::l=>bestFrom sz bs (bestStep sz bs s i b) (i+1) l
theorem bestFrom_snoc (sz:Int) (bs:List V.BI):∀ (l:List V.BI) (s:Option (Nat × V.BI)) (k:Nat) (b:V.BI),bestFrom sz bs s k (l++[b])=bestStep sz bs (bestFrom sz bs s k l) (k+l.length) b
 | [],s,k,b=>by simp [bestFrom]
 | a::l,s,k,b=>by
   rw [List.cons_append,bestFrom,bestFrom,bestFrom_snoc sz bs l,List.length_cons]
   congr 1; omega
theorem bestFrom_take (sz:Int) (bs l:List V.BI) (k:Nat) (h:k < l.length):bestFrom sz bs none 0 (l.take (k+1))=bestStep sz bs (bestFrom sz bs none 0 (l.take k)) k l[k]:=by
 rw [List.take_succ_eq_append_getElem h,bestFrom_snoc,List.length_take,Nat.min_eq_left (by omega),Nat.zero_add]
theorem best_inv (sz:Int) (bs l:List V.BI):∀ k,k≤l.length→bestFrom sz bs none 0 (l.take k)=none∨∃ (i:Nat) (hi:i < l.length),i < k∧bestFrom sz bs none 0 (l.take k)=some (i,l[i])∧l[i].live < sz∧l[i].live≤roomN sz bs i
 | 0,_=>by left; simp [bestFrom]
 | k+1,h=>by
   rw [bestFrom_take sz bs l k (by omega)]
   unfold bestStep
   by_cases hc:l[k].live < sz∧l[k].live≤roomN sz bs k
   ·rw [if_pos hc]
    right
    rcases best_inv sz bs l k (by omega) with h1 | ⟨i,hi,hik,h1,h2⟩
    ·rw [h1]; exact ⟨k,by omega,by omega,rfl,hc⟩
    ·rw [h1]
     simp only
     by_cases hw:l[k].live < l[i].live
     ·rw [if_pos hw]; exact ⟨k,by omega,by omega,rfl,hc⟩
     ·rw [if_neg hw]; exact ⟨i,hi,by omega,rfl,h2⟩
   ·rw [if_neg hc]
    rcases best_inv sz bs l k (by omega) with h1 | ⟨i,hi,hik,h1,h2⟩
    ·exact .inl h1
    ·exact .inr ⟨i,hi,by omega,h1,h2⟩
def victimN (g:Geo) (v:DV):Int × Int:=
 if 0 < V.freeN v.bs then V.chooseN v.bs (bz g) v.time (V.openB v.bs (bz g)) else V.chRes (bestFrom (bz g) v.bs none 0 v.bs)
def bandN (g:Geo) (a:Int):Int:=Int.tdiv (a - g.random) (bz g)
def DV.fail (v:DV) (er:Int):DV:=if er=0 then v else { v with failed:=er }
def unlinkV (g:Geo) (v:DV) (b:Nat):DV:=
 { v with es:=v.es.set b noNE,bs:=if 0≤(v.es.getD b noNE).adr then V.unlL v.bs (bandN g (v.es.getD b noNE).adr) else v.bs }
def nextA (g:Geo) (v:DV) (k:Int):Int:=g.random+k * bz g+(V.at_ v.bs k).used
def tick (t:Int):Int:=IntKind.u64.wrap (t+1)
def linkV (g:Geo) (v:DV) (x:Ent) (k:Int):DV:=
 { unlinkV g v x.blk.toNat with
   time:=tick v.time
   bs:=V.appL (unlinkV g v x.blk.toNat).bs (bz g) k (tick v.time)
   es:=(unlinkV g v x.blk.toNat).es.set x.blk.toNat ⟨x.kind,x.ver,nextA g v k⟩ }
def wrX (g:Geo) (F:List Flt) (key:Int) (S:ST) (x:Ent) (k:Int):DC × Ans:=tryD (wOne g F key (nextA g S.v k) (encB x (tick S.v.time))) S.d
def appN (g:Geo) (F:List Flt) (key:Int) (S:ST) (x:Ent) (except:Int):ST × Int:=
 if (openN g S.v.bs except).2=0 then
  if validE x=true then
   if (wrX g F key S x (openN g S.v.bs except).1).2.er=0 then (⟨linkV g S.v x (openN g S.v.bs except).1,(wrX g F key S x (openN g S.v.bs except).1).1⟩,0)
   else (⟨S.v.fail (wrX g F key S x (openN g S.v.bs except).1).2.er,(wrX g F key S x (openN g S.v.bs except).1).1⟩,(wrX g F key S x (openN g S.v.bs except).1).2.er)
  else (S,1)
 else (S,(openN g S.v.bs except).2)
def rdX (g:Geo) (F:List Flt) (key:Int) (S:ST) (b:Nat):DC × Ans:=tryD (rOne g F key (S.v.es.getD b noNE).adr) S.d
def holdsB (n:NE) (b:Nat) (xs:List Int):Bool:=decide (decE xs=0) && (decide ((decX xs).kind=n.kind) && (decide ((decX xs).blk=(b:Int)) && decide ((decX xs).ver=n.ver)))
def ftE (g:Geo) (F:List Flt) (key:Int) (S:ST) (b:Nat):Int:=
 if (rdX g F key S b).2.er=0 then (if holdsB (S.v.es.getD b noNE) b (rdX g F key S b).2.by_=true then 0 else 15) else (rdX g F key S b).2.er
def ftX (g:Geo) (F:List Flt) (key:Int) (S:ST) (b:Nat):Ent:=if ftE g F key S b=0 then decX (rdX g F key S b).2.by_ else noEnt
def mvOne (g:Geo) (F:List Flt) (key:Int) (k:Int) (b:Nat) (r:ST × Int × Int):ST × Int × Int:=
 if ftE g F key r.1 b=15 then (⟨unlinkV g r.1.v b,(rdX g F key r.1 b).1⟩,r.2.1,0)
 else if ftE g F key r.1 b=0 then
  if (appN g F key ⟨r.1.v,(rdX g F key r.1 b).1⟩ (ftX g F key r.1 b) k).2=0 then ((appN g F key ⟨r.1.v,(rdX g F key r.1 b).1⟩ (ftX g F key r.1 b) k).1,r.2.1+1,0)
  else (⟨(appN g F key ⟨r.1.v,(rdX g F key r.1 b).1⟩ (ftX g F key r.1 b) k).1.v.fail (appN g F key ⟨r.1.v,(rdX g F key r.1 b).1⟩ (ftX g F key r.1 b) k).2,(appN g F key ⟨r.1.v,(rdX g F key r.1 b).1⟩ (ftX g F key r.1 b) k).1.d⟩,0,(appN g F key ⟨r.1.v,(rdX g F key r.1 b).1⟩ (ftX g F key r.1 b) k).2)
 else (⟨r.1.v.fail (ftE g F key r.1 b),(rdX g F key r.1 b).1⟩,0,ftE g F key r.1 b)
def mvK (g:Geo) (F:List Flt) (key:Int) (k:Int) (l:List Nat) (S:ST):Nat→ST × Int × Int
 | 0=>(S,0,0)
 | j+1=>if (mvK g F key k l S j).2.2=0 then mvOne g F key k (l.getD j 0) (mvK g F key k l S j) else mvK g F key k l S j
theorem mvK_yes {g:Geo} {F:List Flt} {key k:Int} {l:List Nat} {S:ST} {j:Nat} (h:(mvK g F key k l S j).2.2=0):mvK g F key k l S (j+1)=mvOne g F key k (l.getD j 0) (mvK g F key k l S j):=by
 rw [mvK,if_pos h]
theorem mvK_stay {g:Geo} {F:List Flt} {key k:Int} {l:List Nat} {S:ST} {j:Nat} (h:¬ (mvK g F key k l S j).2.2=0):∀ i,mvK g F key k l S (j+i)=mvK g F key k l S j
 | 0=>rfl
 | i+1=>by
   have ih:=mvK_stay h i
   rw [← ih] at h
   show (if (mvK g F key k l S (j+i)).2.2=0 then _ else _)=_
   rw [if_neg h]
   exact ih
def flushS (g:Geo) (F:List Flt) (key:Int) (S:ST):ST × Int:=(⟨S.v.fail (tryD (fOne g F key) S.d).2.er,(tryD (fOne g F key) S.d).1⟩,(tryD (fOne g F key) S.d).2.er)
def eraseS (g:Geo) (F:List Flt) (key k:Int) (S:ST):ST × Int:=(⟨S.v.fail (tryD (eOne g F key k) S.d).2.er,(tryD (eOne g F key k) S.d).1⟩,(tryD (eOne g F key k) S.d).2.er)
def wipeS (g:Geo) (F:List Flt) (key k:Int) (S:ST) (m:Int):ST × Int × Int:=
 if (flushS g F key S).2=0 then
  if (eraseS g F key k (flushS g F key S).1).2=0 then (⟨{ (eraseS g F key k (flushS g F key S).1).1.v with bs:=V.resL (eraseS g F key k (flushS g F key S).1).1.v.bs k },(eraseS g F key k (flushS g F key S).1).1.d⟩,m,0)
  else ((eraseS g F key k (flushS g F key S).1).1,0,(eraseS g F key k (flushS g F key S).1).2)
 else ((flushS g F key S).1,0,(flushS g F key S).2)
def cleanS (g:Geo) (F:List Flt) (key k:Int) (l:List Nat) (S:ST):ST × Int × Int:=
 if (mvK g F key k l S l.length).2.2=0 then wipeS g F key k (mvK g F key k l S l.length).1 (mvK g F key k l S l.length).2.1 else mvK g F key k l S l.length
def inBand (g:Geo) (v:DV) (k:Int) (b:Nat):Bool:=decide (0≤(v.es.getD b noNE).adr) && decide (bandN g (v.es.getD b noNE).adr=k)
def blocksIn (g:Geo) (v:DV) (k:Int):List Nat:=(List.range v.es.length).filter (inBand g v k)
structure Sorted (g:Geo) (v:DV) (k:Int) (l:List Nat):Prop where
 perm:l.Perm (blocksIn g v k)
 sort:l.Pairwise fun a b=>(v.es.getD a noNE).adr≤(v.es.getD b noNE).adr
def CleanR (g:Geo) (F:List Flt) (key k:Int) (S:ST) (r:ST × Int × Int):Prop:=∃ l,Sorted g S.v k l∧r=cleanS g F key k l S
inductive Cleans (g:Geo) (F:List Flt) (key:Int):ST→ST→Prop
 | none (S:ST):Cleans g F key S S
 | more {S T:ST} {U:ST} {m:Int} (h:Cleans g F key S T) (hf:V.freeN T.v.bs < 2) (hv:(victimN g T.v).2=0) (hc:CleanR g F key (victimN g T.v).1 T (U,m,0)):Cleans g F key S U
def PutR (g:Geo) (F:List Flt) (key:Int) (S:ST) (x:Ent) (r:ST × Int):Prop:=
 ∃ T,Cleans g F key S T∧
  ((2≤V.freeN T.v.bs∧r=appN g F key T x (-1))∨
   (V.freeN T.v.bs < 2∧(victimN g T.v).2≠0∧r=(T,11))∨
   (V.freeN T.v.bs < 2∧(victimN g T.v).2=0∧∃ U m er,CleanR g F key (victimN g T.v).1 T (U,m,er)∧er≠0∧r=(U,er)))
def preE (v:DV) (b ver:Int):Int:=
 if v.failed=0 then (if 0≤b∧b < v.es.length then (if ver=0∨ver < (v.es.getD b.toNat noNE).ver then 1 else 0) else 2) else v.failed
def WriteR (g:Geo) (F:List Flt) (key:Int) (S:ST) (x:Ent) (r:ST × Int):Prop:=
 if preE S.v x.blk x.ver=0 then PutR g F key S x r else r=(S,preE S.v x.blk x.ver)
def readE20 (g:Geo) (F:List Flt) (key:Int) (S:ST) (b:Int):Int:=
 if S.v.failed=0 then
  if 0≤b∧b < S.v.es.length then
   if (S.v.es.getD b.toNat noNE).adr < 0∨(S.v.es.getD b.toNat noNE).kind=2 then 9
   else if ftE g F key S b.toNat=16 then 15 else ftE g F key S b.toNat
  else 2
 else S.v.failed
def readsB (S:ST) (b:Int):Prop:=S.v.failed=0∧(0≤b∧b < S.v.es.length)∧¬ ((S.v.es.getD b.toNat noNE).adr < 0∨(S.v.es.getD b.toNat noNE).kind=2)
instance (S:ST) (b:Int):Decidable (readsB S b):=by unfold readsB; infer_instance
def readS20 (g:Geo) (F:List Flt) (key:Int) (S:ST) (b:Int):ST:=
 if readsB S b then ⟨if ftE g F key S b.toNat=15∨ftE g F key S b.toNat=16 then S.v else S.v.fail (ftE g F key S b.toNat),(rdX g F key S b.toNat).1⟩ else S
def readX20 (g:Geo) (F:List Flt) (key:Int) (S:ST) (b:Int):Ent:=if readsB S b∧ftE g F key S b.toNat=0 then ftX g F key S b.toNat else noEnt
def CleanMR (g:Geo) (F:List Flt) (key:Int) (S:ST) (r:ST × Int × Int):Prop:=
 if S.v.failed=0 then (if (victimN g S.v).2=0 then CleanR g F key (victimN g S.v).1 S r else r=(S,0,9)) else r=(S,0,S.v.failed)
def flushR (g:Geo) (F:List Flt) (key:Int) (S:ST):ST × Int:=if S.v.failed=0 then flushS g F key S else (S,S.v.failed)
def freshV (g:Geo) (n:Nat):DV:=⟨List.replicate n noNE,List.replicate g.bands.toNat ⟨0,0,0,0⟩,0,0⟩
def ersK (g:Geo) (F:List Flt) (key:Int) (d:DC):Nat→DC × Int
 | 0=>(d,0)
 | j+1=>if (ersK g F key d j).2=0 then ((tryD (eOne g F key j) (ersK g F key d j).1).1,(tryD (eOne g F key j) (ersK g F key d j).1).2.er) else ersK g F key d j
def newDD (g:Geo) (F:List Flt) (key:Int) (d:DC):DC × Int:=
 if (ersK g F key d g.bands.toNat).2=0 then ((tryD (fOne g F key) (ersK g F key d g.bands.toNat).1).1,(tryD (fOne g F key) (ersK g F key d g.bands.toNat).1).2.er) else ersK g F key d g.bands.toNat
def possB (g:Geo) (n:Int):Bool:=decide (1≤n) && (decide (n≤65536) && decide (n≤(g.bands - 3) * bzN g))
end Go.Proofs.YtggkengmlkhdiaaGreat
