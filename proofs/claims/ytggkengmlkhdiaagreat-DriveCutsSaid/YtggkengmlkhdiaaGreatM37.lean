/-
  WHAT IS SHOWN: plain facts, of no program: a disk whose only faults are slow ones, never more than eight in a row: what an operation that is repeated does, while the power is on. plain facts, of no program: the sectors of bands, behind a write and an erasure. plain facts, of no program: a drive whose disk holds what its account says: this is kept by appending an entry and by resetting a band without newest entries. Conditions: as each theorem names them.
-/
import Derived.Test.YtggkengmlkhdiaaGreatM14
namespace Go.Proofs.YtggkengmlkhdiaaGreat
set_option linter.unusedVariables false
open Go.RowKit
def iterI:Nat→Int→Int
 | 0,m=>m
 | j+1,m=>iterI j (wrap64 (m+1))
structure RunF (F:List Flt):Prop where
 kind:∀ f∈F,f.kind=6
 nine:∀ m,I64 m→∃ j,j≤8∧∀ f∈F,f.at_≠iterI j m
theorem RunF.nil:RunF []:=⟨fun f h=>absurd h (by simp),fun m _=>⟨0,by omega,fun f h=>absurd h (by simp)⟩⟩
theorem atF_none {F:List Flt} {op:Int} (h:∀ f∈F,f.at_≠op):atF F op=noF:=by
 induction F with
 | nil=>rfl
 | cons f l ih=>
   unfold atF
   rw [if_neg (h f (by simp))]
   exact ih (fun x hx=>h x (by simp [hx]))
theorem atF_some (F:List Flt) (op:Int):atF F op∈F∨atF F op=noF:=by
 induction F with
 | nil=>exact .inr rfl
 | cons f l ih=>
   unfold atF
   split
   ·exact .inl (by simp)
   ·rcases ih with h | h
    ·exact .inl (by simp [h])
    ·exact .inr h
theorem RunF.two {F:List Flt} (h:RunF F) (op:Int):(atF F op).kind=6∨atF F op=noF:=by
 rcases atF_some F op with h1 | h1
 ·exact .inl (h.kind _ h1)
 ·exact .inr h1
structure LiveD (d:DC):Prop where
 dead:d.s.dead=false
 off:d.P.off=false
 seen:d.s.seen=d.P.fails
 key:d.s.key=0
 ops:I64 d.s.ops
structure DownD (d:DC):Prop where
 dead:d.s.dead=false
 off:d.P.off=true
 key:d.s.key=0
 ops:I64 d.s.ops
 un:d.P.armed=false
theorem I64.wrap (n:Int):I64 (wrap64 n):=by unfold I64 wrap64; omega
def Begins (F:List Flt) (f:DC→DC × Ans):Prop:=∀ d,(begD F d.s d.P 0).er≠0→f d=(⟨(begD F d.s d.P 0).s,(begD F d.s d.P 0).P,d.L,d.O⟩,⟨(begD F d.s d.P 0).er,[]⟩)
theorem wOne_begins (g:Geo) (F:List Flt) (a:Int) (xs:List Int):Begins F (wOne g F 0 a xs):=fun d h=>by
 unfold wOne dWrS dWrLM dWrO dWrE
 rw [if_neg h,if_neg h,if_neg h,if_neg h]
theorem rOne_begins (g:Geo) (F:List Flt) (a:Int):Begins F (rOne g F 0 a):=fun d h=>by
 unfold rOne dRdS dRdE dRdB
 rw [if_neg h,if_neg h,if_neg h]
theorem fOne_begins (g:Geo) (F:List Flt):Begins F (fOne g F 0):=fun d h=>by
 unfold fOne dFlS dFlLM dFlO
 rw [if_neg h,if_neg h,if_neg h]
theorem eOne_begins (g:Geo) (F:List Flt) (a:Int):Begins F (eOne g F 0 a):=fun d h=>by
 unfold eOne dErE dErS dErO
 rw [if_neg h,if_neg h,if_neg h]
theorem LiveD.beg {F:List Flt} {d:DC} (h:LiveD d) (hR:RunF F):
  (d.P.armed=true∧(begD F d.s d.P 0).er=13∧DownD ⟨(begD F d.s d.P 0).s,(begD F d.s d.P 0).P,d.L,d.O⟩)∨
  (LiveD ⟨(begD F d.s d.P 0).s,(begD F d.s d.P 0).P,d.L,d.O⟩∧(begD F d.s d.P 0).P.armed=d.P.armed∧
    (((begD F d.s d.P 0).er=16∧(atF F d.s.ops).kind=6∧(begD F d.s d.P 0).s.ops=wrap64 (d.s.ops+1))∨((begD F d.s d.P 0).er=0∧(begD F d.s d.P 0).f=noF))):=by
 have e:stE d.s d.P=0:=by unfold stE; simp [h.dead,h.off,h.seen]
 unfold begD
 rw [e,if_neg (by decide)]
 by_cases ht:trip d.P=true
 ·have ha:d.P.armed=true:=by unfold trip at ht; simp at ht; exact ht.1
  have hc:(callP d.P).off=true:=by unfold callP; rw [if_pos ht]
  rw [if_pos hc]
  exact .inl ⟨ha,rfl,⟨h.dead,hc,h.key,h.ops,by simp only; unfold callP; rw [if_pos ht]⟩⟩
 ·have hc:callP d.P=⟨d.P.off,d.P.armed,wrap64 (d.P.left - 1),d.P.fails⟩:=by unfold callP; rw [if_neg ht]
  have hk:¬ ((0:Int)≠d.s.key):=fun h'=>h' h.key.symm
  rw [if_neg (by rw [hc]; simp [h.off]),if_neg hk]
  right
  rcases hR.two d.s.ops with h6 | h0
  ·rw [if_neg (by rw [h6]; decide),if_pos h6]
   exact ⟨⟨h.dead,by rw [hc]; exact h.off,by rw [hc]; exact h.seen,h.key,I64.wrap _⟩,by rw [hc],.inl ⟨rfl,h6,rfl⟩⟩
  ·rw [h0,if_neg (by decide),if_neg (by decide)]
   exact ⟨⟨h.dead,by rw [hc]; exact h.off,by rw [hc]; exact h.seen,h.key,I64.wrap _⟩,by rw [hc],.inr ⟨rfl,rfl⟩⟩
theorem callN_shift (f:DC→DC × Ans) (d:DC):∀ n,callN f d (n+1)=callN f (f d).1 n
 | 0=>rfl
 | n+1=>by
   show (f (callN f d (n+1))).1=_
   rw [callN_shift f d n]; rfl
theorem ansN_shift (f:DC→DC × Ans) (d:DC) (n:Nat):ansN f d (n+1)=ansN f (f d).1 n:=by
 unfold ansN; rw [callN_shift]
theorem run_on {F:List Flt} {f:DC→DC × Ans} (hf:Begins F f) (hR:RunF F):∀ (m:Nat) (d:DC),LiveD d→(∀ x∈F,x.at_≠iterI m d.s.ops)→
  ∃ k,k≤m∧(∀ j,j < k→(ansN f d j).er=16)∧(callN f d k).L=d.L∧(callN f d k).O=d.O∧(callN f d k).P.armed=d.P.armed∧LiveD (callN f d k)∧
   ((begD F (callN f d k).s (callN f d k).P 0).er=13∨(begD F (callN f d k).s (callN f d k).P 0).er=0)
 | 0,d,h,hm=>by
   refine ⟨0,Nat.le_refl _,fun j hj=>absurd hj (by omega),rfl,rfl,rfl,h,?_⟩
   rcases h.beg hR with ⟨_,h1,_⟩ | ⟨_,_,⟨_,h2,_⟩ | ⟨h2,_⟩⟩
   ·exact .inl h1
   ·have hm0:∀ x∈F,x.at_≠d.s.ops:=hm
    rw [atF_none hm0] at h2; exact absurd h2 (by decide)
   ·exact .inr h2
 | m+1,d,h,hm=>by
   rcases h.beg hR with ⟨_,h1,_⟩ | ⟨h3,h4,⟨h1,h2,h5⟩ | ⟨h2,_⟩⟩
   ·exact ⟨0,Nat.zero_le _,fun j hj=>absurd hj (by omega),rfl,rfl,rfl,h,.inl h1⟩
   ·have e:=hf d (by rw [h1]; decide)
    have hd1:(f d).1=⟨(begD F d.s d.P 0).s,(begD F d.s d.P 0).P,d.L,d.O⟩:=by rw [e]
    have hm':∀ x∈F,x.at_≠iterI m (f d).1.s.ops:=fun x hx=>by
     rw [hd1]; simp only; rw [h5]; exact hm x hx
    obtain ⟨k,hk,k1,k2,k3,k4,k5,k6⟩:=run_on hf hR m (f d).1 (by rw [hd1]; exact h3) hm'
    refine ⟨k+1,by omega,fun j hj=>?_,?_,?_,?_,?_,?_⟩
    ·cases j with
     | zero=>show (f d).2.er=16; rw [e]; exact h1
     | succ j=>rw [ansN_shift]; exact k1 j (by omega)
    ·rw [callN_shift,k2,hd1]
    ·rw [callN_shift,k3,hd1]
    ·rw [callN_shift,k4,hd1]; exact h4
    ·rw [callN_shift]; exact k5
    ·rw [callN_shift]; exact k6
   ·exact ⟨0,Nat.zero_le _,fun j hj=>absurd hj (by omega),rfl,rfl,rfl,h,.inr h2⟩
theorem try_on {F:List Flt} {f:DC→DC × Ans} {d:DC} (hf:Begins F f) (hR:RunF F) (hne:∀ d,(begD F d.s d.P 0).er=0→(f d).2.er≠16) (h:LiveD d):
  (d.P.armed=true∧(tryD f d).2=⟨13,[]⟩∧DownD (tryD f d).1∧(tryD f d).1.L=d.L∧(tryD f d).1.O=d.O)∨
  (∃ d0,LiveD d0∧d0.L=d.L∧d0.O=d.O∧d0.P.armed=d.P.armed∧(begD F d0.s d0.P 0).er=0∧(begD F d0.s d0.P 0).f=noF∧LiveD ⟨(begD F d0.s d0.P 0).s,(begD F d0.s d0.P 0).P,d.L,d.O⟩∧(begD F d0.s d0.P 0).P.armed=d.P.armed∧tryD f d=f d0):=by
 obtain ⟨m,hm,hm2⟩:=hR.nine d.s.ops h.ops
 obtain ⟨k,hk,k1,k2,k3,k4,k5,k6⟩:=run_on hf hR m d h hm2
 have hst:¬ (ansN f d k).er=16:=by
  unfold ansN
  rcases k6 with k6 | k6
  ·rw [hf _ (by rw [k6]; decide)]; simp only; rw [k6]; decide
  ·exact hne _ k6
 have ht:tryD f d=f (callN f d k):=by rw [try_stop k1 (.inr ⟨by omega,hst⟩)]; rfl
 rcases k6 with k6 | k6
 ·left
  rcases k5.beg hR with ⟨b1,b2,b3⟩ | ⟨_,_,⟨b2,_,_⟩ | ⟨b2,_⟩⟩
  ·have e:=hf (callN f d k) (by rw [b2]; decide)
   rw [ht,e]
   exact ⟨by rw [← k4]; exact b1,by simp only; rw [b2],b3,k2,k3⟩
  ·rw [k6] at b2; exact absurd b2 (by decide)
  ·rw [k6] at b2; exact absurd b2 (by decide)
 ·right
  rcases k5.beg hR with ⟨_,b2,_⟩ | ⟨b1,b2,⟨b3,_⟩ | ⟨b3,b4⟩⟩
  ·rw [k6] at b2; exact absurd b2 (by decide)
  ·rw [k6] at b3; exact absurd b3 (by decide)
  ·refine ⟨callN f d k,k5,k2,k3,k4,k6,b4,?_,b2.trans k4,ht⟩
   rw [← k2,← k3]; exact b1
def DC.M (g:Geo) (d:DC):List Sec:=playL g d.L d.O
structure Fell (d:DC) (r:DC × Ans):Prop where
 armed:d.P.armed=true
 ans:r.2=⟨13,[]⟩
 down:DownD r.1
 L:r.1.L=d.L
 O:r.1.O=d.O
structure Went (d d':DC) (L:List Sec) (O:List OpV):Prop where
 live:LiveD d'
 armed:d'.P.armed=d.P.armed
 L:d'.L=L
 O:d'.O=O
section
variable {g:Geo} {F:List Flt} {d:DC} {a:Int} {xs:List Int}
theorem frO_no (a:Int):frO a noF=a:=by unfold frO; rw [if_neg (by decide)]
theorem read_on (hR:RunF F) (h:LiveD d) (ha:inL d.L a=true):Fell d (tryD (rOne g F 0 a) d)∨
  (Went d (tryD (rOne g F 0 a) d).1 d.L d.O∧(tryD (rOne g F 0 a) d).2=⟨if readE (d.M g) a=0 then 0 else 15,if readE (d.M g) a=0 then readB (d.M g) a else []⟩):=by
 have hne:∀ d:DC,(begD F d.s d.P 0).er=0→(rOne g F 0 a d).2.er≠16:=fun d h0=>by
  unfold rOne dRdE rdE
  simp only
  rw [if_pos h0]
  repeat' split
  all_goals decide
 rcases try_on (rOne_begins g F a) hR hne h with ⟨h1,h2,h3,h4,h5⟩ | ⟨d0,h1,h2,h3,h4,h5,h6,h7,h8,h9⟩
 ·exact .inl ⟨h1,h2,h3,h4,h5⟩
 ·right
  have e:rdE d0.L (playL g d0.L d0.O) a noF=if readE (d.M g) a=0 then 0 else 15:=by
   unfold rdE; rw [h2,h3,ha,if_pos rfl,if_neg (by decide),frO_no]; rfl
  have e2:rdB d0.L (playL g d0.L d0.O) a noF=if readE (d.M g) a=0 then readB (d.M g) a else []:=by
   unfold rdB; rw [e,frO_no,h2,h3]
   by_cases hr:readE (d.M g) a=0
   ·rw [if_pos hr,if_pos rfl,if_pos hr]; rfl
   ·rw [if_neg hr,if_neg (by decide),if_neg hr]
  rw [h9]
  unfold rOne dRdS dRdE dRdB rdS
  simp only
  rw [if_pos h5,if_pos h5,if_pos h5,h6,e,e2]
  refine ⟨⟨?_,h8,h2,h3⟩,rfl⟩
  split
  ·exact ⟨h7.dead,h7.off,h7.seen,h7.key,h7.ops⟩
  ·exact ⟨h7.dead,h7.off,h7.seen,h7.key,h7.ops⟩
def wrOp (a:Int) (xs:List Int):OpV:=⟨false,a,xs,none,0⟩
def erOp (a:Int):OpV:=⟨true,a,[],none,0⟩
theorem write_on (hR:RunF F) (h:LiveD d) (ha:inL d.L a=true) (hx:xs.length≤64):Fell d (tryD (wOne g F 0 a xs) d)∨
  (Went d (tryD (wOne g F 0 a xs) d).1 d.L (d.O++[wrOp a xs])∧(tryD (wOne g F 0 a xs) d).2=⟨0,[]⟩):=by
 have hne:∀ d:DC,(begD F d.s d.P 0).er=0→(wOne g F 0 a xs d).2.er≠16:=fun d h0=>by
  unfold wOne dWrE
  simp only
  rw [if_pos h0]
  exact wrE_ne16 _ _ _
 rcases try_on (wOne_begins g F a xs) hR hne h with ⟨h1,h2,h3,h4,h5⟩ | ⟨d0,h1,h2,h3,h4,h5,h6,h7,h8,h9⟩
 ·exact .inl ⟨h1,h2,h3,h4,h5⟩
 ·right
  have e:wrE d0.L a xs=0:=by unfold wrE; rw [h2,ha,if_pos rfl,if_pos hx]
  have eo:wOp a xs noF=wrOp a xs:=by unfold wOp wrOp byO toO; simp [noF]
  have e2:wHit g d0.L d0.O a xs noF=true:=by
   unfold wHit
   rw [e,eo]
   have:doE g (playL g d0.L d0.O) (wrOp a xs)=0:=by
    unfold doE wrOp writeE
    simp only [Bool.false_eq_true,if_false]
    have hin:inL (playL g d0.L d0.O) a=true:=by
     unfold inL at ha ⊢
     rw [playL_len,h2]; exact ha
    rw [hin,if_pos rfl,if_pos hx]
   rw [this]; simp [noF]
  rw [h9]
  unfold wOne dWrS dWrE dWrLM dWrO wrLM wrO wrS
  simp only
  rw [if_pos h5,if_pos h5,if_pos h5,if_pos h5,h6,e,e2,eo]
  refine ⟨⟨?_,h8,by simp [h2],by simp [h3]⟩,rfl⟩
  simp only [if_true]
  exact ⟨h7.dead,h7.off,h7.seen,h7.key,h7.ops⟩
theorem flush_on (hR:RunF F) (h:LiveD d):Fell d (tryD (fOne g F 0) d)∨
  (Went d (tryD (fOne g F 0) d).1 (d.M g) []∧(tryD (fOne g F 0) d).2=⟨0,[]⟩):=by
 have hne:∀ d:DC,(begD F d.s d.P 0).er=0→(fOne g F 0 d).2.er≠16:=fun d h0=>by
  unfold fOne; simp only; rw [h0]; decide
 rcases try_on (fOne_begins g F) hR hne h with ⟨h1,h2,h3,h4,h5⟩ | ⟨d0,h1,h2,h3,h4,h5,h6,h7,h8,h9⟩
 ·exact .inl ⟨h1,h2,h3,h4,h5⟩
 ·right
  rw [h9]
  unfold fOne dFlS dFlLM dFlO
  simp only
  rw [if_pos h5,if_pos h5,if_pos h5,h5,List.take_length,h2,h3]
  exact ⟨⟨⟨h7.dead,h7.off,h7.seen,h7.key,h7.ops⟩,h8,rfl,rfl⟩,rfl⟩
theorem erase_on (hR:RunF F) (h:LiveD d) (ha:inR a 0 (g.bands - 1)=true):Fell d (tryD (eOne g F 0 a) d)∨
  (Went d (tryD (eOne g F 0 a) d).1 d.L (d.O++[erOp a])∧(tryD (eOne g F 0 a) d).2=⟨0,[]⟩):=by
 have hne:∀ d:DC,(begD F d.s d.P 0).er=0→(eOne g F 0 a d).2.er≠16:=fun d h0=>by
  unfold eOne dErE; simp only; rw [if_pos h0]; exact doE_ne16 _ _ _
 rcases try_on (eOne_begins g F a) hR hne h with ⟨h1,h2,h3,h4,h5⟩ | ⟨d0,h1,h2,h3,h4,h5,h6,h7,h8,h9⟩
 ·exact .inl ⟨h1,h2,h3,h4,h5⟩
 ·right
  have e:doE g (playL g d0.L d0.O) ⟨true,a,[],none,0⟩=0:=by unfold doE eraseE; simp only [if_true]; rw [if_pos ha]
  rw [h9]
  unfold eOne dErE dErS dErO erS erO
  simp only
  rw [if_pos h5,if_pos h5,if_pos h5,e,if_pos rfl,if_pos rfl]
  exact ⟨⟨⟨h7.dead,h7.off,h7.seen,h7.key,h7.ops⟩,h8,h2,by rw [h3]; rfl⟩,rfl⟩
end
end Go.Proofs.YtggkengmlkhdiaaGreat
namespace Go.Proofs.YtggkengmlkhdiaaGreat
set_option linter.unusedVariables false
open Go.RowKit
def adK (g:Geo) (k:Nat) (i:Int):Int:=g.random+k * bz g+i
def sX (M:List Sec) (a:Int):Ent:=decX (readB M a)
def sT (M:List Sec) (a:Int):Int:=decT (readB M a)
section
variable {g:Geo} {M:List Sec} {k j:Nat} {i l:Int} {xs:List Int}
theorem adK_band (h0:0≤i) (h1:i < bz g):bandN g (adK g k i)=k:=band_at k h0 h1
theorem adK_inj (h0:0≤i) (h1:i < bz g) (l0:0≤l) (l1:l < bz g) (e:adK g k i=adK g j l):k=j∧i=l:=by
 have e1:=adK_band (k:=k) h0 h1
 have e2:=adK_band (k:=j) l0 l1
 rw [e,e2] at e1
 have e3:k=j:=by omega
 subst e3
 unfold adK at e
 exact ⟨rfl,by omega⟩
theorem adK_nn (hg:Vg g) (h0:0≤i):0≤adK g k i:=by
 have h3:0≤(k:Int) * bz g:=Int.mul_nonneg (by omega) (by have:1≤bz g:=hg.bz.1; omega)
 have:=hg.r0
 unfold adK; omega
theorem adK_lt (hk:(k:Int) < g.bands) (hg:Vg g) (h1:i < bz g):adK g k i < g.random+g.bands * bz g:=by
 have hz:1≤bz g:=hg.bz.1
 have h4:((k:Int)+1) * bz g≤g.bands * bz g:=Int.mul_le_mul_of_nonneg_right (by omega) (by omega)
 rw [Int.add_mul] at h4
 unfold adK; omega
theorem adK_in (hf:Fit g M) (hk:(k:Int) < g.bands) (h0:0≤i) (h1:i < bz g):inL M (adK g k i)=true:=by
 rw [inL_iff]
 refine ⟨adK_nn hf.v h0,?_⟩
 have h2:=adK_lt hk hf.v h1
 rw [hf.n]; exact h2
theorem adK_shadow (hg:Vg g) (hk:(k:Int) < g.bands) (h0:0≤i) (h1:i < bz g) {s:Int} (hs:s∈shadowL g (adK g k i)):∃ j,i < j∧j < bz g∧s=adK g k j:=by
 have hs0:=hg.s0
 have ht0:=hg.t0
 have hab:=shadow_above hs
 refine ⟨s - g.random - k * bz g,by unfold adK at hab; omega,?_,by unfold adK; omega⟩
 unfold shadowL at hs
 split at hs
 ·rename_i he
  obtain ⟨_,_,_,hl⟩:=loc_ok he
  rw [hl] at hs
  simp only [List.mem_map,List.mem_range] at hs
  obtain ⟨u,hu,rfl⟩:=hs
  have e1:adK g k i - g.random=i+(k * g.tracks) * g.sectors:=by unfold adK bz; rw [Int.mul_assoc]; omega
  have e2:(adK g k i - g.random) / g.sectors=i / g.sectors+k * g.tracks:=by rw [e1,Int.add_mul_ediv_right _ _ (by omega)]
  have hq0:0≤i / g.sectors:=Int.ediv_nonneg h0 (by omega)
  have hq1:i / g.sectors < g.tracks:=Int.ediv_lt_of_lt_mul (by omega) h1
  have e3:(adK g k i - g.random) / g.sectors % g.tracks=i / g.sectors:=by
   rw [e2,Int.add_mul_emod_self_right,Int.emod_eq_of_lt hq0 hq1]
  rw [e3] at hu
  unfold shCnt at hu
  generalize hq:i / g.sectors=q at *
  have hi:i < (q+1) * g.sectors:=by
   have:=Int.lt_ediv_add_one_mul_self i (show 0 < g.sectors by omega)
   rw [hq] at this; exact this
  have hu2:q+1+((u:Int)+1)≤g.tracks:=by omega
  have h5:(q+1+((u:Int)+1)) * g.sectors≤g.tracks * g.sectors:=Int.mul_le_mul_of_nonneg_right hu2 (by omega)
  rw [Int.add_mul] at h5
  unfold adK bz
  unfold bz at h1
  omega
 ·simp at hs
theorem wr_at (hf:Fit g M) (hk:(k:Int) < g.bands) (h0:0≤i) (h1:i < bz g) (hx:xs.length≤64):readE (writeL g M (adK g k i) xs) (adK g k i)=0∧readB (writeL g M (adK g k i) xs) (adK g k i)=xs:=by
 have hin:=adK_in hf hk h0 h1
 have hnn:0≤adK g k i:=adK_nn hf.v h0
 have hlt:=((inL_iff _ _).1 hin).2
 have e:(writeL g M (adK g k i) xs)[(adK g k i).toNat]?=some ⟨1,xs⟩:=by
  unfold writeL
  rw [hin,decide_eq_true hx]
  simp only [Bool.and_self,if_true]
  rw [destroy_other _ _ _ (fun s hs=>by
   obtain ⟨j,hj,_,rfl⟩:=adK_shadow hf.v hk h0 h1 hs
   have h2:adK g k i < adK g k j:=by unfold adK; omega
   omega),List.getElem?_set_self (by omega)]
 obtain ⟨e1,e2⟩:=getD_get hnn e
 have e3:readE (writeL g M (adK g k i) xs) (adK g k i)=0:=by unfold readE; rw [e1,e2]; rfl
 exact ⟨e3,by unfold readB; rw [e3,e2]; rfl⟩
theorem wr_fit (hf:Fit g M) (a:Int):Fit g (writeL g M a xs):=hf.len (writeL_len _ _ _ _)
theorem wr_far (hf:Fit g M) (hk:(k:Int) < g.bands) (h0:0≤i) (h1:i < bz g) (l0:0≤l) (l1:l < bz g) (hne:j≠k∨l < i):readE (writeL g M (adK g k i) xs) (adK g j l)=readE M (adK g j l)∧readB (writeL g M (adK g k i) xs) (adK g j l)=readB M (adK g j l):=by
 have hnn:0≤adK g j l:=adK_nn hf.v l0
 have e:=write_local (L:=M) (xs:=xs) hnn hf (.inr ⟨fun e=>by
   obtain ⟨e1,e2⟩:=adK_inj l0 l1 h0 h1 e
   omega,fun s hs=>by
   obtain ⟨t,ht,ht2,rfl⟩:=adK_shadow hf.v hk h0 h1 hs
   intro e
   obtain ⟨e1,e2⟩:=adK_inj (by omega) ht2 l0 l1 e
   omega⟩:writeE M (adK g k i) xs≠0∨_)
 obtain ⟨r1,r2,_⟩:=read_same (writeL_len _ _ _ _) e
 exact ⟨r1,r2⟩
theorem wr_behind (hf:Fit g M) (h0:0≤i) (h1:i < bz g) (l1:l < bz g) (hl:i < l) (h:readE M (adK g k l)≠0):readE (writeL g M (adK g k i) xs) (adK g k l)≠0:=by
 intro hr
 apply h
 have hnn:0≤adK g k l:=adK_nn hf.v (by omega)
 unfold writeL at hr
 split at hr
 ·have hlen:(destroy (shadowL g (adK g k i)) (M.set (adK g k i).toNat ⟨1,xs⟩)).length=M.length:=by rw [destroy_len,List.length_set]
  have hin:inL M (adK g k l)=true:=by
   unfold readE at hr
   unfold inL at hr ⊢
   rw [hlen] at hr
   by_cases hc:(decide (0≤adK g k l) && decide (adK g k l < M.length))=true
   ·exact hc
   ·rw [if_neg hc] at hr; exact absurd hr (by decide)
  have hlt:=(inL_iff _ _).1 hin
  have hlt2:(adK g k l).toNat < (destroy (shadowL g (adK g k i)) (M.set (adK g k i).toNat ⟨1,xs⟩)).length:=by rw [hlen]; omega
  have hg:=List.getElem?_eq_getElem hlt2
  rcases destroy_or _ _ _ _ hg with e | e
  ·rw [e] at hg
   obtain ⟨g1,g2⟩:=getD_get hnn hg
   unfold readE at hr
   rw [g1,g2] at hr
   exact absurd hr (by decide)
  ·have h5:0≤adK g k i:=adK_nn hf.v h0
   have h6:adK g k i < adK g k l:=by unfold adK; omega
   rw [List.getElem?_set_ne (by omega)] at e
   rw [← e] at hg
   rw [← (read_same hlen hg).1]; exact hr
 ·exact hr
theorem er_fit (hf:Fit g M) (b:Int):Fit g (eraseL g M b):=hf.len (eraseL_len _ _ _)
theorem er_get (hf:Fit g M) (hk:(k:Int) < g.bands) (l0:0≤l) (l1:l < bz g):(j=k→readE (eraseL g M k) (adK g j l)≠0)∧(j≠k→readE (eraseL g M k) (adK g j l)=readE M (adK g j l)∧readB (eraseL g M k) (adK g j l)=readB M (adK g j l)):=by
 have hz:1≤bz g:=hf.v.bz.1
 have hnn:0≤adK g j l:=adK_nn hf.v l0
 have hr0:=hf.v.r0
 have h3:0≤(k:Int) * bz g:=Int.mul_nonneg (by omega) (by omega)
 have hin:inR (k:Int) 0 (g.bands - 1)=true:=by rw [inR_iff]; omega
 have e:(eraseL g M k)[(adK g j l).toNat]?=if (g.random+(k:Int) * bz g).toNat≤(adK g j l).toNat∧(adK g j l).toNat < (g.random+(k:Int) * bz g).toNat+(bz g).toNat∧(adK g j l).toNat < M.length then some blankS else M[(adK g j l).toNat]?:=by
  unfold eraseL
  rw [if_pos hin]
  exact eraseTo_get _ _ _ _
 constructor
 ·rintro rfl hr
  have hlt:=((inL_iff _ _).1 (adK_in hf hk l0 l1)).2
  rw [if_pos (by unfold adK at *; omega)] at e
  obtain ⟨g1,g2⟩:=getD_get hnn e
  unfold readE at hr
  rw [g1,g2] at hr
  exact absurd hr (by decide)
 ·intro hne
  rw [if_neg (by
   rintro ⟨a1,a2,_⟩
   have hb:adK g j l=adK g k (adK g j l - g.random - k * bz g):=by unfold adK; omega
   have:=(adK_inj l0 l1 (k:=j) (j:=k) (l:=adK g j l - g.random - k * bz g) (by omega) (by omega) hb).1
   exact hne this)] at e
  obtain ⟨r1,r2,_⟩:=read_same (eraseL_len _ _ _) e
  exact ⟨r1,r2⟩
end
end Go.Proofs.YtggkengmlkhdiaaGreat
namespace Go.Proofs.YtggkengmlkhdiaaGreat
set_option linter.unusedVariables false
open Go.RowKit
def LexLt (v1 t1 v2 t2:Int):Prop:=v1 < v2∨(v1=v2∧t1 < t2)
structure CInv (g:Geo) (n:Nat) (v:DV) (M:List Sec):Prop where
 ok:VOk g v
 fit:Fit g M
 es:v.es.length=n
 nil:∀ (b:Nat) (e:NE),v.es[b]?=some e→e.adr < 0→e=noNE
 yes:∀ (k:Nat) (hk:k < v.bs.length) (i:Int),0≤i→i < v.bs[k].used→readE M (adK g k i)=0∧decE (readB M (adK g k i))=0∧(sX M (adK g k i)).blk < n∧sT M (adK g k i)≤v.bs[k].age∧(i+1=v.bs[k].used→sT M (adK g k i)=v.bs[k].age)
 no:∀ (k:Nat) (hk:k < v.bs.length) (i:Int),v.bs[k].used≤i→i < bz g→readE M (adK g k i)≠0
 age0:∀ (k:Nat) (hk:k < v.bs.length),v.bs[k].used=0→v.bs[k].age=0
 tm:∀ (k:Nat) (hk:k < v.bs.length),v.bs[k].age≤v.time
 new:∀ (b:Nat) (e:NE),v.es[b]?=some e→0≤e.adr→(sX M e.adr).blk=(b:Int)∧(sX M e.adr).kind=e.kind∧(sX M e.adr).ver=e.ver
 old:∀ (k:Nat) (hk:k < v.bs.length) (i:Int),0≤i→i < v.bs[k].used→∀ (b:Nat) (e:NE),v.es[b]?=some e→(sX M (adK g k i)).blk=(b:Int)→0≤e.adr∧(adK g k i=e.adr∨LexLt (sX M (adK g k i)).ver (sT M (adK g k i)) e.ver (sT M e.adr))
section
variable {g:Geo} {n:Nat} {v:DV} {M:List Sec} {k b:Nat} {x:Ent}
theorem CInv.at_ (h:CInv g n v M) {e:NE} (he:v.es[b]?=some e) (h0:0≤e.adr):∃ (j:Nat) (hj:j < v.bs.length) (i:Int),e.adr=adK g j i∧0≤i∧i < v.bs[j].used:=by
 rcases h.ok.adr b e he with h1 | ⟨j,i,h1⟩
 ·omega
 ·exact ⟨j,h1.hk,i,h1.e,h1.i0,h1.i1⟩
theorem CInv.kb (h:CInv g n v M) (hk:k < v.bs.length):(k:Int) < g.bands:=by have:=h.ok.len; omega
theorem link_bs (h:VOk g v) (hb:x.blk=(b:Int)) (hbl:b < v.es.length) (hk:k < v.bs.length) (hu:v.bs[k].used < bz g):(linkV g v x k).bs.length=v.bs.length∧
  ∀ (j:Nat) (hj:j < v.bs.length) (hj':j < (linkV g v x k).bs.length),((linkV g v x k).bs[j]).used=(if j=k then v.bs[k].used+1 else v.bs[j].used)∧((linkV g v x k).bs[j]).age=(if j=k then tick v.time else v.bs[j].age):=by
 obtain ⟨hk',hf⟩:=link_form h hb hbl hk hu
 obtain ⟨hl,_,hg⟩:=unlink_len h hbl
 have hz:=h.bz1
 have hev:=h.each hk
 have e:(linkV g v x k).bs=(unlinkV g v b).bs.set k (V.appBI (tick v.time) ((unlinkV g v b).bs[k])):=by rw [hf]
 refine ⟨by rw [e,List.length_set,hl],fun j hj hj'=>?_⟩
 simp only [e,List.getElem_set]
 have h1:=hg j hj (by omega)
 have h2:=hg k hk hk'
 by_cases hjk:k=j
 ·subst hjk
  simp only [if_true,V.appBI]
  rw [h2.1]
  exact ⟨by unfold wrap64; omega,trivial⟩
 ·rw [if_neg hjk,if_neg (fun e=>hjk e.symm),if_neg (fun e=>hjk e.symm)]
  exact h1
theorem link_es (h:VOk g v) (hb:x.blk=(b:Int)) (hbl:b < v.es.length) (hk:k < v.bs.length) (hu:v.bs[k].used < bz g):(linkV g v x k).es=v.es.set b ⟨x.kind,x.ver,adK g k v.bs[k].used⟩∧(linkV g v x k).time=tick v.time∧(linkV g v x k).failed=v.failed:=by
 obtain ⟨hk',hf⟩:=link_form h hb hbl hk hu
 rw [hf]
 exact ⟨by simp only [List.set_set]; rfl,rfl,rfl⟩
theorem next_adK (hk:k < v.bs.length):nextA g v k=adK g k v.bs[k].used:=by unfold nextA adK; rw [V.at_eq hk]
theorem CInv.link (h:CInv g n v M) (hx:validE x=true) (hxo:x.Ok) (hb:x.blk=(b:Int)) (hbl:b < n) (hv:∀ e,v.es[b]?=some e→0≤e.adr→e.ver≤x.ver) (hk:k < v.bs.length) (hu:v.bs[k].used < bz g) (ht:v.time < 18446744073709551615):
  CInv g n (linkV g v x k) (writeL g M (nextA g v k) (encB x (tick v.time))):=by
 have hbl':b < v.es.length:=by rw [h.es]; exact hbl
 obtain ⟨l1,l2⟩:=link_bs h.ok hb hbl' hk hu
 obtain ⟨s1,s2,s3⟩:=link_es h.ok hb hbl' hk hu
 have hlo:=link_ok h.ok hx (⟨hxo.v0,by have:=hxo.v1; omega⟩) hb hbl' hk hu
 have htk:tick v.time=v.time+1:=tick_succ h.ok.time.1 ht
 have ht0:=h.ok.time.1
 have hev:=h.ok.each hk
 have hkb:=h.kb hk
 obtain ⟨d1,d2,d3⟩:=dec_enc hx hxo (show 0≤tick v.time by omega) (by omega)
 have hlen:(encB x (tick v.time)).length≤64:=by rw [encB_len hxo.len]; omega
 rw [next_adK hk]
 obtain ⟨i,hi⟩:∃ i,v.bs[k].used=i:=⟨_,rfl⟩
 obtain ⟨M',hM⟩:∃ M',M'=writeL g M (adK g k i) (encB x (tick v.time)):=⟨_,rfl⟩
 rw [hi] at hu hev s1 l2 ⊢
 rw [← hM]
 have hi0:0≤i:=by omega
 have hfar:∀ (j:Nat) (l:Int),0≤l→l < bz g→(j≠k∨l < i)→readE M' (adK g j l)=readE M (adK g j l)∧readB M' (adK g j l)=readB M (adK g j l):=fun j l l0 l1 hne=>by
  rw [hM]; exact wr_far h.fit hkb hi0 hu l0 l1 hne
 have hat:readE M' (adK g k i)=0∧readB M' (adK g k i)=encB x (tick v.time):=by rw [hM]; exact wr_at h.fit hkb hi0 hu hlen
 have hsec:∀ (j:Nat) (hj':j < (linkV g v x k).bs.length) (l:Int),0≤l→l < (linkV g v x k).bs[j].used→(j=k∧l=i)∨∃ hj:j < v.bs.length,l < v.bs[j].used∧l < bz g∧(j≠k∨l < i):=fun j hj' l l0 hl=>by
  have hj:j < v.bs.length:=by omega
  rw [(l2 j hj hj').1] at hl
  have hej:=h.ok.each hj
  by_cases e:j=k
  ·subst e
   rw [if_pos rfl] at hl
   by_cases e2:l=i
   ·exact .inl ⟨rfl,e2⟩
   ·exact .inr ⟨hj,by omega,by omega,.inr (by omega)⟩
  ·rw [if_neg e] at hl
   exact .inr ⟨hj,hl,by omega,.inl e⟩
 have hent:∀ (c:Nat) (e:NE),(linkV g v x k).es[c]?=some e→(c=b∧e=⟨x.kind,x.ver,adK g k i⟩)∨(c≠b∧v.es[c]?=some e):=fun c e he=>by
  rw [s1] at he
  by_cases e2:b=c
  ·subst e2
   rw [List.getElem?_set_self hbl'] at he
   injection he with he
   exact .inl ⟨rfl,he.symm⟩
  ·rw [List.getElem?_set_ne e2] at he
   exact .inr ⟨fun e'=>e2 e'.symm,he⟩
 have hold:∀ (c:Nat) (e:NE),v.es[c]?=some e→0≤e.adr→readB M' e.adr=readB M e.adr:=fun c e he h0=>by
  obtain ⟨j,hj,l,ea,l0,lu⟩:=h.at_ he h0
  have hej:=h.ok.each hj
  rw [ea]
  refine (hfar j l l0 (by omega) ?_).2
  by_cases e2:j=k
  ·subst e2; right; omega
  ·exact .inl e2
 refine ⟨hlo,by rw [hM]; exact wr_fit h.fit _,by rw [s1,List.length_set]; exact h.es,fun c e he h0=>?_,?_,?_,?_,?_,?_,?_⟩
 ·rcases hent c e he with ⟨_,rfl⟩ | ⟨_,he'⟩
  ·have:=adK_nn (k:=k) h.fit.v hi0; simp only at h0; omega
  ·exact h.nil c e he' h0
 ·intro j hj' l l0 hl
  have hj:j < v.bs.length:=by omega
  have hag:=(l2 j hj hj').2
  have hus:=(l2 j hj hj').1
  rcases hsec j hj' l l0 hl with ⟨rfl,rfl⟩ | ⟨_,hlu,hlz,hne⟩
  ·rw [if_pos rfl] at hag
   unfold sX sT
   rw [hat.1,hat.2,d1,d2,d3,hag]
   exact ⟨rfl,rfl,by omega,by omega,fun _=>rfl⟩
  ·obtain ⟨f1,f2⟩:=hfar j l l0 hlz hne
   obtain ⟨y1,y2,y3,y4,y5⟩:=h.yes j hj l l0 hlu
   have htm:=h.tm j hj
   unfold sX sT at *
   rw [f1,f2,hag,hus]
   refine ⟨y1,y2,y3,?_,fun hlast=>?_⟩
   ·split
    ·omega
    ·exact y4
   ·by_cases e:j=k
    ·subst e
     rw [if_pos rfl] at hlast
     omega
    ·rw [if_neg e] at hlast ⊢
     exact y5 hlast
 ·intro j hj' l hl lz
  have hj:j < v.bs.length:=by omega
  rw [(l2 j hj hj').1] at hl
  have hej:=h.ok.each hj
  by_cases e:j=k
  ·subst e
   rw [if_pos rfl] at hl
   rw [hM]
   exact wr_behind h.fit hi0 hu lz (by omega) (h.no j hj l (by omega) lz)
  ·rw [if_neg e] at hl
   rw [(hfar j l (by omega) lz (.inl e)).1]
   exact h.no j hj l hl lz
 ·intro j hj' hz
  have hj:j < v.bs.length:=by omega
  rw [(l2 j hj hj').1] at hz
  rw [(l2 j hj hj').2]
  by_cases e:j=k
  ·subst e; rw [if_pos rfl] at hz; omega
  ·rw [if_neg e] at hz ⊢; exact h.age0 j hj hz
 ·intro j hj'
  have hj:j < v.bs.length:=by omega
  have:=h.tm j hj
  rw [(l2 j hj hj').2,s2]
  split <;> omega
 ·intro c e he h0
  rcases hent c e he with ⟨rfl,rfl⟩ | ⟨_,he'⟩
  ·unfold sX; simp only; rw [hat.2,d2]; exact ⟨hb,rfl,rfl⟩
  ·have:=h.new c e he' h0
   unfold sX at *
   rw [hold c e he' h0]; exact this
 ·intro j hj' l l0 hl c e he hc
  have hj:j < v.bs.length:=by omega
  rcases hsec j hj' l l0 hl with ⟨rfl,rfl⟩ | ⟨_,hlu,hlz,hne⟩
  ·have hx1:sX M' (adK g j l)=x:=by unfold sX; rw [hat.2,d2]
   rw [hx1,hb] at hc
   have hcb:c=b:=by omega
   subst hcb
   rcases hent c e he with ⟨_,rfl⟩ | ⟨h',_⟩
   ·exact ⟨adK_nn h.fit.v l0,.inl rfl⟩
   ·exact absurd rfl h'
  ·obtain ⟨_,f2⟩:=hfar j l l0 hlz hne
   obtain ⟨_,_,_,y4,_⟩:=h.yes j hj l l0 hlu
   have htm:=h.tm j hj
   have ex:sX M' (adK g j l)=sX M (adK g j l):=by unfold sX; rw [f2]
   have et:sT M' (adK g j l)=sT M (adK g j l):=by unfold sT; rw [f2]
   rw [ex] at hc
   rw [ex,et]
   rcases hent c e he with ⟨rfl,rfl⟩ | ⟨_,he'⟩
   ·refine ⟨adK_nn h.fit.v hi0,.inr ?_⟩
    have hlt:sT M' (adK g k i)=v.time+1:=by unfold sT; rw [hat.2,d3,htk]
    simp only
    rw [hlt]
    have hoe:=List.getElem?_eq_getElem hbl'
    obtain ⟨o0,o1⟩:=h.old j hj l l0 hlu c _ hoe hc
    have hver:=hv _ hoe o0
    obtain ⟨_,_,n3⟩:=h.new c _ hoe o0
    unfold LexLt
    rcases o1 with o1 | o1 | ⟨o1,_⟩
    ·rw [← o1] at n3; omega
    ·omega
    ·omega
   ·have hoo:=h.old j hj l l0 hlu c e he' hc
    have:sT M' e.adr=sT M e.adr:=by unfold sT; rw [hold c e he' hoo.1]
    rw [this]; exact hoo
theorem CInv.reset (h:CInv g n v M) (hk:k < v.bs.length) (h0:v.bs[k].live=0):CInv g n { v with bs:=V.resL v.bs k } (eraseL g M k):=by
 have hro:=reset_ok h.ok hk h0
 have hkb:=h.kb hk
 have hz:=h.ok.bz1
 have hlen:(V.resL v.bs k).length=v.bs.length:=by rw [resL_nat hk,List.length_set]
 have hb:∀ (j:Nat) (hj:j < v.bs.length) (hj':j < (V.resL v.bs k).length),(V.resL v.bs k)[j]=if j=k then V.resBI v.bs[k] else v.bs[j]:=fun j hj hj'=>by
  simp only [resL_nat hk,List.getElem_set]
  by_cases e:k=j
  ·rw [if_pos e,if_pos e.symm]
  ·rw [if_neg e,if_neg (fun e'=>e e'.symm)]
 have hno:∀ (c:Nat) (e:NE),v.es[c]?=some e→0≤e.adr→∃ (j:Nat) (hj:j < v.bs.length) (i:Int),e.adr=adK g j i∧0≤i∧i < v.bs[j].used∧j≠k:=fun c e he he0=>by
  obtain ⟨j,hj,i,e1,e2,e3⟩:=h.at_ he he0
  refine ⟨j,hj,i,e1,e2,e3,fun ejk=>?_⟩
  subst ejk
  have hej:=h.ok.each hj
  have hpos:0 < v.es.countP (liveP g j):=by
   rw [List.countP_pos_iff]
   refine ⟨e,List.mem_of_getElem? he,?_⟩
   have:=adK_band (g:=g) (k:=j) e2 (by omega)
   rw [← e1] at this
   simp [liveP,he0,this]
  have:=h.ok.live j hj
  unfold cntIn at this
  omega
 have hoth:∀ (j:Nat) (l:Int),0≤l→l < bz g→j≠k→readE (eraseL g M k) (adK g j l)=readE M (adK g j l)∧readB (eraseL g M k) (adK g j l)=readB M (adK g j l):=fun j l l0 l1 hne=>(er_get h.fit hkb l0 l1).2 hne
 have hnew:∀ (c:Nat) (e:NE),v.es[c]?=some e→0≤e.adr→readB (eraseL g M k) e.adr=readB M e.adr:=fun c e he he0=>by
  obtain ⟨j,hj,i,e1,e2,e3,e4⟩:=hno c e he he0
  have hej:=h.ok.each hj
  rw [e1]; exact (hoth j i e2 (by omega) e4).2
 have hsec:∀ (j:Nat) (hj':j < (V.resL v.bs k).length) (l:Int),0≤l→l < (V.resL v.bs k)[j].used→∃ hj:j < v.bs.length,j≠k∧l < v.bs[j].used∧l < bz g∧(V.resL v.bs k)[j]=v.bs[j]:=fun j hj' l l0 hl=>by
  have hj:j < v.bs.length:=by omega
  have e:=hb j hj hj'
  by_cases ejk:j=k
  ·rw [if_pos ejk] at e
   rw [e] at hl
   have:(V.resBI v.bs[k]).used=0:=rfl
   omega
  ·rw [if_neg ejk] at e
   have hej:=h.ok.each hj
   exact ⟨hj,ejk,by rw [← e]; exact hl,by rw [e] at hl; omega,e⟩
 refine ⟨hro,er_fit h.fit _,h.es,h.nil,?_,?_,?_,?_,?_,?_⟩
 ·intro j hj' l l0 hl
  obtain ⟨hj,hne,hlu,hlz,e⟩:=hsec j hj' l l0 hl
  obtain ⟨f1,f2⟩:=hoth j l l0 hlz hne
  have:=h.yes j hj l l0 hlu
  unfold sX sT at *
  simp only
  rw [f1,f2,e]; exact this
 ·intro j hj' l hl lz
  simp only at hj' hl
  have hj:j < v.bs.length:=by omega
  have e:=hb j hj hj'
  by_cases ejk:j=k
  ·rw [if_pos ejk] at e
   rw [e] at hl
   have:(V.resBI v.bs[k]).used=0:=rfl
   exact (er_get h.fit hkb (by omega) lz).1 ejk
  ·rw [if_neg ejk] at e
   rw [e] at hl
   have hej:=h.ok.each hj
   rw [(hoth j l (by omega) lz ejk).1]
   exact h.no j hj l hl lz
 ·intro j hj' hu
  simp only at hj' hu ⊢
  have hj:j < v.bs.length:=by omega
  have e:=hb j hj hj'
  by_cases ejk:j=k
  ·rw [if_pos ejk] at e; rw [e]; rfl
  ·rw [if_neg ejk] at e
   rw [e] at hu ⊢; exact h.age0 j hj hu
 ·intro j hj'
  simp only at hj' ⊢
  have hj:j < v.bs.length:=by omega
  have e:=hb j hj hj'
  by_cases ejk:j=k
  ·rw [if_pos ejk] at e; rw [e]; exact h.ok.time.1
  ·rw [if_neg ejk] at e; rw [e]; exact h.tm j hj
 ·intro c e he he0
  have:=h.new c e he he0
  unfold sX at *
  rw [hnew c e he he0]; exact this
 ·intro j hj' l l0 hl c e he hc
  obtain ⟨hj,hne,hlu,hlz,_⟩:=hsec j hj' l l0 hl
  obtain ⟨f1,f2⟩:=hoth j l l0 hlz hne
  have ex:sX (eraseL g M k) (adK g j l)=sX M (adK g j l):=by unfold sX; rw [f2]
  have et:sT (eraseL g M k) (adK g j l)=sT M (adK g j l):=by unfold sT; rw [f2]
  rw [ex] at hc
  have hoo:=h.old j hj l l0 hlu c e he hc
  have:sT (eraseL g M k) e.adr=sT M e.adr:=by unfold sT; rw [hnew c e he hoo.1]
  rw [ex,et,this]; exact hoo
end
end Go.Proofs.YtggkengmlkhdiaaGreat
