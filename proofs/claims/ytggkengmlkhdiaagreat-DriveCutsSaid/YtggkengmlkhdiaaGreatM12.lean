/-
  WHAT IS SHOWN: plain facts, of no program: what holds of a drive's account of its bands, whatever it does. Conditions: as each theorem names them.
-/
import Derived.Test.YtggkengmlkhdiaaGreatM11
namespace Go.Proofs.YtggkengmlkhdiaaGreat
set_option linter.unusedVariables false
open Go.RowKit
theorem countP_put {α:Type} (p:α→Bool):∀ (l:List α) (i:Nat) (x:α) (hi:i < l.length),(l.set i x).countP p+(if p l[i] then 1 else 0)=l.countP p+(if p x then 1 else 0)
 | a::l,0,x,_=>by simp [List.countP_cons]; omega
 | a::l,i+1,x,hi=>by
   have:=countP_put p l i x (by simpa using hi)
   simp only [List.set_cons_succ,List.countP_cons,List.getElem_cons_succ]; omega
def liveP (g:Geo) (k:Int) (n:NE):Bool:=decide (0≤n.adr) && decide (bandN g n.adr=k)
def cntIn (g:Geo) (es:List NE) (k:Int):Int:=((es.countP (liveP g k):Nat):Int)
theorem liveP_no (g:Geo) (k:Int):liveP g k noNE=false:=by simp [liveP,noNE]
theorem band_at {g:Geo} {i:Int} (k:Nat) (h0:0≤i) (h1:i < bz g):bandN g (g.random+k * bz g+i)=k:=by
 have hk:0≤(k:Int) * bz g:=Int.mul_nonneg (by omega) (by omega)
 unfold bandN
 rw [show g.random+k * bz g+i - g.random=i+k * bz g by omega,Int.tdiv_eq_ediv_of_nonneg (by omega),Int.add_mul_ediv_right _ _ (by omega),Int.ediv_eq_zero_of_lt h0 h1]
 omega
structure At (g:Geo) (bs:List V.BI) (a:Int) (k:Nat) (i:Int):Prop where
 hk:k < bs.length
 e:a=g.random+k * bz g+i
 i0:0≤i
 i1:i < bs[k].used
structure VOk (g:Geo) (v:DV):Prop where
 gv:Vg g
 oks:V.Oks v.bs
 val:V.validB v.bs (bz g)=true
 len:(v.bs.length:Int)=g.bands
 e0:1≤v.es.length
 e1:v.es.length≤65536
 adr:∀ (b:Nat) (n:NE),v.es[b]?=some n→n.adr= -1∨∃ k i,At g v.bs n.adr k i
 inj:∀ (a b:Nat) (n m:NE),v.es[a]?=some n→v.es[b]?=some m→0≤n.adr→n.adr=m.adr→a=b
 live:∀ (k:Nat) (hk:k < v.bs.length),v.bs[k].live=cntIn g v.es k
 ver:∀ n∈v.es,V.U64 n.ver
 kind:∀ n∈v.es,0≤n.kind∧n.kind≤2
 time:V.U64 v.time
theorem VOk.each {g:Geo} {v:DV} (h:VOk g v) {k:Nat} (hk:k < v.bs.length):0≤v.bs[k].live∧v.bs[k].live≤v.bs[k].used∧v.bs[k].used≤bz g:=((V.validB_iff _ _).1 h.val).2.2.2 _ (List.getElem_mem hk)
theorem VOk.bz1 {g:Geo} {v:DV} (h:VOk g v):1≤bz g∧bz g≤1024:=h.gv.bz
theorem VOk.len64 {g:Geo} {v:DV} (h:VOk g v):1≤v.bs.length∧v.bs.length≤64:=by
 have:=h.gv.b0; have:=h.gv.b1; have:=h.len; omega
theorem At.band {g:Geo} {v:DV} {a:Int} {k:Nat} {i:Int} (h:At g v.bs a k i) (hv:VOk g v):bandN g a=k:=by
 rw [h.e]; exact band_at k h.i0 (by have:=h.i1; have:=(hv.each h.hk).2.2; omega)
theorem At.nn {g:Geo} {v:DV} {a:Int} {k:Nat} {i:Int} (h:At g v.bs a k i) (hv:VOk g v):g.random≤a∧0≤a∧a < g.random+g.bands * bz g:=by
 have h1:=h.i1; have h2:=(hv.each h.hk).2.2; have h0:=h.i0; have hr:=hv.gv.r0; have hl:=hv.len; have hk:=h.hk; have hz:=hv.bz1
 have h3:0≤(k:Int) * bz g:=Int.mul_nonneg (by omega) (by omega)
 have h4:((k:Int)+1) * bz g≤g.bands * bz g:=Int.mul_le_mul_of_nonneg_right (by omega) (by omega)
 rw [Int.add_mul] at h4
 rw [h.e]; omega
theorem getD_of {α:Type} {l:List α} {b:Nat} {d n:α} (h:l[b]?=some n):l.getD b d=n:=by simp [List.getD,h]
theorem V.at_nat {l:List V.BI} {k:Nat} (h:k < l.length):V.at_ l (k:Int)=l[k]:=V.at_eq h
theorem unlink_form {g:Geo} {v:DV} (h:VOk g v) {b k:Nat} {i:Int} {n:NE} (hb:v.es[b]?=some n) (ha:At g v.bs n.adr k i):
  unlinkV g v b={ v with es:=v.es.set b noNE,bs:=v.bs.set k (V.unlBI (v.bs[k]'ha.hk)) }∧1≤(v.bs[k]'ha.hk).live:=by
 have hk:=ha.hk
 have hn:=(ha.nn h).2.1
 have hband:=ha.band h
 have hbl:b < v.es.length:=(List.getElem?_eq_some_iff.1 hb).1
 have hpos:0 < v.es.countP (liveP g k):=by
  rw [List.countP_pos_iff]
  exact ⟨n,List.mem_of_getElem? hb,by simp [liveP,hn,hband]⟩
 have hl:=h.live k hk
 unfold cntIn at hl
 have h1:1≤v.bs[k].live:=by omega
 refine ⟨?_,h1⟩
 unfold unlinkV
 rw [getD_of hb,if_pos hn,hband]
 have he:V.unlE v.bs k=0:=by
  unfold V.unlE
  rw [show V.inL v.bs k=true by simp [V.inL,hk],if_pos rfl,V.at_eq hk,if_neg (by omega)]
 rw [V.unlL_zero hk he]
theorem unlink_none {g:Geo} {v:DV} {b:Nat} {n:NE} (hb:v.es[b]?=some n) (ha:n.adr= -1):unlinkV g v b={ v with es:=v.es.set b noNE }:=by
 unfold unlinkV
 rw [getD_of hb,if_neg (by omega)]
theorem At.set {g:Geo} {bs:List V.BI} {a:Int} {k j:Nat} {i:Int} {x:V.BI} (h:At g bs a k i) (hx:∀ hj:j < bs.length,bs[j].used≤x.used):At g (bs.set j x) a k i:=by
 refine ⟨by simpa using h.hk,h.e,h.i0,?_⟩
 have h1:=h.i1
 rw [List.getElem_set]
 split
 ·rename_i e; subst e; have:=hx h.hk; omega
 ·exact h1
theorem unlink_ok {g:Geo} {v:DV} (h:VOk g v) {b:Nat} (hb:b < v.es.length):VOk g (unlinkV g v b):=by
 have hn:=List.getElem?_eq_getElem hb
 generalize hne:v.es[b]=n at hn
 have hset:∀ (a:Nat) (m:NE),(v.es.set b noNE)[a]?=some m→(m=noNE∨(a≠b∧v.es[a]?=some m)):=fun a m hm=>by
  by_cases e:b=a
  ·subst e
   rw [List.getElem?_set_self hb] at hm
   injection hm with hm
   exact .inl hm.symm
  ·rw [List.getElem?_set_ne e] at hm
   exact .inr ⟨fun e'=>e e'.symm,hm⟩
 have hinj:∀ (a c:Nat) (m m':NE),(v.es.set b noNE)[a]?=some m→(v.es.set b noNE)[c]?=some m'→0≤m.adr→m.adr=m'.adr→a=c:=fun a c m m' h1 h2 h0 he=>by
  rcases hset a m h1 with rfl | ⟨_,h1'⟩
  ·simp [noNE] at h0
  ·rcases hset c m' h2 with rfl | ⟨_,h2'⟩
   ·rw [he] at h0; simp [noNE] at h0
   ·exact h.inj a c m m' h1' h2' h0 he
 have hver:∀ m∈v.es.set b noNE,V.U64 m.ver:=fun m hm=>by
  rcases List.mem_or_eq_of_mem_set hm with hm | rfl
  ·exact h.ver m hm
  ·simp [noNE,V.U64]
 have hkind:∀ m∈v.es.set b noNE,0≤m.kind∧m.kind≤2:=fun m hm=>by
  rcases List.mem_or_eq_of_mem_set hm with hm | rfl
  ·exact h.kind m hm
  ·simp [noNE]
 have hcnt:=fun j:Int=>countP_put (liveP g j) v.es b noNE hb
 simp only [liveP_no,hne,Bool.false_eq_true,if_false] at hcnt
 rcases h.adr b n hn with ha | ⟨k,i,ha⟩
 ·rw [unlink_none hn ha]
  refine ⟨h.gv,h.oks,h.val,h.len,by simpa using h.e0,by simpa using h.e1,fun a m hm=>?_,hinj,fun j hj=>?_,hver,hkind,h.time⟩
  ·rcases hset a m hm with rfl | ⟨_,hm'⟩
   ·exact .inl rfl
   ·exact h.adr a m hm'
  ·have h1:=h.live j hj
   have h2:=hcnt j
   have h3:liveP g j n=false:=by simp [liveP,ha]
   rw [h3] at h2
   simp only [Bool.false_eq_true,if_false] at h2
   unfold cntIn at h1 ⊢
   simp only
   omega
 ·have hf:=unlink_form h hn ha
  have hk:=ha.hk
  have hev:=h.each hk
  rw [hf.1]
  refine ⟨h.gv,?_,?_,by simpa using h.len,by simpa using h.e0,by simpa using h.e1,fun a m hm=>?_,hinj,fun j hj=>?_,hver,hkind,h.time⟩
  ·have ho:=V.oks_get h.oks hk
   exact V.oks_set h.oks ⟨ho.used,⟨by have:=hf.2; simp [V.unlBI]; omega,by have:=ho.live.2; simp [V.unlBI]; omega⟩,ho.age,ho.wear⟩
  ·exact V.valid_set h.val k _ ⟨by have:=hf.2; simp [V.unlBI]; omega,by simp [V.unlBI]; omega,by simp [V.unlBI]; omega⟩
  ·rcases hset a m hm with rfl | ⟨_,hm'⟩
   ·exact .inl rfl
   ·rcases h.adr a m hm' with h1 | ⟨k',i',h1⟩
    ·exact .inl h1
    ·exact .inr ⟨k',i',h1.set (fun _=>by simp [V.unlBI])⟩
  ·simp only [List.length_set] at hj
   have h1:=h.live j hj
   have h2:=hcnt j
   have hband:=ha.band h
   have hnn:=(ha.nn h).2.1
   simp only [List.getElem_set]
   unfold cntIn at h1 ⊢
   split
   ·rename_i e; subst e
    have h3:liveP g k n=true:=by simp [liveP,hnn,hband]
    rw [h3] at h2
    simp only [if_true] at h2
    simp only [V.unlBI]
    omega
   ·rename_i e
    have h3:liveP g j n=false:=by simp [liveP,hband]; omega
    rw [h3] at h2
    simp only [Bool.false_eq_true,if_false] at h2
    omega
theorem unlink_len {g:Geo} {v:DV} (h:VOk g v) {b:Nat} (hb:b < v.es.length):(unlinkV g v b).bs.length=v.bs.length∧(unlinkV g v b).es.length=v.es.length∧∀ (k:Nat) (hk:k < v.bs.length) (hk':k < (unlinkV g v b).bs.length),((unlinkV g v b).bs[k]).used=v.bs[k].used∧((unlinkV g v b).bs[k]).age=v.bs[k].age:=by
 have hn:=List.getElem?_eq_getElem hb
 generalize v.es[b]=n at hn
 rcases h.adr b n hn with ha | ⟨k,i,ha⟩
 ·rw [unlink_none hn ha]
  exact ⟨rfl,by simp,fun _ _ _=>⟨rfl,rfl⟩⟩
 ·rw [(unlink_form h hn ha).1]
  refine ⟨by simp,by simp,fun j hj hj'=>?_⟩
  simp only [List.getElem_set]
  split
  ·rename_i e; subst e; simp [V.unlBI]
  ·exact ⟨rfl,rfl⟩
theorem open_inv (sz:Int) (l:List V.BI):∀ k,k≤l.length→
  ((V.openFrom sz (-1,0) 0 (l.take k)).1= -1∧∀ (j:Nat) (hj:j < l.length),j < k→V.partB sz l[j]=false)∨
  ∃ (i:Nat) (hi:i < l.length),i < k∧V.openFrom sz (-1,0) 0 (l.take k)=((i:Int),l[i].age)∧V.partB sz l[i]=true∧∀ (j:Nat) (hj:j < l.length),j < k→V.partB sz l[j]=true→l[j].age≤l[i].age
 | 0,_=>by left; exact ⟨by simp [V.openFrom],fun j _ h=>by omega⟩
 | k+1,h=>by
   rw [V.openFrom_take sz l _ k (by omega)]
   unfold V.openStep
   rcases open_inv sz l k (by omega) with ⟨h1,h2⟩ | ⟨i,hi,hik,h1,h2,h3⟩
   ·cases hp:V.partB sz l[k]
    ·left
     rw [if_neg (by simp)]
     refine ⟨h1,fun j hj hjk=>?_⟩
     by_cases e:j=k
     ·subst e; exact hp
     ·exact h2 j hj (by omega)
    ·right
     rw [if_pos (by rw [h1]; simp)]
     refine ⟨k,by omega,by omega,rfl,hp,fun j hj hjk hpj=>?_⟩
     by_cases e:j=k
     ·subst e; exact Int.le_refl _
     ·rw [h2 j hj (by omega)] at hpj; cases hpj
   ·right
    rw [h1]
    cases hp:V.partB sz l[k]
    ·rw [if_neg (by simp)]
     refine ⟨i,hi,by omega,rfl,h2,fun j hj hjk hpj=>?_⟩
     by_cases e:j=k
     ·subst e; rw [hp] at hpj; cases hpj
     ·exact h3 j hj (by omega) hpj
    ·by_cases ha:l[i].age < l[k].age
     ·rw [if_pos (by simp [ha])]
      refine ⟨k,by omega,by omega,rfl,hp,fun j hj hjk hpj=>?_⟩
      by_cases e:j=k
      ·subst e; exact Int.le_refl _
      ·have:=h3 j hj (by omega) hpj; omega
     ·rw [if_neg (by simp; omega)]
      refine ⟨i,hi,by omega,rfl,h2,fun j hj hjk hpj=>?_⟩
      by_cases e:j=k
      ·subst e; omega
      ·exact h3 j hj (by omega) hpj
theorem openB_told {sz:Int} {l:List V.BI} (hv:V.validB l sz=true):
  (V.openB l sz= -1∧∀ (j:Nat) (hj:j < l.length),V.partB sz l[j]=false)∨
  ∃ (i:Nat) (hi:i < l.length),V.openB l sz=(i:Int)∧V.partB sz l[i]=true∧∀ (j:Nat) (hj:j < l.length),V.partB sz l[j]=true→l[j].age≤l[i].age:=by
 have h:=open_inv sz l l.length (Nat.le_refl _)
 rw [List.take_length] at h
 unfold V.openB
 rw [if_pos hv]
 rcases h with ⟨h1,h2⟩ | ⟨i,hi,_,h1,h2,h3⟩
 ·exact .inl ⟨h1,fun j hj=>h2 j hj hj⟩
 ·exact .inr ⟨i,hi,by rw [h1],h2,fun j hj=>h3 j hj hj⟩
theorem leastN_told (l:List V.BI):(leastN l=(0,9)∧∀ b∈l,b.used≠0)∨∃ (i:Nat) (hi:i < l.length),leastN l=((i:Int),0)∧l[i].used=0:=by
 have h:=least_inv l l.length (Nat.le_refl _)
 rw [List.take_length] at h
 unfold leastN
 rcases h with ⟨h1,h2⟩ | ⟨i,hi,_,h1,h2⟩
 ·exact .inl ⟨by rw [h1]; rfl,h2⟩
 ·exact .inr ⟨i,hi,by rw [h1]; rfl,h2⟩
theorem fullL_len (g:Geo) (bs:List V.BI) (except:Int):(fullL g bs except).length=bs.length:=by unfold fullL; split <;> simp
theorem fullL_get? {g:Geo} {bs:List V.BI} {except:Int} {k:Nat} (hk:k < bs.length):
  (fullL g bs except)[k]?=some (if (k:Int)=except then { bs[k] with used:=bz g } else bs[k]):=by
 by_cases h0:0≤except
 ·obtain ⟨m,rfl⟩:=Int.eq_ofNat_of_zero_le h0
  have e:fullL g bs (m:Int)=bs.set m { V.at_ bs (m:Int) with used:=bz g }:=by unfold fullL; rw [if_pos h0]; rfl
  rw [e,List.getElem?_set]
  by_cases hm:m=k
  ·subst hm
   rw [if_pos rfl,if_pos hk,if_pos rfl,V.at_eq hk]
  ·rw [if_neg hm,if_neg (by omega),List.getElem?_eq_getElem hk]
 ·have e:fullL g bs except=bs:=by unfold fullL; rw [if_neg h0]
  rw [e,if_neg (by omega),List.getElem?_eq_getElem hk]
theorem fullL_get {g:Geo} {bs:List V.BI} {except:Int} {k:Nat} (hk:k < bs.length) (hk':k < (fullL g bs except).length):
  (fullL g bs except)[k]=if (k:Int)=except then { bs[k] with used:=bz g } else bs[k]:=by
 have h:=fullL_get? (g:=g) (except:=except) hk
 rw [List.getElem?_eq_getElem hk'] at h
 injection h
theorem fullL_valid {g:Geo} {v:DV} (h:VOk g v) {except:Int} (he:except < v.bs.length):V.validB (fullL g v.bs except) (bz g)=true:=by
 unfold fullL
 split
 ·rename_i h0
  obtain ⟨k,rfl⟩:=Int.eq_ofNat_of_zero_le h0
  have hk:k < v.bs.length:=by omega
  have:=h.each hk
  refine V.valid_set h.val _ _ ?_
  rw [V.at_eq hk]
  exact ⟨by simp; omega,by simp; omega,by simp⟩
 ·exact h.val
theorem openN_told {g:Geo} {v:DV} (h:VOk g v) {except:Int} (he:except < v.bs.length) (h0:(openN g v.bs except).2=0):
  ∃ (k:Nat) (hk:k < v.bs.length),(openN g v.bs except).1=(k:Int)∧v.bs[k].used < bz g∧(k:Int)≠except:=by
 have hz:=h.bz1
 have hl:=fullL_len g v.bs except
 unfold openN at h0 ⊢
 rcases openB_told (fullL_valid h he) with ⟨h1,h2⟩ | ⟨i,hi,h1,h2,_⟩
 ·rw [h1] at h0 ⊢
  simp only [show ¬ ((0:Int)≤ -1) by omega,if_false] at h0 ⊢
  rcases leastN_told (fullL g v.bs except) with ⟨h3,_⟩ | ⟨i,hi,h3,h4⟩
  ·rw [h3] at h0; simp at h0
  ·rw [h3]
   have hi':i < v.bs.length:=by omega
   rw [fullL_get hi'] at h4
   by_cases e:(i:Int)=except
   ·rw [if_pos e] at h4; simp at h4; omega
   ·rw [if_neg e] at h4
    exact ⟨i,hi',by simp,by omega,e⟩
 ·rw [h1]
  have hi':i < v.bs.length:=by omega
  simp only [show (0:Int)≤(i:Int) by omega,if_true]
  rw [fullL_get hi'] at h2
  by_cases e:(i:Int)=except
  ·rw [if_pos e] at h2; simp [V.partB] at h2
  ·rw [if_neg e] at h2
   simp [V.partB] at h2
   exact ⟨i,hi',rfl,h2.2,e⟩
theorem tick_u64 (t:Int):V.U64 (tick t):=by
 unfold tick V.U64
 rw [IntKind.wrap_u64]; omega
theorem link_form {g:Geo} {v:DV} (h:VOk g v) {x:Ent} {k b:Nat} (hb:x.blk=(b:Int)) (hbl:b < v.es.length) (hk:k < v.bs.length) (hu:v.bs[k].used < bz g):
  ∃ hk':k < (unlinkV g v b).bs.length,linkV g v x k=⟨(v.es.set b noNE).set b ⟨x.kind,x.ver,g.random+k * bz g+v.bs[k].used⟩,(unlinkV g v b).bs.set k (V.appBI (tick v.time) ((unlinkV g v b).bs[k])),tick v.time,v.failed⟩:=by
 obtain ⟨hl,_,hg⟩:=unlink_len h hbl
 have hk':k < (unlinkV g v b).bs.length:=by omega
 refine ⟨hk',?_⟩
 have hE:V.appE (unlinkV g v b).bs (bz g) k=0:=by
  unfold V.appE
  rw [show V.inL (unlinkV g v b).bs k=true by simp [V.inL]; omega,if_pos rfl,V.at_eq hk',(hg k hk hk').1,if_neg (by omega)]
 unfold linkV
 rw [hb,Int.toNat_natCast,V.appL_zero hk' hE]
 have he:(unlinkV g v b).es=v.es.set b noNE:=rfl
 have hf:(unlinkV g v b).failed=v.failed:=rfl
 have hn:nextA g v k=g.random+k * bz g+v.bs[k].used:=by unfold nextA; rw [V.at_eq hk]
 rw [he,hn]
 simp only [hf]
theorem link_ok {g:Geo} {v:DV} (h:VOk g v) {x:Ent} {k b:Nat} (hx:validE x=true) (hxv:V.U64 x.ver) (hb:x.blk=(b:Int)) (hbl:b < v.es.length) (hk:k < v.bs.length) (hu:v.bs[k].used < bz g):VOk g (linkV g v x k):=by
 obtain ⟨hk',hf⟩:=link_form h (x:=x) hb hbl hk hu
 have hz:=h.bz1
 have ho:=unlink_ok h hbl
 obtain ⟨hl,hel,hg⟩:=unlink_len h hbl
 have hes:(unlinkV g v b).es=v.es.set b noNE:=rfl
 obtain ⟨x0,x1,x2,x3⟩:=validE_told hx
 have hev:=ho.each hk'
 have hu':=(hg k hk hk').1
 have hbo:=V.oks_get ho.oks hk'
 rw [hf]
 generalize hu2:unlinkV g v b=u at *
 have hw1:wrap64 (u.bs[k].used+1)=u.bs[k].used+1:=by unfold wrap64; omega
 have hw2:wrap64 (u.bs[k].live+1)=u.bs[k].live+1:=by unfold wrap64; omega
 have hbl':b < u.es.length:=by omega
 rw [← hes]
 have hset:∀ (a:Nat) (m:NE),(u.es.set b ⟨x.kind,x.ver,g.random+k * bz g+v.bs[k].used⟩)[a]?=some m→((a=b∧m=⟨x.kind,x.ver,g.random+k * bz g+v.bs[k].used⟩)∨(a≠b∧u.es[a]?=some m)):=fun a m hm=>by
  by_cases e:b=a
  ·subst e
   rw [List.getElem?_set_self hbl'] at hm
   injection hm with hm
   exact .inl ⟨rfl,hm.symm⟩
  ·rw [List.getElem?_set_ne e] at hm
   exact .inr ⟨fun e'=>e e'.symm,hm⟩
 have hnone:u.es[b]=noNE:=by simp only [hes,List.getElem_set_self]
 have hcnt:=fun j:Int=>countP_put (liveP g j) u.es b ⟨x.kind,x.ver,g.random+k * bz g+v.bs[k].used⟩ hbl'
 simp only [hnone,liveP_no,Bool.false_eq_true,if_false] at hcnt
 have hev2:=h.each hk
 have hband:=band_at (g:=g) (i:=v.bs[k].used) k (by omega) hu
 have hnn:0≤g.random+k * bz g+v.bs[k].used:=by
  have h3:0≤(k:Int) * bz g:=Int.mul_nonneg (by omega) (by omega)
  have:=h.gv.r0; omega
 have hfresh:∀ (a:Nat) (m:NE),u.es[a]?=some m→m.adr≠g.random+k * bz g+v.bs[k].used:=fun a m hm e=>by
  rcases ho.adr a m hm with h1 | ⟨k',i',h1⟩
  ·omega
  ·have h2:=h1.band ho
   rw [e,hband] at h2
   have h2':k=k':=by omega
   subst h2'
   have h3:=h1.e; have h4:=h1.i1; omega
 refine ⟨h.gv,?_,?_,by simpa using ho.len,by simpa using ho.e0,by simpa using ho.e1,fun a m hm=>?_,fun a c m m' h1 h2 h0 he=>?_,fun j hj=>?_,fun m hm=>?_,fun m hm=>?_,tick_u64 _⟩
 ·refine V.oks_set ho.oks ⟨V.wrap64_ok _,V.wrap64_ok _,tick_u64 _,hbo.wear⟩
 ·refine V.valid_set ho.val k _ ?_
  unfold V.okB V.appBI
  simp only [hw1,hw2]
  omega
 ·rcases hset a m hm with ⟨_,rfl⟩ | ⟨_,hm'⟩
  ·refine .inr ⟨k,v.bs[k].used,⟨by simpa using hk',rfl,by omega,?_⟩⟩
   simp only [List.getElem_set_self,V.appBI,hw1]
   omega
  ·rcases ho.adr a m hm' with h1 | ⟨k',i',h1⟩
   ·exact .inl h1
   ·exact .inr ⟨k',i',h1.set (fun _=>by simp only [V.appBI,hw1]; omega)⟩
 ·rcases hset a m h1 with ⟨ea,rfl⟩ | ⟨_,h1'⟩
  ·rcases hset c m' h2 with ⟨ec,_⟩ | ⟨_,h2'⟩
   ·rw [ea,ec]
   ·exact absurd he.symm (hfresh c m' h2')
  ·rcases hset c m' h2 with ⟨_,rfl⟩ | ⟨_,h2'⟩
   ·exact absurd he (hfresh a m h1')
   ·exact ho.inj a c m m' h1' h2' h0 he
 ·simp only [List.length_set] at hj
  have h1:=ho.live j hj
  have h2:=hcnt j
  simp only [List.getElem_set]
  unfold cntIn at h1 ⊢
  split
  ·rename_i e; subst e
   have h3:liveP g k ⟨x.kind,x.ver,g.random+k * bz g+v.bs[k].used⟩=true:=by simp [liveP,hnn,hband]
   rw [h3] at h2
   simp only [if_true] at h2
   simp only [V.appBI,hw2]
   omega
  ·rename_i e
   have h3:liveP g j ⟨x.kind,x.ver,g.random+k * bz g+v.bs[k].used⟩=false:=by simp [liveP,hband]; omega
   rw [h3] at h2
   simp only [Bool.false_eq_true,if_false] at h2
   omega
 ·rcases List.mem_or_eq_of_mem_set hm with hm | rfl
  ·exact ho.ver m hm
  ·exact hxv
 ·rcases List.mem_or_eq_of_mem_set hm with hm | rfl
  ·exact ho.kind m hm
  ·simp only; omega
theorem VOk.fail {g:Geo} {v:DV} (h:VOk g v) (er:Int):VOk g (v.fail er):=by
 unfold DV.fail
 split
 ·exact h
 ·exact ⟨h.gv,h.oks,h.val,h.len,h.e0,h.e1,h.adr,h.inj,h.live,h.ver,h.kind,h.time⟩
theorem fail_es (v:DV) (er:Int):(v.fail er).es=v.es∧(v.fail er).bs=v.bs:=by unfold DV.fail; split <;> exact ⟨rfl,rfl⟩
theorem app_ok {g:Geo} {F:List Flt} {key:Int} {S:ST} {x:Ent} {except:Int} (h:VOk g S.v) (hxv:V.U64 x.ver) (hb:0≤x.blk) (hbl:x.blk < S.v.es.length) (he:except < S.v.bs.length):
  VOk g (appN g F key S x except).1.v∧(appN g F key S x except).1.v.es.length=S.v.es.length∧(appN g F key S x except).1.v.bs.length=S.v.bs.length:=by
 unfold appN
 by_cases h0:(openN g S.v.bs except).2=0
 ·rw [if_pos h0]
  obtain ⟨k,hk,h1,h2,_⟩:=openN_told h he h0
  by_cases hv:validE x=true
  ·rw [if_pos hv]
   by_cases hw:(wrX g F key S x (openN g S.v.bs except).1).2.er=0
   ·rw [if_pos hw,h1]
    obtain ⟨b,hb'⟩:=Int.eq_ofNat_of_zero_le hb
    have hbl':b < S.v.es.length:=by omega
    have hlo:=link_ok h hv hxv hb' hbl' hk h2
    obtain ⟨hk',hf⟩:=link_form h (x:=x) hb' hbl' hk h2
    obtain ⟨hl,_,_⟩:=unlink_len h hbl'
    refine ⟨hlo,?_,?_⟩
    ·simp only [hf]; simp
    ·simp only [hf]; simp [hl]
   ·rw [if_neg hw]
    refine ⟨h.fail _,?_,?_⟩ <;> simp only [(fail_es _ _).1,(fail_es _ _).2]
  ·rw [if_neg hv]; exact ⟨h,rfl,rfl⟩
 ·rw [if_neg h0]; exact ⟨h,rfl,rfl⟩
end Go.Proofs.YtggkengmlkhdiaaGreat
