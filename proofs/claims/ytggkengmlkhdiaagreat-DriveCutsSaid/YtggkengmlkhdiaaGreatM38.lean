/-
  WHAT IS SHOWN: plain facts, of no program: the drive that is opened on a disk that holds what an account says has this account again. plain facts, of no program: the account of a drive is kept by its acts, whatever the disk does. plain facts, of no program: the acts of a rig (a drive with the history of each block), and how many operations they leave pending. Conditions: as each theorem names them.
-/
import Derived.Test.YtggkengmlkhdiaaGreatM36
import Derived.Test.YtggkengmlkhdiaaGreatM37
namespace Go.Proofs.YtggkengmlkhdiaaGreat
set_option linter.unusedVariables false
open Go.RowKit
def secO (g:Geo) (M:List Sec) (i:Nat):Option (List Int):=if readE M (g.random+i)=0 then some (readB M (g.random+i)) else none
def cAt (g:Geo) (M:List Sec) (i:Nat):Cnd:=⟨sX M (g.random+i),g.random+i,sT M (g.random+i)⟩
def reach (z k c:Int):Int:=max 0 (min z (k - c * z))
structure ScI (g:Geo) (v:DV) (M:List Sec) (z:Nat) (k:Nat) (s:SS):Prop where
 len:s.bs.length=v.bs.length
 band:∀ (c:Nat) (hc:c < v.bs.length),(V.at_ s.bs (c:Int)).used=min (reach z k c) v.bs[c].used∧0≤(V.at_ s.bs (c:Int)).age∧(V.at_ s.bs (c:Int)).age≤v.bs[c].age∧(v.bs[c].used≤reach z k c→(V.at_ s.bs (c:Int)).age=v.bs[c].age)
 en0:∀ b,s.m b=none→∀ j:Nat,j < k→readE M (g.random+j)=0→(sX M (g.random+j)).blk≠b
 en1:∀ b c,s.m b=some c→c.x.blk=b∧(∃ j:Nat,j < k∧readE M (g.random+j)=0∧c=cAt g M j)∧∀ j:Nat,j < k→readE M (g.random+j)=0→(sX M (g.random+j)).blk=b→newerB (cAt g M j) c=false
section
variable {g:Geo} {n:Nat} {v:DV} {M:List Sec}
theorem CInv.age_nn (h:CInv g n v M) {k:Nat} (hk:k < v.bs.length):0≤v.bs[k].age:=(V.oks_get h.ok.oks hk).age.1
theorem scanK_same (h:CInv g n v M) {z:Nat} (hz:bz g=(z:Int)) {ss:List (Option (List Int))} (hs:∀ i,i < v.bs.length * z→ss.getD i none=secO g M i) (hu:∀ k xs,ss.getD k none=some xs→U8s xs):∀ k,k≤v.bs.length * z→ScI g v M z k (scanK g z n ss k)
 | 0,_=>by
   have hl:(scanK g z n ss 0).bs.length=v.bs.length:=by rw [scanK_len]; have:=h.ok.len; omega
   have hat:∀ c:Nat,V.at_ (scanK g z n ss 0).bs (c:Int)=⟨0,0,0,0⟩:=fun c=>by
    unfold scanK V.at_
    simp only [Int.toNat_natCast,List.getElem?_replicate]
    split <;> rfl
   refine ⟨hl,fun c hc=>?_,fun b _ j hj=>absurd hj (by omega),fun b c hc=>by simp [scanK] at hc⟩
   rw [hat c]
   have hev:=h.ok.each hc
   have ha:=h.age_nn hc
   have h0:=h.age0 c hc
   have hcz:0≤(c:Int) * (z:Int):=Int.mul_nonneg (by omega) (by omega)
   unfold reach
   simp only
   refine ⟨by omega,by omega,by omega,fun hle=>?_⟩
   rw [h0 (by omega)]
 | k+1,hk=>by
   have ih:=scanK_same h hz hs hu k (by omega)
   have hz1:1≤z:=by have:=h.ok.bz1; omega
   have hkz:k / z < v.bs.length:=by rw [Nat.div_lt_iff_lt_mul (by omega)]; omega
   have hm:=Nat.mod_lt k (show 0 < z by omega)
   have hdm:k / z * z+k % z=k:=by rw [Nat.mul_comm]; exact Nat.div_add_mod k z
   have hdI:((k / z:Nat):Int) * (z:Int)+((k % z:Nat):Int)=(k:Int):=by rw [← Int.natCast_mul,← Int.natCast_add,hdm]
   have hsk:=hs k (by omega)
   have huk:=hu k
   have hadr:g.random+(k:Int)=adK g (k / z) ((k % z:Nat):Int):=by unfold adK; rw [hz]; omega
   have hr:∀ c:Nat,c≠k / z→reach z ((k+1:Nat):Int) c=reach z k c:=fun c hc=>by
    unfold reach
    rcases Nat.lt_or_ge c (k / z) with hlt | hge
    ·have:((c:Int)+1) * (z:Int)≤((k / z:Nat):Int) * z:=Int.mul_le_mul_of_nonneg_right (by omega) (by omega)
     rw [Int.add_mul] at this
     omega
    ·have:(((k / z:Nat):Int)+1) * (z:Int)≤(c:Int) * z:=Int.mul_le_mul_of_nonneg_right (by omega) (by omega)
     rw [Int.add_mul] at this
     omega
   have hr0:reach z k ((k / z:Nat):Int)=((k % z:Nat):Int):=by unfold reach; omega
   have hr1:reach z ((k+1:Nat):Int) ((k / z:Nat):Int)=((k % z:Nat):Int)+1:=by unfold reach; omega
   have hsl:(scanK g z n ss k).bs.length=v.bs.length:=ih.len
   have hev:=h.ok.each hkz
   unfold scanK
   generalize hK:scanK g z n ss k=s at *
   generalize hc0:k / z=c0 at *
   generalize hi0:k % z=i0 at *
   rw [hsk]
   rw [hsk] at huk
   by_cases hread:readE M (g.random+(k:Int))=0
   ·have hsec:secO g M k=some (readB M (g.random+k)):=if_pos hread
    have hlt:(i0:Int) < v.bs[c0].used:=by
     rcases Int.lt_or_le (i0:Int) v.bs[c0].used with h1 | h1
     ·exact h1
     ·rw [hadr] at hread
      exact absurd hread (h.no c0 hkz i0 h1 (by omega))
    obtain ⟨y1,y2,y3,y4,y5⟩:=h.yes c0 hkz i0 (by omega) hlt
    rw [← hadr] at y1 y2 y3 y4 y5
    have hun:=decT_u64 (huk _ hsec)
    unfold scanOne
    rw [hsec]
    simp only
    rw [if_pos ⟨y2,y3⟩]
    have hkz':k / z < s.bs.length:=by rw [hc0,hsl]; exact hkz
    have hul:k / z < (useB z s.bs k).length:=by rw [useB_len]; exact hkz'
    refine ⟨by simp only [ageB_len,useB_len]; exact hsl,fun c hc=>?_,fun b hb j hj hrd=>?_,fun b c hc=>?_⟩
    ·have ihc:=ih.band c hc
     simp only
     rw [age_at hul,use_at hkz',use_at hkz',hc0,hi0]
     by_cases e:c=c0
     ·subst e
      rw [if_pos rfl,if_pos rfl,hr1]
      rw [hr0] at ihc
      simp only
      unfold sT at y4 y5
      obtain ⟨b1,b2,b3,b4⟩:=ihc
      have hun0:=hun.1
      refine ⟨by omega,by split <;> omega,by split <;> omega,fun hle=>?_⟩
      have:=y5 (by omega)
      split <;> omega
     ·rw [if_neg e,if_neg e,hr c (by omega)]
      exact ihc
    ·simp only at hb
     have hbk:(sX M (g.random+(k:Int))).blk≠b:=fun e=>by
      unfold addM at hb
      split at hb
      ·unfold mput at hb
       rw [if_pos (show b=(decX (readB M (g.random+(k:Int)))).blk from e.symm)] at hb
       cases hb
      ·rename_i ht
       unfold takeM at ht
       have e2:(decX (readB M (g.random+(k:Int)))).blk=b:=e
       simp only [e2,hb] at ht
       exact ht trivial
     by_cases e:j=k
     ·subst e; exact hbk
     ·refine ih.en0 b ?_ j (by omega) hrd
      unfold addM at hb
      split at hb
      ·unfold mput at hb
       rw [if_neg (fun e2=>hbk (by rw [e2]; rfl))] at hb
       exact hb
      ·exact hb
    ·simp only at hc
     have hself:newerB (cAt g M k) (cAt g M k)=false:=by unfold newerB; simp
     have key:(b≠(sX M (g.random+(k:Int))).blk∧s.m b=some c)∨(b=(sX M (g.random+(k:Int))).blk∧((c=cAt g M k∧(s.m b=none∨∃ o,s.m b=some o∧newerB c o=true))∨(s.m b=some c∧newerB (cAt g M k) c=false))):=by
      by_cases eb:b=(sX M (g.random+(k:Int))).blk
      ·right
       refine ⟨eb,?_⟩
       have e2:(decX (readB M (g.random+(k:Int)))).blk=b:=eb.symm
       unfold addM at hc
       cases ht:takeM s.m ⟨decX (readB M (g.random+(k:Int))),g.random+(k:Int),decT (readB M (g.random+(k:Int)))⟩ with
       | true=>
         rw [ht,if_pos rfl] at hc
         unfold mput at hc
         rw [if_pos e2.symm] at hc
         injection hc with hc
         left
         refine ⟨hc.symm,?_⟩
         unfold takeM at ht
         simp only [e2] at ht
         cases hm0:s.m b with
         | none=>exact .inl rfl
         | some o=>rw [hm0] at ht; exact .inr ⟨o,rfl,by rw [← hc]; exact ht⟩
       | false=>
         rw [ht,if_neg (by decide)] at hc
         right
         refine ⟨hc,?_⟩
         unfold takeM at ht
         simp only [e2,hc] at ht
         exact ht
      ·left
       refine ⟨eb,?_⟩
       unfold addM at hc
       split at hc
       ·have hc':(if b=(sX M (g.random+(k:Int))).blk then some (cAt g M k) else s.m b)=some c:=hc
        rw [if_neg eb] at hc'
        exact hc'
       ·exact hc
     rcases key with ⟨eb,hsm⟩ | ⟨eb,⟨rfl,hor⟩ | ⟨hsm,hnw⟩⟩
     ·obtain ⟨e1,⟨j,hj,e2,e3⟩,e4⟩:=ih.en1 b c hsm
      refine ⟨e1,⟨j,by omega,e2,e3⟩,fun j' hj' hr' hb'=>?_⟩
      by_cases e:j'=k
      ·subst e; exact absurd hb'.symm eb
      ·exact e4 j' (by omega) hr' hb'
     ·refine ⟨eb.symm,⟨k,by omega,hread,rfl⟩,fun j' hj' hr' hb'=>?_⟩
      by_cases e:j'=k
      ·subst e; exact hself
      ·rcases hor with hno | ⟨o,ho,hnw⟩
       ·exact absurd hb' (ih.en0 b hno j' (by omega) hr')
       ·have:=(ih.en1 b o ho).2.2 j' (by omega) hr' hb'
        unfold newerB at *
        simp only [Bool.or_eq_false_iff,Bool.and_eq_false_iff,Bool.or_eq_true,Bool.and_eq_true,decide_eq_true_eq,decide_eq_false_iff_not] at *
        omega
     ·obtain ⟨e1,⟨j,hj,e2,e3⟩,e4⟩:=ih.en1 b c hsm
      refine ⟨e1,⟨j,by omega,e2,e3⟩,fun j' hj' hr' hb'=>?_⟩
      by_cases e:j'=k
      ·subst e; exact hnw
      ·exact e4 j' (by omega) hr' hb'
   ·have hsec:secO g M k=none:=if_neg hread
    have hge:v.bs[c0].used≤(i0:Int):=by
     rcases Int.lt_or_le (i0:Int) v.bs[c0].used with h1 | h1
     ·rw [hadr] at hread
      exact absurd (h.yes c0 hkz i0 (by omega) h1).1 hread
     ·exact h1
    unfold scanOne
    rw [hsec]
    simp only
    refine ⟨hsl,fun c hc=>?_,fun b hb j hj hrd=>?_,fun b c hc=>?_⟩
    ·have ihc:=ih.band c hc
     by_cases e:c=c0
     ·subst e
      rw [hr1]
      rw [hr0] at ihc
      obtain ⟨b1,b2,b3,b4⟩:=ihc
      exact ⟨by omega,b2,b3,fun _=>b4 hge⟩
     ·rw [hr c (by omega)]
      exact ihc
    ·by_cases e:j=k
     ·subst e; exact absurd hrd hread
     ·exact ih.en0 b hb j (by omega) hrd
    ·obtain ⟨e1,⟨j,hj,e2,e3⟩,e4⟩:=ih.en1 b c hc
     refine ⟨e1,⟨j,by omega,e2,e3⟩,fun j' hj' hr' hb'=>?_⟩
     by_cases e:j'=k
     ·subst e; exact absurd hr' hread
     ·exact e4 j' (by omega) hr' hb'
theorem maxAge_le:∀ (l:List V.BI) (t T:Int),t≤T→(∀ b∈l,b.age≤T)→t≤maxAge t l∧maxAge t l≤T∧∀ b∈l,b.age≤maxAge t l
 | [],t,T,h,_=>⟨Int.le_refl _,h,fun b hb=>by simp at hb⟩
 | a::l,t,T,h,hl=>by
   have ha:=hl a (by simp)
   have e:maxAge t (a::l)=maxAge (if t < a.age then a.age else t) l:=rfl
   obtain ⟨t',ht,ht1,ht2,ht3⟩:∃ t',(if t < a.age then a.age else t)=t'∧t≤t'∧a.age≤t'∧t'≤T:=⟨_,rfl,by split <;> omega,by split <;> omega,by split <;> omega⟩
   rw [e,ht]
   obtain ⟨h1,h2,h3⟩:=maxAge_le l t' T ht3 (fun b hb=>hl b (by simp [hb]))
   refine ⟨by omega,h2,fun b hb=>?_⟩
   rcases List.mem_cons.1 hb with rfl | hb
   ·omega
   ·exact h3 b hb
structure SameV (v v':DV):Prop where
 es:v'.es=v.es
 len:v'.bs.length=v.bs.length
 band:∀ (c:Nat) (hc:c < v.bs.length) (hc':c < v'.bs.length),v'.bs[c].used=v.bs[c].used∧v'.bs[c].live=v.bs[c].live∧v'.bs[c].age=v.bs[c].age
 time:v'.time≤v.time
 failed:v'.failed=0
theorem open_same (h:CInv g n v M) {ss:List (Option (List Int))} {v':DV} (hl:ss.length=nSec g) (hs:∀ i,i < nSec g→ss.getD i none=secO g M i) (hu:∀ k xs,ss.getD k none=some xs→U8s xs) (ho:OpenV g n ss v'):SameV v v'∧CInv g n v' M:=by
 have hn1:1≤n∧n≤65536:=by have:=h.es; have:=h.ok.e0; have:=h.ok.e1; omega
 have hok:=openV_vok h.ok.gv hn1 hl hu ho
 have hz1:=h.ok.bz1
 obtain ⟨z,hz⟩:∃ z:Nat,bz g=(z:Int):=⟨(bz g).toNat,by omega⟩
 have hzt:(bz g).toNat=z:=by omega
 have hln:nSec g=v.bs.length * z:=by
  unfold nSec; rw [hz,← h.ok.len,← Int.natCast_mul]; exact Int.toNat_natCast _
 rw [hln] at hs hl
 have hI:=scanK_same h hz hs hu ss.length (by omega)
 have hmok:=scanK_mok g z n ss ss.length
 have hFk:=scanK_f g z n ss (by omega) ss.length (by have:=h.ok.len; rw [show g.bands.toNat=v.bs.length by omega]; omega)
 obtain ⟨L,L0,hf,hp,hv'⟩:=ho
 rw [hzt] at hf hv'
 have hcL:=hf.len hmok
 have hbl:∀ c∈L,0≤c.x.blk∧c.x.blk < n:=fun c hc=>⟨(hcL c hc).2.1,(hcL c hc).2.2.1⟩
 generalize hS:scanK g z n ss ss.length=s at *
 rw [hl] at hI
 have hreach:∀ c:Nat,c < v.bs.length→reach z ((v.bs.length * z:Nat):Int) c=z:=fun c hc=>by
  have:((c:Int)+1) * (z:Int)≤(v.bs.length:Int) * z:=Int.mul_le_mul_of_nonneg_right (by omega) (by omega)
  rw [Int.add_mul] at this
  unfold reach
  rw [Int.natCast_mul]
  omega
 have hband:∀ (c:Nat) (hc:c < v.bs.length),(V.at_ s.bs (c:Int)).used=v.bs[c].used∧(V.at_ s.bs (c:Int)).age=v.bs[c].age:=fun c hc=>by
  have:=hI.band c hc
  rw [hreach c hc] at this
  have hev:=h.ok.each hc
  exact ⟨by omega,this.2.2.2 (by omega)⟩
 have hidx:∀ (k:Nat) (hk:k < v.bs.length) (i:Int),0≤i→i < bz g→∃ j:Nat,j < v.bs.length * z∧g.random+(j:Int)=adK g k i:=fun k hk i i0 i1=>by
  have h1:((k:Int)+1) * (z:Int)≤(v.bs.length:Int) * z:=Int.mul_le_mul_of_nonneg_right (by omega) (by omega)
  rw [Int.add_mul] at h1
  have h2:0≤(k:Int) * (z:Int):=Int.mul_nonneg (by omega) (by omega)
  refine ⟨((k:Int) * z+i).toNat,?_,by unfold adK; rw [hz]; omega⟩
  rw [← Int.ofNat_lt,Int.natCast_mul]; omega
 have hplace:∀ j:Nat,j < v.bs.length * z→readE M (g.random+(j:Int))=0→∃ (k:Nat) (hk:k < v.bs.length) (i:Int),0≤i∧i < v.bs[k].used∧g.random+(j:Int)=adK g k i:=fun j hj hr=>by
  have hkz:j / z < v.bs.length:=by rw [Nat.div_lt_iff_lt_mul (by omega)]; exact hj
  have hm:=Nat.mod_lt j (show 0 < z by omega)
  have hdm:j / z * z+j % z=j:=by rw [Nat.mul_comm]; exact Nat.div_add_mod j z
  have hdI:((j / z:Nat):Int) * (z:Int)+((j % z:Nat):Int)=(j:Int):=by rw [← Int.natCast_mul,← Int.natCast_add,hdm]
  have ha:g.random+(j:Int)=adK g (j / z) ((j % z:Nat):Int):=by unfold adK; rw [hz]; omega
  refine ⟨j / z,hkz,((j % z:Nat):Int),by omega,?_,ha⟩
  rcases Int.lt_or_le ((j % z:Nat):Int) v.bs[j / z].used with h1 | h1
  ·exact h1
  ·rw [ha] at hr
   exact absurd hr (h.no _ hkz _ h1 (by omega))
 have hes:(entAll n L)=v.es:=by
  apply List.ext_getElem?
  intro b
  by_cases hb:b < n
  ·have hbv:b < v.es.length:=by rw [h.es]; exact hb
   have hbe:b < (entAll n L).length:=by rw [entAll_len]; exact hb
   have he:=List.getElem?_eq_getElem hbv
   have he':=List.getElem?_eq_getElem hbe
   generalize v.es[b]=e at he
   generalize (entAll n L)[b]=e' at he'
   rw [he,he']
   congr 1
   rcases entAll_at hbl hf.nd he' with ⟨rfl,hno⟩ | ⟨c,hc,hcb,rfl⟩
   ·have hm:s.m (b:Int)=none:=by
     cases hm:s.m (b:Int) with
     | none=>rfl
     | some c=>
       have hcb:=(hmok.at_ _ c hm).1
       exact absurd hcb (hno c ((hf.mem c).2 ⟨by rw [hcb]; exact hm,rfl⟩))
    rcases Int.lt_or_le e.adr 0 with h0 | h0
    ·exact (h.nil b e he h0).symm
    ·obtain ⟨k,hk,i,ea,i0,i1⟩:=h.at_ he h0
     have hev:=h.ok.each hk
     obtain ⟨j,hj,hja⟩:=hidx k hk i i0 (by omega)
     have hrd:readE M (g.random+(j:Int))=0:=by rw [hja]; exact (h.yes k hk i i0 i1).1
     refine absurd ?_ (hI.en0 _ hm j hj hrd)
     rw [hja,← ea]; exact (h.new b e he h0).1
   ·have hm:=((hf.mem c).1 hc).1
    rw [hcb] at hm
    obtain ⟨_,⟨j,hj,hrd,rfl⟩,hmax⟩:=hI.en1 _ c hm
    obtain ⟨k,hk,i,i0,i1,ha⟩:=hplace j hj hrd
    have hblk:(sX M (adK g k i)).blk=(b:Int):=by rw [← ha]; exact hcb
    obtain ⟨o0,o1⟩:=h.old k hk i i0 i1 b e he hblk
    obtain ⟨n1,n2,n3⟩:=h.new b e he o0
    rcases o1 with o1 | o1
    ·have e1:(cAt g M j).adr=e.adr:=by show g.random+(j:Int)=_; rw [ha]; exact o1
     have e2:(cAt g M j).x=sX M e.adr:=by show sX M (g.random+(j:Int))=_; rw [ha,o1]
     unfold neOf
     rw [e1,e2,n2,n3]
    ·obtain ⟨k2,hk2,i2,ea2,j0,j1⟩:=h.at_ he o0
     have hev:=h.ok.each hk2
     obtain ⟨j2,hj2,hja2⟩:=hidx k2 hk2 i2 j0 (by omega)
     have hrd2:readE M (g.random+(j2:Int))=0:=by rw [hja2]; exact (h.yes k2 hk2 i2 j0 j1).1
     have hnn:=hmax j2 hj2 hrd2 (by rw [hja2,← ea2]; exact n1)
     unfold newerB cAt at hnn
     simp only at hnn
     rw [hja2,← ea2,n3] at hnn
     rw [← ha] at o1
     unfold LexLt at o1
     simp only [Bool.or_eq_false_iff,Bool.and_eq_false_iff,decide_eq_false_iff_not] at hnn
     omega
  ·rw [List.getElem?_eq_none (by rw [entAll_len]; omega),List.getElem?_eq_none (by rw [h.es]; omega)]
 have hj0:∀ c∈L0,0≤Int.tdiv (c.adr - g.random) z∧Int.tdiv (c.adr - g.random) z < s.bs.length:=by
  intro c hc
  have hm:=((hf.mem c).1 (hp.mem_iff.2 hc)).1
  obtain ⟨_,⟨j,hj,_,rfl⟩,_⟩:=hI.en1 _ c hm
  have e:Int.tdiv ((cAt g M j).adr - g.random) z=((j / z:Nat):Int):=by
   show Int.tdiv (g.random+(j:Int) - g.random) z=_
   rw [show g.random+(j:Int) - g.random=j by omega,Int.tdiv_eq_ediv_of_nonneg (by omega)]; rfl
  rw [e,hI.len]
  have:j / z < v.bs.length:=by rw [Nat.div_lt_iff_lt_mul (by omega)]; exact hj
  exact ⟨Int.natCast_nonneg _,Int.ofNat_lt.2 this⟩
 have hla:=fun k=>liveAll_at (g:=g) (z:=z) k L0 s.bs hj0
 have hll:=liveAll_len g z L0 s.bs
 rw [hz] at hv'
 have e1:v'.es=v.es:=by rw [hv']; exact hes
 have e2:v'.bs=liveAll g z s.bs L0:=by rw [hv']
 have e3:v'.time=maxAge 0 (liveAll g z s.bs L0):=by rw [hv']
 have e4:v'.failed=0:=by rw [hv']
 have hlen:v'.bs.length=v.bs.length:=by rw [e2,hll,hI.len]
 have hb2:∀ (c:Nat) (hc:c < v.bs.length) (hc':c < v'.bs.length),v'.bs[c].used=v.bs[c].used∧v'.bs[c].live=v.bs[c].live∧v'.bs[c].age=v.bs[c].age:=fun c hc hc'=>by
  have h1:=hok.live c hc'
  have h2:=h.ok.live c hc
  rw [e1] at h1
  have h3:v'.bs[c]=V.at_ (liveAll g z s.bs L0) (c:Int):=by rw [← e2]; exact (V.at_nat hc').symm
  obtain ⟨_,a2,a3,_⟩:=hla c
  obtain ⟨b1,b2⟩:=hband c hc
  exact ⟨by rw [h3,a2,b1],by rw [h1,h2],by rw [h3,a3,b2]⟩
 have hages:∀ b∈liveAll g z s.bs L0,b.age≤v.time:=fun b hb=>by
  rw [← e2] at hb
  obtain ⟨c,hc,rfl⟩:=List.getElem_of_mem hb
  rw [(hb2 c (by omega) hc).2.2]
  exact h.tm c (by omega)
 obtain ⟨m0,m1,m2⟩:=maxAge_le _ 0 v.time h.ok.time.1 hages
 rw [← e3] at m0 m1 m2
 refine ⟨⟨e1,hlen,hb2,m1,e4⟩,hok,h.fit,by rw [e1]; exact h.es,fun b e he=>by rw [e1] at he; exact h.nil b e he,?_,?_,?_,?_,?_,?_⟩
 ·intro k hk i i0 i1
  obtain ⟨u1,_,u3⟩:=hb2 k (by omega) hk
  rw [u1] at i1
  rw [u1,u3]
  exact h.yes k (by omega) i i0 i1
 ·intro k hk i i0 i1
  obtain ⟨u1,_,u3⟩:=hb2 k (by omega) hk
  rw [u1] at i0
  exact h.no k (by omega) i i0 i1
 ·intro k hk hu0
  obtain ⟨u1,_,u3⟩:=hb2 k (by omega) hk
  rw [u1] at hu0
  rw [u3]; exact h.age0 k (by omega) hu0
 ·intro k hk
  exact m2 _ (by rw [← e2]; exact List.getElem_mem hk)
 ·intro b e he
  rw [e1] at he
  exact h.new b e he
 ·intro k hk i i0 i1 b e he
  obtain ⟨u1,_,u3⟩:=hb2 k (by omega) hk
  rw [u1] at i1
  rw [e1] at he
  exact h.old k (by omega) i i0 i1 b e he
end
end Go.Proofs.YtggkengmlkhdiaaGreat
namespace Go.Proofs.YtggkengmlkhdiaaGreat
set_option linter.unusedVariables false
section
variable {g:Geo} {F:List Flt} {key:Int} {S:ST}
structure KeepV (g:Geo) (S U:ST):Prop where
 ok:VOk g U.v
 es:U.v.es.length=S.v.es.length
 len:U.v.bs.length=S.v.bs.length
theorem KeepV.refl (h:VOk g S.v):KeepV g S S:=⟨h,rfl,rfl⟩
theorem KeepV.trans {T U:ST} (h:KeepV g S T) (k:KeepV g T U):KeepV g S U:=⟨k.ok,k.es.trans h.es,k.len.trans h.len⟩
theorem failV_es (v:DV) (er:Int):(v.fail er).es=v.es∧(v.fail er).bs=v.bs:=by unfold DV.fail; split <;> exact ⟨rfl,rfl⟩
theorem flushS_keep (h:VOk g S.v):KeepV g S (flushS g F key S).1:=by
 unfold flushS
 exact ⟨h.fail _,by simp only [(failV_es _ _).1],by simp only [(failV_es _ _).2]⟩
theorem eraseS_keep {k:Int} (h:VOk g S.v):KeepV g S (eraseS g F key k S).1:=by
 unfold eraseS
 exact ⟨h.fail _,by simp only [(failV_es _ _).1],by simp only [(failV_es _ _).2]⟩
theorem cleanR_keep {k:Nat} {r:ST × Int × Int} (h:VOk g S.v) (hk:k < S.v.bs.length) (hc:CleanR g F key k S r):KeepV g S r.1:=by
 obtain ⟨U,m,er⟩:=r
 by_cases h0:er=0
 ·subst h0
  have:=(clean_told h hk hc).1
  exact ⟨this.ok,this.es,this.len⟩
 ·obtain ⟨l,hl,e⟩:=hc
  have hlt:∀ b∈l,b < S.v.es.length:=fun b hb=>by
   have:=hl.perm.mem_iff.1 hb
   unfold blocksIn at this
   exact List.mem_range.1 (List.mem_filter.1 this).1
  obtain ⟨m1,m2,m3⟩:=mvK_vok (F:=F) (key:=key) h hk hlt l.length (Nat.le_refl _)
  rw [clean_at rfl] at e
  generalize mvK g F key k l S l.length=M at *
  split at e
  ·unfold wipeS at e
   have hf:=flushS_keep (F:=F) (key:=key) (S:=M.1) m1
   have hE:=eraseS_keep (F:=F) (key:=key) (k:=(k:Int)) hf.ok
   generalize eraseS g F key k (flushS g F key M.1).1=E at *
   generalize flushS g F key M.1=L at *
   split at e
   ·split at e
    ·injection e with e1 e2; injection e2 with e2 e3; exact absurd e3 h0
    ·injection e with e1 e2; rw [e1]; exact (KeepV.trans ⟨m1,m2,m3⟩ hf).trans hE
   ·injection e with e1 e2; rw [e1]; exact KeepV.trans ⟨m1,m2,m3⟩ hf
  ·have e1:U=M.1:=congrArg Prod.fst e
   show KeepV g S U
   rw [e1]; exact ⟨m1,m2,m3⟩
theorem cleans_keep {T:ST} (h:VOk g S.v) (hc:Cleans g F key S T):KeepV g S T:=by
 have:=cleans_told h hc
 exact ⟨this.ok,this.es,this.len⟩
theorem flushR_keep (h:VOk g S.v):KeepV g S (flushR g F key S).1:=by
 unfold flushR; split
 ·exact flushS_keep h
 ·exact KeepV.refl h
theorem cleanMR_keep {r:ST × Int × Int} (h:VOk g S.v) (hc:CleanMR g F key S r):KeepV g S r.1:=by
 unfold CleanMR at hc
 split at hc
 ·split at hc
  ·rename_i _ h0
   obtain ⟨k,hk,hV⟩:=victim_told h h0
   rw [hk] at hc
   exact cleanR_keep h hV.hk hc
  ·rw [hc]; exact KeepV.refl h
 ·rw [hc]; exact KeepV.refl h
theorem putR_keep {x:Ent} {r:ST × Int} (h:VOk g S.v) (hxv:V.U64 x.ver) (hb:0≤x.blk) (hbl:x.blk < S.v.es.length) (hc:PutR g F key S x r):KeepV g S r.1:=by
 obtain ⟨T,hT,hc⟩:=hc
 have hk:=cleans_keep h hT
 have hl:=hk.ok.len64
 rcases hc with ⟨_,e⟩ | ⟨_,_,e⟩ | ⟨_,h0,U,m,er,hr,_,e⟩
 ·have:=app_ok (F:=F) (key:=key) (x:=x) (except:=-1) hk.ok hxv hb (by rw [hk.es]; exact hbl) (by omega)
  rw [e]; exact hk.trans ⟨this.1,this.2.1,this.2.2⟩
 ·rw [e]; exact hk
 ·obtain ⟨k,hk2,hV⟩:=victim_told hk.ok h0
  rw [hk2] at hr
  rw [e]; exact hk.trans (cleanR_keep hk.ok hV.hk hr)
theorem writeR_keep {x:Ent} {r:ST × Int} (h:VOk g S.v) (hxv:V.U64 x.ver) (hc:WriteR g F key S x r):KeepV g S r.1:=by
 unfold WriteR at hc
 split at hc
 ·rename_i h0
  unfold preE at h0
  by_cases hf:S.v.failed=0
  ·rw [if_pos hf] at h0
   by_cases hb:0≤x.blk∧x.blk < S.v.es.length
   ·exact putR_keep h hxv hb.1 hb.2 hc
   ·rw [if_neg hb] at h0; exact absurd h0 (by decide)
  ·rw [if_neg hf] at h0; exact absurd h0 hf
 ·rw [hc]; exact KeepV.refl h
theorem readS20_keep {b:Int} (h:VOk g S.v):KeepV g S (readS20 g F key S b):=by
 unfold readS20
 split
 ·split
  ·exact ⟨h,rfl,rfl⟩
  ·exact ⟨h.fail _,by simp only [(failV_es _ _).1],by simp only [(failV_es _ _).2]⟩
 ·exact KeepV.refl h
end
end Go.Proofs.YtggkengmlkhdiaaGreat
namespace Go.Proofs.YtggkengmlkhdiaaGreat
set_option linter.unusedVariables false
section
variable {g:Geo} {F:List Flt} {key:Int} {S:ST}
theorem flushS_len:(flushS g F key S).1.d.O.length≤S.d.O.length+1:=tryD_one_len (fOne_idle g F key) (fOne_len g F key) S.d
theorem eraseS_len {k:Int}:(eraseS g F key k S).1.d.O.length≤S.d.O.length+1:=tryD_one_len (eOne_idle g F key k) (eOne_len g F key k) S.d
theorem cleanR_len {k:Nat} {r:ST × Int × Int} (h:VOk g S.v) (hk:k < S.v.bs.length) (hc:CleanR g F key k S r):r.1.d.O.length≤S.d.O.length+((bz g).toNat+2):=by
 obtain ⟨l,hl,rfl⟩:=hc
 have hso:=(hl.ok h).len hk
 have hz:=h.bz1
 have hev:=h.each hk
 have hm:=mvK_len g F key k l S l.length
 rw [clean_at rfl]
 generalize mvK g F key k l S l.length=M at *
 split
 ·unfold wipeS
  have h1:=flushS_len (g:=g) (F:=F) (key:=key) (S:=M.1)
  have h2:=eraseS_len (g:=g) (F:=F) (key:=key) (k:=(k:Int)) (S:=(flushS g F key M.1).1)
  generalize eraseS g F key k (flushS g F key M.1).1=E at *
  generalize flushS g F key M.1=L at *
  split
  ·split
   ·simp only; omega
   ·simp only; omega
  ·simp only; omega
 ·omega
theorem cleanMR_len {r:ST × Int × Int} (h:VOk g S.v) (hc:CleanMR g F key S r):r.1.d.O.length≤S.d.O.length+((bz g).toNat+2):=by
 unfold CleanMR at hc
 split at hc
 ·split at hc
  ·rename_i _ h0
   obtain ⟨k,hk,hV⟩:=victim_told h h0
   rw [hk] at hc
   exact cleanR_len h hV.hk hc
  ·rw [hc]; simp only; omega
 ·rw [hc]; simp only; omega
theorem putR_len {x:Ent} {r:ST × Int} (h:VOk g S.v) (hc:PutR g F key S x r):r.1.d.O.length≤S.d.O.length+((bz g).toNat+3):=by
 obtain ⟨T,hT,hc⟩:=hc
 have hr:=cleans_told h hT
 have h1:=hr.O1
 rcases hc with ⟨_,e⟩ | ⟨_,_,e⟩ | ⟨_,h0,U,m,er,hcl,_,e⟩
 ·have:=appN_len (g:=g) (F:=F) (key:=key) (S:=T) (x:=x) (except:=-1)
  rw [e]; omega
 ·rw [e]; simp only; omega
 ·obtain ⟨k,hk2,hV⟩:=victim_told hr.ok h0
  rw [hk2] at hcl
  have:=cleanR_len hr.ok hV.hk hcl
  rw [e]; simp only at this ⊢; omega
theorem writeR_len {x:Ent} {r:ST × Int} (h:VOk g S.v) (hc:WriteR g F key S x r):r.1.d.O.length≤S.d.O.length+((bz g).toNat+3):=by
 unfold WriteR at hc
 split at hc
 ·exact putR_len h hc
 ·rw [hc]; simp only; omega
theorem flushR_len:(flushR g F key S).1.d.O.length≤S.d.O.length+1:=by
 unfold flushR; split
 ·exact flushS_len
 ·simp only; omega
theorem readS20_len {b:Int}:(readS20 g F key S b).d.O.length≤S.d.O.length:=by
 unfold readS20; split
 ·simp only; rw [rdX_r.2]; exact Nat.le_refl _
 ·exact Nat.le_refl _
theorem putR_u8 {x:Ent} {r:ST × Int} (hu:S.d.U8) (hx:U8s x.dt) (hc:PutR g F key S x r):r.1.d.U8:=by
 obtain ⟨T,hT,hc⟩:=hc
 have h1:=cleans_u8 hu hT
 rcases hc with ⟨_,e⟩ | ⟨_,_,e⟩ | ⟨_,_,U,m,er,hcl,_,e⟩
 ·rw [e]; exact appN_u8 h1 hx
 ·rw [e]; exact h1
 ·rw [e]; exact cleanR_u8 h1 hcl
theorem writeR_u8 {x:Ent} {r:ST × Int} (hu:S.d.U8) (hx:U8s x.dt) (hc:WriteR g F key S x r):r.1.d.U8:=by
 unfold WriteR at hc
 split at hc
 ·exact putR_u8 hu hx hc
 ·rw [hc]; exact hu
theorem cleanMR_u8 {r:ST × Int × Int} (hu:S.d.U8) (hc:CleanMR g F key S r):r.1.d.U8:=by
 unfold CleanMR at hc
 split at hc
 ·split at hc
  ·exact cleanR_u8 hu hc
  ·rw [hc]; exact hu
 ·rw [hc]; exact hu
theorem flushR_u8 (hu:S.d.U8):(flushR g F key S).1.d.U8:=by
 unfold flushR; split
 ·exact flushS_u8 hu
 ·exact hu
theorem readS20_u8 {b:Int} (hu:S.d.U8):(readS20 g F key S b).d.U8:=by
 unfold readS20; split
 ·exact (rdX_u8 hu).2
 ·exact hu
end
theorem rdS20_bytes {g:Geo} {F:List Flt} {key:Int} {d:DC} (hu:d.U8) (m:Nat):∀ k xs,(rdS20 g F key d m).2.1.getD k none=some xs→U8s xs:=fun k xs h=>by
 have hg:GoodD U8s d:=⟨⟨hu.1⟩,hu.2⟩
 have h2:=(rdS20_good (g:=g) (F:=F) (key:=key) U8s.nil hg m).2
 refine h2 (some xs) ?_ xs rfl
 unfold List.getD at h
 cases e:(rdS20 g F key d m).2.1[k]? with
 | none=>rw [e] at h; cases h
 | some o=>rw [e] at h; simp only [Option.getD_some] at h; subst h; exact List.mem_of_getElem? e
structure Wr where
 ver:Int
 dt:List Int
 trim:Bool
structure RG where
 S:ST
 hist:List (List Wr)
 fl:List Int
 next:Int
def dataW (x n:Int):List Int:=[x,n % 256,0,0,0,0,0,0]
def wWr (x n:Int):Wr:=⟨n,dataW x n,false⟩
def tWr (n:Int):Wr:=⟨n,zeros8,true⟩
def wEnt (b:Int) (x n:Int):Ent:=⟨1,b,n,dataW x n⟩
def tEnt (b n:Int):Ent:=⟨2,b,n,zeros8⟩
def addH (h:List (List Wr)) (b:Nat) (w:Wr):List (List Wr):=h.set b (h.getD b []++[w])
theorem addH_len (h:List (List Wr)) (b:Nat) (w:Wr):(addH h b w).length=h.length:=by simp [addH]
def lensH (h:List (List Wr)):List Int:=h.map fun l=>(l.length:Int)
structure Act20 where
 kind:Int
 blk:Int
 data:Int
def ActR (g:Geo) (F:List Flt) (n:Nat) (a:Act20) (R R':RG) (er:Int):Prop:=
 if 0≤a.blk∧a.blk < n then
  (a.kind=0∧∃ S',WriteR g F 0 R.S (wEnt a.blk a.data (R.next+1)) (S',er)∧R'=⟨S',addH R.hist a.blk.toNat (wWr a.data (R.next+1)),R.fl,R.next+1⟩)∨
  (a.kind=1∧∃ S',WriteR g F 0 R.S (tEnt a.blk (R.next+1)) (S',er)∧R'=⟨S',addH R.hist a.blk.toNat (tWr (R.next+1)),R.fl,R.next+1⟩)∨
  (a.kind=2∧∃ S' m e,CleanMR g F 0 R.S (S',m,e)∧er=(if e=9 then 0 else e)∧R'={ R with S:=S' })∨
  (a.kind=3∧er=(flushR g F 0 R.S).2∧R'={ R with S:=(flushR g F 0 R.S).1,fl:=if (flushR g F 0 R.S).2=0 then lensH R.hist else R.fl })∨
  (4≤a.kind∧er=(rdS20 g F 0 R.S.d (nSec g)).2.2∧
    ((er=0∧∃ v,OpenV g n (rdS20 g F 0 R.S.d (nSec g)).2.1 v∧R'={ R with S:=⟨v,(rdS20 g F 0 R.S.d (nSec g)).1⟩ })∨
     (er≠0∧R'={ R with S:=⟨R.S.v,(rdS20 g F 0 R.S.d (nSec g)).1⟩ })))
 else R'=R∧er=0
def inH (h:List (List Wr)) (x:Ent):Prop:=∃ w∈h.getD x.blk.toNat [],w.ver=x.ver∧((x.kind=1∧w.trim=false∧w.dt=x.dt)∨x.kind=2)
structure HonK (g:Geo) (n:Nat) (c:Nat) (R:RG):Prop where
 ok:VOk g R.S.v
 u8:R.S.d.U8
 es:R.S.v.es.length=n
 hl:R.hist.length=n
 fl:R.fl.length=n
 nx:0≤R.next∧R.next≤c
 O:R.S.d.O.length≤((bz g).toNat+3) * c
 hn:∀ l∈R.hist,l.length≤c
structure HonI (g:Geo) (n:Nat) (c:Nat) (R:RG):Prop where
 k:HonK g n c R
 good:GoodD (HG (inH R.hist)) R.S.d
theorem u8w (n:Int):0≤n % 256∧n % 256 < 256:=by omega
theorem dataW_u8 {x:Int} (n:Int) (hx:0≤x∧x < 256):U8s (dataW x n):=by
 intro y hy
 have:=u8w n
 simp only [dataW,List.mem_cons,List.not_mem_nil,or_false] at hy
 rcases hy with rfl | rfl | rfl | rfl | rfl | rfl | rfl | rfl <;> omega
theorem zeros8_u8:U8s zeros8:=by
 intro y hy
 simp only [zeros8,List.mem_cons,List.not_mem_nil,or_false] at hy
 rcases hy with rfl | rfl | rfl | rfl | rfl | rfl | rfl | rfl <;> omega
theorem addH_lens {h:List (List Wr)} {b c:Nat} {w:Wr} (hh:∀ l∈h,l.length≤c):∀ l∈addH h b w,l.length≤c+1:=by
 intro l hl
 unfold addH at hl
 rcases List.mem_or_eq_of_mem_set hl with h1 | rfl
 ·have:=hh l h1; omega
 ·rw [List.length_append]
  have:(h.getD b []).length≤c:=by
   unfold List.getD
   cases e:h[b]? with
   | none=>simp
   | some l=>exact hh l (List.mem_of_getElem? e)
  rw [List.length_singleton]; omega
theorem act_honK {g:Geo} {F:List Flt} {n c:Nat} {a:Act20} {R R':RG} {er:Int} (hn:1≤n∧n≤65536) (hd:0≤a.data∧a.data < 256) (hc:c≤1000) (h:HonK g n c R) (hr:ActR g F n a R R' er):HonK g n (c+1) R':=by
 have hnx:=h.nx
 have hO:=h.O
 have hhn:=h.hn
 have hms:((bz g).toNat+3) * (c+1)=((bz g).toNat+3) * c+((bz g).toNat+3):=Nat.mul_succ _ _
 generalize hKK:((bz g).toNat+3) * c=KK at *
 unfold ActR at hr
 split at hr
 ·rename_i hb
  obtain ⟨b,hbe⟩:=Int.eq_ofNat_of_zero_le hb.1
  have hbn:b < R.hist.length:=by have:=h.hl; omega
  have hbt:a.blk.toNat=b:=by omega
  rcases hr with ⟨_,S',hw,rfl⟩ | ⟨_,S',hw,rfl⟩ | ⟨_,S',m,e,hw,_,rfl⟩ | ⟨_,_,rfl⟩ | ⟨_,rfl,hr⟩
  ·have hxo:(wEnt a.blk a.data (R.next+1)).Ok:=⟨by show 0≤R.next+1; omega,by show R.next+1≤_; omega,rfl,dataW_u8 _ hd⟩
   have hk:=writeR_keep h.ok ⟨by show 0≤R.next+1; omega,by show R.next+1≤_; omega⟩ hw
   have hl:=writeR_len h.ok hw
   refine ⟨hk.ok,writeR_u8 h.u8 (dataW_u8 _ hd) hw,hk.es.trans h.es,(addH_len _ _ _).trans h.hl,h.fl,by simp only; omega,by simp only at hl ⊢; omega,addH_lens hhn⟩
  ·have hxo:(tEnt a.blk (R.next+1)).Ok:=⟨by show 0≤R.next+1; omega,by show R.next+1≤_; omega,rfl,zeros8_u8⟩
   have hk:=writeR_keep h.ok ⟨by show 0≤R.next+1; omega,by show R.next+1≤_; omega⟩ hw
   have hl:=writeR_len h.ok hw
   refine ⟨hk.ok,writeR_u8 h.u8 zeros8_u8 hw,hk.es.trans h.es,(addH_len _ _ _).trans h.hl,h.fl,by simp only; omega,by simp only at hl ⊢; omega,addH_lens hhn⟩
  ·have hk:=cleanMR_keep h.ok hw
   have hl:=cleanMR_len h.ok hw
   exact ⟨hk.ok,cleanMR_u8 h.u8 hw,hk.es.trans h.es,h.hl,h.fl,by simp only; omega,by simp only at hl ⊢; omega,fun l hl=>by have:=hhn l hl; omega⟩
  ·have hk:=flushR_keep (F:=F) (key:=0) h.ok
   have hl:=flushR_len (g:=g) (F:=F) (key:=0) (S:=R.S)
   refine ⟨hk.ok,flushR_u8 h.u8,hk.es.trans h.es,h.hl,?_,by simp only; omega,by simp only; omega,fun l hl=>by have:=hhn l hl; omega⟩
   simp only
   split
   ·simp only [lensH,List.length_map]; exact h.hl
   ·exact h.fl
  ·have hL:=(rdS20_r (g:=g) (F:=F) (key:=0) (d:=R.S.d) (nSec g)).2
   have hU:=rdS20_u8 (g:=g) (F:=F) (key:=0) h.u8 (nSec g)
   rcases hr with ⟨h0,v,hv,rfl⟩ | ⟨_,rfl⟩
   ·have hlen:=rdS20_len (g:=g) (F:=F) (key:=0) (d:=R.S.d) (nSec g) h0
    have hvo:VOk g v:=openV_vok h.ok.gv hn hlen (fun k xs hk=>rdS20_bytes h.u8 (nSec g) k xs hk) hv
    refine ⟨hvo,hU,?_,h.hl,h.fl,by simp only; omega,by simp only; rw [hL]; omega,fun l hl=>by have:=hhn l hl; omega⟩
    obtain ⟨L,L0,_,_,e⟩:=hv.ex
    simp only
    rw [e]; simp only
    exact entAll_len n L
   ·exact ⟨h.ok,hU,h.es,h.hl,h.fl,by simp only; omega,by simp only; rw [hL]; omega,fun l hl=>by have:=hhn l hl; omega⟩
 ·obtain ⟨rfl,_⟩:=hr
  exact ⟨h.ok,h.u8,h.es,h.hl,h.fl,by omega,by omega,fun l hl=>by have:=hhn l hl; omega⟩
end Go.Proofs.YtggkengmlkhdiaaGreat
