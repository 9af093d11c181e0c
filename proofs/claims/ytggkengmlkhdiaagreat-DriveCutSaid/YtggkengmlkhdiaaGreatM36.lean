/-
  WHAT IS SHOWN: plain facts, of no program: what lies on a disk without torn writes was written; what is read was written. plain facts, of no program: what a drive without torn writes has on its disk was written. plain facts, of no program: what Scan finds agrees with its bands. plain facts, of no program: the entries and the live counts of a drive that is opened. plain facts, of no program: the account of a drive that is opened holds. plain facts, of no program: the account of a drive that is opened holds. Conditions: as each theorem names them.
-/
import Derived.Test.YtggkengmlkhdiaaGreatM35
namespace Go.Proofs.YtggkengmlkhdiaaGreat
set_option linter.unusedVariables false
def NoTear (F:List Flt):Prop:=∀ f∈F,f.kind≠2
structure GoodL (G:List Int→Prop) (L:List Sec):Prop where
 each:∀ s∈L,G s.by_
structure GoodD (G:List Int→Prop) (d:DC):Prop where
 l:GoodL G d.L
 o:∀ o∈d.O,G o.xs
section
variable {G:List Int→Prop} {g:Geo} {F:List Flt} {key a:Int} {d:DC} {L:List Sec}
theorem GoodL.set (h:GoodL G L) (i:Nat) (s:Sec) (hs:G s.by_):GoodL G (L.set i s):=by
 refine ⟨fun t ht=>?_⟩
 rcases List.mem_or_eq_of_mem_set ht with h1 | h1
 ·exact h.each t h1
 ·subst h1; exact hs
theorem GoodL.destroy (h0:G []):∀ (ss:List Int) {L:List Sec},GoodL G L→GoodL G (destroy ss L)
 | [],L,h=>h
 | s::ss,L,h=>by unfold Go.Proofs.YtggkengmlkhdiaaGreat.destroy; rw [List.foldl_cons]; exact GoodL.destroy h0 ss (h.set _ goneS h0)
theorem GoodL.erase (h0:G []) (L:List Sec) (f:Nat) (h:GoodL G L):∀ k,GoodL G (eraseTo L f k)
 | 0=>h
 | k+1=>by rw [eraseTo_succ]; exact (GoodL.erase h0 L f h k).set _ blankS h0
theorem GoodL.do_ (h0:G []) (h:GoodL G L) (o:OpV) (ho:G o.xs):GoodL G (doL g L o):=by
 unfold doL; split
 ·unfold eraseL; split
  ·exact GoodL.erase h0 _ _ h _
  ·exact h
 ·unfold writeL; split
  ·exact GoodL.destroy h0 _ (h.set _ _ ho)
  ·exact h
theorem GoodL.play (h0:G []):∀ (l:List OpV) {L:List Sec},GoodL G L→(∀ o∈l,G o.xs)→GoodL G (playL g L l)
 | [],L,h,_=>h
 | o::l,L,h,ho=>by unfold playL; rw [List.foldl_cons]; exact GoodL.play h0 l (h.do_ h0 o (ho o (by simp))) (fun x hx=>ho x (by simp [hx]))
theorem GoodL.read (h0:G []) (h:GoodL G L) (a:Int):G (readB L a):=by
 unfold readB; split
 ·unfold List.getD
  cases e:L[a.toNat]? with
  | none=>exact h0
  | some s=>exact h.each s (List.mem_of_getElem? e)
 ·exact h0
theorem GoodL.blank (h0:G []) (n:Nat):GoodL G (List.replicate n blankS):=by
 refine ⟨fun s hs=>?_⟩; rw [(List.mem_replicate.1 hs).2]; exact h0
theorem rOne_good (h0:G []) (h:GoodD G d):GoodD G (rOne g F key a d).1∧G (rOne g F key a d).2.by_:=by
 refine ⟨⟨h.l,h.o⟩,?_⟩
 unfold rOne dRdB rdB
 simp only
 repeat' split
 all_goals first | exact h0 | exact GoodL.read h0 (GoodL.play h0 _ h.l h.o) _
theorem fOne_good (h0:G []) (h:GoodD G d):GoodD G (fOne g F key d).1:=by
 obtain ⟨h1,h2⟩:=h
 unfold fOne dFlLM dFlO
 simp only
 refine ⟨?_,?_⟩
 ·simp only
  split
  ·exact GoodL.play h0 _ h1 (fun o ho=>h2 o (List.mem_of_mem_take ho))
  ·exact h1
 ·intro o ho
  simp only at ho
  split at ho
  ·simp at ho
  ·exact h2 o ho
theorem eOne_good (h0:G []) (h:GoodD G d):GoodD G (eOne g F key a d).1:=by
 obtain ⟨h1,h2⟩:=h
 refine ⟨h1,?_⟩
 intro o ho
 have e:(eOne g F key a d).1.O=dErO g F d.s d.P d.L d.O key a:=rfl
 rw [e] at ho
 unfold dErO erO at ho
 split at ho
 ·split at ho
  ·rcases List.mem_append.1 ho with ho | ho
   ·exact h2 o ho
   ·simp at ho; subst ho; exact h0
  ·exact h2 o ho
 ·exact h2 o ho
theorem callN_good {f:DC→DC × Ans} (h:∀ d,GoodD G d→GoodD G (f d).1) {d:DC} (hd:GoodD G d):∀ n,GoodD G (callN f d n)
 | 0=>hd
 | n+1=>h _ (callN_good h hd n)
theorem tryD_good {f:DC→DC × Ans} (h:∀ d,GoodD G d→GoodD G (f d).1) {d:DC} (hd:GoodD G d):GoodD G (tryD f d).1:=callN_good h hd _
theorem tryD_goodR (h0:G []) (h:GoodD G d):G (tryD (rOne g F key a) d).2.by_∧GoodD G (tryD (rOne g F key a) d).1:=
 ⟨(rOne_good h0 (callN_good (fun d hd=>(rOne_good h0 hd).1) h _)).2,callN_good (fun d hd=>(rOne_good h0 hd).1) h _⟩
theorem rdS20_good (h0:G []) (h:GoodD G d):∀ k,GoodD G (rdS20 g F key d k).1∧∀ o∈(rdS20 g F key d k).2.1,∀ xs,o=some xs→G xs
 | 0=>⟨h,fun o ho=>by simp [rdS20] at ho⟩
 | k+1=>by
   obtain ⟨ih1,ih2⟩:=rdS20_good h0 h k
   by_cases h1:(rdS20 g F key d k).2.2=0
   ·have hg:=tryD_goodR (g:=g) (F:=F) (key:=key) (a:=g.random+k) h0 ih1
    rcases ht:tryD (rOne g F key (g.random+k)) (rdS20 g F key d k).1 with ⟨d1,⟨er,ys⟩⟩
    rw [ht] at hg
    rw [rdS20_next h1 ht]
    generalize rdS20 g F key d k=r at *
    split
    ·exact ⟨hg.2,fun o ho xs e=>by
      rcases List.mem_append.1 ho with ho | ho
      ·exact ih2 o ho xs e
      ·simp at ho; rw [ho] at e; cases e⟩
    ·split
     ·exact ⟨hg.2,fun o ho xs e=>by
       rcases List.mem_append.1 ho with ho | ho
       ·exact ih2 o ho xs e
       ·simp at ho; rw [ho] at e; injection e with e; rw [← e]; exact hg.1⟩
     ·exact ⟨hg.2,fun o ho=>by simp at ho⟩
   ·have hs:=rdS20_stay h1 1
    rw [hs]; exact ⟨ih1,ih2⟩
end
end Go.Proofs.YtggkengmlkhdiaaGreat
namespace Go.Proofs.YtggkengmlkhdiaaGreat
set_option linter.unusedVariables false
def HG (Hist:Ent→Prop) (ys:List Int):Prop:=decE ys=0→Hist (decX ys)
theorem hg_nil (Hist:Ent→Prop):HG Hist []:=fun h=>absurd h (by decide)
section
variable {Hist:Ent→Prop} {g:Geo} {F:List Flt} {key k:Int} {S:ST}
end
end Go.Proofs.YtggkengmlkhdiaaGreat
namespace Go.Proofs.YtggkengmlkhdiaaGreat
set_option linter.unusedVariables false
theorem at_setS (l:List V.BI) (i:Nat) (b:V.BI) (j:Nat) (hi:i < l.length):V.at_ (l.set i b) (j:Int)=if j=i then b else V.at_ l (j:Int):=by
 unfold V.at_
 simp only [Int.toNat_natCast]
 by_cases h:j=i
 ·subst h; rw [if_pos rfl,List.getElem?_set_self hi]; rfl
 ·rw [if_neg h,List.getElem?_set_ne (fun e=>h e.symm)]
structure ScF (g:Geo) (z:Nat) (ss:List (Option (List Int))) (k:Nat) (s:SS):Prop where
 band:∀ b:Nat,0≤(V.at_ s.bs (b:Int)).used∧(V.at_ s.bs (b:Int)).used≤z∧((V.at_ s.bs (b:Int)).used=0∨(b:Int) * z+(V.at_ s.bs (b:Int)).used≤k)∧(V.at_ s.bs (b:Int)).live=0∧(V.at_ s.bs (b:Int)).wear=0
 ent:∀ b c,s.m b=some c→∃ j:Nat,j < k∧c.adr=g.random+j∧((j % z:Nat):Int)+1≤(V.at_ s.bs ((j / z:Nat):Int)).used∧∃ xs,ss.getD j none=some xs∧decE xs=0∧c.x=decX xs
theorem use_at {z:Nat} {bs:List V.BI} {k:Nat} (hk:k / z < bs.length) (b:Nat):V.at_ (useB z bs k) (b:Int)=if b=k / z then { V.at_ bs ((k / z:Nat):Int) with used:=((k % z:Nat):Int)+1 } else V.at_ bs (b:Int):=at_setS _ _ _ _ hk
theorem age_at {z:Nat} {bs:List V.BI} {k:Nat} {t:Int} (hk:k / z < bs.length) (b:Nat):V.at_ (ageB z bs k t) (b:Int)=if b=k / z then { V.at_ bs ((k / z:Nat):Int) with age:=if (V.at_ bs ((k / z:Nat):Int)).age < t then t else (V.at_ bs ((k / z:Nat):Int)).age } else V.at_ bs (b:Int):=at_setS _ _ _ _ hk
theorem age_same {z:Nat} {bs:List V.BI} {k:Nat} {t:Int} (hk:k / z < bs.length) (b:Nat):(V.at_ (ageB z bs k t) (b:Int)).used=(V.at_ bs (b:Int)).used∧(V.at_ (ageB z bs k t) (b:Int)).live=(V.at_ bs (b:Int)).live∧(V.at_ (ageB z bs k t) (b:Int)).wear=(V.at_ bs (b:Int)).wear:=by
 rw [age_at hk]
 split
 ·rename_i e; subst e; exact ⟨rfl,rfl,rfl⟩
 ·exact ⟨rfl,rfl,rfl⟩
theorem ScF.use {g:Geo} {z:Nat} {ss:List (Option (List Int))} {k:Nat} {s:SS} (h:ScF g z ss k s) (hz:1≤z) (hk:k / z < s.bs.length):ScF g z ss (k+1) ⟨useB z s.bs k,s.m⟩:=by
 have hdm:k / z * z+k % z=k:=by rw [Nat.mul_comm]; exact Nat.div_add_mod k z
 have hm:=Nat.mod_lt k (show 0 < z by omega)
 have hdI:((k / z:Nat):Int) * (z:Int)+((k % z:Nat):Int)=(k:Int):=by rw [← Int.natCast_mul,← Int.natCast_add,hdm]
 refine ⟨fun b=>?_,fun b c hc=>?_⟩
 ·simp only
  rw [use_at hk]
  obtain ⟨h1,h2,h3,h4,h5⟩:=h.band b
  split
  ·rename_i e
   subst e
   refine ⟨by simp only; omega,by simp only; omega,.inr (by simp only; omega),h4,h5⟩
  ·exact ⟨h1,h2,h3.imp id (fun h=>by omega),h4,h5⟩
 ·obtain ⟨j,hj,ha,hu,hx⟩:=h.ent b c hc
  refine ⟨j,by omega,ha,?_,hx⟩
  simp only
  rw [use_at hk]
  split
  ·rename_i e
   simp only
   have hj2:j / z * z+j % z=j:=by rw [Nat.mul_comm]; exact Nat.div_add_mod j z
   rw [e] at hj2
   omega
  ·exact hu
theorem ScF.age {g:Geo} {z:Nat} {ss:List (Option (List Int))} {k i:Nat} {s:SS} {t:Int} (h:ScF g z ss k s) (hk:i / z < s.bs.length):ScF g z ss k ⟨ageB z s.bs i t,s.m⟩:=by
 refine ⟨fun b=>?_,fun b c hc=>?_⟩
 ·obtain ⟨e1,e2,e3⟩:=age_same (t:=t) hk b
  simp only; rw [e1,e2,e3]; exact h.band b
 ·obtain ⟨j,hj,ha,hu,hx⟩:=h.ent b c hc
  refine ⟨j,hj,ha,?_,hx⟩
  simp only; rw [(age_same (t:=t) hk (j / z)).1]; exact hu
theorem scanK_f (g:Geo) (z:Nat) (n:Int) (ss:List (Option (List Int))) (hz:1≤z):∀ k,k≤g.bands.toNat * z→ScF g z ss k (scanK g z n ss k)
 | 0,_=>by
   refine ⟨fun b=>?_,fun b c h=>by simp [scanK] at h⟩
   have:V.at_ (scanK g z n ss 0).bs (b:Int)=⟨0,0,0,0⟩:=by
    unfold scanK V.at_
    simp only [Int.toNat_natCast]
    cases e:(List.replicate g.bands.toNat (⟨0,0,0,0⟩:V.BI))[b]? with
    | none=>rfl
    | some x=>rw [(List.mem_replicate.1 (List.mem_of_getElem? e)).2]; rfl
   rw [this]
   exact ⟨by simp,by simp,.inl rfl,rfl,rfl⟩
 | k+1,hk=>by
   have ih:=scanK_f g z n ss hz k (by omega)
   have hkz:k / z < (scanK g z n ss k).bs.length:=by rw [scanK_len,Nat.div_lt_iff_lt_mul (by omega)]; omega
   unfold scanK scanOne
   generalize hs:scanK g z n ss k=s at *
   cases e:ss.getD k none with
   | none=>
     show ScF g z ss (k+1) s
     exact ⟨fun b=>by obtain ⟨h1,h2,h3,h4,h5⟩:=ih.band b; exact ⟨h1,h2,h3.imp id (fun h=>by omega),h4,h5⟩,fun b c hc=>by obtain ⟨j,hj,hx⟩:=ih.ent b c hc; exact ⟨j,by omega,hx⟩⟩
   | some xs=>
     simp only
     have hu:=ih.use hz hkz
     split
     ·rename_i hd
      have ha:=hu.age (i:=k) (t:=decT xs) (by simp only [useB_len]; exact hkz)
      simp only at ha
      refine ⟨ha.band,fun b c hc=>?_⟩
      simp only at hc
      unfold addM at hc
      have hnew:∀ c,c=(⟨decX xs,g.random+k,decT xs⟩:Cnd)→∃ j:Nat,j < k+1∧c.adr=g.random+j∧((j % z:Nat):Int)+1≤(V.at_ (ageB z (useB z s.bs k) k (decT xs)) ((j / z:Nat):Int)).used∧∃ ys,ss.getD j none=some ys∧decE ys=0∧c.x=decX ys:=by
       rintro c rfl
       refine ⟨k,by omega,rfl,?_,xs,e,hd.1,rfl⟩
       rw [(age_same (t:=decT xs) (by simp only [useB_len]; exact hkz) (k / z)).1,use_at hkz,if_pos rfl]
       exact Int.le_refl _
      split at hc
      ·unfold mput at hc
       split at hc
       ·injection hc with hc
        exact hnew c hc.symm
       ·exact ha.ent b c hc
      ·exact ha.ent b c hc
     ·exact hu
end Go.Proofs.YtggkengmlkhdiaaGreat
namespace Go.Proofs.YtggkengmlkhdiaaGreat
set_option linter.unusedVariables false
def neOf (c:Cnd):NE:=⟨c.x.kind,c.x.ver,c.adr⟩
theorem entFold_no {b:Nat}:∀ (L:List Cnd) (es:List NE),(∀ c∈L,0≤c.x.blk∧c.x.blk≠b)→(L.foldl entSet es)[b]?=es[b]?
 | [],es,_=>rfl
 | c::L,es,h=>by
   rw [List.foldl_cons,entFold_no L _ (fun d hd=>h d (by simp [hd]))]
   have:=h c (by simp)
   unfold entSet
   rw [List.getElem?_set_ne (by omega)]
theorem entFold_at:∀ (L:List Cnd) (es:List NE),(∀ c∈L,0≤c.x.blk∧c.x.blk < es.length)→L.Pairwise (fun a b=>a.x.blk≠b.x.blk)→∀ c∈L,(L.foldl entSet es)[c.x.blk.toNat]?=some (neOf c)
 | [],_,_,_,c,hc=>by simp at hc
 | d::L,es,h,hp,c,hc=>by
   rw [List.foldl_cons]
   rw [List.pairwise_cons] at hp
   rcases List.mem_cons.1 hc with rfl | hc
   ·have h0:=h c (by simp)
    rw [entFold_no L _ (fun e he=>⟨(h e (by simp [he])).1,fun e2=>hp.1 e he (by omega)⟩)]
    unfold entSet
    rw [List.getElem?_set_self (by omega)]; rfl
   ·exact entFold_at L _ (fun e he=>by unfold entSet; rw [List.length_set]; exact h e (by simp [he])) hp.2 c hc
theorem entAll_at {n:Nat} {L:List Cnd} (h:∀ c∈L,0≤c.x.blk∧c.x.blk < n) (hp:L.Pairwise (fun a b=>a.x.blk≠b.x.blk)) {b:Nat} {e:NE} (he:(entAll n L)[b]?=some e):
  (e=noNE∧∀ c∈L,c.x.blk≠b)∨∃ c∈L,c.x.blk=b∧e=neOf c:=by
 by_cases hc:∃ c∈L,c.x.blk=b
 ·obtain ⟨c,hc,hb⟩:=hc
  have h1:=entFold_at L (List.replicate n noNE) (by simpa using h) hp c hc
  unfold entAll at he
  rw [show c.x.blk.toNat=b by omega,he] at h1
  injection h1 with h1
  exact .inr ⟨c,hc,hb,h1⟩
 ·have hno:∀ c∈L,c.x.blk≠b:=fun c hc' e=>hc ⟨c,hc',e⟩
  refine .inl ⟨?_,hno⟩
  unfold entAll at he
  rw [entFold_no L _ (fun c hc'=>⟨(h c hc').1,hno c hc'⟩)] at he
  exact (List.mem_replicate.1 (List.mem_of_getElem? he)).2
theorem entFold_cnt {p:NE→Bool} (h0:p noNE=false):∀ (L:List Cnd) (es:List NE),(∀ c∈L,0≤c.x.blk∧es[c.x.blk.toNat]?=some noNE)→L.Pairwise (fun a b=>a.x.blk≠b.x.blk)→
  (L.foldl entSet es).countP p=es.countP p+L.countP (fun c=>p (neOf c))
 | [],es,_,_=>rfl
 | c::L,es,h,hp=>by
   rw [List.pairwise_cons] at hp
   obtain ⟨hc0,hce⟩:=h c (by simp)
   have hlt:=(List.getElem?_eq_some_iff.1 hce).1
   have hge:=(List.getElem?_eq_some_iff.1 hce).2
   rw [List.foldl_cons,entFold_cnt h0 L _ (fun d hd=>?_) hp.2]
   ·unfold entSet
    rw [List.countP_set hlt,hge,h0,List.countP_cons]
    have e:(⟨c.x.kind,c.x.ver,c.adr⟩:NE)=neOf c:=rfl
    rw [e]
    simp only [Bool.false_eq_true,if_false]
    omega
   ·have hd0:=h d (by simp [hd])
    refine ⟨hd0.1,?_⟩
    unfold entSet
    rw [List.getElem?_set_ne (fun e=>hp.1 d hd (by omega))]
    exact hd0.2
theorem entAll_cnt {p:NE→Bool} (h0:p noNE=false) {n:Nat} {L:List Cnd} (h:∀ c∈L,0≤c.x.blk∧c.x.blk < n) (hp:L.Pairwise (fun a b=>a.x.blk≠b.x.blk)):(entAll n L).countP p=L.countP (fun c=>p (neOf c)):=by
 unfold entAll
 rw [entFold_cnt h0 L _ (fun c hc=>⟨(h c hc).1,by rw [List.getElem?_replicate,if_pos (by have:=h c hc; omega)]⟩) hp]
 have:(List.replicate n noNE).countP p=0:=by rw [List.countP_eq_zero]; intro a ha; rw [(List.mem_replicate.1 ha).2,h0]; decide
 omega
theorem liveAll_at {g:Geo} {z:Int} (k:Nat):∀ (L:List Cnd) (bs:List V.BI),(∀ c∈L,0≤Int.tdiv (c.adr - g.random) z∧Int.tdiv (c.adr - g.random) z < bs.length)→
  (V.at_ (liveAll g z bs L) (k:Int)).live=(V.at_ bs (k:Int)).live+(L.countP (fun c=>decide (Int.tdiv (c.adr - g.random) z=k)):Nat)∧(V.at_ (liveAll g z bs L) (k:Int)).used=(V.at_ bs (k:Int)).used∧(V.at_ (liveAll g z bs L) (k:Int)).age=(V.at_ bs (k:Int)).age∧(V.at_ (liveAll g z bs L) (k:Int)).wear=(V.at_ bs (k:Int)).wear
 | [],bs,_=>⟨by simp [liveAll],rfl,rfl,rfl⟩
 | c::L,bs,h=>by
   have hc:=h c (by simp)
   obtain ⟨h1,h2,h3,h4⟩:=liveAll_at (g:=g) (z:=z) k L (liveAdd g z bs c) (fun d hd=>by rw [liveAdd_len]; exact h d (by simp [hd]))
   have e:liveAll g z bs (c::L)=liveAll g z (liveAdd g z bs c) L:=rfl
   rw [e,h1,h2,h3,h4,List.countP_cons]
   obtain ⟨i,hi⟩:∃ i:Nat,Int.tdiv (c.adr - g.random) z=(i:Int):=⟨_,(Int.toNat_of_nonneg hc.1).symm⟩
   unfold liveAdd
   rw [hi] at hc ⊢
   simp only [Int.toNat_natCast]
   rw [at_setS _ _ _ _ (by omega)]
   by_cases hk:k=i
   ·subst hk
    rw [if_pos rfl]
    simp only [decide_true,if_true]
    exact ⟨by omega,trivial,trivial,trivial⟩
   ·rw [if_neg hk,decide_eq_false (by omega)]
    exact ⟨by simp,rfl,rfl,rfl⟩
end Go.Proofs.YtggkengmlkhdiaaGreat
namespace Go.Proofs.YtggkengmlkhdiaaGreat
set_option linter.unusedVariables false
theorem pig_one {α:Type} (f:α→Nat) (u:Nat):∀ (L:List α),L.Pairwise (fun a b=>f a≠f b)→L.length≤(L.filter (fun c=>decide (f c≠u))).length+1
 | [],_=>by simp
 | a::L,hp=>by
   rw [List.pairwise_cons] at hp
   by_cases ha:f a=u
   ·have h1:L.filter (fun c=>decide (f c≠u))=L:=List.filter_eq_self.2 (fun c hc=>decide_eq_true (fun e=>hp.1 c hc (by omega)))
    rw [List.filter_cons,decide_eq_false (by simpa using ha),h1]; simp
   ·have:=pig_one f u L hp.2
    rw [List.filter_cons,decide_eq_true ha,if_pos rfl,List.length_cons,List.length_cons]; omega
theorem pig {α:Type} (f:α→Nat):∀ (u:Nat) (L:List α),L.Pairwise (fun a b=>f a≠f b)→(∀ c∈L,f c < u)→L.length≤u
 | 0,L,_,h=>by
   cases L with
   | nil=>simp
   | cons a L=>exact absurd (h a (by simp)) (by omega)
 | u+1,L,hp,h=>by
   have h1:=pig f u (L.filter (fun c=>decide (f c≠u))) (hp.filter _) (fun c hc=>by
    rw [List.mem_filter] at hc
    have h2:=h c hc.1
    have h3:=of_decide_eq_true hc.2
    omega)
   have:=pig_one f u L hp
   omega
theorem decT_u64 {xs:List Int} (hu:U8s xs):V.U64 (decT xs):=by
 unfold decT V.U64
 split
 ·have hs:U8s ((xs.drop 21).take 8):=fun x hx=>hu x (List.mem_of_mem_drop (List.mem_of_mem_take hx))
  have h1:=getN_nn hs
  have h2:=getN_lt hs
  have h3:((xs.drop 21).take 8).length≤8:=by simp; omega
  have h4:(256:Int) ^ ((xs.drop 21).take 8).length≤256 ^ 8:=by
   rw [show (256:Int)=((256:Nat):Int) from rfl,← Int.natCast_pow,← Int.natCast_pow]
   exact Int.ofNat_le.2 (Nat.pow_le_pow_right (by decide) h3)
  rw [show (256:Int) ^ 8=18446744073709551616 from rfl] at h4
  constructor <;> omega
 ·constructor <;> decide
theorem scanK_age (g:Geo) (z:Nat) (n:Int) (ss:List (Option (List Int))) (hz:1≤z) (hu:∀ k xs,ss.getD k none=some xs→U8s xs):∀ k,k≤g.bands.toNat * z→∀ b:Nat,V.U64 (V.at_ (scanK g z n ss k).bs (b:Int)).age
 | 0,_,b=>by
   have:V.at_ (scanK g z n ss 0).bs (b:Int)=⟨0,0,0,0⟩:=by
    unfold scanK V.at_
    simp only [Int.toNat_natCast]
    cases e:(List.replicate g.bands.toNat (⟨0,0,0,0⟩:V.BI))[b]? with
    | none=>rfl
    | some x=>rw [(List.mem_replicate.1 (List.mem_of_getElem? e)).2]; rfl
   rw [this]; constructor <;> decide
 | k+1,hk,b=>by
   have ih:=scanK_age g z n ss hz hu k (by omega)
   have hkz:k / z < (scanK g z n ss k).bs.length:=by rw [scanK_len,Nat.div_lt_iff_lt_mul (by omega)]; omega
   unfold scanK scanOne
   generalize scanK g z n ss k=s at *
   have hus:∀ b:Nat,V.U64 (V.at_ (useB z s.bs k) (b:Int)).age:=fun b=>by
    rw [use_at hkz]; split
    ·exact ih (k / z)
    ·exact ih b
   cases e:ss.getD k none with
   | none=>exact ih b
   | some xs=>
     simp only
     split
     ·simp only
      rw [age_at (by rw [useB_len]; exact hkz)]
      split
      ·simp only
       split
       ·exact decT_u64 (hu k xs e)
       ·exact hus (k / z)
      ·exact hus b
     ·exact hus b
end Go.Proofs.YtggkengmlkhdiaaGreat
namespace Go.Proofs.YtggkengmlkhdiaaGreat
set_option linter.unusedVariables false
theorem openV_vok {g:Geo} {n:Nat} {ss:List (Option (List Int))} {v:DV} (hg:Vg g) (hn:1≤n∧n≤65536) (hl:ss.length=nSec g) (hu:∀ k xs,ss.getD k none=some xs→U8s xs) (h:OpenV g n ss v):VOk g v:=by
 obtain ⟨L,L0,hf,hp,rfl⟩:=h
 have hb0:=hg.b0
 have hb1:=hg.b1
 have hbz:1≤bz g∧bz g≤1024:=hg.bz
 have hr0:=hg.r0
 obtain ⟨z,hz⟩:∃ z:Nat,bz g=(z:Int):=⟨(bz g).toNat,by omega⟩
 obtain ⟨nb,hnb⟩:∃ nb:Nat,g.bands=(nb:Int):=⟨g.bands.toNat,by omega⟩
 have hz1:1≤z:=by omega
 have hzt:(bz g).toNat=z:=by omega
 have hnt:g.bands.toNat=nb:=by omega
 have hln:ss.length=nb * z:=by
  rw [hl]; unfold nSec; rw [hz,hnb,← Int.natCast_mul]; exact Int.toNat_natCast _
 rw [hzt] at hf
 have hF:=scanK_f g z n ss hz1 ss.length (by rw [hnt,hln]; exact Nat.le_refl _)
 have hA:=scanK_age g z n ss hz1 hu ss.length (by rw [hnt,hln]; exact Nat.le_refl _)
 have hlen:=scanK_len g z n ss ss.length
 rw [hnt] at hlen
 have hcL:=hf.len (scanK_mok g z n ss ss.length)
 have hfn:=fun c hc=>hF.ent c.x.blk c ((hf.mem c).1 hc).1
 rw [hzt,hz]
 generalize scanK g z n ss ss.length=s at *
 have hj:∀ c∈L,∃ j:Nat,j < nb * z∧c.adr=g.random+j∧((j % z:Nat):Int)+1≤(V.at_ s.bs ((j / z:Nat):Int)).used∧(∃ xs,ss.getD j none=some xs∧decE xs=0∧c.x=decX xs)∧Int.tdiv (c.adr - g.random) z=((j / z:Nat):Int)∧j / z < nb:=by
  intro c hc
  obtain ⟨j,h1,h2,h3,h4⟩:=hfn c hc
  rw [hln] at h1
  refine ⟨j,h1,h2,h3,h4,?_,?_⟩
  ·rw [h2,show g.random+(j:Int) - g.random=j by omega,Int.tdiv_eq_ediv_of_nonneg (by omega)]; rfl
  ·rw [Nat.div_lt_iff_lt_mul (by omega)]; exact h1
 have hj0:∀ c∈L0,0≤Int.tdiv (c.adr - g.random) z∧Int.tdiv (c.adr - g.random) z < s.bs.length:=by
  intro c hc
  obtain ⟨j,_,_,_,_,h5,h6⟩:=hj c (hp.mem_iff.2 hc)
  rw [h5,hlen]; exact ⟨Int.natCast_nonneg _,Int.ofNat_lt.2 h6⟩
 have hla:=fun k=>liveAll_at (g:=g) (z:=z) k L0 s.bs hj0
 have hal:=liveAll_len g z L0 s.bs
 generalize liveAll g z s.bs L0=bs at *
 rw [hlen] at hal
 have hat:∀ (k:Nat) (hk:k < bs.length),bs[k]=V.at_ bs (k:Int):=fun k hk=>(V.at_nat hk).symm
 have hfj:∀ c∈L,(c.adr - g.random).toNat < nb * z∧((((c.adr - g.random).toNat % z:Nat):Int)+1≤(V.at_ s.bs (((c.adr - g.random).toNat / z:Nat):Int)).used)∧c.adr=g.random+((c.adr - g.random).toNat:Int)∧Int.tdiv (c.adr - g.random) z=(((c.adr - g.random).toNat / z:Nat):Int)∧(c.adr - g.random).toNat / z < nb∧∃ xs,ss.getD (c.adr - g.random).toNat none=some xs∧decE xs=0∧c.x=decX xs:=by
  intro c hc
  obtain ⟨j,h1,h2,h3,h4,h5,h6⟩:=hj c hc
  have e:(c.adr - g.random).toNat=j:=by omega
  rw [e]
  exact ⟨h1,h3,h2,h5,h6,h4⟩
 have hne:∀ c∈L,∀ d∈L,c.adr=d.adr→c.x.blk=d.x.blk:=by
  intro c hc d hd e
  obtain ⟨_,_,_,_,_,xs,h1,h2,h3⟩:=hfj c hc
  obtain ⟨_,_,_,_,_,ys,h4,h5,h6⟩:=hfj d hd
  rw [← e,h1] at h4
  injection h4 with h4
  rw [h3,h6,h4]
 have hcnt:∀ k:Nat,((L0.countP (fun c=>decide (Int.tdiv (c.adr - g.random) z=k)):Nat):Int)≤(V.at_ s.bs (k:Int)).used:=by
  intro k
  obtain ⟨hb1',_⟩:=hF.band k
  rw [← hp.countP_eq,List.countP_eq_length_filter]
  have:=pig (fun c:Cnd=>(c.adr - g.random).toNat % z) (V.at_ s.bs (k:Int)).used.toNat (L.filter (fun c=>decide (Int.tdiv (c.adr - g.random) z=k))) (by
   rw [List.pairwise_filter]
   refine hf.nd.imp_of_mem ?_
   intro a b ha hb hab h1 h2 e
   obtain ⟨a1,_,a2,a3,_⟩:=hfj a ha
   obtain ⟨b1,_,b2,b3,_⟩:=hfj b hb
   have h1:=of_decide_eq_true h1
   have h2:=of_decide_eq_true h2
   rw [a3] at h1
   rw [b3] at h2
   have e2:(a.adr - g.random).toNat=(b.adr - g.random).toNat:=by
    rw [← Nat.div_add_mod (a.adr - g.random).toNat z,← Nat.div_add_mod (b.adr - g.random).toNat z,e]
    rw [show (a.adr - g.random).toNat / z=(b.adr - g.random).toNat / z by omega]
   exact hab (hne a ha b hb (by omega))) (fun c hc=>by
   rw [List.mem_filter] at hc
   obtain ⟨_,a1,_,a3,_⟩:=hfj c hc.1
   have h1:=of_decide_eq_true hc.2
   rw [a3] at h1
   rw [h1] at a1
   omega)
  omega
 have hbl:∀ c∈L,0≤c.x.blk∧c.x.blk < n:=fun c hc=>⟨(hcL c hc).2.1,(hcL c hc).2.2.1⟩
 have hes:(entAll n L).length=n:=entAll_len n L
 have hAt:∀ c∈L,∃ k i,At g bs c.adr k i:=by
  intro c hc
  obtain ⟨_,h2,h3,_,h5,_⟩:=hfj c hc
  refine ⟨(c.adr - g.random).toNat / z,(((c.adr - g.random).toNat % z:Nat):Int),by omega,?_,Int.natCast_nonneg _,?_⟩
  ·rw [hz]
   have:=Nat.div_add_mod (c.adr - g.random).toNat z
   have h6:(((c.adr - g.random).toNat / z:Nat):Int) * (z:Int)+(((c.adr - g.random).toNat % z:Nat):Int)=((c.adr - g.random).toNat:Int):=by rw [← Int.natCast_mul,← Int.natCast_add,Nat.mul_comm]; exact congrArg Nat.cast this
   omega
  ·rw [hat _ (by omega),(hla _).2.1]; omega
 have hok:∀ (k:Nat) (hk:k < bs.length),0≤bs[k].live∧bs[k].live≤bs[k].used∧bs[k].used≤z∧V.U64 bs[k].age∧bs[k].wear=0:=by
  intro k hk
  obtain ⟨l1,l2,l3,l4⟩:=hla k
  obtain ⟨b1,b2,_,b4,b5⟩:=hF.band k
  have hc:=hcnt k
  have ha:=hA k
  rw [hat k hk,l1,l2,l3,l4,b4,b5]
  exact ⟨by omega,by omega,b2,ha,rfl⟩
 have hmem:∀ b∈bs,0≤b.live∧b.live≤b.used∧b.used≤z∧V.U64 b.age∧b.wear=0:=by
  intro b hb
  obtain ⟨k,hk,rfl⟩:=List.mem_iff_getElem.1 hb
  exact hok k hk
 refine ⟨hg,fun b hb=>?_,(V.validB_iff _ _).2 ⟨by show 1≤bs.length; omega,by show bs.length≤64; omega,by omega,fun b hb=>?_⟩,by show (bs.length:Int)=_; rw [hal,hnb],by rw [hes]; exact hn.1,by rw [hes]; exact hn.2,fun b e he=>?_,fun a b e f ha hb h0 hab=>?_,fun k hk=>?_,fun e he=>?_,fun e he=>?_,?_⟩
 ·obtain ⟨h1,h2,h3,h4,h5⟩:=hmem b hb
  exact ⟨⟨by omega,by omega⟩,⟨by omega,by omega⟩,h4,by rw [h5]; constructor <;> decide⟩
 ·obtain ⟨h1,h2,h3,_⟩:=hmem b hb
  rw [hz]; exact ⟨h1,h2,h3⟩
 ·rcases entAll_at hbl hf.nd he with ⟨rfl,_⟩ | ⟨c,hc,_,rfl⟩
  ·exact .inl rfl
  ·exact .inr (hAt c hc)
 ·rcases entAll_at hbl hf.nd ha with ⟨rfl,_⟩ | ⟨c,hc,hca,rfl⟩
  ·exact absurd h0 (by decide)
  ·rcases entAll_at hbl hf.nd hb with ⟨rfl,_⟩ | ⟨d,hd,hdb,rfl⟩
   ·rw [hab] at h0; exact absurd h0 (by decide)
   ·have:=hne c hc d hd hab
    omega
 ·rw [hat k hk,(hla k).1,(hF.band k).2.2.2.1]
  unfold cntIn
  rw [entAll_cnt (liveP_no g k) hbl hf.nd,← hp.countP_eq,Int.zero_add]
  congr 1
  refine List.countP_congr (fun c hc=>?_)
  obtain ⟨_,_,h3,h4,_⟩:=hfj c hc
  unfold liveP neOf bandN
  rw [hz]
  have:0≤c.adr:=by omega
  simp [this]
 ·obtain ⟨k,hk⟩:=List.mem_iff_getElem?.1 he
  rcases entAll_at hbl hf.nd hk with ⟨rfl,_⟩ | ⟨c,hc,_,rfl⟩
  ·constructor <;> decide
  ·obtain ⟨_,_,_,_,_,xs,h1,h2,h3⟩:=hfj c hc
   have:=decX_ok h2 (hu _ xs h1)
   unfold neOf; simp only; rw [h3]
   exact ⟨this.v0,this.v1⟩
 ·obtain ⟨k,hk⟩:=List.mem_iff_getElem?.1 he
  rcases entAll_at hbl hf.nd hk with ⟨rfl,_⟩ | ⟨c,hc,_,rfl⟩
  ·constructor <;> decide
  ·obtain ⟨_,_,_,_,_,xs,h1,h2,h3⟩:=hfj c hc
   have:=(validE_told (decX_valid h2)).2.2.2
   unfold neOf; simp only; rw [h3]
   omega
 ·have:∀ (l:List V.BI) (t:Int),V.U64 t→(∀ b∈l,V.U64 b.age)→V.U64 (maxAge t l):=by
   intro l
   induction l with
   | nil=>intro t ht _; exact ht
   | cons b l ih=>
     intro t ht hb
     unfold maxAge at ih ⊢
     rw [List.foldl_cons]
     refine ih _ ?_ (fun d hd=>hb d (by simp [hd]))
     split
     ·exact hb b (by simp)
     ·exact ht
  exact this bs 0 (by constructor <;> decide) (fun b hb=>(hmem b hb).2.2.2.1)
end Go.Proofs.YtggkengmlkhdiaaGreat
