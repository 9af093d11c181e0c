/-
  WHAT IS SHOWN: plain facts, of no program: what cleanings do to a drive's account, how many there can be, and how many operations they leave pending. plain facts, of no program: what is found when the sectors of a disk are looked through. plain facts on memory, of no program: two disks that share a power supply, and what keeps the one while the other one works. Conditions: as each theorem names them.
-/
import Derived.Test.YtggkengmlkhdiaaGreatM13
import Derived.Test.YtggkengmlkhdiaaGreatM09
namespace Go.Proofs.YtggkengmlkhdiaaGreat
set_option linter.unusedVariables false
open Go.RowKit
theorem lastN_all (f:DC→DC × Ans) (d:DC):∀ m j,j < lastN f d m→(ansN f d j).er=16
 | 0,j,h=>by simp [lastN] at h
 | m+1,j,h=>by
   unfold lastN at h
   split at h
   ·rename_i hc
    by_cases e:j=m
    ·subst e; exact hc.2
    ·exact lastN_all f d m j (by omega)
   ·exact lastN_all f d m j h
def Idle (f:DC→DC × Ans):Prop:=∀ d,(f d).2.er=16→(f d).1.O=d.O∧(f d).1.L=d.L
theorem callN_idle {f:DC→DC × Ans} (hi:Idle f) {d:DC}:∀ n,(∀ j,j < n→(ansN f d j).er=16)→(callN f d n).O=d.O∧(callN f d n).L=d.L
 | 0,_=>⟨rfl,rfl⟩
 | n+1,h=>by
   have ih:=callN_idle hi (d:=d) n (fun j hj=>h j (by omega))
   have h1:=hi (callN f d n) (h n (by omega))
   exact ⟨h1.1.trans ih.1,h1.2.trans ih.2⟩
theorem tryD_last {f:DC→DC × Ans} (hi:Idle f) (d:DC):∃ d0:DC,d0.O=d.O∧d0.L=d.L∧tryD f d=f d0:=by
 have h:=callN_idle hi (d:=d) (lastN f d 8) (lastN_all f d 8)
 exact ⟨callN f d (lastN f d 8),h.1,h.2,rfl⟩
theorem tryD_one_len {f:DC→DC × Ans} (hi:Idle f) (hl:∀ d,(f d).1.O.length≤d.O.length+1) (d:DC):(tryD f d).1.O.length≤d.O.length+1:=by
 obtain ⟨d0,h1,_,h3⟩:=tryD_last hi d
 rw [h3,← h1]; exact hl d0
theorem wrE_ne16 (LM:List Sec) (a:Int) (xs:List Int):wrE LM a xs≠16:=by unfold wrE; repeat' split <;> omega
theorem doE_ne16 (g:Geo) (L:List Sec) (o:OpV):doE g L o≠16:=by
 unfold doE eraseE writeE
 repeat' split <;> (try omega)
theorem wOne_idle (g:Geo) (F:List Flt) (key a:Int) (xs:List Int):Idle (wOne g F key a xs):=by
 intro d h
 unfold wOne dWrE at h
 simp only at h
 have hne:¬ (begD F d.s d.P key).er=0:=by
  intro e
  rw [if_pos e] at h
  exact absurd h (wrE_ne16 _ _ _)
 unfold wOne dWrO dWrLM
 simp only
 rw [if_neg hne,if_neg hne]
 exact ⟨rfl,rfl⟩
theorem eOne_idle (g:Geo) (F:List Flt) (key a:Int):Idle (eOne g F key a):=by
 intro d h
 unfold eOne dErE at h
 simp only at h
 have hne:¬ (begD F d.s d.P key).er=0:=by
  intro e
  rw [if_pos e] at h
  exact absurd h (doE_ne16 _ _ _)
 exact ⟨if_neg hne,rfl⟩
theorem fOne_idle (g:Geo) (F:List Flt) (key:Int):Idle (fOne g F key):=by
 intro d h
 unfold fOne at h
 simp only at h
 have hne:¬ (begD F d.s d.P key).er=0:=by omega
 exact ⟨if_neg hne,if_neg hne⟩
theorem fOne_done {g:Geo} {F:List Flt} {key:Int} {d:DC} (h:(fOne g F key d).2.er=0):(fOne g F key d).1.O=[]:=by
 unfold fOne at h ⊢
 simp only at h ⊢
 unfold dFlO
 rw [if_pos h]
theorem tryF_done {g:Geo} {F:List Flt} {key:Int} {d:DC} (h:(tryD (fOne g F key) d).2.er=0):(tryD (fOne g F key) d).1.O=[]:=by
 obtain ⟨d0,_,_,h3⟩:=tryD_last (fOne_idle g F key) d
 rw [h3] at h ⊢
 exact fOne_done h
theorem decX_valid {xs:List Int} (h:decE xs=0):validE (decX xs)=true:=by
 unfold decX
 rw [if_pos h]
 unfold decE at h
 split at h
 ·split at h
  ·split at h
   ·rename_i hv; exact hv
   ·omega
  ·omega
 ·omega
theorem ftX_told {g:Geo} {F:List Flt} {key:Int} {S:ST} {b:Nat} (h:ftE g F key S b=0):(rdX g F key S b).2.er=0∧ftX g F key S b=decX (rdX g F key S b).2.by_∧decE (rdX g F key S b).2.by_=0∧
  validE (ftX g F key S b)=true∧(ftX g F key S b).blk=(b:Int)∧(ftX g F key S b).ver=(S.v.es.getD b noNE).ver∧(ftX g F key S b).kind=(S.v.es.getD b noNE).kind:=by
 have hx:ftX g F key S b=decX (rdX g F key S b).2.by_:=by unfold ftX; rw [if_pos h]
 unfold ftE at h
 split at h
 ·rename_i he
  split at h
  ·rename_i hh
   unfold holdsB at hh
   simp only [Bool.and_eq_true,decide_eq_true_eq] at hh
   obtain ⟨h1,h2,h3,h4⟩:=hh
   exact ⟨he,hx,h1,by rw [hx]; exact decX_valid h1,by rw [hx,h3],by rw [hx,h4],by rw [hx,h2]⟩
  ·omega
 ·rename_i he; exact absurd h he
theorem entOf_ok {xs:List Int} (hl:xs.length=37) (hu:U8s xs):(entOf xs).Ok:=by
 have h1:U8s ((xs.drop 5).take 8):=(hu.qdrop 5).qtake 8
 have h2:=getN_lt h1
 have h3:((xs.drop 5).take 8).length=8:=by simp [hl]
 rw [h3] at h2
 refine ⟨getN_nn h1,?_,?_,(hu.qdrop 13).qtake 8⟩
 ·show getN ((xs.drop 5).take 8)≤_; omega
 ·show ((xs.drop 13).take 8).length=8; simp [hl]
theorem decX_ok {xs:List Int} (h:decE xs=0) (hu:U8s xs):(decX xs).Ok:=by
 have hl:xs.length=37:=by
  unfold decE at h
  split at h
  ·assumption
  ·omega
 unfold decX
 rw [if_pos h]
 exact entOf_ok hl hu
theorem rdX_r {g:Geo} {F:List Flt} {key:Int} {S:ST} {b:Nat}:(rdX g F key S b).1.L=S.d.L∧(rdX g F key S b).1.O=S.d.O:=tryD_r
theorem rdX_u8 {g:Geo} {F:List Flt} {key:Int} {S:ST} {b:Nat} (h:S.d.U8):U8s (rdX g F key S b).2.by_∧(rdX g F key S b).1.U8:=
 ⟨(rOne_u8 (callN_u8 (fun d hd=>(rOne_u8 hd).1) h _)).2,callN_u8 (fun d hd=>(rOne_u8 hd).1) h _⟩
theorem ftX_ok {g:Geo} {F:List Flt} {key:Int} {S:ST} {b:Nat} (h:ftE g F key S b=0) (hu:S.d.U8):(ftX g F key S b).Ok:=by
 obtain ⟨_,h2,h3,_⟩:=ftX_told h
 rw [h2]
 exact decX_ok h3 (rdX_u8 hu).1
theorem es_range (es:List NE):es=(List.range es.length).map fun b=>es.getD b noNE:=by
 apply List.ext_getElem
 ·simp
 ·intro i h1 h2
  simp [List.getD,h1]
theorem inBand_live (g:Geo) (v:DV) (k:Int) (b:Nat):inBand g v k b=liveP g k (v.es.getD b noNE):=rfl
theorem blocksIn_len (g:Geo) (v:DV) (k:Int):((blocksIn g v k).length:Int)=cntIn g v.es k:=by
 unfold blocksIn cntIn
 rw [← List.countP_eq_length_filter]
 have h:=congrArg (List.countP (liveP g k)) (es_range v.es)
 rw [List.countP_map] at h
 rw [h]
 congr 1
theorem mem_blocksIn {g:Geo} {v:DV} {k:Int} {b:Nat}:b∈blocksIn g v k↔b < v.es.length∧inBand g v k b=true:=by
 unfold blocksIn
 rw [List.mem_filter,List.mem_range]
structure SortedOk (g:Geo) (v:DV) (k:Nat) (l:List Nat):Prop where
 len:∀ hk:k < v.bs.length,(l.length:Int)=v.bs[k].live
 nd:l.Nodup
 mem:∀ b∈l,∃ n i,v.es[b]?=some n∧At g v.bs n.adr k i
 all:∀ b,b < v.es.length→liveP g k (v.es.getD b noNE)=true→b∈l
theorem Sorted.ok {g:Geo} {v:DV} {k:Nat} {l:List Nat} (h:Sorted g v k l) (hv:VOk g v):SortedOk g v k l:=by
 refine ⟨fun hk=>?_,?_,fun b hb=>?_,fun b hb hl=>h.perm.mem_iff.2 (mem_blocksIn.2 ⟨hb,hl⟩)⟩
 ·rw [h.perm.length_eq,blocksIn_len,hv.live k hk]
 ·exact h.perm.nodup_iff.2 (List.Nodup.sublist List.filter_sublist List.nodup_range)
 ·obtain ⟨h1,h2⟩:=mem_blocksIn.1 (h.perm.mem_iff.1 hb)
  have hn:=List.getElem?_eq_getElem h1
  generalize v.es[b]=n at hn
  rw [inBand_live,getD_of hn] at h2
  simp only [liveP,Bool.and_eq_true,decide_eq_true_eq] at h2
  refine ⟨n,?_⟩
  rcases hv.adr b n hn with h3 | ⟨k',i,h3⟩
  ·omega
  ·have h4:=h3.band hv
   have:k=k':=by omega
   subst this
   exact ⟨i,hn,h3⟩
theorem unlinkV_es (g:Geo) (v:DV) (b c:Nat) (h:c≠b):(unlinkV g v b).es[c]?=v.es[c]?:=List.getElem?_set_ne (fun e=>h e.symm)
theorem linkV_es (g:Geo) (v:DV) (x:Ent) (k:Int) (b c:Nat) (hb:x.blk=(b:Int)) (h:c≠b):(linkV g v x k).es[c]?=v.es[c]?:=by
 unfold linkV
 simp only
 rw [hb,Int.toNat_natCast,List.getElem?_set_ne (fun e=>h e.symm)]
 exact unlinkV_es g v b c h
theorem mvOne_cases (g:Geo) (F:List Flt) (key k:Int) (b:Nat) (r:ST × Int × Int):
  (ftE g F key r.1 b=15∧mvOne g F key k b r=(⟨unlinkV g r.1.v b,(rdX g F key r.1 b).1⟩,r.2.1,0))∨
  (ftE g F key r.1 b=0∧(appN g F key ⟨r.1.v,(rdX g F key r.1 b).1⟩ (ftX g F key r.1 b) k).2=0∧mvOne g F key k b r=((appN g F key ⟨r.1.v,(rdX g F key r.1 b).1⟩ (ftX g F key r.1 b) k).1,r.2.1+1,0))∨
  (ftE g F key r.1 b=0∧(appN g F key ⟨r.1.v,(rdX g F key r.1 b).1⟩ (ftX g F key r.1 b) k).2≠0∧mvOne g F key k b r=(⟨(appN g F key ⟨r.1.v,(rdX g F key r.1 b).1⟩ (ftX g F key r.1 b) k).1.v.fail (appN g F key ⟨r.1.v,(rdX g F key r.1 b).1⟩ (ftX g F key r.1 b) k).2,(appN g F key ⟨r.1.v,(rdX g F key r.1 b).1⟩ (ftX g F key r.1 b) k).1.d⟩,0,(appN g F key ⟨r.1.v,(rdX g F key r.1 b).1⟩ (ftX g F key r.1 b) k).2))∨
  (ftE g F key r.1 b≠0∧ftE g F key r.1 b≠15∧mvOne g F key k b r=(⟨r.1.v.fail (ftE g F key r.1 b),(rdX g F key r.1 b).1⟩,0,ftE g F key r.1 b)):=by
 unfold mvOne
 by_cases h1:ftE g F key r.1 b=15
 ·exact .inl ⟨h1,by rw [if_pos h1]⟩
 ·rw [if_neg h1]
  by_cases h2:ftE g F key r.1 b=0
  ·rw [if_pos h2]
   by_cases h3:(appN g F key ⟨r.1.v,(rdX g F key r.1 b).1⟩ (ftX g F key r.1 b) k).2=0
   ·exact .inr (.inl ⟨h2,h3,by rw [if_pos h3]⟩)
   ·exact .inr (.inr (.inl ⟨h2,h3,by rw [if_neg h3]⟩))
  ·exact .inr (.inr (.inr ⟨h2,h1,by rw [if_neg h2]⟩))
theorem appN_cases {g:Geo} {F:List Flt} {key:Int} {S:ST} {x:Ent} {except:Int} (h:VOk g S.v) (he:except < S.v.bs.length) (hv:validE x=true):
  (∃ (k:Nat) (hk:k < S.v.bs.length),openN g S.v.bs except=((k:Int),0)∧S.v.bs[k].used < bz g∧(k:Int)≠except∧
    (V.partB (bz g) S.v.bs[k]=true∨(S.v.bs[k].used=0∧∀ (j:Nat) (hj:j < S.v.bs.length),(j:Int)≠except→V.partB (bz g) S.v.bs[j]=false))∧
    (((wrX g F key S x k).2.er=0∧appN g F key S x except=(⟨linkV g S.v x k,(wrX g F key S x k).1⟩,0))∨
     ((wrX g F key S x k).2.er≠0∧appN g F key S x except=(⟨S.v.fail (wrX g F key S x k).2.er,(wrX g F key S x k).1⟩,(wrX g F key S x k).2.er))))∨
  ((openN g S.v.bs except).2≠0∧(∀ (j:Nat) (hj:j < S.v.bs.length),(j:Int)≠except→S.v.bs[j].used=bz g)∧appN g F key S x except=(S,(openN g S.v.bs except).2)):=by
 rcases openN_more h he with ⟨k,hk,h1,h2,h3,h4⟩ | ⟨h1,h2⟩
 ·left
  refine ⟨k,hk,h1,h2,h3,h4,?_⟩
  unfold appN
  rw [h1]
  simp only [if_true]
  rw [if_pos hv]
  by_cases hw:(wrX g F key S x k).2.er=0
  ·exact .inl ⟨hw,by rw [if_pos hw]⟩
  ·exact .inr ⟨hw,by rw [if_neg hw]⟩
 ·exact .inr ⟨h1,h2,by unfold appN; rw [if_neg h1]⟩
theorem wrX_len {g:Geo} {F:List Flt} {key:Int} {S:ST} {x:Ent} {k:Int}:(wrX g F key S x k).1.O.length≤S.d.O.length+1:=tryD_one_len (wOne_idle _ _ _ _ _) (wOne_len _ _ _ _ _) _
theorem appN_len {g:Geo} {F:List Flt} {key:Int} {S:ST} {x:Ent} {except:Int}:(appN g F key S x except).1.d.O.length≤S.d.O.length+1:=by
 have h:=wrX_len (g:=g) (F:=F) (key:=key) (S:=S) (x:=x) (k:=(openN g S.v.bs except).1)
 unfold appN
 generalize wrX g F key S x (openN g S.v.bs except).1=W at *
 by_cases h0:(openN g S.v.bs except).2=0
 ·rw [if_pos h0]
  by_cases hv:validE x=true
  ·rw [if_pos hv]
   by_cases hw:W.2.er=0
   ·rw [if_pos hw]; exact h
   ·rw [if_neg hw]; exact h
  ·rw [if_neg hv]; exact Nat.le_succ _
 ·rw [if_neg h0]; exact Nat.le_succ _
theorem mvOne_parts (g:Geo) (F:List Flt) (key k:Int) (b:Nat) (r:ST × Int × Int):∃ (S':ST) (x:Ent) (e:Int),S'=⟨r.1.v,(rdX g F key r.1 b).1⟩∧x=ftX g F key r.1 b∧e=ftE g F key r.1 b∧S'.v=r.1.v∧S'.d.O=r.1.d.O∧S'.d.L=r.1.d.L∧
  (e=0→validE x=true∧x.blk=(b:Int)∧x.ver=(r.1.v.es.getD b noNE).ver∧x.kind=(r.1.v.es.getD b noNE).kind)∧
  ((e=15∧mvOne g F key k b r=(⟨unlinkV g r.1.v b,S'.d⟩,r.2.1,0))∨
   (e=0∧(appN g F key S' x k).2=0∧mvOne g F key k b r=((appN g F key S' x k).1,r.2.1+1,0))∨
   (e=0∧(appN g F key S' x k).2≠0∧mvOne g F key k b r=(⟨(appN g F key S' x k).1.v.fail (appN g F key S' x k).2,(appN g F key S' x k).1.d⟩,0,(appN g F key S' x k).2))∨
   (e≠0∧e≠15∧mvOne g F key k b r=(⟨r.1.v.fail e,S'.d⟩,0,e))):=by
 have h1:=rdX_r (g:=g) (F:=F) (key:=key) (S:=r.1) (b:=b)
 refine ⟨⟨r.1.v,(rdX g F key r.1 b).1⟩,ftX g F key r.1 b,ftE g F key r.1 b,rfl,rfl,rfl,rfl,h1.2,h1.1,fun h=>?_,mvOne_cases g F key k b r⟩
 obtain ⟨_,_,_,x1,x2,x3,x4⟩:=ftX_told h
 exact ⟨x1,x2,x3,x4⟩
theorem mvOne_len (g:Geo) (F:List Flt) (key k:Int) (b:Nat) (r:ST × Int × Int):(mvOne g F key k b r).1.d.O.length≤r.1.d.O.length+1:=by
 obtain ⟨S',x,e,_,_,_,_,h2,_,_,hc⟩:=mvOne_parts g F key k b r
 have h3:=appN_len (g:=g) (F:=F) (key:=key) (S:=S') (x:=x) (except:=k)
 rw [h2] at h3
 generalize appN g F key S' x k=A at *
 generalize mvOne g F key k b r=M at *
 rcases hc with ⟨_,rfl⟩ | ⟨_,_,rfl⟩ | ⟨_,_,rfl⟩ | ⟨_,_,rfl⟩
 ·show S'.d.O.length≤_; rw [h2]; omega
 ·exact h3
 ·exact h3
 ·show S'.d.O.length≤_; rw [h2]; omega
theorem mvK_len (g:Geo) (F:List Flt) (key k:Int) (l:List Nat) (S:ST):∀ j,(mvK g F key k l S j).1.d.O.length≤S.d.O.length+j
 | 0=>Nat.le_refl _
 | j+1=>by
   have ih:=mvK_len g F key k l S j
   unfold mvK
   split
   ·have:=mvOne_len g F key k (l.getD j 0) (mvK g F key k l S j); omega
   ·omega
set_option maxHeartbeats 4000000 in
theorem mvOne_mvd {g:Geo} {F:List Flt} {key:Int} {v0:DV} {k b:Nat} {n i:Int} {m:NE} {r:ST × Int × Int} (h:Mvd g v0 r.1.v k r.2.1 n) (hb:r.1.v.es[b]?=some m) (ha:At g r.1.v.bs m.adr k i) (h0:(mvOne g F key k b r).2.2=0):
  Mvd g v0 (mvOne g F key k b r).1.v k (mvOne g F key k b r).2.1 (n+1)∧∀ c,c≠b→(mvOne g F key k b r).1.v.es[c]?=r.1.v.es[c]?:=by
 obtain ⟨S',x,e,_,_,_,hv,_,_,hx,hc⟩:=mvOne_parts g F key k b r
 generalize mvOne g F key k b r=M at *
 rcases hc with ⟨_,rfl⟩ | ⟨he,ha0,rfl⟩ | ⟨_,ha0,rfl⟩ | ⟨hf,_,rfl⟩
 ·exact ⟨h.drop hb ha,fun c hc=>unlinkV_es g _ b c hc⟩
 ·obtain ⟨x1,x2,x3,x4⟩:=hx he
  have hok:VOk g S'.v:=by rw [hv]; exact h.ok
  have hk:=ha.hk
  rcases appN_cases (F:=F) (key:=key) (except:=(k:Int)) hok (by rw [hv]; omega) x1 with ⟨j,hj,_,j2,j3,j4,⟨_,e2⟩ | ⟨hw,e2⟩⟩ | ⟨hw,_,e2⟩
  ·rw [e2]
   obtain ⟨SV,SD⟩:=S'
   simp only at hv
   subst hv
   refine ⟨h.move hb ha x2 x1 ?_ hj j2 (by omega) ?_,fun c hc=>linkV_es g _ _ _ b c x2 hc⟩
   ·rw [x3,getD_of hb]; exact h.ok.ver m (List.mem_of_getElem? hb)
   ·rcases j4 with j4 | ⟨j4,j5⟩
    ·exact .inl j4
    ·exact .inr ⟨j4,fun c hc hck=>j5 c hc (by omega)⟩
  ·rw [congrArg Prod.snd e2] at ha0; exact (hw ha0).elim
  ·rw [congrArg Prod.snd e2] at ha0; exact (hw ha0).elim
 ·exact absurd h0 ha0
 ·exact absurd h0 hf
theorem mvOne_vok {g:Geo} {F:List Flt} {key:Int} {k b:Nat} {r:ST × Int × Int} (h:VOk g r.1.v) (hb:b < r.1.v.es.length) (hk:k < r.1.v.bs.length):
  VOk g (mvOne g F key k b r).1.v∧(mvOne g F key k b r).1.v.es.length=r.1.v.es.length∧(mvOne g F key k b r).1.v.bs.length=r.1.v.bs.length:=by
 obtain ⟨S',x,e,_,_,_,hv,_,_,hx,hc⟩:=mvOne_parts g F key k b r
 have hA:e=0→VOk g (appN g F key S' x k).1.v∧(appN g F key S' x k).1.v.es.length=r.1.v.es.length∧(appN g F key S' x k).1.v.bs.length=r.1.v.bs.length:=fun he=>by
  obtain ⟨x1,x2,x3,x4⟩:=hx he
  have hn:=List.getElem?_eq_getElem hb
  have h1:=app_ok (F:=F) (key:=key) (S:=S') (x:=x) (except:=(k:Int)) (by rw [hv]; exact h) (by rw [x3,getD_of hn]; exact h.ver _ (List.getElem_mem hb)) (by omega) (by rw [hv]; omega) (by rw [hv]; omega)
  rw [hv] at h1
  exact h1
 generalize appN g F key S' x k=A at *
 generalize mvOne g F key k b r=M at *
 rcases hc with ⟨_,rfl⟩ | ⟨he,_,rfl⟩ | ⟨he,_,rfl⟩ | ⟨_,_,rfl⟩
 ·obtain ⟨l1,l2,_⟩:=unlink_len h hb; exact ⟨unlink_ok h hb,l2,l1⟩
 ·exact hA he
 ·obtain ⟨h1,h2,h3⟩:=hA he
  exact ⟨h1.fail _,by simp only [(fail_es _ _).1,h2],by simp only [(fail_es _ _).2,h3]⟩
 ·exact ⟨h.fail _,by simp only [(fail_es _ _).1],by simp only [(fail_es _ _).2]⟩
theorem mvK_mvd {g:Geo} {F:List Flt} {key:Int} {k:Nat} {l:List Nat} {S:ST} (hv:VOk g S.v) (hs:SortedOk g S.v k l):∀ j,j≤l.length→(mvK g F key k l S j).2.2=0→
  Mvd g S.v (mvK g F key k l S j).1.v k (mvK g F key k l S j).2.1 j∧∀ i (hi:i < l.length),j≤i→(mvK g F key k l S j).1.v.es[l[i]]?=S.v.es[l[i]]?
 | 0,_,_=>⟨by simpa [mvK] using Mvd.refl hv k,fun _ _ _=>rfl⟩
 | j+1,hj,h0=>by
   by_cases h1:(mvK g F key k l S j).2.2=0
   ·obtain ⟨ih1,ih2⟩:=mvK_mvd hv hs j (by omega) h1
    rw [mvK_yes h1] at h0 ⊢
    have hgd:l.getD j 0=l[j]:=by simp [List.getD,show j < l.length by omega]
    rw [hgd] at h0 ⊢
    generalize mvK g F key k l S j=R at *
    obtain ⟨n,i,hn,ha⟩:=hs.mem l[j] (List.getElem_mem (by omega))
    have hn2:=(ih2 j (by omega) (Nat.le_refl _)).trans hn
    have ha2:∃ i,At g R.1.v.bs n.adr k i:=by
     rcases ih1.ok.adr _ n hn2 with h3 | ⟨k',i',h3⟩
     ·have:=(ha.nn hv).2.1; omega
     ·have h4:=h3.band ih1.ok
      have h5:=ha.band hv
      have:k=k':=by omega
      subst this
      exact ⟨i',h3⟩
    obtain ⟨i2,ha2⟩:=ha2
    obtain ⟨r1,r2⟩:=mvOne_mvd (F:=F) (key:=key) ih1 hn2 ha2 h0
    generalize mvOne g F key k l[j] R=Q at *
    refine ⟨by rw [show ((j+1:Nat):Int)=(j:Int)+1 by omega]; exact r1,fun i hi hji=>?_⟩
    rw [r2 _ (fun e=>List.pairwise_iff_getElem.1 hs.nd j i (by omega) hi (by omega) e.symm)]
    exact ih2 i hi (by omega)
   ·have:=mvK_stay h1 1
    rw [this] at h0
    exact absurd h0 h1
theorem mvK_vok {g:Geo} {F:List Flt} {key:Int} {k:Nat} {l:List Nat} {S:ST} (hv:VOk g S.v) (hk:k < S.v.bs.length) (hl:∀ b∈l,b < S.v.es.length):∀ j,j≤l.length→
  VOk g (mvK g F key k l S j).1.v∧(mvK g F key k l S j).1.v.es.length=S.v.es.length∧(mvK g F key k l S j).1.v.bs.length=S.v.bs.length
 | 0,_=>⟨hv,rfl,rfl⟩
 | j+1,hj=>by
   obtain ⟨h1,h2,h3⟩:=mvK_vok (F:=F) (key:=key) hv hk hl j (by omega)
   by_cases h0:(mvK g F key k l S j).2.2=0
   ·rw [mvK_yes h0]
    have hgd:l.getD j 0=l[j]:=by simp [List.getD,show j < l.length by omega]
    rw [hgd]
    generalize mvK g F key k l S j=R at *
    obtain ⟨r1,r2,r3⟩:=mvOne_vok (F:=F) (key:=key) (b:=l[j]) (k:=k) h1 (by rw [h2]; exact hl _ (List.getElem_mem _)) (by omega)
    exact ⟨r1,r2.trans h2,r3.trans h3⟩
   ·rw [mvK_stay h0 1]; exact ⟨h1,h2,h3⟩
theorem SortedOk.lt {g:Geo} {v:DV} {k:Nat} {l:List Nat} (h:SortedOk g v k l):∀ b∈l,b < v.es.length:=fun b hb=>by
 obtain ⟨n,_,hn,_⟩:=h.mem b hb
 exact (List.getElem?_eq_some_iff.1 hn).1
structure Cleaned (g:Geo) (S U:ST) (k:Nat) (m:Int):Prop where
 ok:VOk g U.v
 es:U.v.es.length=S.v.es.length
 len:U.v.bs.length=S.v.bs.length
 m0:0≤m
 m1:∀ hk:k < S.v.bs.length,m≤S.v.bs[k].live
 tm:U.v.time≤S.v.time+m
 O1:U.d.O.length≤1
 fr:1≤V.freeN U.v.bs
theorem free_pos {l:List V.BI} {k:Nat} (hk:k < l.length) (h:l[k].used=0):1≤V.freeN l:=by
 rw [free_sum]
 have:=sumF_one (f:=fF) (l:=l) (fun b _=>(fF_01 b).1) hk
 have e:fF l[k]=1:=by simp [fF,h]
 omega
theorem flushS_form (g:Geo) (F:List Flt) (key:Int) (S:ST):∃ T,T=tryD (fOne g F key) S.d∧flushS g F key S=(⟨S.v.fail T.2.er,T.1⟩,T.2.er):=⟨_,rfl,rfl⟩
theorem eraseS_form (g:Geo) (F:List Flt) (key k:Int) (S:ST):∃ T,T=tryD (eOne g F key k) S.d∧eraseS g F key k S=(⟨S.v.fail T.2.er,T.1⟩,T.2.er):=⟨_,rfl,rfl⟩
theorem DV.fail_zero (v:DV):v.fail 0=v:=by unfold DV.fail; rw [if_pos rfl]
theorem wipeS_zero {g:Geo} {F:List Flt} {key k:Int} {S:ST} {m:Int} (h:(wipeS g F key k S m).2.2=0):
  (flushS g F key S).2=0∧(eraseS g F key k (flushS g F key S).1).2=0∧wipeS g F key k S m=(⟨{ S.v with bs:=V.resL S.v.bs k },(eraseS g F key k (flushS g F key S).1).1.d⟩,m,0)∧(flushS g F key S).1.v=S.v:=by
 unfold wipeS at h ⊢
 obtain ⟨T,_,hT⟩:=flushS_form g F key S
 rw [hT] at h ⊢
 simp only at h ⊢
 by_cases h1:T.2.er=0
 ·rw [if_pos h1] at h ⊢
  rw [h1,DV.fail_zero] at h ⊢
  obtain ⟨U,_,hU⟩:=eraseS_form g F key k ⟨S.v,T.1⟩
  rw [hU] at h ⊢
  simp only at h ⊢
  by_cases h2:U.2.er=0
  ·rw [if_pos h2,h2,DV.fail_zero]
   exact ⟨trivial,rfl,rfl,trivial⟩
  ·rw [if_neg h2] at h; exact absurd h h2
 ·rw [if_neg h1] at h; exact absurd h h1
theorem clean_zero {g:Geo} {F:List Flt} {key k:Int} {S:ST} {l:List Nat} (h:(cleanS g F key k l S).2.2=0):
  (mvK g F key k l S l.length).2.2=0∧cleanS g F key k l S=wipeS g F key k (mvK g F key k l S l.length).1 (mvK g F key k l S l.length).2.1:=by
 unfold cleanS at h ⊢
 by_cases h1:(mvK g F key k l S l.length).2.2=0
 ·rw [if_pos h1] at h ⊢; exact ⟨h1,rfl⟩
 ·rw [if_neg h1] at h; exact absurd h h1
theorem clean_told {g:Geo} {F:List Flt} {key:Int} {k:Nat} {S U:ST} {m:Int} (hv:VOk g S.v) (hk:k < S.v.bs.length) (h:CleanR g F key k S (U,m,0)):
  Cleaned g S U k m∧((S.v.bs[k].live < S.v.bs[k].used∨1≤othP (bz g) S.v.bs k∧V.partB (bz g) S.v.bs[k]=true)→meaB (bz g) U.v.bs < meaB (bz g) S.v.bs):=by
 obtain ⟨l,hs,he⟩:=h
 have hso:=hs.ok hv
 have h0:(cleanS g F key k l S).2.2=0:=by rw [← he]
 obtain ⟨h1,h2⟩:=clean_zero h0
 rw [h2] at he h0
 obtain ⟨f1,f2,f3,_⟩:=wipeS_zero h0
 rw [f3] at he
 injection he with e1 e2
 injection e2 with e2 _
 obtain ⟨hm,_⟩:=mvK_mvd (F:=F) (key:=key) hv hso l.length (Nat.le_refl _) h1
 have hll:=hso.len hk
 rw [hll] at hm
 have hk':k < (mvK g F key k l S l.length).1.v.bs.length:=by rw [hm.len]; exact hk
 have hat:=hm.at_ hk' hk
 have hro:=reset_ok hm.ok hk' (by omega)
 subst e1
 refine ⟨⟨hro,hm.es,?_,by rw [e2]; exact hm.u0,fun _=>by rw [e2]; exact hm.un,by rw [e2]; exact hm.tm,?_,?_⟩,fun hch=>?_⟩
 ·simp only [resL_nat hk',List.length_set]; exact hm.len
 ·simp only
  have hO:(flushS g F key (mvK g F key k l S l.length).1).1.d.O=[]:=by
   obtain ⟨T,hT,hT2⟩:=flushS_form g F key (mvK g F key k l S l.length).1
   rw [hT2] at f1 ⊢
   rw [hT] at f1 ⊢
   exact tryF_done f1
  generalize (flushS g F key (mvK g F key k l S l.length).1).1=X at *
  have:=tryD_one_len (eOne_idle g F key k) (eOne_len g F key k) X.d
  rw [hO] at this
  exact this
 ·simp only [resL_nat hk']
  exact free_pos (k:=k) (by simpa using hk') (by simp [V.resBI])
 ·have hgd:S.v.bs.getD k ⟨0,0,0,0⟩=S.v.bs[k]:=by simp [List.getD,hk]
  exact Mvd.mea (by rw [hgd]; exact hm) hk hv hch
structure Roomed (g:Geo) (S T:ST):Prop where
 ok:VOk g T.v
 es:T.v.es.length=S.v.es.length
 len:T.v.bs.length=S.v.bs.length
 me:meaB (bz g) T.v.bs≤meaB (bz g) S.v.bs
 tm:T.v.time+bz g * meaB (bz g) T.v.bs≤S.v.time+bz g * meaB (bz g) S.v.bs
 O1:T.d.O.length≤S.d.O.length∨T.d.O.length≤1
theorem cleans_told {g:Geo} {F:List Flt} {key:Int} {S T:ST} (hv:VOk g S.v) (h:Cleans g F key S T):Roomed g S T:=by
 induction h with
 | none=>exact ⟨hv,rfl,rfl,Int.le_refl _,Int.le_refl _,.inl (Nat.le_refl _)⟩
 | more h hf hv' hc ih=>
   rename_i T U m
   have ih:=ih
   obtain ⟨k,hk1,hvi⟩:=victim_told ih.ok hv'
   rw [hk1] at hc
   obtain ⟨hcl,hme⟩:=clean_told ih.ok hvi.hk hc
   have hme:=hme hvi.ch
   have hz:=ih.ok.bz1
   have hm1:=hcl.m1 hvi.hk
   have hlt:=hvi.lt
   have h3:bz g * (meaB (bz g) U.v.bs+1)≤bz g * meaB (bz g) T.v.bs:=Int.mul_le_mul_of_nonneg_left (by omega) (by omega)
   rw [Int.mul_add,Int.mul_one] at h3
   exact ⟨hcl.ok,hcl.es.trans ih.es,hcl.len.trans ih.len,by have:=ih.me; omega,by have:=ih.tm; have:=hcl.tm; omega,.inr hcl.O1⟩
end Go.Proofs.YtggkengmlkhdiaaGreat
namespace Go.Proofs.YtggkengmlkhdiaaGreat
set_option linter.unusedVariables false
open Go.RowKit
structure Cnd where
 x:Ent
 adr:Int
 tm:Int
def cnd0:Cnd:=⟨noEnt,0,0⟩
def newerB (a b:Cnd):Bool:=decide (b.x.ver < a.x.ver) || (decide (a.x.ver=b.x.ver) && decide (b.tm < a.tm))
def mput (m:Int→Option Cnd) (b:Int) (c:Cnd):Int→Option Cnd:=fun i=>if i=b then some c else m i
structure SS where
 bs:List V.BI
 m:Int→Option Cnd
def useB (z:Nat) (bs:List V.BI) (i:Nat):List V.BI:=bs.set (i / z) { V.at_ bs ((i / z:Nat):Int) with used:=((i % z:Nat):Int)+1 }
def ageB (z:Nat) (bs:List V.BI) (i:Nat) (t:Int):List V.BI:=bs.set (i / z) { V.at_ bs ((i / z:Nat):Int) with age:=if (V.at_ bs ((i / z:Nat):Int)).age < t then t else (V.at_ bs ((i / z:Nat):Int)).age }
def takeM (m:Int→Option Cnd) (c:Cnd):Bool:=match m c.x.blk with | none=>true | some o=>newerB c o
def addM (m:Int→Option Cnd) (c:Cnd):Int→Option Cnd:=if takeM m c then mput m c.x.blk c else m
def scanOne (g:Geo) (z:Nat) (n:Int) (s:SS) (i:Nat) (o:Option (List Int)):SS:=
 match o with
 | none=>s
 | some xs=>
   if decE xs=0∧(decX xs).blk < n then ⟨ageB z (useB z s.bs i) i (decT xs),addM s.m ⟨decX xs,g.random+i,decT xs⟩⟩
   else ⟨useB z s.bs i,s.m⟩
def scanK (g:Geo) (z:Nat) (n:Int) (ss:List (Option (List Int))):Nat→SS
 | 0=>⟨List.replicate g.bands.toNat ⟨0,0,0,0⟩,fun _=>none⟩
 | k+1=>scanOne g z n (scanK g z n ss k) k (ss.getD k none)
theorem useB_len (z:Nat) (bs:List V.BI) (i:Nat):(useB z bs i).length=bs.length:=by simp [useB]
theorem ageB_len (z:Nat) (bs:List V.BI) (i:Nat) (t:Int):(ageB z bs i t).length=bs.length:=by simp [ageB]
theorem scanOne_len (g:Geo) (z:Nat) (n:Int) (s:SS) (i:Nat) (o:Option (List Int)):(scanOne g z n s i o).bs.length=s.bs.length:=by
 unfold scanOne
 cases o with
 | none=>rfl
 | some xs=>
   simp only
   split
   ·simp only [ageB_len,useB_len]
   ·simp only [useB_len]
theorem scanK_len (g:Geo) (z:Nat) (n:Int) (ss:List (Option (List Int))):∀ k,(scanK g z n ss k).bs.length=g.bands.toNat
 | 0=>by simp [scanK]
 | k+1=>by unfold scanK; rw [scanOne_len,scanK_len g z n ss k]
structure MOk (g:Geo) (n:Int) (k:Nat) (m:Int→Option Cnd):Prop where
 at_:∀ b c,m b=some c→c.x.blk=b∧0≤b∧b < n∧c.x.dt.length=8∧∃ i:Nat,i < k∧c.adr=g.random+i
theorem MOk.mono {g:Geo} {n:Int} {k j:Nat} {m:Int→Option Cnd} (h:MOk g n k m) (hj:k≤j):MOk g n j m:=
 ⟨fun b c hc=>by obtain ⟨h1,h2,h3,h4,i,hi,h5⟩:=h.at_ b c hc; exact ⟨h1,h2,h3,h4,i,by omega,h5⟩⟩
theorem MOk.add {g:Geo} {n:Int} {k:Nat} {m:Int→Option Cnd} (h:MOk g n k m) {c:Cnd} (h0:0≤c.x.blk) (h1:c.x.blk < n) (h8:c.x.dt.length=8) (ha:c.adr=g.random+k):MOk g n (k+1) (addM m c):=by
 unfold addM
 split
 ·refine ⟨fun b d hd=>?_⟩
  unfold mput at hd
  split at hd
  ·rename_i e; subst e; injection hd with hd; subst hd
   exact ⟨rfl,h0,h1,h8,k,by omega,ha⟩
  ·obtain ⟨a1,a2,a3,a4,i,hi,a5⟩:=h.at_ b d hd
   exact ⟨a1,a2,a3,a4,i,by omega,a5⟩
 ·exact h.mono (by omega)
theorem decX_len8 (xs:List Int):(decX xs).dt.length=8:=by
 unfold decX
 split
 ·rename_i h
  have hl:xs.length=37:=by
   unfold decE at h
   split at h
   ·assumption
   ·omega
  simp [entOf,hl]
 ·rfl
theorem scanK_mok (g:Geo) (z:Nat) (n:Int) (ss:List (Option (List Int))):∀ k,MOk g n k (scanK g z n ss k).m
 | 0=>⟨fun b c h=>by simp [scanK] at h⟩
 | k+1=>by
   have ih:=scanK_mok g z n ss k
   unfold scanK scanOne
   cases ss.getD k none with
   | none=>exact ih.mono (by omega)
   | some xs=>
     simp only
     split
     ·rename_i h
      have h0:=validE_told (decX_valid h.1)
      exact ih.add h0.1 h.2 (decX_len8 xs) rfl
     ·exact ih.mono (by omega)
def liveAdd (g:Geo) (z:Int) (bs:List V.BI) (c:Cnd):List V.BI:=bs.set (Int.tdiv (c.adr - g.random) z).toNat { V.at_ bs (Int.tdiv (c.adr - g.random) z) with live:=(V.at_ bs (Int.tdiv (c.adr - g.random) z)).live+1 }
def liveAll (g:Geo) (z:Int) (bs:List V.BI) (L:List Cnd):List V.BI:=L.foldl (liveAdd g z) bs
theorem liveAdd_len (g:Geo) (z:Int) (bs:List V.BI) (c:Cnd):(liveAdd g z bs c).length=bs.length:=by simp [liveAdd]
theorem liveAll_len (g:Geo) (z:Int):∀ (L:List Cnd) (bs:List V.BI),(liveAll g z bs L).length=bs.length
 | [],_=>rfl
 | c::L,bs=>by unfold liveAll; rw [List.foldl_cons]; exact (liveAll_len g z L _).trans (liveAdd_len g z bs c)
theorem liveAll_snoc (g:Geo) (z:Int) (bs:List V.BI) (L:List Cnd) (c:Cnd):liveAll g z bs (L++[c])=liveAdd g z (liveAll g z bs L) c:=by unfold liveAll; rw [List.foldl_append]; rfl
structure FoundOk (m:Int→Option Cnd) (left:Int→Bool) (L:List Cnd):Prop where
 mem:∀ c,c∈L↔m c.x.blk=some c∧left c.x.blk=false
 nd:L.Pairwise fun a b=>a.x.blk≠b.x.blk
theorem FoundOk.next {m:Int→Option Cnd} {left:Int→Bool} {L:List Cnd} (h:FoundOk m left L) {b:Int} {c:Cnd} (hc:m b=some c) (hb:c.x.blk=b) (hl:left b=true):FoundOk m (fun i=>left i && !decide (i=b)) (L++[c]):=by
 refine ⟨fun d=>?_,?_⟩
 ·rw [List.mem_append,h.mem]
  constructor
  ·rintro (⟨h1,h2⟩ | h1)
   ·exact ⟨h1,by simp [h2]⟩
   ·simp at h1; subst h1; exact ⟨by rw [hb]; exact hc,by simp [hb]⟩
  ·rintro ⟨h1,h2⟩
   by_cases e:d.x.blk=b
   ·right
    rw [e,hc] at h1
    injection h1 with h1
    simp [h1]
   ·left
    refine ⟨h1,?_⟩
    simpa [e] using h2
 ·rw [List.pairwise_append]
  refine ⟨h.nd,List.pairwise_singleton _ _,fun a ha d hd=>?_⟩
  simp at hd; subst hd
  intro e
  have:=((h.mem a).1 ha).2
  rw [e,hb,hl] at this
  cases this
theorem at_live {bs:List V.BI} (h:∀ b∈bs,b.live=0) (i:Int):(V.at_ bs i).live=0:=by
 unfold V.at_
 cases e:bs[i.toNat]? with
 | none=>rfl
 | some b=>exact h b (List.mem_of_getElem? e)
theorem scanOne_live {g:Geo} {z:Nat} {n:Int} {s:SS} {i:Nat} {o:Option (List Int)} (h:∀ b∈s.bs,b.live=0):∀ b∈(scanOne g z n s i o).bs,b.live=0:=by
 have hu:∀ b∈useB z s.bs i,b.live=0:=fun b hb=>by
  unfold useB at hb
  rcases List.mem_or_eq_of_mem_set hb with h1 | rfl
  ·exact h b h1
  ·exact at_live h _
 unfold scanOne
 cases o with
 | none=>exact h
 | some xs=>
   simp only
   split
   ·intro b hb
    unfold ageB at hb
    rcases List.mem_or_eq_of_mem_set hb with h1 | rfl
    ·exact hu b h1
    ·exact at_live hu _
   ·exact hu
theorem scanK_live (g:Geo) (z:Nat) (n:Int) (ss:List (Option (List Int))):∀ k,∀ b∈(scanK g z n ss k).bs,b.live=0
 | 0=>fun b hb=>by unfold scanK at hb; rw [(List.mem_replicate.1 hb).2]
 | k+1=>by unfold scanK; exact scanOne_live (scanK_live g z n ss k)
theorem liveAll_bd {g:Geo} {z:Int} {bs:List V.BI} (h:∀ b∈bs,b.live=0):∀ (L:List Cnd),∀ b∈liveAll g z bs (L.reverse),0≤b.live∧b.live≤L.length
 | []=>fun b hb=>by have:=h b hb; simp; omega
 | c::L=>fun b hb=>by
   have ih:=liveAll_bd (g:=g) (z:=z) h L
   rw [List.reverse_cons,liveAll_snoc] at hb
   unfold liveAdd at hb
   rcases List.mem_or_eq_of_mem_set hb with h1 | rfl
   ·have:=ih b h1; rw [List.length_cons]; omega
   ·have hat:0≤(V.at_ (liveAll g z bs L.reverse) (Int.tdiv (c.adr - g.random) z)).live∧(V.at_ (liveAll g z bs L.reverse) (Int.tdiv (c.adr - g.random) z)).live≤L.length:=by
     unfold V.at_
     cases e:(liveAll g z bs L.reverse)[(Int.tdiv (c.adr - g.random) z).toNat]? with
     | none=>simp
     | some b=>exact ih b (List.mem_of_getElem? e)
    rw [List.length_cons]; simp only; omega
theorem liveAll_bd2 {g:Geo} {z:Int} {bs:List V.BI} (h:∀ b∈bs,b.live=0) (L:List Cnd):∀ b∈liveAll g z bs L,0≤b.live∧b.live≤L.length:=by
 have:=liveAll_bd (g:=g) (z:=z) h L.reverse
 rw [List.reverse_reverse,List.length_reverse] at this
 exact this
def rdS20 (g:Geo) (F:List Flt) (key:Int) (d:DC):Nat→DC × List (Option (List Int)) × Int
 | 0=>(d,[],0)
 | k+1=>
   if (rdS20 g F key d k).2.2=0 then
    (if (tryD (rOne g F key (g.random+k)) (rdS20 g F key d k).1).2.er=15 then ((tryD (rOne g F key (g.random+k)) (rdS20 g F key d k).1).1,(rdS20 g F key d k).2.1++[none],0)
     else if (tryD (rOne g F key (g.random+k)) (rdS20 g F key d k).1).2.er=0 then ((tryD (rOne g F key (g.random+k)) (rdS20 g F key d k).1).1,(rdS20 g F key d k).2.1++[some (tryD (rOne g F key (g.random+k)) (rdS20 g F key d k).1).2.by_],0)
     else ((tryD (rOne g F key (g.random+k)) (rdS20 g F key d k).1).1,[],(tryD (rOne g F key (g.random+k)) (rdS20 g F key d k).1).2.er))
   else rdS20 g F key d k
theorem rdS20_stay {g:Geo} {F:List Flt} {key:Int} {d:DC} {j:Nat} (h:(rdS20 g F key d j).2.2≠0):∀ i,rdS20 g F key d (j+i)=rdS20 g F key d j
 | 0=>rfl
 | i+1=>by
   have ih:=rdS20_stay h i
   rw [← ih] at h
   show (if (rdS20 g F key d (j+i)).2.2=0 then _ else _)=_
   rw [if_neg h]; exact ih
def nSec (g:Geo):Nat:=(g.bands * bz g).toNat
def entSet (es:List NE) (c:Cnd):List NE:=es.set c.x.blk.toNat ⟨c.x.kind,c.x.ver,c.adr⟩
def entAll (n:Nat) (L:List Cnd):List NE:=L.foldl entSet (List.replicate n noNE)
theorem entAll_snoc (n:Nat) (L:List Cnd) (c:Cnd):entAll n (L++[c])=entSet (entAll n L) c:=by unfold entAll; rw [List.foldl_append]; rfl
def maxAge (t:Int) (bs:List V.BI):Int:=bs.foldl (fun t b=>if t < b.age then b.age else t) t
structure OpenV (g:Geo) (n:Nat) (ss:List (Option (List Int))) (v:DV):Prop where
 ex:∃ L L0:List Cnd,FoundOk (scanK g (bz g).toNat n ss ss.length).m (fun _=>false) L∧L.Perm L0∧v=⟨entAll n L,liveAll g (bz g) (scanK g (bz g).toNat n ss ss.length).bs L0,maxAge 0 (liveAll g (bz g) (scanK g (bz g).toNat n ss ss.length).bs L0),0⟩
end Go.Proofs.YtggkengmlkhdiaaGreat
namespace Go.Proofs.YtggkengmlkhdiaaGreat
set_option linter.unusedVariables false
open Go.RowKit
def Bd.on (n N:Nat) (S:Nat→Prop) (h:n≤N):Bd:=⟨n,fun k=>k < N∧¬ S k,N,fun _ h=>h.1,h⟩
section
variable {w w':World} {B C:Bd} {q pw p:Nat} {g:Geo} {F:List Flt} {s:DS} {P P':Pow} {LM:List Sec} {O:List OpV} {FA:Option Addr} {fc:Nat}
theorem PowM.lt (h:PowM w B pw P):pw < w.heap.size:=(IsT.own h.obj).lt
theorem PowM.low (h:PowM w B pw P):B.has pw:=⟨row_low h.obj,h.px⟩
theorem PowM.mono (h:PowM w B pw P) (hs:Bd.Sub w.heap.size B C):PowM w C pw P:=⟨own_mono h.obj hs.1,(hs.2 _ h.lt h.low).2⟩
theorem Dsk.mono (h:Dsk w B q pw g F s LM O p FA fc) (hs:Bd.Sub w.heap.size B C):Dsk w C q pw g F s LM O p FA fc:=
 ⟨own_mono h.obj hs.1,(hs.2 _ (IsT.own h.obj).lt ⟨row_low h.obj,h.px⟩).2,h.c.mono hs,h.fl⟩
end
structure Two (w:World) (n pw q0 q1:Nat) (g:Geo) (F0 F1:List Flt) (s0 s1:DS) (P:Pow) (L0 L1:List Sec) (O0 O1:List OpV) (S0 S1:Nat→Prop) (hn:n≤w.heap.size):Prop where
 a:DPm w (Bd.on n w.heap.size S0 hn) q0 pw g F0 s0 P L0 O0
 b:DPm w (Bd.on n w.heap.size S1 hn) q1 pw g F1 s1 P L1 O1
 no:∀ k,k < w.heap.size→S0 k→S1 k→k=pw
def TwoM (w:World) (n pw q0 q1:Nat) (g:Geo) (F0 F1:List Flt) (s0 s1:DS) (P:Pow) (L0 L1:List Sec) (O0 O1:List OpV):Prop:=∃ S0 S1 hn,Two w n pw q0 q1 g F0 F1 s0 s1 P L0 L1 O0 O1 S0 S1 hn
section
variable {w w':World} {n pw q0 q1:Nat} {g:Geo} {F0 F1:List Flt} {s0 s1:DS} {P:Pow} {L0 L1:List Sec} {O0 O1:List OpV} {S0 S1:Nat→Prop} {hn:n≤w.heap.size}
end
end Go.Proofs.YtggkengmlkhdiaaGreat
