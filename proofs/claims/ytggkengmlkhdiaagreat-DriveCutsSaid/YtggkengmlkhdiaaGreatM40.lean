/-
  WHAT IS SHOWN: plain facts, of no program: what the methods of a drive come to on a disk without faults but slow ones, while the power is on or fails. the program's laying out, as the laws of the drive need it. Conditions: as each theorem names them.
-/
import Derived.Test.YtggkengmlkhdiaaGreatM39
import Derived.Test.YtggkengmlkhdiaaGreatM28
import Derived.Test.YtggkengmlkhdiaaGreatRows
import Derived.ProofKit
import Derived.OpenShut
import Derived.ChangeOld
import Derived.Deep.Slices
import Derived.Deep.Fields
import Derived.Lib.SmallJoins
namespace Go.Proofs.YtggkengmlkhdiaaGreat
set_option linter.unusedVariables false
open Go.RowKit
section
variable {g:Geo} {F:List Flt} {n:Nat} {H:List (List Wr)} {fl:List Int} {S T:ST} {b k:Nat} {tt:Int}
def FlOk (H:List (List Wr)) (fl:List Int):Prop:=∀ (b:Nat) (l:List Wr) (f:Int),H[b]?=some l→fl[b]?=some f→f≤l.length
theorem bz_mea {g:Geo} {v:DV} (h:VOk g v):bz g * meaB (bz g) v.bs≤67200000:=by
 have h1:=h.meaM
 have h2:=h.mea1
 have hz:=h.bz1
 have hs:g.bands * bz g≤65536:=h.gv.sz.2
 rw [h.len] at h1
 have:=mul_lim (a:=bz g) (b:=meaB (bz g) v.bs) (A:=1024) (B:=65537) (by omega) (by omega) (by omega) (by omega)
 omega
theorem cleans_on (hR:RunF F) (h:NowS g n H S) (hs:Snap g n H fl tt S.d) (hfl:FlOk H fl) (hr:Roomy g S.v) (ht:S.v.time < 18446744073600000000) (htt:S.v.time+67202000≤tt) (hc:Cleans g F 0 S T):
  NowS g n H T∧Snap g n H fl tt T.d∧Roomy g T.v∧T.d.P.armed=S.d.P.armed∧T.v.time≤S.v.time+67200000:=by
 have hv0:=h.c.ok
 induction hc with
 | none=>exact ⟨h,hs,hr,rfl,by omega⟩
 | more hcl hf hv hc ih=>
   rename_i T U m
   obtain ⟨h1,h2,h3,h4,h5⟩:=ih
   obtain ⟨k,hk1,hvi⟩:=victim_told h1.c.ok hv
   rw [hk1] at hc
   have hro:=cleans_told hv0 (Cleans.more hcl hf hv (by rw [hk1]; exact hc))
   have hbm:=bz_mea hv0
   have hb1:=hro.ok.mea1
   have hb2:=hro.ok.bz1
   have htm:=hro.tm
   have hpos:0≤bz g * meaB (bz g) U.v.bs:=Int.mul_nonneg (by omega) (by omega)
   rcases clean_on hR h1 h2 hfl hvi.hk hvi.lt hvi.room (by omega) (by omega) hc with ⟨_,a2,a3,a4⟩ | ⟨a1,_⟩
   ·exact ⟨a2,a3,.inl (clean_told h1.c.ok hvi.hk hc).1.fr,a4.trans h4,by omega⟩
   ·exact absurd (show (0:Int)=13 from a1) (by decide)
theorem unlink_free {g:Geo} {v:DV} (h:VOk g v) {b:Nat} (hb:b < v.es.length):V.freeN (unlinkV g v b).bs=V.freeN v.bs:=by
 have hn:=List.getElem?_eq_getElem hb
 generalize v.es[b]=e at hn
 rcases h.adr b e hn with ha | ⟨k,i,ha⟩
 ·rw [unlink_none hn ha]
 ·rw [free_sum,free_sum]; exact (unlink_sums h hn ha).2.2.2.2.2
theorem link_free {g:Geo} {v:DV} (h:VOk g v) {x:Ent} {b j:Nat} (hb:x.blk=(b:Int)) (hbl:b < v.es.length) (hj:j < v.bs.length) (hu:v.bs[j].used < bz g):V.freeN v.bs - 1≤V.freeN (linkV g v x j).bs:=by
 obtain ⟨hj',_,h2,h3,_⟩:=link_sums h hb hbl hj hu
 have h4:=h3 fF
 have h5:=unlink_free h hbl
 have h6:=fF_01 ((unlinkV g v b).bs[j])
 have h7:=fF_01 ⟨v.bs[j].used+1,((unlinkV g v b).bs[j]).live+1,tick v.time,((unlinkV g v b).bs[j]).wear⟩
 rw [free_sum,free_sum] at h5
 rw [free_sum,free_sum,h4]
 omega
theorem addH_at {l:List Wr} (hl:H[b]?=some l) (w:Wr):addH H b w=H.set b (l++[w]):=by
 unfold addH; rw [show H.getD b []=l by simp [List.getD,hl]]
theorem FlOk.add (h:FlOk H fl) {w:Wr}:FlOk (addH H b w) fl:=by
 intro c l f hl hf
 unfold addH at hl
 by_cases e:b=c
 ·subst e
  rcases Nat.lt_or_ge b H.length with hb | hb
  ·rw [List.getElem?_set_self hb] at hl
   injection hl with hl
   have:=h b H[b] f (List.getElem?_eq_getElem hb) hf
   have hg:H.getD b []=H[b]:=by simp [List.getD,hb]
   rw [← hl,hg,List.length_append]; omega
  ·rw [List.getElem?_eq_none (by simpa using hb)] at hl; cases hl
 ·rw [List.getElem?_set_ne e] at hl
  exact h c l f hl hf
theorem put_on (hR:RunF F) (h:NowS g n H S) (hs:Snap g n H fl tt S.d) (hfl:FlOk H fl) (hr:Roomy g S.v) (ht:S.v.time < 18446744073500000000) (htt:S.v.time+67300000≤tt) (hnb:(n:Int)≤(g.bands - 3) * bz g) {x:Ent} {w:Wr} {l:List Wr} (hx:validE x=true) (hxo:x.Ok) (hb:x.blk=(b:Int)) (hbn:b < n) (hl:H[b]?=some l)
  (hv:∀ u∈l,u.ver≤x.ver) (h1:x.ver=w.ver) (h2:x.kind=(if w.trim=true then 2 else 1)) (h3:x.dt=w.dt) {r:ST × Int} (hp:PutR g F 0 S x r):
  (r.2=0∧NowS g n (addH H b w) r.1∧Snap g n (addH H b w) fl tt r.1.d∧1≤V.freeN r.1.v.bs∧r.1.d.P.armed=S.d.P.armed∧r.1.v.time≤S.v.time+67200001)∨
  (r.2=13∧Fallen g n (addH H b w) fl tt S.d r.1.d):=by
 obtain ⟨T,hT,hp⟩:=hp
 obtain ⟨t1,t2,t3,t4,t5⟩:=cleans_on hR h hs hfl hr (by omega) (by omega) hT
 have hes:(T.v.es.length:Int)≤(g.bands - 3) * bz g:=by rw [t1.c.es]; exact hnb
 rcases hp with ⟨hf2,rfl⟩ | ⟨hf,hv0,_⟩ | ⟨hf,hv0,U,m,er,hcl,hne,rfl⟩
 ·have hz:=t1.c.ok.bz1
  have hbl:b < T.v.es.length:=by rw [t1.c.es]; exact hbn
  rcases appN_cases (F:=F) (key:=0) (S:=T) (except:=-1) t1.c.ok (by omega) hx with ⟨c,hc,_,hcu,_,_,hwr⟩ | ⟨_,hall,_⟩
  ·rcases wrX_on hR t1 hxo hc hcu with hfe | ⟨hww,hwa,hwM⟩
   ·right
    rcases hwr with ⟨hw0,_⟩ | ⟨_,happ⟩
    ·rw [hfe.ans] at hw0; exact absurd hw0 (by decide)
    ·rw [happ,hfe.ans]
     exact ⟨rfl,by rw [← t4]; exact hfe.armed,hfe.down,(t2.grow).same hfe.L hfe.O,wrX_u8 t1.u8 hxo.u8,t1.fit.len (by rw [hfe.L])⟩
   ·left
    rcases hwr with ⟨_,happ⟩ | ⟨hw1,_⟩
    ·rw [happ]
     have hve:∀ e,T.v.es[b]?=some e→0≤e.adr→e.ver≤x.ver:=fun e he h0=>by
      have hsh:=t1.sh b e l he hl
      unfold Shows1 at hsh
      cases hg:l.getLast? with
      | none=>rw [hg] at hsh; simp only at hsh; omega
      | some w0=>
        rw [hg] at hsh
        rw [hsh.2.1]
        exact hv w0 (List.mem_of_getLast? hg)
     have hcI:=t1.c.link hx hxo hb hbn hve hc hcu (by omega)
     have hsh:Shows (linkV g T.v x c) (writeL g (T.d.M g) (nextA g T.v c) (encB x (tick T.v.time))) (addH H b w):=by
      rw [addH_at hl]
      exact t1.sh.link t1.c hx hxo hb hbn hc hcu (by omega) hl (by simp) h1 h2 h3
     rw [← hwM] at hcI hsh
     have hfr:=link_free t1.c.ok hb hbl hc hcu
     have hfr1:1≤V.freeN (linkV g T.v x c).bs:=by omega
     have hf0:(linkV g T.v x c).failed=0:=by rw [(link_es t1.c.ok hb hbl hc hcu).2.2]; exact t1.f0
     have htm:(linkV g T.v x c).time=T.v.time+1:=by rw [(link_es t1.c.ok hb hbl hc hcu).2.1]; exact tick_succ t1.c.ok.time.1 (by omega)
     refine ⟨rfl,⟨hcI,t1.fit.len (by show (wrX g F 0 T x c).1.L.length=_; rw [hww.L]),hww.live,hf0,hsh,wrX_u8 t1.u8 hxo.u8⟩,(t2.grow).push hww.L hww.O ⟨_,hcI,.inl hfr1,hsh.p hfl.add,by rw [htm]; omega⟩,hfr1,by show (wrX g F 0 T x c).1.P.armed=_; rw [hww.armed]; exact t4,by show (linkV g T.v x c).time≤_; omega⟩
    ·rw [hwa] at hw1; exact absurd rfl hw1
  ·exfalso
   obtain ⟨j,hj,hj0⟩:=free_of_sum (l:=T.v.bs) (by omega)
   have:=hall j hj (by omega)
   omega
 ·exact absurd (victim_some t1.c.ok hes hf t3) hv0
 ·obtain ⟨k,hk1,hvi⟩:=victim_told t1.c.ok hv0
  rw [hk1] at hcl
  rcases clean_on hR t1 t2 hfl hvi.hk hvi.lt hvi.room (by omega) (by omega) hcl with ⟨a1,_⟩ | ⟨a1,a2⟩
  ·exact absurd a1 hne
  ·exact .inr ⟨a1,⟨by rw [← t4]; exact a2.armed,a2.down,a2.snap.grow,a2.u8,a2.fit⟩⟩
theorem cleanMR_on (hR:RunF F) (h:NowS g n H S) (hs:Snap g n H fl tt S.d) (hfl:FlOk H fl) (hr:Roomy g S.v) (ht:S.v.time < 18446744073500000000) (htt:S.v.time+67300000≤tt) {r:ST × Int × Int} (hc:CleanMR g F 0 S r):
  (((r.2.2=9∧r.1=S∧(victimN g S.v).2≠0)∨(r.2.2=0∧0≤r.2.1∧r.2.1 < bz g∧1≤V.freeN r.1.v.bs∧meaB (bz g) r.1.v.bs < meaB (bz g) S.v.bs))∧NowS g n H r.1∧Snap g n H fl tt r.1.d∧Roomy g r.1.v∧r.1.d.P.armed=S.d.P.armed∧r.1.v.time≤S.v.time+67200001)∨
  (r.2.2=13∧Fallen g n H fl tt S.d r.1.d):=by
 unfold CleanMR at hc
 rw [if_pos h.f0] at hc
 split at hc
 ·rename_i hv
  obtain ⟨k,hk1,hvi⟩:=victim_told h.c.ok hv
  rw [hk1] at hc
  rcases clean_on hR h hs hfl hvi.hk hvi.lt hvi.room (by omega) (by omega) hc with ⟨a1,a2,a3,a4⟩ | ha
  ·left
   obtain ⟨U,m,er⟩:=r
   simp only at a1
   subst a1
   obtain ⟨hct,hme⟩:=clean_told h.c.ok hvi.hk hc
   have hm1:=hct.m1 hvi.hk
   have hz:=h.c.ok.bz1
   have hlt:=hvi.lt
   exact ⟨.inr ⟨rfl,hct.m0,by simp only; omega,hct.fr,hme hvi.ch⟩,a2,a3,.inl hct.fr,a4,by have:=hct.tm; simp only; omega⟩
  ·exact .inr ha
 ·rename_i hv
  subst hc
  exact .inl ⟨.inl ⟨rfl,rfl,hv⟩,h,hs,hr,rfl,by simp only; omega⟩
theorem flushR_on (hR:RunF F) (h:NowS g n H S) (hs:Snap g n H fl tt S.d) (hr:Roomy g S.v) (htt:S.v.time≤tt):
  ((flushR g F 0 S).2=0∧NowS g n H (flushR g F 0 S).1∧Snap g n H (lensH H) tt (flushR g F 0 S).1.d∧(flushR g F 0 S).1.v=S.v∧(flushR g F 0 S).1.d.P.armed=S.d.P.armed∧(flushR g F 0 S).1.d.O=[])∨
  ((flushR g F 0 S).2=13∧Fallen g n H fl tt S.d (flushR g F 0 S).1.d):=by
 unfold flushR
 rw [if_pos h.f0]
 obtain ⟨T,hT,hfS⟩:=flushS_form g F 0 S
 rw [hfS]
 rcases flush_on (g:=g) hR h.live with hf | ⟨hw,ha⟩
 ·right
  rw [← hT] at hf
  simp only
  rw [hf.ans]
  exact ⟨rfl,hf.armed,hf.down,hs.same hf.L hf.O,by rw [hT]; exact tryD_u8 (fun _ hd=>fOne_u8 hd) h.u8,h.fit.len (by rw [hf.L])⟩
 ·left
  rw [← hT] at hw ha
  have hTu:T.1.U8:=by rw [hT]; exact tryD_u8 (fun _ hd=>fOne_u8 hd) h.u8
  have hTM:T.1.M g=S.d.M g:=by unfold DC.M; rw [hw.L,hw.O]; rfl
  simp only
  rw [ha]
  simp only [DV.fail_zero]
  have hc:CInv g n S.v (T.1.M g):=by rw [hTM]; exact h.c
  have hsh:Shows S.v (T.1.M g) H:=by rw [hTM]; exact h.sh
  refine ⟨trivial,⟨hc,by show Fit g T.1.L; rw [hw.L]; exact h.c.fit,hw.live,h.f0,hsh,hTu⟩,Snap.flushed hw.O ⟨_,hc,hr,hsh.p (fun b l f hl hf=>?_),htt⟩,trivial,hw.armed,hw.O⟩
  unfold lensH at hf
  rw [List.getElem?_map,hl] at hf
  injection hf with hf
  have hf2:(l.length:Int)=f:=hf
  omega
theorem rdS20_on (hR:RunF F) {d:DC} (hd:LiveD d) (hf:Fit g d.L):∀ k,k≤nSec g→
  ((rdS20 g F 0 d k).2.2=0∧Went d (rdS20 g F 0 d k).1 d.L d.O∧(rdS20 g F 0 d k).2.1=(List.range k).map (secO g (d.M g)))∨
  ((rdS20 g F 0 d k).2.2=13∧d.P.armed=true∧DownD (rdS20 g F 0 d k).1∧(rdS20 g F 0 d k).1.L=d.L∧(rdS20 g F 0 d k).1.O=d.O)
 | 0,_=>.inl ⟨rfl,⟨hd,rfl,rfl,rfl⟩,rfl⟩
 | k+1,hk=>by
   rcases rdS20_on hR hd hf k (by omega) with ⟨h1,h2,h3⟩ | ⟨h1,h2,h3,h4,h5⟩
   ·have hr0:=hf.v.r0
    have hsz:=hf.n
    have hin:inL (rdS20 g F 0 d k).1.L (g.random+(k:Int))=true:=by
     rw [h2.L,inL_iff]
     unfold nSec at hk
     have:0≤g.bands * bz g:=by have:=hf.v.sz; show 0≤g.bands * (g.tracks * g.sectors); omega
     have e:bz g=g.tracks * g.sectors:=rfl
     rw [e] at hk this
     omega
    have hM:(rdS20 g F 0 d k).1.M g=d.M g:=DC.M_same h2.L h2.O
    have hon:=read_on (g:=g) hR h2.live hin
    rw [hM] at hon
    rcases ht:tryD (rOne g F 0 (g.random+(k:Int))) (rdS20 g F 0 d k).1 with ⟨d1,⟨er,ys⟩⟩
    rw [ht] at hon
    rw [rdS20_next h1 ht]
    generalize rdS20 g F 0 d k=R at *
    rcases hon with hfe | ⟨hw,ha⟩
    ·right
     have he:er=13:=by have:=hfe.ans; simp only [Ans.mk.injEq] at this; exact this.1
     subst he
     rw [if_neg (by decide),if_neg (by decide)]
     exact ⟨rfl,by rw [← h2.armed]; exact hfe.armed,hfe.down,hfe.L.trans h2.L,hfe.O.trans h2.O⟩
    ·left
     simp only [Ans.mk.injEq] at ha
     obtain ⟨ha1,ha2⟩:=ha
     have hwent:Went d d1 d.L d.O:=⟨hw.live,hw.armed.trans h2.armed,hw.L.trans h2.L,hw.O.trans h2.O⟩
     rw [List.range_succ,List.map_append,← h3]
     by_cases hre:readE (d.M g) (g.random+(k:Int))=0
     ·rw [if_pos hre] at ha1 ha2
      subst ha1; subst ha2
      rw [if_neg (by decide),if_pos rfl]
      refine ⟨rfl,hwent,?_⟩
      simp only [List.map_cons,List.map_nil]
      unfold secO
      rw [if_pos hre]
     ·rw [if_neg hre] at ha1
      subst ha1
      rw [if_pos rfl]
      refine ⟨rfl,hwent,?_⟩
      simp only [List.map_cons,List.map_nil]
      unfold secO
      rw [if_neg hre]
   ·right
    have:=rdS20_stay (g:=g) (F:=F) (key:=0) (d:=d) (j:=k) (by omega) 1
    rw [this]
    exact ⟨h1,h2,h3,h4,h5⟩
theorem SameV.room {v v':DV} (h:SameV v v') (k:Nat) (hk:k < v.bs.length):roomN (bz g) v'.bs k=roomN (bz g) v.bs k:=by
 have hus:v'.bs.map (·.used)=v.bs.map (·.used):=by
  apply List.ext_getElem
  ·simp [h.len]
  ·intro i h1 h2
   simp only [List.length_map] at h1 h2
   simp only [List.getElem_map]
   exact (h.band i h2 h1).1
 have hsum:∀ (l l':List V.BI),l'.map (·.used)=l.map (·.used)→sumF uF l'=sumF uF l:=by
  intro l
  induction l with
  | nil=>intro l' hl; cases l' with
    | nil=>rfl
    | cons a l'=>simp at hl
  | cons a l ih=>intro l' hl; cases l' with
    | nil=>simp at hl
    | cons a' l'=>
      simp only [List.map_cons,List.cons.injEq] at hl
      simp only [sumF]
      rw [ih l' hl.2]
      unfold uF
      rw [hl.1]
 rw [room_at _ _ _ hk,room_at _ _ _ (by rw [h.len]; exact hk),hsum _ _ hus,(h.band k hk (by rw [h.len]; exact hk)).1,h.len]
theorem SameV.free {v v':DV} (h:SameV v v'):V.freeN v'.bs=V.freeN v.bs:=by
 have hus:v'.bs.map (·.used)=v.bs.map (·.used):=by
  apply List.ext_getElem
  ·simp [h.len]
  ·intro i h1 h2
   simp only [List.length_map] at h1 h2
   simp only [List.getElem_map]
   exact (h.band i h2 h1).1
 have hsum:∀ (l l':List V.BI),l'.map (·.used)=l.map (·.used)→sumF fF l'=sumF fF l:=by
  intro l
  induction l with
  | nil=>intro l' hl; cases l' with
    | nil=>rfl
    | cons a l'=>simp at hl
  | cons a l ih=>intro l' hl; cases l' with
    | nil=>simp at hl
    | cons a' l'=>
      simp only [List.map_cons,List.cons.injEq] at hl
      simp only [sumF]
      rw [ih l' hl.2]
      unfold fF
      rw [hl.1]
 rw [free_sum,free_sum]; exact hsum _ _ hus
theorem SameV.roomy {v v':DV} (h:SameV v v') (hr:Roomy g v):Roomy g v':=by
 rcases hr with hr | ⟨k,hk,h1,h2⟩
 ·exact .inl (by rw [h.free]; exact hr)
 ·have hk':k < v'.bs.length:=by rw [h.len]; exact hk
  obtain ⟨_,b2,_⟩:=h.band k hk hk'
  exact .inr ⟨k,hk',by rw [b2]; exact h1,by rw [b2,h.room k hk]; exact h2⟩
theorem SameV.shows {v v':DV} {M:List Sec} (h:SameV v v') (hs:Shows v M H):Shows v' M H:=fun b e l he hl=>hs b e l (by rw [← h.es]; exact he) hl
theorem secs_at {M:List Sec} {k i:Nat} (hi:i < k):((List.range k).map (secO g M)).getD i none=secO g M i:=by
 simp [List.getD,hi]
theorem open_on (hR:RunF F) {v:DV} {d:DC} (hc:CInv g n v (d.M g)) (hd:LiveD d) (hf:Fit g d.L) (hu:d.U8):
  ((rdS20 g F 0 d (nSec g)).2.2=0∧Went d (rdS20 g F 0 d (nSec g)).1 d.L d.O∧∀ v',OpenV g n (rdS20 g F 0 d (nSec g)).2.1 v'→SameV v v'∧CInv g n v' (d.M g))∨
  ((rdS20 g F 0 d (nSec g)).2.2=13∧d.P.armed=true∧DownD (rdS20 g F 0 d (nSec g)).1∧(rdS20 g F 0 d (nSec g)).1.L=d.L∧(rdS20 g F 0 d (nSec g)).1.O=d.O):=by
 rcases rdS20_on hR hd hf (nSec g) (Nat.le_refl _) with ⟨h1,h2,h3⟩ | h1
 ·left
  refine ⟨h1,h2,fun v' ho=>?_⟩
  have hb:=rdS20_bytes (g:=g) (F:=F) (key:=0) hu (nSec g)
  rw [h3] at ho hb
  exact open_same hc (by simp) (fun i hi=>secs_at hi) hb ho
 ·exact .inr h1
theorem read20_on (hR:RunF F) (h:NowS g n H S) (hu:S.d.P.armed=false) (hb:b < n) {l:List Wr} (hl:H[b]?=some l):
  NowS g n H (readS20 g F 0 S b)∧(readS20 g F 0 S b).v=S.v∧(readS20 g F 0 S b).d.L=S.d.L∧(readS20 g F 0 S b).d.O=S.d.O∧(readS20 g F 0 S b).d.P.armed=false∧
  (match l.getLast? with
   | none=>verX S.v b=(0,false)∧readE20 g F 0 S b=9
   | some w=>verX S.v b=(w.ver,true)∧(if w.trim=true then readE20 g F 0 S b=9∧readX20 g F 0 S b=noEnt else readE20 g F 0 S b=0∧(readX20 g F 0 S b).ver=w.ver∧(readX20 g F 0 S b).dt=w.dt)):=by
 have hbl:b < S.v.es.length:=by rw [h.c.es]; exact hb
 have he:=List.getElem?_eq_getElem hbl
 generalize S.v.es[b]=e at he
 have hsh:=h.sh b e l he hl
 have hr:0≤(b:Int)∧(b:Int) < S.v.es.length:=⟨by omega,by omega⟩
 have hver:verX S.v b=if 0≤e.adr then (e.ver,true) else (0,false):=verX_at he
 have hno:(e.adr < 0∨e.kind=2)→readS20 g F 0 S b=S∧readE20 g F 0 S b=9∧readX20 g F 0 S b=noEnt:=fun hor=>by
  have hnr:¬ readsB S (b:Int):=fun hh=>hh.2.2 (by rw [Int.toNat_natCast,getD_of he]; exact hor)
  refine ⟨by unfold readS20; rw [if_neg hnr],?_,by unfold readX20; rw [if_neg (fun hh=>hnr hh.1)]⟩
  unfold readE20
  rw [if_pos h.f0,if_pos hr,if_pos (by rw [Int.toNat_natCast,getD_of he]; exact hor)]
 unfold Shows1 at hsh
 cases hg:l.getLast? with
 | none=>
   rw [hg] at hsh
   simp only at hsh
   obtain ⟨r1,r2,_⟩:=hno (.inl (by omega))
   rw [r1]
   exact ⟨h,rfl,rfl,rfl,hu,by rw [hver,if_neg (by omega)],r2⟩
 | some w=>
   rw [hg] at hsh
   obtain ⟨s1,s2,s3,s4⟩:=hsh
   have hv:verX S.v b=(w.ver,true):=by rw [hver,if_pos s1,s2]
   by_cases ht:w.trim=true
   ·rw [if_pos ht] at s3
    obtain ⟨r1,r2,r3⟩:=hno (.inr s3)
    rw [r1]
    exact ⟨h,rfl,rfl,rfl,hu,hv,by rw [if_pos ht]; exact ⟨r2,r3⟩⟩
   ·rw [if_neg ht] at s3
    have hrd:readsB S (b:Int):=⟨h.f0,hr,by rw [Int.toNat_natCast,getD_of he]; omega⟩
    rcases fetch_on hR h he s1 with ⟨hf,_⟩ | ⟨hw,hE,hX⟩
    ·have:=hf.armed; rw [hu] at this; cases this
    ·have hS:readS20 g F 0 S b=⟨S.v,(rdX g F 0 S b).1⟩:=by
      unfold readS20
      rw [if_pos hrd,Int.toNat_natCast,hE]
      simp only [show ¬ ((0:Int)=15∨(0:Int)=16) by decide,if_false,DV.fail_zero]
     have hEr:readE20 g F 0 S b=0:=by
      unfold readE20
      rw [if_pos h.f0,if_pos hr,if_neg (by rw [Int.toNat_natCast,getD_of he]; omega),Int.toNat_natCast,hE]
      decide
     have hXr:readX20 g F 0 S b=sX (S.d.M g) e.adr:=by
      unfold readX20
      rw [if_pos ⟨hrd,by rw [Int.toNat_natCast]; exact hE⟩,Int.toNat_natCast]; exact hX
     obtain ⟨_,_,n3⟩:=h.c.new b e he s1
     rw [hS]
     refine ⟨⟨by show CInv g n S.v ((rdX g F 0 S b).1.M g); rw [DC.M_same hw.L hw.O]; exact h.c,h.fit.len (by show (rdX g F 0 S b).1.L.length=_; rw [hw.L]),hw.live,h.f0,by show Shows S.v ((rdX g F 0 S b).1.M g) H; rw [DC.M_same hw.L hw.O]; exact h.sh,(rdX_u8 h.u8).2⟩,rfl,hw.L,hw.O,hw.armed.trans hu,hv,?_⟩
     rw [if_neg ht,hXr]
     exact ⟨hEr,by rw [n3,s2],s4⟩
end
end Go.Proofs.YtggkengmlkhdiaaGreat
namespace Go.Proofs.YtggkengmlkhdiaaGreat
set_option linter.unusedVariables false
open Go.ChangeShapes Go.WideShapes Go.ChangeAt Go.RowKit Go.Deep
theorem own:ownKnob Tryz.prog.godebug=none:=by kernel_rfl
theorem laidOut:laidOutB Tryz.prog=true:=by kernel_rfl
end Go.Proofs.YtggkengmlkhdiaaGreat
