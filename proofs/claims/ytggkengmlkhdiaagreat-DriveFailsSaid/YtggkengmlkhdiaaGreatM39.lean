/-
  WHAT IS SHOWN: plain facts, of no program: histories that a drive shows, also behind an appended entry and a reset; what every prefix of the pending operations would show. plain facts, of no program: moving entries and cleaning a band on a disk without faults but slow ones, while the power is on or fails. plain facts, of no program: cleaning a band on a disk without faults but slow ones, while the power is on or fails. plain facts, of no program: how many entries the bands have in sum; there is always a band to be cleaned. Conditions: as each theorem names them.
-/
import Derived.Test.YtggkengmlkhdiaaGreatM38
namespace Go.Proofs.YtggkengmlkhdiaaGreat
set_option linter.unusedVariables false
open Go.RowKit
def Shows1 (e : NE) (M : List Sec) (l : List Wr) : Prop:=
 match l.getLast? with
 | none=>e.adr = -1
 | some w=>0 ≤ e.adr ∧ e.ver = w.ver ∧ e.kind = (if w.trim = true then 2 else 1) ∧ (sX M e.adr).dt = w.dt
def Shows (v : DV) (M : List Sec) (H : List (List Wr)) : Prop:=∀ (b : Nat) (e : NE) (l : List Wr),v.es[b]? = some e → H[b]? = some l → Shows1 e M l
def ShowsP (v : DV) (M : List Sec) (H : List (List Wr)) (fl : List Int) : Prop:=∀ (b : Nat) (e : NE) (l : List Wr) (f : Int),v.es[b]? = some e → H[b]? = some l → fl[b]? = some f → ∃ m : Nat,f ≤ m ∧ m ≤ l.length ∧ Shows1 e M (l.take m)
def Roomy (g : Geo) (v : DV) : Prop:=1 ≤ V.freeN v.bs ∨ ∃ (k : Nat) (hk : k < v.bs.length),v.bs[k].live < bz g ∧ v.bs[k].live ≤ roomN (bz g) v.bs k
def Snap (g : Geo) (n : Nat) (H : List (List Wr)) (fl : List Int) (d : DC) : Prop:=∀ k,k ≤ d.O.length → ∃ v,CInv g n v (playL g d.L (d.O.take k)) ∧ Roomy g v ∧ ShowsP v (playL g d.L (d.O.take k)) H fl
section
variable {g : Geo} {n : Nat} {v v' : DV} {M M' : List Sec} {H : List (List Wr)} {fl : List Int} {k b : Nat} {x : Ent} {d d' : DC}
theorem Shows1.move {e e' : NE} {l : List Wr} (h : Shows1 e M l) (ha : e'.adr < 0 ↔ e.adr < 0) (h1 : e.adr = -1 → e'.adr = -1) (hv : e'.ver = e.ver) (hk : e'.kind = e.kind) (hd : 0 ≤ e.adr → (sX M' e'.adr).dt = (sX M e.adr).dt) : Shows1 e' M' l:=by
 unfold Shows1 at h ⊢
 cases hl : l.getLast? with
 | none=>rw [hl] at h; exact h1 h
 | some w=>
   rw [hl] at h
   obtain ⟨a1,a2,a3,a4⟩:=h
   exact ⟨by omega,hv.trans a2,hk.trans a3,(hd a1).trans a4⟩
theorem Shows1.same {e : NE} {l : List Wr} (h : Shows1 e M l) (hd : 0 ≤ e.adr → readB M' e.adr = readB M e.adr) : Shows1 e M' l:=
 h.move Iff.rfl id rfl rfl (fun h0=>by unfold sX; rw [hd h0])
theorem link_reads (h : CInv g n v M) (hk : k < v.bs.length) (hu : v.bs[k].used < bz g) {xs : List Int} (hx : xs.length ≤ 64) : readB (writeL g M (nextA g v k) xs) (nextA g v k) = xs ∧ ∀ (c : Nat) (e : NE),v.es[c]? = some e → 0 ≤ e.adr → readB (writeL g M (nextA g v k) xs) e.adr = readB M e.adr:=by
 have hev:=h.ok.each hk
 have hkb:=h.kb hk
 rw [next_adK hk]
 refine ⟨(wr_at h.fit hkb (by omega) hu hx).2,fun c e he h0=>?_⟩
 obtain ⟨j,hj,l,ea,l0,lu⟩:=h.at_ he h0
 have hej:=h.ok.each hj
 rw [ea]
 refine (wr_far h.fit hkb (by omega) hu l0 (by omega) ?_).2
 by_cases e2 : j = k
 ·subst e2; right; omega
 ·exact .inl e2
theorem Shows.link (h : CInv g n v M) (hs : Shows v M H) (hx : validE x = true) (hxo : x.Ok) (hb : x.blk = (b : Int)) (hbl : b < n) (hk : k < v.bs.length) (hu : v.bs[k].used < bz g) (ht : v.time < 18446744073709551615) {l : List Wr} (hl : H[b]? = some l) {l' : List Wr} {w : Wr} (hw : l'.getLast? = some w) (h1 : x.ver = w.ver) (h2 : x.kind = (if w.trim = true then 2 else 1)) (h3 : x.dt = w.dt) :
  Shows (linkV g v x k) (writeL g M (nextA g v k) (encB x (tick v.time))) (H.set b l'):=by
 have hbl' : b < v.es.length:=by rw [h.es]; exact hbl
 obtain ⟨s1,_,_⟩:=link_es h.ok hb hbl' hk hu
 have hlen : (encB x (tick v.time)).length ≤ 64:=by rw [encB_len hxo.len]; omega
 obtain ⟨r1,r2⟩:=link_reads h hk hu hlen
 have htk : tick v.time = v.time + 1:=tick_succ h.ok.time.1 ht
 have ht0:=h.ok.time.1
 obtain ⟨_,d2,_⟩:=dec_enc hx hxo (show 0 ≤ tick v.time by omega) (by omega)
 have hbh : b < H.length:=(List.getElem?_eq_some_iff.1 hl).1
 have hev:=h.ok.each hk
 intro c e lc he hc
 rw [s1] at he
 by_cases e2 : b = c
 ·subst e2
  rw [List.getElem?_set_self hbl'] at he
  rw [List.getElem?_set_self hbh] at hc
  injection he with he
  injection hc with hc
  subst he; subst hc
  unfold Shows1
  rw [hw]
  refine ⟨adK_nn h.fit.v (by omega),h1,h2,?_⟩
  unfold sX
  simp only
  rw [← next_adK hk,r1,d2]; exact h3
 ·rw [List.getElem?_set_ne e2] at he hc
  exact (hs c e lc he hc).same (r2 c e he)
theorem Shows.moved (h : CInv g n v M) (hs : Shows v M H) (hx : validE x = true) (hxo : x.Ok) {e : NE} (he : v.es[b]? = some e) (h0 : 0 ≤ e.adr) (hxe : x = sX M e.adr) (hk : k < v.bs.length) (hu : v.bs[k].used < bz g) (ht : v.time < 18446744073709551615) :
  Shows (linkV g v x k) (writeL g M (nextA g v k) (encB x (tick v.time))) H:=by
 have hbl' : b < v.es.length:=(List.getElem?_eq_some_iff.1 he).1
 obtain ⟨n1,n2,n3⟩:=h.new b e he h0
 have hb : x.blk = (b : Int):=by rw [hxe]; exact n1
 obtain ⟨s1,_,_⟩:=link_es h.ok hb hbl' hk hu
 have hlen : (encB x (tick v.time)).length ≤ 64:=by rw [encB_len hxo.len]; omega
 obtain ⟨r1,r2⟩:=link_reads h hk hu hlen
 have htk : tick v.time = v.time + 1:=tick_succ h.ok.time.1 ht
 have ht0:=h.ok.time.1
 obtain ⟨_,d2,_⟩:=dec_enc hx hxo (show 0 ≤ tick v.time by omega) (by omega)
 have hev:=h.ok.each hk
 intro c f lc hc hl
 rw [s1] at hc
 by_cases e2 : b = c
 ·subst e2
  rw [List.getElem?_set_self hbl'] at hc
  injection hc with hc
  subst hc
  have hnn : 0 ≤ adK g k v.bs[k].used:=adK_nn h.fit.v (by omega)
  refine (hs b e lc he hl).move (by simp only; omega) (fun e=>by omega) (by simp only; rw [hxe]; exact n3) (by simp only; rw [hxe]; exact n2) (fun _=>?_)
  unfold sX
  simp only
  rw [← next_adK hk,r1,d2,hxe]; rfl
 ·rw [List.getElem?_set_ne e2] at hc
  exact (hs c f lc hc hl).same (r2 c f hc)
theorem Shows.reset (h : CInv g n v M) (hs : Shows v M H) (hk : k < v.bs.length) (h0 : v.bs[k].live = 0) : Shows { v with bs:=V.resL v.bs k } (eraseL g M k) H:=by
 intro c e l he hl
 refine (hs c e l he hl).same (fun he0=>?_)
 obtain ⟨j,hj,i,e1,e2,e3⟩:=h.at_ he he0
 have hej:=h.ok.each hj
 have hne : j ≠ k:=fun ejk=>by
  subst ejk
  have hpos : 0 < v.es.countP (liveP g j):=by
   rw [List.countP_pos_iff]
   refine ⟨e,List.mem_of_getElem? he,?_⟩
   have:=adK_band (g:=g) (k:=j) e2 (by omega)
   rw [← e1] at this
   simp [liveP,he0,this]
  have:=h.ok.live j hj
  unfold cntIn at this
  omega
 rw [e1]; exact ((er_get h.fit (h.kb hk) e2 (by omega)).2 hne).2
theorem Shows.p (h : Shows v M H) (hf : ∀ (b : Nat) (l : List Wr) (f : Int),H[b]? = some l → fl[b]? = some f → f ≤ l.length) : ShowsP v M H fl:=fun b e l f he hl hff=>by
 refine ⟨l.length,hf b l f hl hff,Nat.le_refl _,?_⟩
 rw [List.take_length]; exact h b e l he hl
theorem Snap.push (h : Snap g n H fl d) {o : OpV} (hL : d'.L = d.L) (hO : d'.O = d.O ++ [o]) (hn : ∃ v,CInv g n v (d'.M g) ∧ Roomy g v ∧ ShowsP v (d'.M g) H fl) : Snap g n H fl d':=by
 intro k hk
 rw [hO,List.length_append,List.length_singleton] at hk
 by_cases e : k ≤ d.O.length
 ·rw [hL,hO,List.take_append_of_le_length e]
  exact h k e
 ·have ek : k = d'.O.length:=by rw [hO,List.length_append,List.length_singleton]; omega
  rw [ek,List.take_length]
  exact hn
theorem Snap.same (h : Snap g n H fl d) (hL : d'.L = d.L) (hO : d'.O = d.O) : Snap g n H fl d':=by
 intro k hk; rw [hL,hO]; rw [hO] at hk; exact h k hk
theorem Snap.flushed (hO : d'.O = []) (hn : ∃ v,CInv g n v (d'.M g) ∧ Roomy g v ∧ ShowsP v (d'.M g) H fl) : Snap g n H fl d':=by
 intro k hk
 have e : playL g d'.L (d'.O.take k) = d'.M g:=by unfold DC.M; rw [hO]; simp
 rw [e]; exact hn
theorem Snap.grow (h : Snap g n H fl d) {w : Wr} {b : Nat} : Snap g n (addH H b w) fl d:=by
 intro k hk
 obtain ⟨v,h1,h2,h3⟩:=h k hk
 refine ⟨v,h1,h2,fun c e l f he hl hf=>?_⟩
 unfold addH at hl
 by_cases e2 : b = c
 ·subst e2
  have hb : b < H.length:=by
   rcases Nat.lt_or_ge b H.length with h | h
   ·exact h
   ·rw [List.getElem?_eq_none (by simpa using h)] at hl; cases hl
  rw [List.getElem?_set_self hb] at hl
  injection hl with hl
  have hg:=List.getElem?_eq_getElem hb
  have hgd : H.getD b [] = H[b]:=by simp [List.getD,hb]
  obtain ⟨m,m1,m2,m3⟩:=h3 b e H[b] f he hg hf
  rw [hgd] at hl
  refine ⟨m,m1,?_,?_⟩
  ·rw [← hl,List.length_append]; omega
  ·rw [← hl,List.take_append_of_le_length m2]; exact m3
 ·rw [List.getElem?_set_ne e2] at hl
  exact h3 c e l f he hl hf
end
end Go.Proofs.YtggkengmlkhdiaaGreat
namespace Go.Proofs.YtggkengmlkhdiaaGreat
set_option linter.unusedVariables false
open Go.RowKit
structure NowS (g : Geo) (n : Nat) (H : List (List Wr)) (S : ST) : Prop where
 c : CInv g n S.v (S.d.M g)
 fit : Fit g S.d.L
 live : LiveD S.d
 f0 : S.v.failed = 0
 sh : Shows S.v (S.d.M g) H
 u8 : S.d.U8
structure Fallen (g : Geo) (n : Nat) (H : List (List Wr)) (fl : List Int) (d0 d : DC) : Prop where
 armed : d0.P.armed = true
 down : DownD d
 snap : Snap g n H fl d
 u8 : d.U8
 fit : Fit g d.L
section
variable {g : Geo} {F : List Flt} {n : Nat} {H : List (List Wr)} {fl : List Int} {S : ST} {b k : Nat} {x : Ent} {e : NE}
theorem DC.M_push {d d' : DC} {o : OpV} (hL : d'.L = d.L) (hO : d'.O = d.O ++ [o]) : d'.M g = doL g (d.M g) o:=by
 unfold DC.M; rw [hL,hO,playL_snoc]
theorem DC.M_same {d d' : DC} (hL : d'.L = d.L) (hO : d'.O = d.O) : d'.M g = d.M g:=by unfold DC.M; rw [hL,hO]
theorem fetch_on (hR : RunF F) (h : NowS g n H S) (he : S.v.es[b]? = some e) (h0 : 0 ≤ e.adr) :
  (Fell S.d (rdX g F 0 S b) ∧ ftE g F 0 S b = 13) ∨
  (Went S.d (rdX g F 0 S b).1 S.d.L S.d.O ∧ ftE g F 0 S b = 0 ∧ ftX g F 0 S b = sX (S.d.M g) e.adr):=by
 obtain ⟨j,hj,i,ea,i0,i1⟩:=h.c.at_ he h0
 have hev:=h.c.ok.each hj
 have hin : inL S.d.L e.adr = true:=by rw [ea]; exact adK_in h.fit (h.c.kb hj) i0 (by omega)
 obtain ⟨y1,y2,_⟩:=h.c.yes j hj i i0 i1
 rw [← ea] at y1 y2
 obtain ⟨n1,n2,n3⟩:=h.c.new b e he h0
 have hX : rdX g F 0 S b = tryD (rOne g F 0 e.adr) S.d:=by unfold rdX; rw [getD_of he]
 rcases read_on (g:=g) hR h.live hin with hf | ⟨hw,ha⟩
 ·left
  rw [← hX] at hf
  refine ⟨hf,?_⟩
  unfold ftE
  rw [hf.ans]
  exact if_neg (by decide)
 ·right
  rw [← hX] at hw ha
  rw [if_pos y1,if_pos y1] at ha
  have hE : ftE g F 0 S b = 0:=by
   unfold ftE
   rw [ha,if_pos rfl,getD_of he]
   have : holdsB e b (readB (S.d.M g) e.adr) = true:=by
    unfold holdsB
    unfold sX at n1 n2 n3
    simp [y2,n1,n2,n3]
   simp only
   rw [this,if_pos rfl]
  refine ⟨hw,hE,?_⟩
  unfold ftX
  rw [if_pos hE,ha]; rfl
theorem wrX_on (hR : RunF F) (h : NowS g n H S) (hxo : x.Ok) (hk : k < S.v.bs.length) (hu : S.v.bs[k].used < bz g) :
  Fell S.d (wrX g F 0 S x k) ∨
  (Went S.d (wrX g F 0 S x k).1 S.d.L (S.d.O ++ [wrOp (nextA g S.v k) (encB x (tick S.v.time))]) ∧ (wrX g F 0 S x k).2 = ⟨0,[]⟩ ∧ (wrX g F 0 S x k).1.M g = writeL g (S.d.M g) (nextA g S.v k) (encB x (tick S.v.time))):=by
 have hev:=h.c.ok.each hk
 have hin : inL S.d.L (nextA g S.v k) = true:=by rw [next_adK hk]; exact adK_in h.fit (h.c.kb hk) (by omega) hu
 have hlen : (encB x (tick S.v.time)).length ≤ 64:=by rw [encB_len hxo.len]; omega
 rcases write_on (g:=g) hR h.live hin hlen with hf | ⟨hw,ha⟩
 ·exact .inl hf
 ·refine .inr ⟨hw,ha,?_⟩
  have:=DC.M_push (g:=g) hw.L hw.O
  unfold doL wrOp at this
  exact this
theorem wrX_u8 (h : S.d.U8) (hx : U8s x.dt) {j : Int} : (wrX g F 0 S x j).1.U8:=tryD_u8 (fun _ hd=>wOne_u8 hd (encB_u8 hx)) h
theorem full_room {g : Geo} {v : DV} (hk : k < v.bs.length) (h : ∀ (j : Nat) (hj : j < v.bs.length),(j : Int) ≠ (k : Int) → v.bs[j].used = bz g) : roomN (bz g) v.bs k = 0:=by
 rw [room_at _ _ _ hk]
 have h1:=sumF_set uF v.bs k ⟨bz g,0,0,0⟩ hk
 have h2 : sumF uF (v.bs.set k ⟨bz g,0,0,0⟩) = sumF (fun _=>bz g) (v.bs.set k ⟨bz g,0,0,0⟩):=by
  refine Int.le_antisymm (sumF_le (fun b hb=>?_)) (sumF_le (fun b hb=>?_))
  all_goals
   obtain ⟨j,hj,rfl⟩:=List.getElem_of_mem hb
   rw [List.getElem_set]
   split
   ·exact Int.le_refl _
   ·rename_i hne
    rw [List.length_set] at hj
    have:=h j hj (by omega)
    unfold uF; omega
 rw [sumF_const,List.length_set] at h2
 have e1 : uF v.bs[k] = v.bs[k].used:=rfl
 have e2 : uF (⟨bz g,0,0,0⟩ : V.BI) = bz g:=rfl
 rw [e1,e2] at h1
 omega
theorem Mvd.roomy {v0 v : DV} {u m : Int} (h : Mvd g v0 v k u m) (hk0 : k < v0.bs.length) (hum : u = m) (hlt : v0.bs[k].live < bz g) (hr : v0.bs[k].live ≤ roomN (bz g) v0.bs k) :
  Roomy g v ∧ ∃ hk : k < v.bs.length,v.bs[k].live = v0.bs[k].live - m ∧ v.bs[k].live ≤ roomN (bz g) v.bs k:=by
 have hk : k < v.bs.length:=by rw [h.len]; exact hk0
 obtain ⟨a1,a2⟩:=h.at_ hk hk0
 have r1:=room_at (bz g) v.bs k hk
 have r0:=room_at (bz g) v0.bs k hk0
 have hus:=h.us
 have hle : v.bs[k].live ≤ roomN (bz g) v.bs k:=by rw [r1,h.len,hus,a1,a2]; rw [r0] at hr; omega
 have hu0:=h.u0
 exact ⟨.inr ⟨k,hk,by omega,hle⟩,hk,a2,hle⟩
theorem mv_step (hR : RunF F) {v0 : DV} {r : ST × Int × Int} {j : Int} (hm : Mvd g v0 r.1.v k r.2.1 j) (hj : r.2.1 = j) (h : NowS g n H r.1) (hs : Snap g n H fl r.1.d) (hfl : ∀ (b : Nat) (l : List Wr) (f : Int),H[b]? = some l → fl[b]? = some f → f ≤ l.length)
  (hk0 : k < v0.bs.length) (hlt : v0.bs[k].live < bz g) (hroom : v0.bs[k].live ≤ roomN (bz g) v0.bs k) (he : r.1.v.es[b]? = some e) {i : Int} (ha : At g r.1.v.bs e.adr k i) (hl1 : j < v0.bs[k].live) (ht : r.1.v.time < 18446744073709551615) :
  ((mvOne g F 0 k b r).2.2 = 0 ∧ (mvOne g F 0 k b r).2.1 = r.2.1 + 1 ∧ NowS g n H (mvOne g F 0 k b r).1 ∧ Snap g n H fl (mvOne g F 0 k b r).1.d ∧ (mvOne g F 0 k b r).1.d.P.armed = r.1.d.P.armed) ∨
  ((mvOne g F 0 k b r).2.2 = 13 ∧ Fallen g n H fl r.1.d (mvOne g F 0 k b r).1.d):=by
 have h0:=(ha.nn h.c.ok).2.1
 have hbl : b < r.1.v.es.length:=(List.getElem?_eq_some_iff.1 he).1
 rcases fetch_on hR h he h0 with ⟨hf,hE⟩ | ⟨hw,hE,hX⟩
 ·right
  rcases mvOne_cases g F 0 k b r with ⟨h15,_⟩ | ⟨h00,_⟩ | ⟨h00,_⟩ | ⟨_,_,hc⟩
  ·omega
  ·omega
  ·omega
  ·rw [hc]
   simp only
   exact ⟨hE,hf.armed,hf.down,hs.same hf.L hf.O,(rdX_u8 h.u8).2,h.fit.len (by rw [hf.L])⟩
 ·
  have hS' : NowS g n H ⟨r.1.v,(rdX g F 0 r.1 b).1⟩:=⟨by simp only; rw [DC.M_same hw.L hw.O]; exact h.c,h.fit.len (by simp only; rw [hw.L]),hw.live,h.f0,by simp only; rw [DC.M_same hw.L hw.O]; exact h.sh,(rdX_u8 h.u8).2⟩
  have hs' : Snap g n H fl (rdX g F 0 r.1 b).1:=hs.same hw.L hw.O
  obtain ⟨_,_,hdec,hvx,hbx,hverx,hkx⟩:=ftX_told hE
  have hxo:=ftX_ok hE h.u8
  have hMs : (rdX g F 0 r.1 b).1.M g = r.1.d.M g:=DC.M_same hw.L hw.O
  generalize hxx : ftX g F 0 r.1 b = x at *
  obtain ⟨hroy,hk,hlive,hrk⟩:=hm.roomy hk0 hj hlt hroom
  have hokS : VOk g (⟨r.1.v,(rdX g F 0 r.1 b).1⟩ : ST).v:=h.c.ok
  rcases appN_cases (F:=F) (key:=0) (S:=⟨r.1.v,(rdX g F 0 r.1 b).1⟩) (except:=(k : Int)) hokS (by simp only; omega) hvx with ⟨c,hc,hopen,hcu,hck,hpart,hwr⟩ | ⟨_,hall,_⟩
  ·rcases wrX_on hR hS' hxo hc hcu with hf | ⟨hww,hwa,hwM⟩
   ·right
    rcases hwr with ⟨hw0,_⟩ | ⟨hw1,happ⟩
    ·rw [hf.ans] at hw0; exact absurd hw0 (by decide)
    ·rw [hf.ans] at happ
     rcases mvOne_cases g F 0 k b r with ⟨h15,_⟩ | ⟨_,ha0,_⟩ | ⟨_,_,hcc⟩ | ⟨hne,_,_⟩
     ·omega
     ·rw [hxx,happ] at ha0; exact absurd (show (13 : Int) = 0 from ha0) (by decide)
     ·rw [hxx,happ] at hcc
      rw [hcc]
      simp only
      exact ⟨trivial,by rw [← hw.armed]; exact hf.armed,hf.down,hs'.same hf.L hf.O,wrX_u8 hS'.u8 hxo.u8,hS'.fit.len (by rw [hf.L])⟩
     ·omega
   ·left
    rcases hwr with ⟨hw0,happ⟩ | ⟨hw1,_⟩
    ·rcases mvOne_cases g F 0 k b r with ⟨h15,_⟩ | ⟨_,ha0,hcc⟩ | ⟨_,ha1,_⟩ | ⟨hne,_,_⟩
     ·omega
     ·have hz : (mvOne g F 0 k b r).2.2 = 0:=by rw [hcc]
      have hmd:=(mvOne_mvd (F:=F) (key:=0) hm he ha hz).1
      rw [hxx,happ] at hcc
      have hM' : (wrX g F 0 ⟨r.1.v,(rdX g F 0 r.1 b).1⟩ x c).1.M g = writeL g (r.1.d.M g) (nextA g r.1.v c) (encB x (tick r.1.v.time)):=by rw [hwM]; simp only; rw [hMs]
      have hcl : CInv g n (linkV g r.1.v x c) ((wrX g F 0 ⟨r.1.v,(rdX g F 0 r.1 b).1⟩ x c).1.M g):=by
       rw [hM']
       refine h.c.link hvx hxo hbx (by rw [← h.c.es]; exact hbl) (fun f hf hf0=>?_) hc hcu ht
       rw [he] at hf; injection hf with hf; subst hf
       rw [hverx,getD_of he]; exact Int.le_refl _
      have hsh : Shows (linkV g r.1.v x c) ((wrX g F 0 ⟨r.1.v,(rdX g F 0 r.1 b).1⟩ x c).1.M g) H:=by
       rw [hM']
       exact h.sh.moved h.c hvx hxo he h0 hX hc hcu ht
      have hf0 : (linkV g r.1.v x c).failed = 0:=by
       rw [(link_es h.c.ok hbx hbl hc hcu).2.2]; exact h.f0
      rw [hcc] at hmd ⊢
      simp only at hmd ⊢
      obtain ⟨hroy2,_⟩:=hmd.roomy hk0 (by omega) hlt hroom
      refine ⟨trivial,trivial,⟨hcl,hS'.fit.len (by rw [hww.L]),hww.live,hf0,hsh,wrX_u8 hS'.u8 hxo.u8⟩,hs'.push hww.L hww.O ⟨_,hcl,hroy2,hsh.p hfl⟩,by rw [hww.armed]; exact hw.armed⟩
     ·rw [hxx,happ] at ha1; exact absurd rfl ha1
     ·omega
    ·rw [hwa] at hw1; exact absurd rfl hw1
  ·exfalso
   have h1:=full_room (g:=g) (v:=r.1.v) hk (fun a hA hne=>hall a hA hne)
   omega
end
end Go.Proofs.YtggkengmlkhdiaaGreat
namespace Go.Proofs.YtggkengmlkhdiaaGreat
set_option linter.unusedVariables false
open Go.RowKit
section
variable {g : Geo} {F : List Flt} {n : Nat} {H : List (List Wr)} {fl : List Int} {S : ST} {b k : Nat}
def MvP (g : Geo) (n : Nat) (H : List (List Wr)) (fl : List Int) (d0 : DC) (j : Int) (r : ST × Int × Int) : Prop:=
 (r.2.2 = 0 ∧ r.2.1 = j ∧ NowS g n H r.1 ∧ Snap g n H fl r.1.d ∧ r.1.d.P.armed = d0.P.armed) ∨ (r.2.2 = 13 ∧ Fallen g n H fl d0 r.1.d)
theorem MvP.next (hR : RunF F) {v0 : DV} {d0 : DC} {r : ST × Int × Int} {j i : Int} {e : NE} (hp : MvP g n H fl d0 j r) (h0 : r.2.2 = 0) (hfl : ∀ (b : Nat) (l : List Wr) (f : Int),H[b]? = some l → fl[b]? = some f → f ≤ l.length) (hm : Mvd g v0 r.1.v k r.2.1 j)
  (hk0 : k < v0.bs.length) (hlt : v0.bs[k].live < bz g) (hroom : v0.bs[k].live ≤ roomN (bz g) v0.bs k) (he : r.1.v.es[b]? = some e) (ha : At g r.1.v.bs e.adr k i) (hl1 : j < v0.bs[k].live) (ht : r.1.v.time < 18446744073709551615) : MvP g n H fl d0 (j + 1) (mvOne g F 0 k b r):=by
 rcases hp with ⟨_,h2,h3,h4,h5⟩ | ⟨h1,_⟩
 ·have hst:=mv_step (fl:=fl) hR hm h2 h3 h4 hfl hk0 hlt hroom he ha hl1 ht
  generalize mvOne g F 0 (k : Int) b r = Q at *
  rcases hst with ⟨a1,a2,a3,a4,a5⟩ | ⟨a1,a2⟩
  ·exact .inl ⟨a1,by rw [a2,h2],a3,a4,a5.trans h5⟩
  ·exact .inr ⟨a1,⟨by rw [← h5]; exact a2.armed,a2.down,a2.snap,a2.u8,a2.fit⟩⟩
 ·rw [h0] at h1; exact absurd h1 (by decide)
theorem mvK_on (hR : RunF F) (h : NowS g n H S) (hs : Snap g n H fl S.d) (hfl : ∀ (b : Nat) (l : List Wr) (f : Int),H[b]? = some l → fl[b]? = some f → f ≤ l.length)
  (hk : k < S.v.bs.length) (hlt : S.v.bs[k].live < bz g) (hroom : S.v.bs[k].live ≤ roomN (bz g) S.v.bs k) (ht : S.v.time < 18446744073709540000) {l : List Nat} (hl : SortedOk g S.v k l) : ∀ j : Nat,j ≤ l.length → MvP g n H fl S.d (j : Int) (mvK g F 0 k l S j)
 | 0,_=>.inl ⟨rfl,rfl,h,hs,rfl⟩
 | j + 1,hj=>by
   have hll:=hl.len hk
   have hz:=h.c.ok.bz1
   have hev:=h.c.ok.each hk
   have ih:=mvK_on hR h hs hfl hk hlt hroom ht hl j (by omega)
   by_cases h1 : (mvK g F 0 k l S j).2.2 = 0
   ·obtain ⟨hm,hrest⟩:=mvK_mvd (F:=F) (key:=0) h.c.ok hl j (by omega) h1
    obtain ⟨m,i,hn,ha⟩:=hl.mem l[j] (List.getElem_mem (by omega))
    have hn2:=(hrest j (by omega) (Nat.le_refl _)).trans hn
    have hgd : l.getD j 0 = l[j]:=by simp [List.getD,show j < l.length by omega]
    rw [mvK_yes h1,hgd,show ((j + 1 : Nat) : Int) = (j : Int) + 1 by omega]
    clear hrest
    generalize mvK g F 0 k l S j = R at ih h1 hm hn2 ⊢
    have ha2 : ∃ i,At g R.1.v.bs m.adr k i:=by
     rcases hm.ok.adr _ m hn2 with h6 | ⟨k',i',h6⟩
     ·have:=(ha.nn h.c.ok).2.1; omega
     ·have h7:=h6.band hm.ok
      have h8:=ha.band h.c.ok
      have : k = k':=by omega
      subst this
      exact ⟨i',h6⟩
    obtain ⟨i2,ha2⟩:=ha2
    have htm:=hm.tm
    have hun:=hm.un
    exact ih.next hR h1 hfl hm hk hlt hroom hn2 ha2 (by omega) (by omega)
   ·have:=mvK_stay (g:=g) (F:=F) (key:=0) (k:=(k : Int)) (l:=l) (S:=S) (j:=j) h1 1
    rw [this]
    rcases ih with ⟨h0,_⟩ | h0
    ·exact absurd h0 h1
    ·exact .inr h0
theorem clean_on (hR : RunF F) (h : NowS g n H S) (hs : Snap g n H fl S.d) (hfl : ∀ (b : Nat) (l : List Wr) (f : Int),H[b]? = some l → fl[b]? = some f → f ≤ l.length)
  (hk : k < S.v.bs.length) (hlt : S.v.bs[k].live < bz g) (hroom : S.v.bs[k].live ≤ roomN (bz g) S.v.bs k) (ht : S.v.time < 18446744073709540000) {r : ST × Int × Int} (hc : CleanR g F 0 k S r) :
  (r.2.2 = 0 ∧ NowS g n H r.1 ∧ Snap g n H fl r.1.d ∧ r.1.d.P.armed = S.d.P.armed) ∨ (r.2.2 = 13 ∧ Fallen g n H fl S.d r.1.d):=by
 obtain ⟨l,hl,rfl⟩:=hc
 have hso:=hl.ok h.c.ok
 have hll:=hso.len hk
 have hm0:=mvK_mvd (F:=F) (key:=0) h.c.ok hso l.length (Nat.le_refl _)
 have hmo:=mvK_on hR h hs hfl hk hlt hroom ht hso l.length (Nat.le_refl _)
 rw [clean_at rfl]
 generalize mvK g F 0 k l S l.length = X at *
 unfold MvP at hmo
 rcases hmo with ⟨x1,x2,x3,x4,x5⟩ | ⟨x1,x2⟩
 ·obtain ⟨hm,_⟩:=hm0 x1
  rw [if_pos x1]
  obtain ⟨hroy,hkx,hlive,_⟩:=hm.roomy hk x2 hlt hroom
  have hl0 : X.1.v.bs[k].live = 0:=by omega
  unfold wipeS
  obtain ⟨T,hT,hfS⟩:=flushS_form g F 0 X.1
  rw [hfS]
  rcases flush_on (g:=g) hR x3.live with hf | ⟨hw,ha⟩
  ·right
   rw [← hT] at hf
   simp only
   rw [hf.ans]
   simp only [show ¬ (13 : Int) = 0 by decide,if_false]
   exact ⟨trivial,by rw [← x5]; exact hf.armed,hf.down,x4.same hf.L hf.O,by rw [hT]; exact tryD_u8 (fun _ hd=>fOne_u8 hd) x3.u8,x3.fit.len (by rw [hf.L])⟩
  ·rw [← hT] at hw ha
   have hTu : T.1.U8:=by rw [hT]; exact tryD_u8 (fun _ hd=>fOne_u8 hd) x3.u8
   simp only
   rw [ha]
   simp only [if_true,DV.fail_zero]
   have hTM : T.1.M g = X.1.d.M g:=by unfold DC.M; rw [hw.L,hw.O]; rfl
   have hTf : Fit g T.1.L:=by rw [hw.L]; exact x3.c.fit
   have hcT : CInv g n X.1.v (T.1.M g):=by rw [hTM]; exact x3.c
   have hsT : Shows X.1.v (T.1.M g) H:=by rw [hTM]; exact x3.sh
   have hsn : Snap g n H fl T.1:=Snap.flushed hw.O ⟨_,hcT,hroy,hsT.p hfl⟩
   obtain ⟨U,hU,hfU⟩:=eraseS_form g F 0 k ⟨X.1.v,T.1⟩
   rw [hfU]
   have hin : inR (k : Int) 0 (g.bands - 1) = true:=by
    rw [inR_iff]; have:=x3.c.kb hkx; omega
   rcases erase_on (g:=g) hR hw.live hin with hf2 | ⟨hw2,ha2⟩
   ·right
    rw [← hU] at hf2
    simp only
    rw [hf2.ans]
    simp only [show ¬ (13 : Int) = 0 by decide,if_false]
    exact ⟨trivial,by rw [← x5,← hw.armed]; exact hf2.armed,hf2.down,hsn.same hf2.L hf2.O,by rw [hU]; exact tryD_u8 (fun _ hd=>eOne_u8 hd) hTu,hTf.len (by rw [hf2.L])⟩
   ·left
    rw [← hU] at hw2 ha2
    simp only
    rw [ha2]
    simp only [if_true,DV.fail_zero]
    have hUM : U.1.M g = eraseL g (T.1.M g) k:=by
     have:=DC.M_push (g:=g) hw2.L hw2.O
     unfold doL erOp at this
     exact this
    have hcU : CInv g n { X.1.v with bs:=V.resL X.1.v.bs k } (U.1.M g):=by rw [hUM]; exact hcT.reset hkx hl0
    have hsU : Shows { X.1.v with bs:=V.resL X.1.v.bs k } (U.1.M g) H:=by rw [hUM]; exact hsT.reset hcT hkx hl0
    have hfree : 1 ≤ V.freeN (V.resL X.1.v.bs k):=by
     rw [resL_nat hkx]
     exact free_pos (k:=k) (by simpa using hkx) (by simp [V.resBI])
    exact ⟨trivial,⟨hcU,hTf.len (by show U.1.L.length = _; rw [hw2.L]),hw2.live,x3.f0,hsU,by show U.1.U8; rw [hU]; exact tryD_u8 (fun _ hd=>eOne_u8 hd) hTu⟩,hsn.push hw2.L hw2.O ⟨_,hcU,.inl hfree,hsU.p hfl⟩,by show U.1.P.armed = _; rw [hw2.armed,hw.armed]; exact x5⟩
 ·right
  rw [if_neg (by omega)]
  exact ⟨x1,x2⟩
end
end Go.Proofs.YtggkengmlkhdiaaGreat
namespace Go.Proofs.YtggkengmlkhdiaaGreat
set_option linter.unusedVariables false
open Go.RowKit
def hasE (e : NE) : Bool:=decide (0 ≤ e.adr)
def upTo (g : Geo) (N : Nat) (e : NE) : Bool:=decide (0 ≤ e.adr) && (decide (0 ≤ bandN g e.adr) && decide (bandN g e.adr < (N : Int)))
theorem upTo_succ (g : Geo) (N : Nat) (es : List NE) : ((es.countP (upTo g (N + 1)) : Nat) : Int) = ((es.countP (upTo g N) : Nat) : Int) + cntIn g es N:=by
 unfold cntIn
 induction es with
 | nil=>simp
 | cons e l ih=>
   simp only [List.countP_cons]
   have h : (if upTo g (N + 1) e = true then (1 : Nat) else 0) = (if upTo g N e = true then 1 else 0) + (if liveP g N e = true then 1 else 0):=by
    unfold upTo liveP
    by_cases h0 : 0 ≤ e.adr
    ·by_cases h1 : 0 ≤ bandN g e.adr
     ·rcases Int.lt_trichotomy (bandN g e.adr) (N : Int) with h2 | h2 | h2
      ·simp [h0,h1,h2,show bandN g e.adr < (N : Int) + 1 by omega,show bandN g e.adr ≠ (N : Int) by omega]
      ·simp [h0,h2,show ¬ ((N : Int) < (N : Int)) by omega]
       omega
      ·simp [h0,h1,show ¬ (bandN g e.adr < (N : Int)) by omega,show ¬ (bandN g e.adr < (N : Int) + 1) by omega,show bandN g e.adr ≠ (N : Int) by omega]
     ·simp [h0,h1,show bandN g e.adr ≠ (N : Int) by omega]
    ·simp [h0]
   omega
theorem live_upTo {g : Geo} {v : DV} (h : VOk g v) : ∀ N,N ≤ v.bs.length → sumF lF (v.bs.take N) = ((v.es.countP (upTo g N) : Nat) : Int)
 | 0,_=>by
   have : v.es.countP (upTo g 0) = 0:=by
    rw [List.countP_eq_zero]
    intro e _
    unfold upTo
    simp only [Bool.and_eq_true,decide_eq_true_eq]
    omega
   rw [this]; rfl
 | N + 1,hN=>by
   have hk : N < v.bs.length:=by omega
   rw [List.take_succ_eq_append_getElem hk,upTo_succ,← live_upTo h N (by omega),← h.live N hk]
   have happ : ∀ (l : List V.BI) (x : V.BI),sumF lF (l ++ [x]) = sumF lF l + lF x:=fun l x=>by
    induction l with
    | nil=>simp [sumF]
    | cons a l ih=>rw [List.cons_append]; simp only [sumF]; rw [ih]; omega
   rw [happ]; rfl
theorem live_all {g : Geo} {v : DV} (h : VOk g v) : sumF lF v.bs = ((v.es.countP hasE : Nat) : Int):=by
 have h1:=live_upTo h v.bs.length (Nat.le_refl _)
 rw [List.take_length] at h1
 rw [h1]
 congr 1
 refine List.countP_congr (fun e he=>?_)
 obtain ⟨b,hb⟩:=List.mem_iff_getElem?.1 he
 unfold upTo hasE
 simp only [Bool.and_eq_true,decide_eq_true_eq]
 constructor
 ·exact fun h=>h.1
 ·intro h0
  rcases h.adr b e hb with h2 | ⟨k,i,h2⟩
  ·omega
  ·have h3:=h2.band h
   have h4:=h2.hk
   exact ⟨h0,by omega,by omega⟩
theorem live_le {g : Geo} {v : DV} (h : VOk g v) : sumF lF v.bs ≤ v.es.length:=by
 rw [live_all h]
 have:=List.countP_le_length (p:=hasE) (l:=v.es)
 omega
theorem best_some (sz : Int) (bs : List V.BI) : ∀ (l : List V.BI) (s : Nat × V.BI) (i : Nat),bestFrom sz bs (some s) i l ≠ none
 | [],s,i=>by simp [bestFrom]
 | b :: l,s,i=>by
   unfold bestFrom bestStep
   split
   ·obtain ⟨j,c⟩:=s
    simp only
    split
    ·exact best_some sz bs l _ _
    ·exact best_some sz bs l _ _
   ·exact best_some sz bs l _ _
theorem best_none (sz : Int) (bs : List V.BI) : ∀ (l : List V.BI) (i : Nat),bestFrom sz bs none i l = none → ∀ (j : Nat) (hj : j < l.length),¬ (l[j].live < sz ∧ l[j].live ≤ roomN sz bs ((i + j : Nat) : Int))
 | [],i,_,j,hj=>by simp at hj
 | b :: l,i,h,j,hj=>by
   unfold bestFrom bestStep at h
   split at h
   ·exact absurd h (best_some sz bs l _ _)
   ·rename_i hc
    cases j with
    | zero=>simpa using hc
    | succ j=>
      have:=best_none sz bs l (i + 1) h j (by simpa using hj)
      simp only [List.getElem_cons_succ]
      rw [show i + (j + 1) = i + 1 + j by omega]; exact this
theorem victim_none {g : Geo} {v : DV} (h : VOk g v) (hf : 1 ≤ V.freeN v.bs) (h0 : (victimN g v).2 ≠ 0) : ∀ (k : Nat) (hk : k < v.bs.length),(k : Int) ≠ V.openB v.bs (bz g) → v.bs[k].used ≠ 0 → v.bs[k].live = bz g:=by
 have hz:=h.bz1
 intro k hk hne hu
 unfold victimN at h0
 rw [if_pos (by omega)] at h0
 rcases V.choose_told (now:=v.time) (opn:=V.openB v.bs (bz g)) h.val (by omega) with ⟨_,h2⟩ | ⟨c,_,h1,_⟩
 ·have h3:=h2 k hk
  have hev:=h.each hk
  unfold V.candB at h3
  simp only [Bool.and_eq_false_iff,Bool.not_eq_false',decide_eq_true_eq,decide_eq_false_iff_not] at h3
  omega
 ·rw [h1] at h0; exact absurd rfl h0
theorem victim_some {g : Geo} {v : DV} (h : VOk g v) (hn : (v.es.length : Int) ≤ (g.bands - 3) * bz g) (hf : V.freeN v.bs < 2) (hr : Roomy g v) : (victimN g v).2 = 0:=by
 have hz:=h.bz1
 by_cases h0 : (victimN g v).2 = 0
 ·exact h0
 exfalso
 have hfn : 0 ≤ V.freeN v.bs:=by unfold V.freeN; omega
 by_cases h1 : 1 ≤ V.freeN v.bs
 ·have hall:=victim_none h h1 h0
  have hle:=live_le h
  have hlen:=h.len
  have hl64:=h.len64
  have hfs:=free_sum v.bs
  have key : (v.bs.length : Int) * bz g - 2 * bz g ≤ sumF lF v.bs:=by
   have hband : ∀ (bs : List V.BI),(∀ b ∈ bs,b.used ≠ 0 → bz g ≤ b.live) → (∀ b ∈ bs,0 ≤ b.live) → (bs.length : Int) * bz g - sumF fF bs * bz g ≤ sumF lF bs:=by
    intro bs
    induction bs with
    | nil=>intro _ _; simp [sumF]
    | cons a l ih=>
      intro ha hb
      have h2:=ih (fun b hb=>ha b (by simp [hb])) (fun b hb'=>hb b (by simp [hb']))
      have h3:=ha a (by simp)
      have h4:=hb a (by simp)
      simp only [sumF,List.length_cons]
      rw [Int.add_mul,show ((l.length + 1 : Nat) : Int) = (l.length : Int) + 1 by omega,Int.add_mul]
      unfold lF fF
      by_cases hu : a.used = 0
      ·rw [if_pos hu]; unfold lF fF at h2; omega
      ·rw [if_neg hu]; have:=h3 hu; unfold lF fF at h2; omega
   rcases openB_told h.val with ⟨ho,_⟩ | ⟨i,hi,ho,hp,_⟩
   ·have h2:=hband v.bs (fun b hb hu=>by
     obtain ⟨k,hk,rfl⟩:=List.getElem_of_mem hb
     have:=hall k hk (by rw [ho]; omega) hu
     omega) (fun b hb=>(h.mem hb).1)
    rw [← hfs,show V.freeN v.bs = 1 by omega] at h2
    omega
   ·have hp2 : 0 < v.bs[i].used ∧ v.bs[i].used < bz g:=by simpa [V.partB] using hp
    have h2:=hband (v.bs.set i ⟨bz g,bz g,0,0⟩) (fun b hb hu=>by
     obtain ⟨k,hk,rfl⟩:=List.getElem_of_mem hb
     rw [List.length_set] at hk
     rw [List.getElem_set] at hu ⊢
     split
     ·exact Int.le_refl _
     ·rename_i hne
      rw [if_neg hne] at hu
      have:=hall k hk (by rw [ho]; omega) hu
      omega) (fun b hb=>by
     obtain ⟨k,hk,rfl⟩:=List.getElem_of_mem hb
     rw [List.length_set] at hk
     rw [List.getElem_set]
     split
     ·simp only; omega
     ·exact (h.each hk).1)
    rw [List.length_set,sumF_set _ _ _ _ hi,sumF_set _ _ _ _ hi,← hfs] at h2
    have e1 : fF v.bs[i] = 0:=by unfold fF; rw [if_neg (by omega)]
    have e2 : fF (⟨bz g,bz g,0,0⟩ : V.BI) = 0:=by unfold fF; rw [if_neg (by simp only; omega)]
    have e3 : lF (⟨bz g,bz g,0,0⟩ : V.BI) = bz g:=rfl
    have e4 : lF v.bs[i] = v.bs[i].live:=rfl
    rw [e1,e2,e3,e4,show V.freeN v.bs - 0 + 0 = 1 by omega] at h2
    have:=(h.each hi).1
    omega
  rw [Int.sub_mul] at hn
  rw [← hlen] at hn
  omega
 ·unfold victimN at h0
  rw [if_neg (by omega)] at h0
  rcases hr with hr | ⟨k,hk,r1,r2⟩
  ·omega
  ·cases hb : bestFrom (bz g) v.bs none 0 v.bs with
   | some s=>rw [hb] at h0; obtain ⟨j,c⟩:=s; exact absurd rfl h0
   | none=>
     have:=best_none (bz g) v.bs v.bs 0 hb k hk
     rw [Nat.zero_add] at this
     exact this ⟨r1,r2⟩
end Go.Proofs.YtggkengmlkhdiaaGreat
