/-
  WHAT IS SHOWN: reading a sector as a drive does, its cache untouched; what the rows of sectors keep. reading all sectors of the bands, as Open of drive does, and what Open returns and leaves. Conditions: as each theorem names them.
-/
import Derived.Test.YtggkengmlkhdiaaGreatM33
import Derived.Test.YtggkengmlkhdiaaGreatM27
namespace Go.Proofs.YtggkengmlkhdiaaGreat
set_option linter.unusedVariables false
open Go.RowKit Go.Maps
theorem info_bysl:(Tryz.prog.info? 65).map (fun i=>(i.zero,i.size,i.bytes))=some (some (.slice none 0 0),1,24):=by kernel_rfl
theorem own_apart20 {w:World} {b1 b2:Nat} {e1 e2:TypeId} {s1 s2 n1 n2:Nat} {v1 v2:Value} {x1 x2:List Value} (h1:w.ownsRow b1 e1 s1 v1 n1 x1) (h2:w.ownsRow b2 e2 s2 v2 n2 x2) (he:e1≠e2):v1.ownBlock=none∨v1.ownBlock≠v2.ownBlock:=by
 rcases h1.2 with ⟨e,_⟩ | ⟨g,cap,cur,e,_,hg,_⟩
 ·exact .inl (by rw [e]; rfl)
 ·refine .inr fun hh=>?_
  rw [e] at hh
  obtain ⟨h3,_⟩:=own_row h2 (j:=g) hh.symm
  exact h3.ne (IsT.of hg) (fun e=>he e.symm) rfl
section
variable {w0 w w':World} {B:Bd} {p q pw pd:Nat} {g:Geo} {F:List Flt} {key:Int} {s:DS} {P:Pow} {FA:Option Addr} {n fc:Nat}
theorem Mid.below20 (h:Mid w0 w B q pw g n fc p FA s P) (hb:Below w.heap.size w w'):Mid w0 w' B q pw g n fc p FA s P:=
 ⟨own_kept h.o (belKept0 (S:=fun _=>False) hb) (fun _ _ h=>h),h.p.below0 hb,h.k.thenBelow hb,h.x⟩
theorem Mid.grown20 {base m:Nat} {v:Value} {xs:List Value} (h:Mid w0 w B q pw g n fc p FA s P) (hg:w.grownBy w' v.ownBlock) (ho:w.ownsRow base 65 1 v m xs) (hb:w0.heap.size≤base):Mid w0 w' B q pw g n fc p FA s P:=by
 have hk:Kept (fun k=>v.ownBlock=some k) w w':=⟨hg.os,hg.tape,hg.output,hg.size,fun k hk hS=>hg.block k hk (fun e=>hS e.symm)⟩
 refine ⟨h.o.kept hg (own_apart20 h.o ho (by decide)),⟨h.p.obj.kept hg (own_apart20 h.p.obj ho (by decide)),h.p.px⟩,Kept.trans h.k hk (fun i hi e=>?_),h.x⟩
 have:=(own_row ho e).2
 omega
set_option maxRecDepth 100000 in
set_option maxHeartbeats 4000000 in
theorem sectorMid_any {a:Int} {d:DC} (hm:Mid w0 w B q pw g F.length fc pd FA d.s d.P) (hc:CacheM w0 B pd g d.L d.O) (hfl:RdT w0 49 FA (flatF F)) (hf:Fit g d.L) (hs:ShortB d.L) (hB:B.top≤w0.heap.size) (hw:w0.heap.size≤w.heap.size) (hn:F.length≤9223372036854775807) (hk:DKey w p q key):
  Calls Tryz.prog 59 #[.pointer (some ⟨p,0,none⟩),.int .i64 a] w fun e w'=>∃ A c,e= .returned (.tuple #[.slice A (tryD (rOne g F key a) d).2.by_.length c,.int .i64 (tryD (rOne g F key a) d).2.er])∧Bys 5 w' (.slice A (tryD (rOne g F key a) d).2.by_.length c) (tryD (rOne g F key a) d).2.by_∧
   Mid w0 w' B q pw g F.length fc pd FA (tryD (rOne g F key a) d).1.s (tryD (rOne g F key a) d).1.P∧KeptT DPT (Bd.of 0) w w':=by
 have hb0:Below w.heap.size w (((w.alloc (.cells #[.pointer (some ⟨p,0,none⟩)] 22)).alloc (.cells #[.int .i64 a] 3)).alloc (.cells #[.slice none 0 0] 65)):=(((Below.refl _ _).alloc (Nat.le_refl _) _).alloc (by simp) _).alloc (by simp; omega) _
 have o0:(((w.alloc (.cells #[.pointer (some ⟨p,0,none⟩)] 22)).alloc (.cells #[.int .i64 a] 3)).alloc (.cells #[.slice none 0 0] 65)).heap[w.heap.size]?=some (.cells #[.pointer (some ⟨p,0,none⟩)] 22 (0,0)):=by
  rw [belObj (B:=w.heap.size+1) (w:=w.alloc (.cells #[.pointer (some ⟨p,0,none⟩)] 22)) (((Below.refl _ _).alloc (by simp) _).alloc (by simp) _) (heap_alloc_new w _) (by omega)]
 have o1:(((w.alloc (.cells #[.pointer (some ⟨p,0,none⟩)] 22)).alloc (.cells #[.int .i64 a] 3)).alloc (.cells #[.slice none 0 0] 65)).heap[w.heap.size+1]?=some (.cells #[.int .i64 a] 3 (0,0)):=by
  have h1:=heap_alloc_new (w.alloc (.cells #[.pointer (some ⟨p,0,none⟩)] 22)) (.cells #[.int .i64 a] 3)
  rw [show (w.alloc (.cells #[.pointer (some ⟨p,0,none⟩)] 22)).heap.size=w.heap.size+1 by simp] at h1
  exact belObj (B:=w.heap.size+2) ((Below.refl _ _).alloc (by simp) _) h1 (by omega)
 have o2:(((w.alloc (.cells #[.pointer (some ⟨p,0,none⟩)] 22)).alloc (.cells #[.int .i64 a] 3)).alloc (.cells #[.slice none 0 0] 65)).heap[w.heap.size+2]?=some (.cells #[.slice none 0 0] 65 (0,0)):=by
  have h1:=heap_alloc_new ((w.alloc (.cells #[.pointer (some ⟨p,0,none⟩)] 22)).alloc (.cells #[.int .i64 a] 3)) (.cells #[.slice none 0 0] 65)
  rw [show ((w.alloc (.cells #[.pointer (some ⟨p,0,none⟩)] 22)).alloc (.cells #[.int .i64 a] 3)).heap.size=w.heap.size+2 by simp] at h1
  exact h1
 have hm0:=hm.below20 hb0
 have HC:=Lib.hid (tryrd20_any (key:=key) (a:=a) (d:=d) hm0 hc hfl hf hs hB hn o0 o1 o2 (by omega) (hk.below0 hb0))
 have HKK:Hid (∀ W,KBd (w.heap.size+2) (((w.alloc (.cells #[.pointer (some ⟨p,0,none⟩)] 22)).alloc (.cells #[.int .i64 a] 3)).alloc (.cells #[.slice none 0 0] 65)) W→KeptT DPT (Bd.of 0) w W):=by
  intro W hW
  refine Kept.trans (belKept0 hb0) hW (fun i hi e=>?_)
  rcases e with e | ⟨t,ht,cur,fr,e⟩
  ·omega
  ·rw [hb0.block i hi] at e
   exact ⟨⟨Nat.zero_le _,fun h=>h⟩,t,ht,cur,fr,e⟩
 clear hm hc hfl hf hs hB hb0 o0 o1 o2 hm0 hk hw
 generalize hby:(tryD (rOne g F key a) d).2.by_=ys at *
 generalize (tryD (rOne g F key a) d).2.er=E at *
 generalize (tryD (rOne g F key a) d).1.s=s1 at *
 generalize (tryD (rOne g F key a) d).1.P=P1 at *
 clear hby
 go_enter Tryz.func59,Tryz.ntmps59
 go_wp2_with fail
 refine HC.out.mono ?_
 rintro e w1 ⟨rfl,hm,⟨v,hv,hby⟩,hkb⟩
 have HD:=Lib.hid (And.intro hm (HKK.out _ hkb))
 obtain ⟨A,c,rfl,hr,hcp⟩:=hby
 have HB:=Lib.hid (show Bys 5 w1 (.slice A ys.length c) ys from ⟨A,c,rfl,hr,hcp⟩)
 have c0:=dcell_one hv
 clear hm hv hr hcp HC HKK hkb
 go_wp2
 go_ret2
 exact ⟨A,c,rfl,HB.out,HD.out⟩
end
end Go.Proofs.YtggkengmlkhdiaaGreat
namespace Go.Proofs.YtggkengmlkhdiaaGreat
set_option linter.unusedVariables false
open Go.RowKit Go.Maps
section
variable {w0 wr w' w1 w9:World} {B:Bd} {q pw pd gb:Nat} {g:Geo} {n fc:Nat} {FA:Option Addr} {d:DC} {A:Option Addr} {c:Nat} {vals:List Value} {ss:List (Option (List Int))}
structure OpnM (w1 wr:World) (B:Bd) (q pw pd gb:Nat) (g:Geo) (n fc:Nat) (FA:Option Addr) (d:DC) (A:Option Addr) (c:Nat) (vals:List Value) (ss:List (Option (List Int))):Prop where
 mid:Mid w1 wr B q pw g n fc pd FA d.s d.P
 row:wr.ownsRow w1.heap.size 65 1 (.slice A ss.length c) ss.length vals
 sec:∀ (i:Nat) (v:Value) (o:Option (List Int)),vals[i]?=some v→ss[i]?=some o→SecV wr v o
 gx:wr.heap[gb]?=some (.cells #[.int .i64 g.random,.int .i64 g.bands,.int .i64 g.tracks,.int .i64 g.sectors,.int .i64 g.overlap] 42 (0,0))
 gl:w1.heap.size≤gb
theorem OpnM.size (h:OpnM w1 wr B q pw pd gb g n fc FA d A c vals ss):w1.heap.size≤wr.heap.size:=h.mid.k.size
theorem OpnM.len (h:OpnM w1 wr B q pw pd gb g n fc FA d A c vals ss):vals.length=ss.length:=by have:=h.row.1; omega
theorem OpnM.below (h:OpnM w1 wr B q pw pd gb g n fc FA d A c vals ss) (hb:Below wr.heap.size wr w'):OpnM w1 w' B q pw pd gb g n fc FA d A c vals ss:=
 ⟨h.mid.below20 hb,own_kept h.row (belKept0 (S:=fun _=>False) hb) (fun _ _ h=>h),fun i v o hv ho=>(h.sec i v o hv ho).kept (belKept0 (S:=fun _=>False) hb) (Free.none _ _),belObj hb h.gx (lt_of_block h.gx),h.gl⟩
theorem OpnM.read {d':DC} (h:OpnM w1 wr B q pw pd gb g n fc FA d A c vals ss) (hm:Mid w1 w' B q pw g n fc pd FA d'.s d'.P) (hk:KeptT DPT (Bd.of 0) wr w'):OpnM w1 w' B q pw pd gb g n fc FA d' A c vals ss:=
 ⟨hm,own_ty h.row hk (by unfold DPT; decide),fun i v o hv ho=>(h.sec i v o hv ho).kept hk (KeptT.free (by unfold DPT; decide)),Kept.obj hk h.gx (KeptT.no (IsT.of h.gx) (by unfold DPT; decide)),h.gl⟩
theorem OpnM.push {A9:Option Addr} {c9:Nat} {v:Value} {o:Option (List Int)} (h:OpnM w1 wr B q pw pd gb g n fc FA d A c vals ss) (hv:SecV wr v o) (hg:wr.grownBy w9 (Value.slice A ss.length c).ownBlock)
  (ho:w9.ownsRow w1.heap.size 65 1 (.slice A9 (ss.length+1) c9) (ss.length+1) (vals++[v])):OpnM w1 w9 B q pw pd gb g n fc FA d A9 c9 (vals++[v]) (ss++[o]):=by
 have hk:Kept (fun k=>(Value.slice A ss.length c).ownBlock=some k) wr w9:=⟨hg.os,hg.tape,hg.output,hg.size,fun k hk hS=>hg.block k hk (fun e=>hS e.symm)⟩
 have hfr:∀ t,t≠65→Free wr t (fun k=>(Value.slice A ss.length c).ownBlock=some k):=fun t ht k e _ cur fr e2=>(own_row h.row e).1.ne (IsT.of e2) (fun e=>ht e.symm) rfl
 refine ⟨h.mid.grown20 hg h.row (Nat.le_refl _),by rw [List.length_append]; exact ho,fun i u x hu hx=>?_,Kept.obj hk h.gx (fun e=>(own_row h.row e).1.ne (IsT.of h.gx) (by decide) rfl),h.gl⟩
 have hl:=h.len
 by_cases hi:i < ss.length
 ·rw [List.getElem?_append_left (by omega)] at hu
  rw [List.getElem?_append_left hi] at hx
  exact (h.sec i u x hu hx).kept hk (hfr _ (by decide))
 ·have hi2:i=ss.length:=by
   have:=(List.getElem?_eq_some_iff.1 hx).1
   rw [List.length_append,List.length_singleton] at this
   omega
  subst hi2
  rw [List.getElem?_append_right (by omega),hl,Nat.sub_self] at hu
  rw [List.getElem?_append_right (by omega),Nat.sub_self] at hx
  injection hu with hu
  injection hx with hx
  subst hu
  subst hx
  exact hv.kept hk (hfr _ (by decide))
theorem OpnM.secs (h:OpnM w1 wr B q pw pd gb g n fc FA d A c vals ss):SecsM wr A vals ss:=⟨RdT.of_own h.row,h.len,h.sec⟩
end
theorem rdS20_r {g:Geo} {F:List Flt} {key:Int} {d:DC}:∀ k,(rdS20 g F key d k).1.L=d.L∧(rdS20 g F key d k).1.O=d.O
 | 0=>⟨rfl,rfl⟩
 | k+1=>by
   have ih:=rdS20_r (g:=g) (F:=F) (key:=key) (d:=d) k
   have h1:=tryD_r (g:=g) (F:=F) (key:=key) (a:=g.random+k) (d:=(rdS20 g F key d k).1)
   rw [ih.1,ih.2] at h1
   unfold rdS20
   split
   ·split
    ·exact h1
    ·split <;> exact h1
   ·exact ih
theorem rdS20_u8 {g:Geo} {F:List Flt} {key:Int} {d:DC} (hu:d.U8):∀ k,(rdS20 g F key d k).1.U8
 | 0=>hu
 | k+1=>by
   have ih:=rdS20_u8 (g:=g) (F:=F) (key:=key) hu k
   have h1:=(tryD_u8r (g:=g) (F:=F) (key:=key) (a:=g.random+k) ih).2
   unfold rdS20
   split
   ·split
    ·exact h1
    ·split <;> exact h1
   ·exact ih
theorem rdS20_next {g:Geo} {F:List Flt} {key:Int} {d:DC} {k:Nat} (h:(rdS20 g F key d k).2.2=0) {d1:DC} {er:Int} {ys:List Int} (ht:tryD (rOne g F key (g.random+k)) (rdS20 g F key d k).1=(d1,⟨er,ys⟩)):
  rdS20 g F key d (k+1)=if er=15 then (d1,(rdS20 g F key d k).2.1++[none],0) else if er=0 then (d1,(rdS20 g F key d k).2.1++[some ys],0) else (d1,[],er):=by
 show (if (rdS20 g F key d k).2.2=0 then _ else _)=_
 rw [if_pos h,ht]
theorem rdS20_len {g:Geo} {F:List Flt} {key:Int} {d:DC}:∀ k,(rdS20 g F key d k).2.2=0→(rdS20 g F key d k).2.1.length=k
 | 0,_=>rfl
 | k+1,h=>by
   have ih:=rdS20_len (g:=g) (F:=F) (key:=key) (d:=d) k
   by_cases h0:(rdS20 g F key d k).2.2=0
   ·have ih:=ih h0
    rcases ht:tryD (rOne g F key (g.random+k)) (rdS20 g F key d k).1 with ⟨d1,⟨er,ys⟩⟩
    have hs:=rdS20_next h0 ht
    rw [hs] at h ⊢
    clear hs ht
    generalize rdS20 g F key d k=r at *
    by_cases h1:er=15
    ·rw [if_pos h1]; simp [ih]
    ·rw [if_neg h1] at h ⊢
     by_cases h2:er=0
     ·rw [if_pos h2]; simp [ih]
     ·rw [if_neg h2] at h; exact absurd h h2
   ·have hs:=rdS20_stay h0 1
    rw [hs] at h
    exact absurd h h0
end Go.Proofs.YtggkengmlkhdiaaGreat
