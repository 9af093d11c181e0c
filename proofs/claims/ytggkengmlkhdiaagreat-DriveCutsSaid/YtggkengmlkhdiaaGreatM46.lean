/-
  WHAT IS SHOWN: what a walk is told of the cases of tegulalaw20. plain facts, of no program: what holds of a rig at its beginning, and of what is read. plain facts, of no program: the acts of a rig on a disk without faults but slow ones, while the power is on or fails. plain facts on memory, of no program: an entry of a history. Conditions: as each theorem names them.
-/
import Derived.Test.YtggkengmlkhdiaaGreatM40
import Derived.Test.YtggkengmlkhdiaaGreatM45
namespace Go.Proofs.YtggkengmlkhdiaaGreat
set_option linter.unusedVariables false
open Go.ChangeShapes Go.WideShapes Go.ChangeAt Go.RowKit Go.Deep
theorem list_of {α:Type} {Q:Nat→α→Prop}:∀ n:Nat,(∀ i,i < n→∃ b,Q i b)→∃ l:List α,l.length=n∧∀ i b,l[i]?=some b→Q i b
 | 0,_=>⟨[],rfl,fun i b h=>by simp at h⟩
 | n+1,h=>by
   obtain ⟨l,hl,hq⟩:=list_of n (fun i hi=>h i (by omega))
   obtain ⟨b,hb⟩:=h n (by omega)
   refine ⟨l++[b],by simp [hl],fun i x hx=>?_⟩
   rcases Nat.lt_or_ge i l.length with hi | hi
   ·rw [List.getElem?_append_left hi] at hx; exact hq i x hx
   ·rw [List.getElem?_append_right hi] at hx
    have h0:i - l.length=0:=by
     rcases Nat.eq_zero_or_pos (i - l.length) with h0 | h0
     ·exact h0
     ·rw [List.getElem?_eq_none (by simp; omega)] at hx; cases hx
    rw [h0] at hx
    have hi':i=n:=by omega
    simp at hx
    subst hx; subst hi'; exact hb
theorem i64_of {x:Int} (h:(Lit.int .i64 x).wf=true):I64 x:=by
 simp [Lit.wf,IntKind.min,IntKind.max,IntKind.signed,IntKind.bits] at h
 exact ⟨by omega,by omega⟩
theorem u8_of {x:Int} (h:(Lit.int .u8 x).wf=true):0≤x∧x≤255:=by
 simp [Lit.wf,IntKind.min,IntKind.max,IntKind.signed,IntKind.bits] at h
 exact ⟨by omega,by omega⟩
theorem cellsInt:Tryz.prog.cellsOf 3=1:=by kernel_rfl
theorem cellsU8:Tryz.prog.cellsOf 5=1:=by kernel_rfl
theorem cellsFlt':Tryz.prog.cellsOf 49=3:=by kernel_rfl
theorem cellsAct:Tryz.prog.cellsOf 61=3:=by kernel_rfl
theorem cellsFlts:Tryz.prog.cellsOf 43=1:=by kernel_rfl
theorem cellsActs:Tryz.prog.cellsOf 44=1:=by kernel_rfl
theorem cellsGeo5:Tryz.prog.cellsOf 42=5:=by kernel_rfl
theorem rd_of_add {w:World} {a:Addr} {xs:List Value} (h:∀ j u,xs[j]?=some u→w.cell? (a.add j)=some u):Rd w w.heap.size (some a) xs:=by
 intro j u hu
 have hlen:j < xs.length:=(List.getElem?_eq_some_iff.1 hu).1
 have h0:∃ u0,w.cell? (a.add 0)=some u0:=⟨xs[0],h 0 _ (List.getElem?_eq_getElem (by omega))⟩
 obtain ⟨u0,h0⟩:=h0
 have hsp:a.spot=none:=by simpa [Addr.add] using World.cell?_spot h0
 obtain ⟨g,o,s⟩:=a
 simp only at hsp
 subst hsp
 have hc:=h j u hu
 rw [add_off] at hc
 exact ⟨g,o,rfl,block_lt_of_cell hc,hc⟩
def Act20.cells (a:Act20):List Value:=[.int .u8 a.kind,.int .i64 a.blk,.int .u8 a.data]
theorem act20_len (a:Act20):a.cells.length=3:=rfl
def flatA20 (l:List Act20):List Value:=l.flatMap Act20.cells
theorem flatA20_len (l:List Act20):(flatA20 l).length=l.length * 3:=flat_len _ 3 act20_len l
structure Act20In (a:Act20):Prop where
 kd:0≤a.kind∧a.kind≤255
 blk:I64 a.blk
 data:0≤a.data∧a.data≤255
structure FltsIn (w:World) (A:Option Addr) (l:List Flt):Prop where
 rd:Rd w w.heap.size A (flatF l)
 to_:∀ f∈l,I64 f.to_
 n:l.length≤9223372036854775807
structure Acts20In (w:World) (A:Option Addr) (l:List Act20):Prop where
 rd:Rd w w.heap.size A (flatA20 l)
 ok:∀ a∈l,Act20In a
 n:l.length≤9223372036854775807
section
variable {H:Type} {enc:TypeId × Value→H} {w:World} {base:Nat} {spare:Nat→Bool} {held:Bool}
set_option maxRecDepth 100000 in
theorem open_flt' {fuel:Nat} {cs:List Value} {y:DataW H × List MemPlace} (hcs:cs.length=3) (h:DataW.trod enc Tryz.prog w base spare held fuel 49 cs=some y):∃ f:Flt,cs=f.cells∧I64 f.to_:=by
 match cs,hcs with
 | [c0,c1,c2],_=>
   obtain ⟨xs,k,_,_,_,hxl,hf⟩:=DataW.trod_struct Tryz.underlying49 h
   match xs,hxl with
   | [x0,x1,x2],_=>
     have f0:DataW.trod enc Tryz.prog w base spare held k 3 (([c0,c1,c2].drop 0).take (Tryz.prog.cellsOf 3))=some x0:=hf 0 _ rfl
     have f1:DataW.trod enc Tryz.prog w base spare held k 3 (([c0,c1,c2].drop 1).take (Tryz.prog.cellsOf 3))=some x1:=hf 1 _ rfl
     have f2:DataW.trod enc Tryz.prog w base spare held k 3 (([c0,c1,c2].drop 2).take (Tryz.prog.cellsOf 3))=some x2:=hf 2 _ rfl
     rw [cellsInt] at f0 f1 f2
     obtain ⟨n0,e0,_,_⟩:=DataW.trod_int Tryz.underlying3 f0
     obtain ⟨n1,e1,_,_⟩:=DataW.trod_int Tryz.underlying3 f1
     obtain ⟨n2,e2,_,w2⟩:=DataW.trod_int Tryz.underlying3 f2
     simp at e0 e1 e2
     subst e0; subst e1; subst e2
     exact ⟨⟨n0,n1,n2⟩,rfl,i64_of w2⟩
set_option maxRecDepth 100000 in
theorem open_flts' {fuel:Nat} {v:Value} {y:DataW H × List MemPlace} (h:DataW.trod enc Tryz.prog w base spare held fuel 43 [v]=some y):∃ A l c,v= .slice A l.length c∧FltsIn w A l:=by
 rcases open_slice Tryz.underlying43 h with ⟨hcs,_⟩ | ⟨a,len,cap,m,n,D,Pl,hcs,_,hl,hm,hmm,hx,hel⟩
 ·simp at hcs
  subst hcs
  exact ⟨none,[],0,rfl,Rd.nil_ _ _ _,by simp,by simp⟩
 ·simp at hcs
  subst hcs
  have hlm:len≤m:=by rw [hmm]; split <;> omega
  obtain ⟨l,hll,hq⟩:=list_of (Q:=fun i (o:Flt)=>I64 o.to_∧∀ t u,o.cells[t]?=some u→w.cell? (a.add (i * 3+t))=some u) len (fun i hi=>by
   obtain ⟨cs',hc,ht⟩:=hel i (by omega)
   rw [cellsFlt'] at hc
   obtain ⟨_,hcl,hat⟩:=World.cells?_some hc
   obtain ⟨o,rfl,h1⟩:=open_flt' hcl ht
   refine ⟨o,h1,fun t u hu=>?_⟩
   have ht3:t < 3:=(List.getElem?_eq_some_iff.1 hu).1
   rw [← Go.Deep.add_add,hat t ht3]
   exact hu)
  refine ⟨some a,l,cap,by rw [hll],rd_of_add fun j u hu=>?_,fun b hb=>?_,by unfold maxLen at hm; omega⟩
  ·have hj:j < l.length * 3:=by rw [← flatF_len]; exact (List.getElem?_eq_some_iff.1 hu).1
   have hj4:j=j / 3 * 3+j % 3:=by omega
   rw [hj4] at hu
   unfold flatF at hu
   rw [flat_get _ 3 fltcells_len l _ _ (by omega),List.getElem?_eq_getElem (show j / 3 < l.length by omega)] at hu
   have:=(hq (j / 3) _ (List.getElem?_eq_getElem (by omega))).2 (j % 3) u hu
   rw [hj4]; exact this
  ·obtain ⟨i,hi⟩:=List.mem_iff_getElem?.1 hb
   exact (hq i b hi).1
set_option maxRecDepth 100000 in
theorem open_act20 {fuel:Nat} {cs:List Value} {y:DataW H × List MemPlace} (hcs:cs.length=3) (h:DataW.trod enc Tryz.prog w base spare held fuel 61 cs=some y):∃ a:Act20,cs=a.cells∧Act20In a:=by
 match cs,hcs with
 | [c0,c1,c2],_=>
   obtain ⟨xs,k,_,_,_,hxl,hf⟩:=DataW.trod_struct Tryz.underlying61 h
   match xs,hxl with
   | [x0,x1,x2],_=>
     have f0:DataW.trod enc Tryz.prog w base spare held k 5 (([c0,c1,c2].drop 0).take (Tryz.prog.cellsOf 5))=some x0:=hf 0 _ rfl
     have f1:DataW.trod enc Tryz.prog w base spare held k 3 (([c0,c1,c2].drop 1).take (Tryz.prog.cellsOf 3))=some x1:=hf 1 _ rfl
     have f2:DataW.trod enc Tryz.prog w base spare held k 5 (([c0,c1,c2].drop 2).take (Tryz.prog.cellsOf 5))=some x2:=hf 2 _ rfl
     rw [cellsU8] at f0 f2
     rw [cellsInt] at f1
     obtain ⟨n0,e0,_,w0⟩:=DataW.trod_int Tryz.underlying5 f0
     obtain ⟨n1,e1,_,w1⟩:=DataW.trod_int Tryz.underlying3 f1
     obtain ⟨n2,e2,_,w2⟩:=DataW.trod_int Tryz.underlying5 f2
     simp at e0 e1 e2
     subst e0; subst e1; subst e2
     exact ⟨⟨n0,n1,n2⟩,rfl,u8_of w0,i64_of w1,u8_of w2⟩
set_option maxRecDepth 100000 in
theorem open_acts20 {fuel:Nat} {v:Value} {y:DataW H × List MemPlace} (h:DataW.trod enc Tryz.prog w base spare held fuel 44 [v]=some y):∃ A l c,v= .slice A l.length c∧Acts20In w A l:=by
 rcases open_slice Tryz.underlying44 h with ⟨hcs,_⟩ | ⟨a,len,cap,m,n,D,Pl,hcs,_,hl,hm,hmm,hx,hel⟩
 ·simp at hcs
  subst hcs
  exact ⟨none,[],0,rfl,Rd.nil_ _ _ _,by simp,by simp⟩
 ·simp at hcs
  subst hcs
  have hlm:len≤m:=by rw [hmm]; split <;> omega
  obtain ⟨l,hll,hq⟩:=list_of (Q:=fun i (o:Act20)=>Act20In o∧∀ t u,o.cells[t]?=some u→w.cell? (a.add (i * 3+t))=some u) len (fun i hi=>by
   obtain ⟨cs',hc,ht⟩:=hel i (by omega)
   rw [cellsAct] at hc
   obtain ⟨_,hcl,hat⟩:=World.cells?_some hc
   obtain ⟨o,rfl,h1⟩:=open_act20 hcl ht
   refine ⟨o,h1,fun t u hu=>?_⟩
   have ht3:t < 3:=(List.getElem?_eq_some_iff.1 hu).1
   rw [← Go.Deep.add_add,hat t ht3]
   exact hu)
  refine ⟨some a,l,cap,by rw [hll],rd_of_add fun j u hu=>?_,fun b hb=>?_,by unfold maxLen at hm; omega⟩
  ·have hj:j < l.length * 3:=by rw [← flatA20_len]; exact (List.getElem?_eq_some_iff.1 hu).1
   have hj4:j=j / 3 * 3+j % 3:=by omega
   rw [hj4] at hu
   unfold flatA20 at hu
   rw [flat_get _ 3 act20_len l _ _ (by omega),List.getElem?_eq_getElem (show j / 3 < l.length by omega)] at hu
   have:=(hq (j / 3) _ (List.getElem?_eq_getElem (by omega))).2 (j % 3) u hu
   rw [hj4]; exact this
  ·obtain ⟨i,hi⟩:=List.mem_iff_getElem?.1 hb
   exact (hq i b hi).1
structure Case20In (w:World) (g:Geo) (nb:Int) (A0 A1:Option Addr) (F:List Flt) (acts:List Act20):Prop where
 g:g.Ok
 nb:I64 nb
 f:FltsIn w A0 F
 a:Acts20In w A1 acts
set_option maxRecDepth 100000 in
theorem open_case20 {r:Reach} {b0:Nat} {v:Value} {d:DataW H} {p:List MemPlace} (hv:Value.okWide Tryz.prog w r b0 46 v) (h:DataW.Trod enc Tryz.prog w base spare held 46 v d p):
  ∃ (g:Geo) (nb:Int) (A0 A1:Option Addr) (F:List Flt) (acts:List Act20) (c0 c1:Nat),v= .agg #[.int .i64 g.random,.int .i64 g.bands,.int .i64 g.tracks,.int .i64 g.sectors,.int .i64 g.overlap,.int .i64 nb,.slice A0 F.length c0,.slice A1 acts.length c1]∧Case20In w g nb A0 A1 F acts:=by
 obtain ⟨cs,rfl,hsz⟩:=Go.WideShapes.okWide_struct Tryz.underlying46 hv
 rw [show Tryz.prog.cellsOf 46=8 from by kernel_rfl] at hsz
 obtain ⟨l⟩:=cs
 match l,hsz with
 | [c0,c1,c2,c3,c4,c5,c6,c7],_=>
   obtain ⟨fuel,hf⟩:=h
   obtain ⟨xs,k,_,_,_,hxl,hf⟩:=DataW.trod_struct Tryz.underlying46 hf
   match xs,hxl with
   | [x0,x1,x2,x3],_=>
     have f0:DataW.trod enc Tryz.prog w base spare held k 42 (([c0,c1,c2,c3,c4,c5,c6,c7].drop 0).take (Tryz.prog.cellsOf 42))=some x0:=hf 0 _ rfl
     have f1:DataW.trod enc Tryz.prog w base spare held k 3 (([c0,c1,c2,c3,c4,c5,c6,c7].drop 5).take (Tryz.prog.cellsOf 3))=some x1:=hf 1 _ rfl
     have f2:DataW.trod enc Tryz.prog w base spare held k 43 (([c0,c1,c2,c3,c4,c5,c6,c7].drop 6).take (Tryz.prog.cellsOf 43))=some x2:=hf 2 _ rfl
     have f3:DataW.trod enc Tryz.prog w base spare held k 44 (([c0,c1,c2,c3,c4,c5,c6,c7].drop 7).take (Tryz.prog.cellsOf 44))=some x3:=hf 3 _ rfl
     rw [cellsGeo5] at f0
     rw [cellsInt] at f1
     rw [cellsFlts] at f2
     rw [cellsActs] at f3
     have f0':DataW.trod enc Tryz.prog w base spare held k 42 [c0,c1,c2,c3,c4]=some x0:=f0
     have f2':DataW.trod enc Tryz.prog w base spare held k 43 [c6]=some x2:=f2
     have f3':DataW.trod enc Tryz.prog w base spare held k 44 [c7]=some x3:=f3
     obtain ⟨nb,e1,_,wb⟩:=DataW.trod_int Tryz.underlying3 f1
     simp at e1
     subst e1
     obtain ⟨A0,l0,k0,rfl,h0⟩:=open_flts' f2'
     obtain ⟨A1,acts,k1,rfl,h1⟩:=open_acts20 f3'
     obtain ⟨zs,m2,_,_,_,hzl,hz⟩:=DataW.trod_struct Tryz.underlying42 f0'
     match zs,hzl with
     | [z0,z1,z2,z3,z4],_=>
       have i0:DataW.trod enc Tryz.prog w base spare held m2 3 (([c0,c1,c2,c3,c4].drop 0).take (Tryz.prog.cellsOf 3))=some z0:=hz 0 _ rfl
       have i1:DataW.trod enc Tryz.prog w base spare held m2 3 (([c0,c1,c2,c3,c4].drop 1).take (Tryz.prog.cellsOf 3))=some z1:=hz 1 _ rfl
       have i2:DataW.trod enc Tryz.prog w base spare held m2 3 (([c0,c1,c2,c3,c4].drop 2).take (Tryz.prog.cellsOf 3))=some z2:=hz 2 _ rfl
       have i3:DataW.trod enc Tryz.prog w base spare held m2 3 (([c0,c1,c2,c3,c4].drop 3).take (Tryz.prog.cellsOf 3))=some z3:=hz 3 _ rfl
       have i4:DataW.trod enc Tryz.prog w base spare held m2 3 (([c0,c1,c2,c3,c4].drop 4).take (Tryz.prog.cellsOf 3))=some z4:=hz 4 _ rfl
       rw [cellsInt] at i0 i1 i2 i3 i4
       obtain ⟨n0,e0,_,w0⟩:=DataW.trod_int Tryz.underlying3 i0
       obtain ⟨n1,e1,_,w1⟩:=DataW.trod_int Tryz.underlying3 i1
       obtain ⟨n2,e2,_,w2⟩:=DataW.trod_int Tryz.underlying3 i2
       obtain ⟨n3,e3,_,w3⟩:=DataW.trod_int Tryz.underlying3 i3
       obtain ⟨n4,e4,_,w4⟩:=DataW.trod_int Tryz.underlying3 i4
       simp at e0 e1 e2 e3 e4
       subst e0; subst e1; subst e2; subst e3; subst e4
       exact ⟨⟨n0,n1,n2,n3,n4⟩,nb,A0,A1,l0,acts,k0,k1,rfl,⟨i64_of w0,i64_of w1,i64_of w2,i64_of w3,i64_of w4⟩,i64_of wb,h0,h1⟩
end
theorem acts20_at {w:World} {B:Nat} {A:Option Addr} {l:List Act20} (h:Rd w B A (flatA20 l)) {k:Nat} {a:Act20} (hk:l[k]?=some a):∃ ga oa,A=some ⟨ga,oa,none⟩∧ga < B∧w.cell? ⟨ga,oa+k * 3,none⟩=some (.int .u8 a.kind)∧w.cell? ⟨ga,oa+k * 3+1,none⟩=some (.int .i64 a.blk)∧w.cell? ⟨ga,oa+k * 3+2,none⟩=some (.int .u8 a.data):=by
 have e:∀ t,t < 3→(flatA20 l)[k * 3+t]?=a.cells[t]?:=fun t ht=>by
  unfold flatA20; rw [flat_get _ 3 act20_len l k t ht,hk]; rfl
 obtain ⟨g,o,e0,hg,h0⟩:=h (k * 3+0) _ (e 0 (by omega))
 obtain ⟨g1,o1,e1,_,h1⟩:=h (k * 3+1) _ (e 1 (by omega))
 obtain ⟨g2,o2,e2,_,h2⟩:=h (k * 3+2) _ (e 2 (by omega))
 rw [e0] at e1 e2
 injection e1 with e1; injection e1 with e1 e1'; subst e1; subst e1'
 injection e2 with e2; injection e2 with e2 e2'; subst e2; subst e2'
 exact ⟨g,o,e0,hg,by simpa using h0,by rw [Nat.add_assoc]; exact h1,by rw [Nat.add_assoc]; exact h2⟩
end Go.Proofs.YtggkengmlkhdiaaGreat
namespace Go.Proofs.YtggkengmlkhdiaaGreat
set_option linter.unusedVariables false
theorem fresh_ok {g:Geo} {n:Nat} (hg:Vg g) (hn:1≤n∧n≤65536):VOk g (freshV g n):=by
 have hb0:=hg.b0
 have hb1:=hg.b1
 have hz:1≤bz g∧bz g≤1024:=hg.bz
 have he:∀ (b:Nat) (e:NE),(freshV g n).es[b]?=some e→e=noNE:=fun b e h=>List.eq_of_mem_replicate (List.mem_of_getElem? h)
 have hb:∀ b∈(freshV g n).bs,b=⟨0,0,0,0⟩:=fun b h=>List.eq_of_mem_replicate h
 have hl:(freshV g n).bs.length=g.bands.toNat:=by simp [freshV]
 refine ⟨hg,fun b h=>?_,(V.validB_iff _ _).2 ⟨by omega,by omega,by omega,fun b h=>?_⟩,by omega,by simp [freshV]; exact hn.1,by simp [freshV]; exact hn.2,fun b e h=>.inl (by rw [he b e h]; rfl),fun a b e f h _ h0=>?_,fun k hk=>?_,fun e h=>?_,fun e h=>?_,?_⟩
 ·rw [hb b h]
  constructor <;> (first | unfold V.I64 | unfold V.U64) <;> decide
 ·rw [hb b h]; show (0:Int)≤0∧(0:Int)≤0∧(0:Int)≤bz g; omega
 ·rw [he a e h] at h0; exact absurd h0 (by decide)
 ·rw [hb _ (List.getElem_mem hk)]
  unfold cntIn
  have:(freshV g n).es.countP (liveP g k)=0:=by
   rw [List.countP_eq_zero]
   intro e h
   rw [List.eq_of_mem_replicate h,liveP_no]; decide
  rw [this]; rfl
 ·rw [List.eq_of_mem_replicate h]; unfold V.U64; decide
 ·rw [List.eq_of_mem_replicate h]; decide
 ·show V.U64 0; unfold V.U64; decide
section
variable {g:Geo} {F:List Flt} {key:Int} {d:DC}
theorem ersK_u8 (h:d.U8):∀ j,(ersK g F key d j).1.U8
 | 0=>h
 | j+1=>by
   have ih:=ersK_u8 h j
   unfold ersK
   split
   ·exact tryD_u8 (fun _ hd=>eOne_u8 hd) ih
   ·exact ih
theorem newDD_u8 (h:d.U8):(newDD g F key d).1.U8:=by
 unfold newDD
 split
 ·exact tryD_u8 (fun _ hd=>fOne_u8 hd) (ersK_u8 h _)
 ·exact ersK_u8 h _
theorem ersK_good {G:List Int→Prop} (h0:G []) (h:GoodD G d):∀ j,GoodD G (ersK g F key d j).1
 | 0=>h
 | j+1=>by
   have ih:=ersK_good h0 h j
   unfold ersK
   split
   ·exact tryD_good (fun _ hd=>eOne_good h0 hd) ih
   ·exact ih
theorem newDD_good {G:List Int→Prop} (h0:G []) (h:GoodD G d):GoodD G (newDD g F key d).1:=by
 unfold newDD
 split
 ·exact tryD_good (fun _ hd=>fOne_good h0 hd) (ersK_good h0 h _)
 ·exact ersK_good h0 h _
theorem newDD_O (h:(newDD g F key d).2=0):(newDD g F key d).1.O=[]:=by
 unfold newDD at h ⊢
 generalize ersK g F key d g.bands.toNat=E at *
 by_cases h1:E.2=0
 ·rw [if_pos h1] at h ⊢
  have h2:(tryD (fOne g F key) E.1).2.er=0:=h
  show (tryD (fOne g F key) E.1).1.O=[]
  exact tryF_done h2
 ·rw [if_neg h1] at h
  exact absurd h h1
end
theorem hon0 {g:Geo} {F:List Flt} {n:Nat} (hg:Vg g) (hn:1≤n∧n≤65536) (h0:(newDD g F 0 (d0N g)).2=0):HonI g n 0 (R0 g F n):=by
 have hu:(d0N g).U8:=⟨SecU.blank _,fun o ho=>by simp [d0N] at ho⟩
 refine ⟨⟨fresh_ok hg hn,newDD_u8 hu,by simp [R0,freshV],by simp [R0],by simp [R0],by simp [R0],?_,fun l hl=>?_⟩,newDD_good (hg_nil _) ⟨GoodL.blank (hg_nil _) _,fun o ho=>by simp [d0N] at ho⟩⟩
 ·show (newDD g F 0 (d0N g)).1.O.length≤_
  rw [newDD_O h0]; simp
 ·rw [List.eq_of_mem_replicate hl]; simp
theorem hon_inS {g:Geo} {F:List Flt} {n c:Nat} {R:RG} (h:HonK g n c R) (hc:c≤500) (hsz:szN g≤120) (hF:∀ f∈F,I64 f.to_) (hn:F.length≤40) (hp:possB g n=true):RigIn g F n R:=by
 have hO:=h.O
 have hnx:=h.nx
 have hb:(bz g).toNat≤120:=by
  have h1:=h.ok.bz1
  have h2:=h.ok.gv.b0
  have h3:=h.ok.gv.r0
  have h4:1 * bz g≤g.bands * bz g:=Int.mul_le_mul_of_nonneg_right (by omega) (by omega)
  have h5:=szN_valid h.ok.gv
  have h6:bz g=g.tracks * g.sectors:=rfl
  rw [← h6] at h5
  omega
 have h6:=Nat.mul_le_mul (show (bz g).toNat+3≤123 by omega) hc
 refine ⟨h.ok,h.u8,hF,by omega,by omega,hp,by have:=h.ok.e1; have:=h.es; omega,h.hl,h.fl,by omega,fun l hl=>by have:=h.hn l hl; omega⟩
theorem honK_rd {g:Geo} {F:List Flt} {n c:Nat} {R:RG} {b:Int} (h:HonK g n c R):HonK g n c { R with S:=readS20 g F 0 R.S b }:=by
 have hk:=readS20_keep (F:=F) (key:=0) (b:=b) h.ok
 have hl:=readS20_len (g:=g) (F:=F) (key:=0) (S:=R.S) (b:=b)
 exact ⟨hk.ok,readS20_u8 h.u8,hk.es.trans h.es,h.hl,h.fl,h.nx,Nat.le_trans hl h.O,h.hn⟩
end Go.Proofs.YtggkengmlkhdiaaGreat
namespace Go.Proofs.YtggkengmlkhdiaaGreat
set_option linter.unusedVariables false
open Go.RowKit
structure GoodR (g:Geo) (n:Nat) (c:Nat) (R:RG):Prop where
 now:NowS g n R.hist R.S
 snap:Snap g n R.hist R.fl (67300000 * c) R.S.d
 flok:FlOk R.hist R.fl
 room:Roomy g R.S.v
 vers:∀ l∈R.hist,∀ w∈l,w.ver≤R.next
 tm:R.S.v.time≤67300000 * c
section
variable {g:Geo} {F:List Flt} {n c:Nat} {R R':RG} {a:Act20} {er:Int}
theorem ver_next (hn:NowS g n R.hist R.S) (hv:∀ l∈R.hist,∀ w∈l,w.ver≤R.next) (h0:0≤R.next) (hl:R.hist.length=n) {b:Nat} {e:NE} (he:R.S.v.es[b]?=some e):e.ver≤R.next:=by
 have hb:b < n:=by rw [← hn.c.es]; exact (List.getElem?_eq_some_iff.1 he).1
 have hbl0:b < R.hist.length:=by omega
 have hh:=List.getElem?_eq_getElem hbl0
 have hm:=List.getElem_mem hbl0
 generalize R.hist[b]=l at hh hm
 have hs:=hn.sh b e l he hh
 unfold Shows1 at hs
 cases hg:l.getLast? with
 | none=>
   rw [hg] at hs
   have:=hn.c.nil b e he (by simp only at hs; omega)
   rw [this]; exact h0
 | some w=>
   rw [hg] at hs
   rw [hs.2.1]; exact hv l hm w (List.mem_of_getLast? hg)
theorem vers_add {H:List (List Wr)} {b:Nat} {w:Wr} {m:Int} (h:∀ l∈H,∀ w∈l,w.ver≤m) (hw:w.ver=m+1):∀ l∈addH H b w,∀ u∈l,u.ver≤m+1:=by
 intro l hl u hu
 unfold addH at hl
 rcases List.mem_or_eq_of_mem_set hl with h1 | rfl
 ·have:=h l h1 u hu; omega
 ·rcases List.mem_append.1 hu with hu | hu
  ·have:u.ver≤m:=by
    unfold List.getD at hu
    cases e:H[b]? with
    | none=>rw [e] at hu; simp at hu
    | some l=>rw [e] at hu; exact h l (List.mem_of_getElem? e) u hu
   omega
  ·simp at hu; subst hu; omega
theorem act_on (hR:RunF F) (hG:GoodR g n c R) (hH:HonK g n c R) (hc:c≤1000) (hnb:(n:Int)≤(g.bands - 3) * bz g) (hn:1≤n∧n≤65536) (hd:0≤a.data∧a.data < 256) (hr:ActR g F n a R R' er):
  (er=0∧GoodR g n (c+1) R'∧R'.S.d.P.armed=R.S.d.P.armed∧(1≤V.freeN R.S.v.bs→1≤V.freeN R'.S.v.bs))∨
  (er=13∧Fallen g n R'.hist R'.fl (67300000 * (c+1:Nat)) R.S.d R'.S.d∧FlOk R'.hist R'.fl∧(∀ l∈R'.hist,∀ w∈l,w.ver≤R'.next)):=by
 have htm:=hG.tm
 have hsn:Snap g n R.hist R.fl (67300000 * (c+1:Nat)) R.S.d:=hG.snap.mono (by omega)
 have hnx:=hH.nx
 unfold ActR at hr
 split at hr
 ·rename_i hb
  obtain ⟨b,hbe⟩:=Int.eq_ofNat_of_zero_le hb.1
  have hbn:b < n:=by omega
  have hbt:a.blk.toNat=b:=by omega
  have hbl0:b < R.hist.length:=by rw [hH.hl]; exact hbn
  have hh:=List.getElem?_eq_getElem hbl0
  have hm:=List.getElem_mem hbl0
  generalize R.hist[b]=l at hh hm
  have hbe2:b < R.S.v.es.length:=by rw [hH.es]; exact hbn
  have hv1:∀ u∈l,u.ver≤R.next+1:=fun u hu=>by have:=hG.vers l hm u hu; omega
  have hpre:∀ x:Ent,x.blk=(b:Int)→x.ver=R.next+1→preE R.S.v x.blk x.ver=0:=fun x hx hxv=>by
   have he:=List.getElem?_eq_getElem hbe2
   generalize R.S.v.es[b]=e at he
   have:=ver_next hG.now hG.vers hnx.1 hH.hl he
   unfold preE
   rw [if_pos hG.now.f0,if_pos ⟨by omega,by omega⟩,hx,Int.toNat_natCast,getD_of he,hxv,if_neg (by omega)]
  rcases hr with ⟨_,S',hw,rfl⟩ | ⟨_,S',hw,rfl⟩ | ⟨_,S',m,e,hw,he,rfl⟩ | ⟨_,he,rfl⟩ | ⟨_,he,hr⟩
  ·have hxb:(wEnt a.blk a.data (R.next+1)).blk=(b:Int):=hbe
   have hxo:(wEnt a.blk a.data (R.next+1)).Ok:=⟨by show 0≤R.next+1; omega,by show R.next+1≤_; omega,rfl,dataW_u8 _ hd⟩
   have hxv:validE (wEnt a.blk a.data (R.next+1))=true:=by
    unfold validE wEnt
    simp only [decide_eq_true (show 0≤a.blk by omega),decide_eq_true (show a.blk < 65536 by omega),decide_eq_true (show 1≤R.next+1 by omega),Bool.true_and]
    simp
   unfold WriteR at hw
   rw [if_pos (hpre _ hxb rfl)] at hw
   rw [hbt]
   rcases put_on (w:=wWr a.data (R.next+1)) hR hG.now hsn hG.flok hG.room (by omega) (by omega) hnb hxv hxo hxb hbn hh hv1 rfl rfl rfl hw with ⟨p1,p2,p3,p4,p5,p6⟩ | ⟨p1,p2⟩
   ·exact .inl ⟨p1,⟨p2,p3,hG.flok.add,.inl p4,vers_add hG.vers rfl,by simp only at p6 ⊢; omega⟩,p5,fun _=>p4⟩
   ·exact .inr ⟨p1,p2,hG.flok.add,vers_add hG.vers rfl⟩
  ·have hxb:(tEnt a.blk (R.next+1)).blk=(b:Int):=hbe
   have hxo:(tEnt a.blk (R.next+1)).Ok:=⟨by show 0≤R.next+1; omega,by show R.next+1≤_; omega,rfl,zeros8_u8⟩
   have hxv:validE (tEnt a.blk (R.next+1))=true:=by
    unfold validE tEnt
    simp only [decide_eq_true (show 0≤a.blk by omega),decide_eq_true (show a.blk < 65536 by omega),decide_eq_true (show 1≤R.next+1 by omega),Bool.true_and]
    simp
   unfold WriteR at hw
   rw [if_pos (hpre _ hxb rfl)] at hw
   rw [hbt]
   rcases put_on (w:=tWr (R.next+1)) hR hG.now hsn hG.flok hG.room (by omega) (by omega) hnb hxv hxo hxb hbn hh hv1 rfl rfl rfl hw with ⟨p1,p2,p3,p4,p5,p6⟩ | ⟨p1,p2⟩
   ·exact .inl ⟨p1,⟨p2,p3,hG.flok.add,.inl p4,vers_add hG.vers rfl,by simp only at p6 ⊢; omega⟩,p5,fun _=>p4⟩
   ·exact .inr ⟨p1,p2,hG.flok.add,vers_add hG.vers rfl⟩
  ·rcases cleanMR_on hR hG.now hsn hG.flok hG.room (by omega) (by omega) hw with ⟨q1,q2,q3,q4,q5,q6⟩ | ⟨p1,p2⟩
   ·left
    refine ⟨?_,⟨q2,q3,hG.flok,q4,hG.vers,by simp only at q6 ⊢; omega⟩,q5,fun hf=>?_⟩
    ·rcases q1 with ⟨q,_⟩ | ⟨q,_⟩
     ·rw [he,if_pos q]
     ·simp only at q; rw [he,q]; rfl
    ·rcases q1 with ⟨_,q,_⟩ | ⟨_,_,_,q,_⟩
     ·have:S'=R.S:=q
      rw [this]; exact hf
     ·exact q
   ·right
    simp only at p1
    exact ⟨by rw [he,p1]; rfl,p2,hG.flok,hG.vers⟩
  ·rcases flushR_on (fl:=R.fl) hR hG.now hsn hG.room (by omega) with ⟨q1,q2,q3,q4,q5,q6⟩ | ⟨p1,p2⟩
   ·left
    rw [q1] at he
    refine ⟨he,⟨q2,by simp only [q1,if_true]; exact q3,?_,by simp only; rw [q4]; exact hG.room,hG.vers,by simp only; rw [q4]; omega⟩,q5,fun hf=>by simp only; rw [q4]; exact hf⟩
    simp only [q1,if_true]
    intro b' l' f hl hf
    unfold lensH at hf
    rw [List.getElem?_map,hl] at hf
    injection hf with hf
    have hf2:(l'.length:Int)=f:=hf
    omega
   ·right
    rw [p1] at he
    refine ⟨he,?_,?_,hG.vers⟩
    ·simp only [p1,show ¬ ((13:Int)=0) by decide,if_false]; exact p2
    ·simp only [p1,show ¬ ((13:Int)=0) by decide,if_false]; exact hG.flok
  ·rcases open_on hR hG.now.c hG.now.live hG.now.fit hG.now.u8 with ⟨q1,q2,q3⟩ | ⟨p1,p2,p3,p4,p5⟩
   ·left
    rw [q1] at he
    rcases hr with ⟨_,v,hv,rfl⟩ | ⟨hne,_⟩
    ·obtain ⟨hsv,hci⟩:=q3 v hv
     have hM:(rdS20 g F 0 R.S.d (nSec g)).1.M g=R.S.d.M g:=DC.M_same q2.L q2.O
     refine ⟨he,⟨⟨by simp only; rw [hM]; exact hci,hG.now.fit.len (by simp only; rw [q2.L]),q2.live,hsv.failed,by simp only; rw [hM]; exact hsv.shows hG.now.sh,rdS20_u8 hG.now.u8 _⟩,hsn.same q2.L q2.O,hG.flok,hsv.roomy hG.room,hG.vers,by have:=hsv.time; simp only; omega⟩,q2.armed,fun hf=>by simp only; rw [hsv.free]; exact hf⟩
    ·exact absurd he hne
   ·right
    rw [p1] at he
    rcases hr with ⟨h0,_⟩ | ⟨_,rfl⟩
    ·rw [h0] at he; exact absurd he (by decide)
    ·exact ⟨he,⟨p2,p3,hsn.same p4 p5,rdS20_u8 hG.now.u8 _,hG.now.fit.len (by simp only; rw [p4])⟩,hG.flok,hG.vers⟩
 ·obtain ⟨rfl,rfl⟩:=hr
  exact .inl ⟨rfl,⟨hG.now,hsn,hG.flok,hG.room,hG.vers,by omega⟩,rfl,fun h=>h⟩
theorem GoodR.read (hR:RunF F) (hG:GoodR g n c R) (hl:R.hist.length=n) (hu:R.S.d.P.armed=false) {b:Nat} (hb:b < n):GoodR g n c { R with S:=readS20 g F 0 R.S b }∧(readS20 g F 0 R.S b).d.P.armed=false∧(readS20 g F 0 R.S b).v=R.S.v∧(readS20 g F 0 R.S b).d.O=R.S.d.O:=by
 have hh:=List.getElem?_eq_getElem (show b < R.hist.length by omega)
 obtain ⟨h1,h2,h3,h4,h5,_⟩:=read20_on hR hG.now hu hb hh
 exact ⟨⟨h1,hG.snap.same h3 h4,hG.flok,by simp only; rw [h2]; exact hG.room,hG.vers,by simp only; rw [h2]; exact hG.tm⟩,h5,h2,h4⟩
end
theorem blank_no {g:Geo} (a:Int):readE (blankL g) a≠0:=by
 unfold readE
 split
 ·rename_i hi
  unfold blankL at hi ⊢
  have h0:=(inL_iff _ _).1 hi
  have:(List.replicate (szN g).toNat blankS).getD a.toNat blankS=blankS:=by
   simp only [List.getD,List.getElem?_replicate]
   split <;> rfl
  rw [this]
  decide
 ·decide
theorem ersK_on {g:Geo} {F:List Flt} {d:DC} (hR:RunF F) (hd:LiveD d) (hu:d.P.armed=false) (hf:Fit g d.L) (hno:∀ (k:Nat) (i:Int),(k:Int) < g.bands→0≤i→i < bz g→readE (d.M g) (adK g k i)≠0):∀ j:Nat,(j:Int)≤g.bands→
  (ersK g F 0 d j).2=0∧LiveD (ersK g F 0 d j).1∧(ersK g F 0 d j).1.P.armed=false∧(ersK g F 0 d j).1.L=d.L∧Fit g ((ersK g F 0 d j).1.M g)∧∀ (k:Nat) (i:Int),(k:Int) < g.bands→0≤i→i < bz g→readE ((ersK g F 0 d j).1.M g) (adK g k i)≠0
 | 0,_=>⟨rfl,hd,hu,rfl,by show Fit g (playL g d.L d.O); exact hf.len (playL_len _ _ _),hno⟩
 | j+1,hj=>by
   obtain ⟨h1,h2,h3,h4,h5,h6⟩:=ersK_on hR hd hu hf hno j (by omega)
   unfold ersK
   rw [if_pos h1]
   generalize ersK g F 0 d j=E at *
   rcases erase_on (g:=g) (a:=(j:Int)) hR h2 (by rw [inR_iff]; omega) with hfe | ⟨hw,ha⟩
   ·have:=hfe.armed; rw [h3] at this; cases this
   ·have hM:(tryD (eOne g F 0 (j:Int)) E.1).1.M g=eraseL g (E.1.M g) j:=by
     have:=DC.M_push (g:=g) hw.L hw.O
     unfold doL erOp at this
     exact this
    simp only
    rw [ha,hM]
    refine ⟨rfl,hw.live,hw.armed.trans h3,hw.L.trans h4,er_fit h5 _,fun k i hk i0 i1=>?_⟩
    by_cases e:k=j
    ·subst e; exact (er_get h5 hk i0 i1).1 rfl
    ·rw [((er_get (j:=k) h5 (show (j:Int) < g.bands by omega) i0 i1).2 e).1]
     exact h6 k i hk i0 i1
theorem newDD_on {g:Geo} {F:List Flt} (hR:RunF F) (hg:Vg g):(newDD g F 0 (d0N g)).2=0∧LiveD (newDD g F 0 (d0N g)).1∧(newDD g F 0 (d0N g)).1.P.armed=false∧(newDD g F 0 (d0N g)).1.O=[]∧Fit g (newDD g F 0 (d0N g)).1.L∧
  ∀ (k:Nat) (i:Int),(k:Int) < g.bands→0≤i→i < bz g→readE ((newDD g F 0 (d0N g)).1.M g) (adK g k i)≠0:=by
 have hd:LiveD (d0N g):=⟨rfl,rfl,rfl,rfl,by show I64 0; unfold I64; decide⟩
 have hf:Fit g (d0N g).L:=blank_fit hg
 have hb0:=hg.b0
 obtain ⟨h1,h2,h3,h4,h5,h6⟩:=ersK_on hR hd rfl hf (fun k i _ _ _=>by
  have:(d0N g).M g=blankL g:=rfl
  rw [this]; exact blank_no _) g.bands.toNat (by omega)
 unfold newDD
 rw [if_pos h1]
 generalize ersK g F 0 (d0N g) g.bands.toNat=E at *
 rcases flush_on (g:=g) hR h2 with hfe | ⟨hw,ha⟩
 ·have:=hfe.armed; rw [h3] at this; cases this
 ·simp only
  rw [ha]
  have hM:(tryD (fOne g F 0) E.1).1.M g=E.1.M g:=by unfold DC.M; rw [hw.L,hw.O]; rfl
  rw [hM]
  exact ⟨rfl,hw.live,hw.armed.trans h3,hw.O,by rw [hw.L]; exact h5,h6⟩
theorem good0 {g:Geo} {F:List Flt} {n:Nat} (hR:RunF F) (hg:Vg g) (hn:1≤n∧n≤65536):(newDD g F 0 (d0N g)).2=0∧GoodR g n 0 (R0 g F n)∧(R0 g F n).S.d.P.armed=false∧1≤V.freeN (R0 g F n).S.v.bs:=by
 obtain ⟨h1,h2,h3,h4,h5,h6⟩:=newDD_on (F:=F) hR hg
 have hfo:=fresh_ok hg hn
 have hb0:=hg.b0
 have hz:1≤bz g:=hg.bz.1
 have he:∀ (b:Nat) (e:NE),(freshV g n).es[b]?=some e→e=noNE:=fun b e h=>List.eq_of_mem_replicate (List.mem_of_getElem? h)
 have hb:∀ (k:Nat) (hk:k < (freshV g n).bs.length),(freshV g n).bs[k]=⟨0,0,0,0⟩:=fun k hk=>List.eq_of_mem_replicate (List.getElem_mem hk)
 have hl:(freshV g n).bs.length=g.bands.toNat:=by simp [freshV]
 have hM:(newDD g F 0 (d0N g)).1.M g=(newDD g F 0 (d0N g)).1.L:=by unfold DC.M; rw [h4]; rfl
 have hc:CInv g n (freshV g n) ((newDD g F 0 (d0N g)).1.M g):=by
  refine ⟨hfo,by rw [hM]; exact h5,by simp [freshV],fun b e h _=>he b e h,fun k hk i i0 i1=>?_,fun k hk i i0 i1=>?_,fun k hk _=>by rw [hb k hk],fun k hk=>by rw [hb k hk]; exact Int.le_refl _,fun b e h h0=>?_,fun k hk i i0 i1=>?_⟩
  ·rw [hb k hk] at i1; exact absurd i1 (by simp only; omega)
  ·rw [hb k hk] at i0
   exact h6 k i (by omega) i0 i1
  ·rw [he b e h] at h0; exact absurd h0 (by decide)
  ·rw [hb k hk] at i1; exact absurd i1 (by simp only; omega)
 have hsh:Shows (freshV g n) ((newDD g F 0 (d0N g)).1.M g) (List.replicate n []):=by
  intro b e l h hl
  rw [List.eq_of_mem_replicate (List.mem_of_getElem? hl),he b e h]
  rfl
 have hfr:1≤V.freeN (freshV g n).bs:=free_pos (k:=0) (by omega) (by rw [hb])
 have hfl:FlOk (List.replicate n []) (List.replicate n 0):=fun b l f hl hf=>by
  rw [List.eq_of_mem_replicate (List.mem_of_getElem? hf)]
  omega
 have hu:(newDD g F 0 (d0N g)).1.U8:=newDD_u8 ⟨SecU.blank _,fun o ho=>by simp [d0N] at ho⟩
 refine ⟨h1,⟨⟨hc,h5,h2,rfl,hsh,hu⟩,Snap.flushed h4 ⟨_,hc,.inl hfr,hsh.p hfl,by show (0:Int)≤_; omega⟩,hfl,.inl hfr,fun l hl w hw=>?_,?_⟩,h3,hfr⟩
 ·have:l=[]:=List.eq_of_mem_replicate hl
  rw [this] at hw; simp at hw
 ·show (0:Int)≤_
  omega
end Go.Proofs.YtggkengmlkhdiaaGreat
namespace Go.Proofs.YtggkengmlkhdiaaGreat
set_option linter.unusedVariables false
open Go.RowKit
theorem flatW_get:∀ (l:List Wr),(∀ x∈l,x.dt.length=8)→∀ (i:Nat) (x:Wr) (t:Nat),l[i]?=some x→t < 10→(flatW l)[i * 10+t]?=x.cells[t]?
 | [],_,i,x,t,h,_=>by simp at h
 | a::l,hl,i,x,t,h,ht=>by
   have ha:=wcells_len (hl a (by simp))
   have e:flatW (a::l)=a.cells++flatW l:=rfl
   rw [e]
   cases i with
   | zero=>
     simp only [List.getElem?_cons_zero,Option.some.injEq] at h
     subst h
     rw [List.getElem?_append_left (by omega)]
     congr 1; omega
   | succ i=>
     rw [List.getElem?_cons_succ] at h
     rw [List.getElem?_append_right (by omega),ha,← flatW_get l (fun y hy=>hl y (by simp [hy])) i x t h ht]
     congr 1; omega
theorem HistM.entry {w:World} {n ha hc:Nat} {hs:List Hs} (h:HistM w n ha hc hs) {b i:Nat} {k:Hs} {x:Wr} (hk:hs[b]?=some k) (hx:k.xs[i]?=some x):
  ∃ gk,k.A=some ⟨gk,0,none⟩∧∀ t,t < 10→w.cell? ⟨gk,i * 10+t,none⟩=x.cells[t]?:=by
 have ho:=h.each b k hk
 have hi:i < k.xs.length:=(List.getElem?_eq_some_iff.1 hx).1
 obtain ⟨gk,cap,hv,_,_⟩:=ho.form (by omega)
 unfold Hs.v at hv ho
 injection hv with hA hL hC
 refine ⟨gk,hA,fun t ht=>?_⟩
 rw [hA] at ho
 have hfl:(flatW k.xs).length=k.xs.length * 10:=ho.1
 rw [World.ownsRow.cellAt ho (i * 10+t) (by omega)]
 exact flatW_get k.xs (h.wok b k hk) i x t hx ht
structure WrAt (w:World) (gk i:Nat) (x:Wr) (d0 d1 d2 d3 d4 d5 d6 d7:Int):Prop where
 dt:x.dt=[d0,d1,d2,d3,d4,d5,d6,d7]
 c0:w.cell? ⟨gk,i * 10,none⟩=some (.int .u64 x.ver)
 c1:w.cell? ⟨gk,i * 10+1,none⟩=some (.int .u8 d0)
 c2:w.cell? ⟨gk,i * 10+2,none⟩=some (.int .u8 d1)
 c3:w.cell? ⟨gk,i * 10+3,none⟩=some (.int .u8 d2)
 c4:w.cell? ⟨gk,i * 10+4,none⟩=some (.int .u8 d3)
 c5:w.cell? ⟨gk,i * 10+5,none⟩=some (.int .u8 d4)
 c6:w.cell? ⟨gk,i * 10+6,none⟩=some (.int .u8 d5)
 c7:w.cell? ⟨gk,i * 10+7,none⟩=some (.int .u8 d6)
 c8:w.cell? ⟨gk,i * 10+8,none⟩=some (.int .u8 d7)
 c9:w.cell? ⟨gk,i * 10+9,none⟩=some (.bool x.trim)
theorem HistM.wr {w:World} {n ha hc:Nat} {hs:List Hs} (h:HistM w n ha hc hs) {b i:Nat} {k:Hs} {x:Wr} (hk:hs[b]?=some k) (hx:k.xs[i]?=some x):
  ∃ gk d0 d1 d2 d3 d4 d5 d6 d7,k.A=some ⟨gk,0,none⟩∧WrAt w gk i x d0 d1 d2 d3 d4 d5 d6 d7:=by
 obtain ⟨gk,hA,hc⟩:=h.entry hk hx
 obtain ⟨d0,d1,d2,d3,d4,d5,d6,d7,hd⟩:=len8 (h.wok b k hk x (List.mem_of_getElem? hx))
 refine ⟨gk,d0,d1,d2,d3,d4,d5,d6,d7,hA,hd,?_,?_,?_,?_,?_,?_,?_,?_,?_,?_⟩
 ·have:=hc 0 (by decide); unfold Wr.cells at this; rw [hd] at this; simpa using this
 all_goals first
  | (have:=hc 1 (by decide); unfold Wr.cells at this; rw [hd] at this; exact this.trans rfl)
  | (have:=hc 2 (by decide); unfold Wr.cells at this; rw [hd] at this; exact this.trans rfl)
  | (have:=hc 3 (by decide); unfold Wr.cells at this; rw [hd] at this; exact this.trans rfl)
  | (have:=hc 4 (by decide); unfold Wr.cells at this; rw [hd] at this; exact this.trans rfl)
  | (have:=hc 5 (by decide); unfold Wr.cells at this; rw [hd] at this; exact this.trans rfl)
  | (have:=hc 6 (by decide); unfold Wr.cells at this; rw [hd] at this; exact this.trans rfl)
  | (have:=hc 7 (by decide); unfold Wr.cells at this; rw [hd] at this; exact this.trans rfl)
  | (have:=hc 8 (by decide); unfold Wr.cells at this; rw [hd] at this; exact this.trans rfl)
  | (have:=hc 9 (by decide); unfold Wr.cells at this; rw [hd] at this; exact this.trans rfl)
theorem readX_len {g:Geo} {F:List Flt} {key b:Int} {S:ST}:(readX20 g F key S b).dt.length=8:=by
 unfold readX20
 split
 ·exact ftX_len _
 ·rfl
def matchW (ver:Int) (dt:List Int) (x:Wr):Bool:=!x.trim && (decide (x.ver=ver) && decide (x.dt=dt))
def okK (er ver:Int) (dt:List Int) (l:List Wr) (k:Nat):Bool:=decide (er≠0) || (l.take k).any (matchW ver dt)
end Go.Proofs.YtggkengmlkhdiaaGreat
