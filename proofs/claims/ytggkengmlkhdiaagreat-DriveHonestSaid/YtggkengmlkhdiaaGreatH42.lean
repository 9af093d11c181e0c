/-
  WHAT IS SHOWN: what a walk is told of the cases of tegulalaw20. plain facts, of no program: what holds of a rig at its beginning, and of what is read. plain facts on memory, of no program: an entry of a history. Conditions: as each theorem names them.
-/
import Derived.Test.YtggkengmlkhdiaaGreatH26
import Derived.Test.YtggkengmlkhdiaaGreatH41
namespace Go.Proofs.YtggkengmlkhdiaaGreat
set_option linter.unusedVariables false
open Go.ChangeShapes Go.WideShapes Go.ChangeAt Go.RowKit Go.Deep
theorem list_of {α : Type} {Q : Nat → α → Prop} : ∀ n : Nat,(∀ i,i < n → ∃ b,Q i b) → ∃ l : List α,l.length = n ∧ ∀ i b,l[i]? = some b → Q i b
 | 0,_=>⟨[],rfl,fun i b h=>by simp at h⟩
 | n + 1,h=>by
   obtain ⟨l,hl,hq⟩:=list_of n (fun i hi=>h i (by omega))
   obtain ⟨b,hb⟩:=h n (by omega)
   refine ⟨l ++ [b],by simp [hl],fun i x hx=>?_⟩
   rcases Nat.lt_or_ge i l.length with hi | hi
   ·rw [List.getElem?_append_left hi] at hx; exact hq i x hx
   ·rw [List.getElem?_append_right hi] at hx
    have h0 : i - l.length = 0:=by
     rcases Nat.eq_zero_or_pos (i - l.length) with h0 | h0
     ·exact h0
     ·rw [List.getElem?_eq_none (by simp; omega)] at hx; cases hx
    rw [h0] at hx
    have hi' : i = n:=by omega
    simp at hx
    subst hx; subst hi'; exact hb
theorem i64_of {x : Int} (h : (Lit.int .i64 x).wf = true) : I64 x:=by
 simp [Lit.wf,IntKind.min,IntKind.max,IntKind.signed,IntKind.bits] at h
 exact ⟨by omega,by omega⟩
theorem u8_of {x : Int} (h : (Lit.int .u8 x).wf = true) : 0 ≤ x ∧ x ≤ 255:=by
 simp [Lit.wf,IntKind.min,IntKind.max,IntKind.signed,IntKind.bits] at h
 exact ⟨by omega,by omega⟩
theorem cellsInt : Tryz.prog.cellsOf 3 = 1:=by kernel_rfl
theorem cellsU8 : Tryz.prog.cellsOf 5 = 1:=by kernel_rfl
theorem cellsFlt' : Tryz.prog.cellsOf 49 = 3:=by kernel_rfl
theorem cellsAct : Tryz.prog.cellsOf 61 = 3:=by kernel_rfl
theorem cellsFlts : Tryz.prog.cellsOf 43 = 1:=by kernel_rfl
theorem cellsActs : Tryz.prog.cellsOf 44 = 1:=by kernel_rfl
theorem cellsGeo5 : Tryz.prog.cellsOf 42 = 5:=by kernel_rfl
theorem rd_of_add {w : World} {a : Addr} {xs : List Value} (h : ∀ j u,xs[j]? = some u → w.cell? (a.add j) = some u) : Rd w w.heap.size (some a) xs:=by
 intro j u hu
 have hlen : j < xs.length:=(List.getElem?_eq_some_iff.1 hu).1
 have h0 : ∃ u0,w.cell? (a.add 0) = some u0:=⟨xs[0],h 0 _ (List.getElem?_eq_getElem (by omega))⟩
 obtain ⟨u0,h0⟩:=h0
 have hsp : a.spot = none:=by simpa [Addr.add] using World.cell?_spot h0
 obtain ⟨g,o,s⟩:=a
 simp only at hsp
 subst hsp
 have hc:=h j u hu
 rw [add_off] at hc
 exact ⟨g,o,rfl,block_lt_of_cell hc,hc⟩
def Act20.cells (a : Act20) : List Value:=[.int .u8 a.kind,.int .i64 a.blk,.int .u8 a.data]
theorem act20_len (a : Act20) : a.cells.length = 3:=rfl
def flatA20 (l : List Act20) : List Value:=l.flatMap Act20.cells
theorem flatA20_len (l : List Act20) : (flatA20 l).length = l.length * 3:=flat_len _ 3 act20_len l
structure Act20In (a : Act20) : Prop where
 kd : 0 ≤ a.kind ∧ a.kind ≤ 255
 blk : I64 a.blk
 data : 0 ≤ a.data ∧ a.data ≤ 255
structure FltsIn (w : World) (A : Option Addr) (l : List Flt) : Prop where
 rd : Rd w w.heap.size A (flatF l)
 to_ : ∀ f ∈ l,I64 f.to_
 n : l.length ≤ 9223372036854775807
structure Acts20In (w : World) (A : Option Addr) (l : List Act20) : Prop where
 rd : Rd w w.heap.size A (flatA20 l)
 ok : ∀ a ∈ l,Act20In a
 n : l.length ≤ 9223372036854775807
section
variable {H : Type} {enc : TypeId × Value → H} {w : World} {base : Nat} {spare : Nat → Bool} {held : Bool}
set_option maxRecDepth 100000 in
theorem open_flt' {fuel : Nat} {cs : List Value} {y : DataW H × List MemPlace} (hcs : cs.length = 3) (h : DataW.trod enc Tryz.prog w base spare held fuel 49 cs = some y) : ∃ f : Flt,cs = f.cells ∧ I64 f.to_:=by
 match cs,hcs with
 | [c0,c1,c2],_=>
   obtain ⟨xs,k,_,_,_,hxl,hf⟩:=DataW.trod_struct Tryz.underlying49 h
   match xs,hxl with
   | [x0,x1,x2],_=>
     have f0 : DataW.trod enc Tryz.prog w base spare held k 3 (([c0,c1,c2].drop 0).take (Tryz.prog.cellsOf 3)) = some x0:=hf 0 _ rfl
     have f1 : DataW.trod enc Tryz.prog w base spare held k 3 (([c0,c1,c2].drop 1).take (Tryz.prog.cellsOf 3)) = some x1:=hf 1 _ rfl
     have f2 : DataW.trod enc Tryz.prog w base spare held k 3 (([c0,c1,c2].drop 2).take (Tryz.prog.cellsOf 3)) = some x2:=hf 2 _ rfl
     rw [cellsInt] at f0 f1 f2
     obtain ⟨n0,e0,_,_⟩:=DataW.trod_int Tryz.underlying3 f0
     obtain ⟨n1,e1,_,_⟩:=DataW.trod_int Tryz.underlying3 f1
     obtain ⟨n2,e2,_,w2⟩:=DataW.trod_int Tryz.underlying3 f2
     simp at e0 e1 e2
     subst e0; subst e1; subst e2
     exact ⟨⟨n0,n1,n2⟩,rfl,i64_of w2⟩
set_option maxRecDepth 100000 in
theorem open_flts' {fuel : Nat} {v : Value} {y : DataW H × List MemPlace} (h : DataW.trod enc Tryz.prog w base spare held fuel 43 [v] = some y) : ∃ A l c,v = .slice A l.length c ∧ FltsIn w A l:=by
 rcases open_slice Tryz.underlying43 h with ⟨hcs,_⟩ | ⟨a,len,cap,m,n,D,Pl,hcs,_,hl,hm,hmm,hx,hel⟩
 ·simp at hcs
  subst hcs
  exact ⟨none,[],0,rfl,Rd.nil_ _ _ _,by simp,by simp⟩
 ·simp at hcs
  subst hcs
  have hlm : len ≤ m:=by rw [hmm]; split <;> omega
  obtain ⟨l,hll,hq⟩:=list_of (Q:=fun i (o : Flt)=>I64 o.to_ ∧ ∀ t u,o.cells[t]? = some u → w.cell? (a.add (i * 3 + t)) = some u) len (fun i hi=>by
   obtain ⟨cs',hc,ht⟩:=hel i (by omega)
   rw [cellsFlt'] at hc
   obtain ⟨_,hcl,hat⟩:=World.cells?_some hc
   obtain ⟨o,rfl,h1⟩:=open_flt' hcl ht
   refine ⟨o,h1,fun t u hu=>?_⟩
   have ht3 : t < 3:=(List.getElem?_eq_some_iff.1 hu).1
   rw [← Go.Deep.add_add,hat t ht3]
   exact hu)
  refine ⟨some a,l,cap,by rw [hll],rd_of_add fun j u hu=>?_,fun b hb=>?_,by unfold maxLen at hm; omega⟩
  ·have hj : j < l.length * 3:=by rw [← flatF_len]; exact (List.getElem?_eq_some_iff.1 hu).1
   have hj4 : j = j / 3 * 3 + j % 3:=by omega
   rw [hj4] at hu
   unfold flatF at hu
   rw [flat_get _ 3 fltcells_len l _ _ (by omega),List.getElem?_eq_getElem (show j / 3 < l.length by omega)] at hu
   have:=(hq (j / 3) _ (List.getElem?_eq_getElem (by omega))).2 (j % 3) u hu
   rw [hj4]; exact this
  ·obtain ⟨i,hi⟩:=List.mem_iff_getElem?.1 hb
   exact (hq i b hi).1
set_option maxRecDepth 100000 in
theorem open_act20 {fuel : Nat} {cs : List Value} {y : DataW H × List MemPlace} (hcs : cs.length = 3) (h : DataW.trod enc Tryz.prog w base spare held fuel 61 cs = some y) : ∃ a : Act20,cs = a.cells ∧ Act20In a:=by
 match cs,hcs with
 | [c0,c1,c2],_=>
   obtain ⟨xs,k,_,_,_,hxl,hf⟩:=DataW.trod_struct Tryz.underlying61 h
   match xs,hxl with
   | [x0,x1,x2],_=>
     have f0 : DataW.trod enc Tryz.prog w base spare held k 5 (([c0,c1,c2].drop 0).take (Tryz.prog.cellsOf 5)) = some x0:=hf 0 _ rfl
     have f1 : DataW.trod enc Tryz.prog w base spare held k 3 (([c0,c1,c2].drop 1).take (Tryz.prog.cellsOf 3)) = some x1:=hf 1 _ rfl
     have f2 : DataW.trod enc Tryz.prog w base spare held k 5 (([c0,c1,c2].drop 2).take (Tryz.prog.cellsOf 5)) = some x2:=hf 2 _ rfl
     rw [cellsU8] at f0 f2
     rw [cellsInt] at f1
     obtain ⟨n0,e0,_,w0⟩:=DataW.trod_int Tryz.underlying5 f0
     obtain ⟨n1,e1,_,w1⟩:=DataW.trod_int Tryz.underlying3 f1
     obtain ⟨n2,e2,_,w2⟩:=DataW.trod_int Tryz.underlying5 f2
     simp at e0 e1 e2
     subst e0; subst e1; subst e2
     exact ⟨⟨n0,n1,n2⟩,rfl,u8_of w0,i64_of w1,u8_of w2⟩
set_option maxRecDepth 100000 in
theorem open_acts20 {fuel : Nat} {v : Value} {y : DataW H × List MemPlace} (h : DataW.trod enc Tryz.prog w base spare held fuel 44 [v] = some y) : ∃ A l c,v = .slice A l.length c ∧ Acts20In w A l:=by
 rcases open_slice Tryz.underlying44 h with ⟨hcs,_⟩ | ⟨a,len,cap,m,n,D,Pl,hcs,_,hl,hm,hmm,hx,hel⟩
 ·simp at hcs
  subst hcs
  exact ⟨none,[],0,rfl,Rd.nil_ _ _ _,by simp,by simp⟩
 ·simp at hcs
  subst hcs
  have hlm : len ≤ m:=by rw [hmm]; split <;> omega
  obtain ⟨l,hll,hq⟩:=list_of (Q:=fun i (o : Act20)=>Act20In o ∧ ∀ t u,o.cells[t]? = some u → w.cell? (a.add (i * 3 + t)) = some u) len (fun i hi=>by
   obtain ⟨cs',hc,ht⟩:=hel i (by omega)
   rw [cellsAct] at hc
   obtain ⟨_,hcl,hat⟩:=World.cells?_some hc
   obtain ⟨o,rfl,h1⟩:=open_act20 hcl ht
   refine ⟨o,h1,fun t u hu=>?_⟩
   have ht3 : t < 3:=(List.getElem?_eq_some_iff.1 hu).1
   rw [← Go.Deep.add_add,hat t ht3]
   exact hu)
  refine ⟨some a,l,cap,by rw [hll],rd_of_add fun j u hu=>?_,fun b hb=>?_,by unfold maxLen at hm; omega⟩
  ·have hj : j < l.length * 3:=by rw [← flatA20_len]; exact (List.getElem?_eq_some_iff.1 hu).1
   have hj4 : j = j / 3 * 3 + j % 3:=by omega
   rw [hj4] at hu
   unfold flatA20 at hu
   rw [flat_get _ 3 act20_len l _ _ (by omega),List.getElem?_eq_getElem (show j / 3 < l.length by omega)] at hu
   have:=(hq (j / 3) _ (List.getElem?_eq_getElem (by omega))).2 (j % 3) u hu
   rw [hj4]; exact this
  ·obtain ⟨i,hi⟩:=List.mem_iff_getElem?.1 hb
   exact (hq i b hi).1
structure Case20In (w : World) (g : Geo) (nb : Int) (A0 A1 : Option Addr) (F : List Flt) (acts : List Act20) : Prop where
 g : g.Ok
 nb : I64 nb
 f : FltsIn w A0 F
 a : Acts20In w A1 acts
set_option maxRecDepth 100000 in
theorem open_case20 {r : Reach} {b0 : Nat} {v : Value} {d : DataW H} {p : List MemPlace} (hv : Value.okWide Tryz.prog w r b0 46 v) (h : DataW.Trod enc Tryz.prog w base spare held 46 v d p) :
  ∃ (g : Geo) (nb : Int) (A0 A1 : Option Addr) (F : List Flt) (acts : List Act20) (c0 c1 : Nat),v = .agg #[.int .i64 g.random,.int .i64 g.bands,.int .i64 g.tracks,.int .i64 g.sectors,.int .i64 g.overlap,.int .i64 nb,.slice A0 F.length c0,.slice A1 acts.length c1] ∧ Case20In w g nb A0 A1 F acts:=by
 obtain ⟨cs,rfl,hsz⟩:=Go.WideShapes.okWide_struct Tryz.underlying46 hv
 rw [show Tryz.prog.cellsOf 46 = 8 from by kernel_rfl] at hsz
 obtain ⟨l⟩:=cs
 match l,hsz with
 | [c0,c1,c2,c3,c4,c5,c6,c7],_=>
   obtain ⟨fuel,hf⟩:=h
   obtain ⟨xs,k,_,_,_,hxl,hf⟩:=DataW.trod_struct Tryz.underlying46 hf
   match xs,hxl with
   | [x0,x1,x2,x3],_=>
     have f0 : DataW.trod enc Tryz.prog w base spare held k 42 (([c0,c1,c2,c3,c4,c5,c6,c7].drop 0).take (Tryz.prog.cellsOf 42)) = some x0:=hf 0 _ rfl
     have f1 : DataW.trod enc Tryz.prog w base spare held k 3 (([c0,c1,c2,c3,c4,c5,c6,c7].drop 5).take (Tryz.prog.cellsOf 3)) = some x1:=hf 1 _ rfl
     have f2 : DataW.trod enc Tryz.prog w base spare held k 43 (([c0,c1,c2,c3,c4,c5,c6,c7].drop 6).take (Tryz.prog.cellsOf 43)) = some x2:=hf 2 _ rfl
     have f3 : DataW.trod enc Tryz.prog w base spare held k 44 (([c0,c1,c2,c3,c4,c5,c6,c7].drop 7).take (Tryz.prog.cellsOf 44)) = some x3:=hf 3 _ rfl
     rw [cellsGeo5] at f0
     rw [cellsInt] at f1
     rw [cellsFlts] at f2
     rw [cellsActs] at f3
     have f0' : DataW.trod enc Tryz.prog w base spare held k 42 [c0,c1,c2,c3,c4] = some x0:=f0
     have f2' : DataW.trod enc Tryz.prog w base spare held k 43 [c6] = some x2:=f2
     have f3' : DataW.trod enc Tryz.prog w base spare held k 44 [c7] = some x3:=f3
     obtain ⟨nb,e1,_,wb⟩:=DataW.trod_int Tryz.underlying3 f1
     simp at e1
     subst e1
     obtain ⟨A0,l0,k0,rfl,h0⟩:=open_flts' f2'
     obtain ⟨A1,acts,k1,rfl,h1⟩:=open_acts20 f3'
     obtain ⟨zs,m2,_,_,_,hzl,hz⟩:=DataW.trod_struct Tryz.underlying42 f0'
     match zs,hzl with
     | [z0,z1,z2,z3,z4],_=>
       have i0 : DataW.trod enc Tryz.prog w base spare held m2 3 (([c0,c1,c2,c3,c4].drop 0).take (Tryz.prog.cellsOf 3)) = some z0:=hz 0 _ rfl
       have i1 : DataW.trod enc Tryz.prog w base spare held m2 3 (([c0,c1,c2,c3,c4].drop 1).take (Tryz.prog.cellsOf 3)) = some z1:=hz 1 _ rfl
       have i2 : DataW.trod enc Tryz.prog w base spare held m2 3 (([c0,c1,c2,c3,c4].drop 2).take (Tryz.prog.cellsOf 3)) = some z2:=hz 2 _ rfl
       have i3 : DataW.trod enc Tryz.prog w base spare held m2 3 (([c0,c1,c2,c3,c4].drop 3).take (Tryz.prog.cellsOf 3)) = some z3:=hz 3 _ rfl
       have i4 : DataW.trod enc Tryz.prog w base spare held m2 3 (([c0,c1,c2,c3,c4].drop 4).take (Tryz.prog.cellsOf 3)) = some z4:=hz 4 _ rfl
       rw [cellsInt] at i0 i1 i2 i3 i4
       obtain ⟨n0,e0,_,w0⟩:=DataW.trod_int Tryz.underlying3 i0
       obtain ⟨n1,e1,_,w1⟩:=DataW.trod_int Tryz.underlying3 i1
       obtain ⟨n2,e2,_,w2⟩:=DataW.trod_int Tryz.underlying3 i2
       obtain ⟨n3,e3,_,w3⟩:=DataW.trod_int Tryz.underlying3 i3
       obtain ⟨n4,e4,_,w4⟩:=DataW.trod_int Tryz.underlying3 i4
       simp at e0 e1 e2 e3 e4
       subst e0; subst e1; subst e2; subst e3; subst e4
       exact ⟨⟨n0,n1,n2,n3,n4⟩,nb,A0,A1,l0,acts,k0,k1,rfl,⟨i64_of w0,i64_of w1,i64_of w2,i64_of w3,i64_of w4⟩,i64_of wb,h0,h1⟩
end
theorem acts20_at {w : World} {B : Nat} {A : Option Addr} {l : List Act20} (h : Rd w B A (flatA20 l)) {k : Nat} {a : Act20} (hk : l[k]? = some a) : ∃ ga oa,A = some ⟨ga,oa,none⟩ ∧ ga < B ∧ w.cell? ⟨ga,oa + k * 3,none⟩ = some (.int .u8 a.kind) ∧ w.cell? ⟨ga,oa + k * 3 + 1,none⟩ = some (.int .i64 a.blk) ∧ w.cell? ⟨ga,oa + k * 3 + 2,none⟩ = some (.int .u8 a.data):=by
 have e : ∀ t,t < 3 → (flatA20 l)[k * 3 + t]? = a.cells[t]?:=fun t ht=>by
  unfold flatA20; rw [flat_get _ 3 act20_len l k t ht,hk]; rfl
 obtain ⟨g,o,e0,hg,h0⟩:=h (k * 3 + 0) _ (e 0 (by omega))
 obtain ⟨g1,o1,e1,_,h1⟩:=h (k * 3 + 1) _ (e 1 (by omega))
 obtain ⟨g2,o2,e2,_,h2⟩:=h (k * 3 + 2) _ (e 2 (by omega))
 rw [e0] at e1 e2
 injection e1 with e1; injection e1 with e1 e1'; subst e1; subst e1'
 injection e2 with e2; injection e2 with e2 e2'; subst e2; subst e2'
 exact ⟨g,o,e0,hg,by simpa using h0,by rw [Nat.add_assoc]; exact h1,by rw [Nat.add_assoc]; exact h2⟩
end Go.Proofs.YtggkengmlkhdiaaGreat
namespace Go.Proofs.YtggkengmlkhdiaaGreat
set_option linter.unusedVariables false
theorem fresh_ok {g : Geo} {n : Nat} (hg : Vg g) (hn : 1 ≤ n ∧ n ≤ 65536) : VOk g (freshV g n):=by
 have hb0:=hg.b0
 have hb1:=hg.b1
 have hz : 1 ≤ bz g ∧ bz g ≤ 1024:=hg.bz
 have he : ∀ (b : Nat) (e : NE),(freshV g n).es[b]? = some e → e = noNE:=fun b e h=>List.eq_of_mem_replicate (List.mem_of_getElem? h)
 have hb : ∀ b ∈ (freshV g n).bs,b = ⟨0,0,0,0⟩:=fun b h=>List.eq_of_mem_replicate h
 have hl : (freshV g n).bs.length = g.bands.toNat:=by simp [freshV]
 refine ⟨hg,fun b h=>?_,(V.validB_iff _ _).2 ⟨by omega,by omega,by omega,fun b h=>?_⟩,by omega,by simp [freshV]; exact hn.1,by simp [freshV]; exact hn.2,fun b e h=>.inl (by rw [he b e h]; rfl),fun a b e f h _ h0=>?_,fun k hk=>?_,fun e h=>?_,fun e h=>?_,?_⟩
 ·rw [hb b h]
  constructor <;> (first | unfold V.I64 | unfold V.U64) <;> decide
 ·rw [hb b h]; show (0 : Int) ≤ 0 ∧ (0 : Int) ≤ 0 ∧ (0 : Int) ≤ bz g; omega
 ·rw [he a e h] at h0; exact absurd h0 (by decide)
 ·rw [hb _ (List.getElem_mem hk)]
  unfold cntIn
  have : (freshV g n).es.countP (liveP g k) = 0:=by
   rw [List.countP_eq_zero]
   intro e h
   rw [List.eq_of_mem_replicate h,liveP_no]; decide
  rw [this]; rfl
 ·rw [List.eq_of_mem_replicate h]; unfold V.U64; decide
 ·rw [List.eq_of_mem_replicate h]; decide
 ·show V.U64 0; unfold V.U64; decide
section
variable {g : Geo} {F : List Flt} {key : Int} {d : DC}
theorem ersK_u8 (h : d.U8) : ∀ j,(ersK g F key d j).1.U8
 | 0=>h
 | j + 1=>by
   have ih:=ersK_u8 h j
   unfold ersK
   split
   ·exact tryD_u8 (fun _ hd=>eOne_u8 hd) ih
   ·exact ih
theorem newDD_u8 (h : d.U8) : (newDD g F key d).1.U8:=by
 unfold newDD
 split
 ·exact tryD_u8 (fun _ hd=>fOne_u8 hd) (ersK_u8 h _)
 ·exact ersK_u8 h _
theorem ersK_good {G : List Int → Prop} (h0 : G []) (h : GoodD G d) : ∀ j,GoodD G (ersK g F key d j).1
 | 0=>h
 | j + 1=>by
   have ih:=ersK_good h0 h j
   unfold ersK
   split
   ·exact tryD_good (fun _ hd=>eOne_good h0 hd) ih
   ·exact ih
theorem newDD_good {G : List Int → Prop} (h0 : G []) (h : GoodD G d) : GoodD G (newDD g F key d).1:=by
 unfold newDD
 split
 ·exact tryD_good (fun _ hd=>fOne_good h0 hd) (ersK_good h0 h _)
 ·exact ersK_good h0 h _
theorem newDD_O (h : (newDD g F key d).2 = 0) : (newDD g F key d).1.O = []:=by
 unfold newDD at h ⊢
 generalize ersK g F key d g.bands.toNat = E at *
 by_cases h1 : E.2 = 0
 ·rw [if_pos h1] at h ⊢
  have h2 : (tryD (fOne g F key) E.1).2.er = 0:=h
  show (tryD (fOne g F key) E.1).1.O = []
  exact tryF_done h2
 ·rw [if_neg h1] at h
  exact absurd h h1
end
theorem hon0 {g : Geo} {F : List Flt} {n : Nat} (hg : Vg g) (hn : 1 ≤ n ∧ n ≤ 65536) (h0 : (newDD g F 0 (d0N g)).2 = 0) : HonI g n 0 (R0 g F n):=by
 have hu : (d0N g).U8:=⟨SecU.blank _,fun o ho=>by simp [d0N] at ho⟩
 refine ⟨fresh_ok hg hn,newDD_u8 hu,newDD_good (hg_nil _) ⟨GoodL.blank (hg_nil _) _,fun o ho=>by simp [d0N] at ho⟩,by simp [R0,freshV],by simp [R0],by simp [R0],by simp [R0],?_,fun l hl=>?_⟩
 ·show (newDD g F 0 (d0N g)).1.O.length ≤ _
  rw [newDD_O h0]; simp
 ·rw [List.eq_of_mem_replicate hl]; simp
theorem hon_in {g : Geo} {F : List Flt} {n c : Nat} {R : RG} (h : HonI g n c R) (hc : c ≤ 80) (hF : ∀ f ∈ F,I64 f.to_) (hn : F.length ≤ 40) (hp : possB g n = true) : RigIn g F n R:=by
 have hO:=h.O
 have hnx:=h.nx
 refine ⟨h.ok,h.u8,hF,by omega,by omega,hp,by have:=h.ok.e1; have:=h.es; omega,h.hl,h.fl,by omega,fun l hl=>by have:=h.hn l hl; omega⟩
theorem hon_rd {g : Geo} {F : List Flt} {n c : Nat} {R : RG} {b : Int} (h : HonI g n c R) : HonI g n c { R with S:=readS20 g F 0 R.S b }:=by
 have hk:=readS20_keep (F:=F) (key:=0) (b:=b) h.ok
 have hl:=readS20_len (g:=g) (F:=F) (key:=0) (S:=R.S) (b:=b)
 exact ⟨hk.ok,readS20_u8 h.u8,readS20_good h.good,hk.es.trans h.es,h.hl,h.fl,h.nx,Nat.le_trans hl h.O,h.hn⟩
theorem hon_read {g : Geo} {F : List Flt} {n c : Nat} {R : RG} {b : Nat} (h : HonI g n c R) (h0 : readE20 g F 0 R.S (b : Int) = 0) : ∃ x ∈ R.hist.getD b [],x.trim = false ∧ x.ver = (readX20 g F 0 R.S (b : Int)).ver ∧ x.dt = (readX20 g F 0 R.S (b : Int)).dt:=by
 unfold readE20 at h0
 by_cases hf : R.S.v.failed = 0
 ·rw [if_pos hf] at h0
  by_cases hr : 0 ≤ (b : Int) ∧ (b : Int) < R.S.v.es.length
  ·rw [if_pos hr] at h0
   by_cases hs : (R.S.v.es.getD (b : Int).toNat noNE).adr < 0 ∨ (R.S.v.es.getD (b : Int).toNat noNE).kind = 2
   ·rw [if_pos hs] at h0; exact absurd h0 (by decide)
   ·rw [if_neg hs] at h0
    have hrd : readsB R.S (b : Int):=⟨hf,hr,hs⟩
    rw [Int.toNat_natCast] at h0 hs
    have hE : ftE g F 0 R.S b = 0:=by
     split at h0
     ·exact absurd h0 (by decide)
     ·exact h0
    have hx : readX20 g F 0 R.S (b : Int) = ftX g F 0 R.S b:=by
     unfold readX20
     rw [if_pos ⟨hrd,by rw [Int.toNat_natCast]; exact hE⟩,Int.toNat_natCast]
    rw [hx]
    obtain ⟨x,hxm,hv,hk⟩:=ftX_good h.good hE
    obtain ⟨_,hX,_,hk1,hb1,hv1⟩:=ftX_told hE
    have hbb : (ftX g F 0 R.S b).blk.toNat = b:=by omega
    rw [hbb] at hxm
    rcases hk with ⟨_,k2,k3⟩ | hk
    ·exact ⟨x,hxm,k2,hv,k3⟩
    ·exact absurd (.inr (by omega)) hs
  ·rw [if_neg hr] at h0; exact absurd h0 (by decide)
 ·rw [if_neg hf] at h0; exact absurd h0 hf
end Go.Proofs.YtggkengmlkhdiaaGreat
namespace Go.Proofs.YtggkengmlkhdiaaGreat
set_option linter.unusedVariables false
open Go.RowKit
theorem flatW_get : ∀ (l : List Wr),(∀ x ∈ l,x.dt.length = 8) → ∀ (i : Nat) (x : Wr) (t : Nat),l[i]? = some x → t < 10 → (flatW l)[i * 10 + t]? = x.cells[t]?
 | [],_,i,x,t,h,_=>by simp at h
 | a :: l,hl,i,x,t,h,ht=>by
   have ha:=wcells_len (hl a (by simp))
   have e : flatW (a :: l) = a.cells ++ flatW l:=rfl
   rw [e]
   cases i with
   | zero=>
     simp only [List.getElem?_cons_zero,Option.some.injEq] at h
     subst h
     rw [List.getElem?_append_left (by omega)]
     congr 1; omega
   | succ i=>
     rw [List.getElem?_cons_succ] at h
     rw [List.getElem?_append_right (by omega),ha,← flatW_get l (fun y hy=>hl y (by simp [hy])) i x t h ht]
     congr 1; omega
theorem HistM.entry {w : World} {n ha hc : Nat} {hs : List Hs} (h : HistM w n ha hc hs) {b i : Nat} {k : Hs} {x : Wr} (hk : hs[b]? = some k) (hx : k.xs[i]? = some x) :
  ∃ gk,k.A = some ⟨gk,0,none⟩ ∧ ∀ t,t < 10 → w.cell? ⟨gk,i * 10 + t,none⟩ = x.cells[t]?:=by
 have ho:=h.each b k hk
 have hi : i < k.xs.length:=(List.getElem?_eq_some_iff.1 hx).1
 obtain ⟨gk,cap,hv,_,_⟩:=ho.form (by omega)
 unfold Hs.v at hv ho
 injection hv with hA hL hC
 refine ⟨gk,hA,fun t ht=>?_⟩
 rw [hA] at ho
 have hfl : (flatW k.xs).length = k.xs.length * 10:=ho.1
 rw [World.ownsRow.cellAt ho (i * 10 + t) (by omega)]
 exact flatW_get k.xs (h.wok b k hk) i x t hx ht
structure WrAt (w : World) (gk i : Nat) (x : Wr) (d0 d1 d2 d3 d4 d5 d6 d7 : Int) : Prop where
 dt : x.dt = [d0,d1,d2,d3,d4,d5,d6,d7]
 c0 : w.cell? ⟨gk,i * 10,none⟩ = some (.int .u64 x.ver)
 c1 : w.cell? ⟨gk,i * 10 + 1,none⟩ = some (.int .u8 d0)
 c2 : w.cell? ⟨gk,i * 10 + 2,none⟩ = some (.int .u8 d1)
 c3 : w.cell? ⟨gk,i * 10 + 3,none⟩ = some (.int .u8 d2)
 c4 : w.cell? ⟨gk,i * 10 + 4,none⟩ = some (.int .u8 d3)
 c5 : w.cell? ⟨gk,i * 10 + 5,none⟩ = some (.int .u8 d4)
 c6 : w.cell? ⟨gk,i * 10 + 6,none⟩ = some (.int .u8 d5)
 c7 : w.cell? ⟨gk,i * 10 + 7,none⟩ = some (.int .u8 d6)
 c8 : w.cell? ⟨gk,i * 10 + 8,none⟩ = some (.int .u8 d7)
 c9 : w.cell? ⟨gk,i * 10 + 9,none⟩ = some (.bool x.trim)
theorem HistM.wr {w : World} {n ha hc : Nat} {hs : List Hs} (h : HistM w n ha hc hs) {b i : Nat} {k : Hs} {x : Wr} (hk : hs[b]? = some k) (hx : k.xs[i]? = some x) :
  ∃ gk d0 d1 d2 d3 d4 d5 d6 d7,k.A = some ⟨gk,0,none⟩ ∧ WrAt w gk i x d0 d1 d2 d3 d4 d5 d6 d7:=by
 obtain ⟨gk,hA,hc⟩:=h.entry hk hx
 obtain ⟨d0,d1,d2,d3,d4,d5,d6,d7,hd⟩:=len8 (h.wok b k hk x (List.mem_of_getElem? hx))
 refine ⟨gk,d0,d1,d2,d3,d4,d5,d6,d7,hA,hd,?_,?_,?_,?_,?_,?_,?_,?_,?_,?_⟩
 ·have:=hc 0 (by decide); unfold Wr.cells at this; rw [hd] at this; simpa using this
 all_goals first
  | (have:=hc 1 (by decide); unfold Wr.cells at this; rw [hd] at this; exact this.trans rfl)
  | (have:=hc 2 (by decide); unfold Wr.cells at this; rw [hd] at this; exact this.trans rfl)
  | (have:=hc 3 (by decide); unfold Wr.cells at this; rw [hd] at this; exact this.trans rfl)
  | (have:=hc 4 (by decide); unfold Wr.cells at this; rw [hd] at this; exact this.trans rfl)
  | (have:=hc 5 (by decide); unfold Wr.cells at this; rw [hd] at this; exact this.trans rfl)
  | (have:=hc 6 (by decide); unfold Wr.cells at this; rw [hd] at this; exact this.trans rfl)
  | (have:=hc 7 (by decide); unfold Wr.cells at this; rw [hd] at this; exact this.trans rfl)
  | (have:=hc 8 (by decide); unfold Wr.cells at this; rw [hd] at this; exact this.trans rfl)
  | (have:=hc 9 (by decide); unfold Wr.cells at this; rw [hd] at this; exact this.trans rfl)
theorem readX_len {g : Geo} {F : List Flt} {key b : Int} {S : ST} : (readX20 g F key S b).dt.length = 8:=by
 unfold readX20
 split
 ·exact ftX_len _
 ·rfl
def matchW (ver : Int) (dt : List Int) (x : Wr) : Bool:=!x.trim && (decide (x.ver = ver) && decide (x.dt = dt))
def okK (er ver : Int) (dt : List Int) (l : List Wr) (k : Nat) : Bool:=decide (er ≠ 0) || (l.take k).any (matchW ver dt)
theorem okK_zero (er ver : Int) (dt : List Int) (l : List Wr) : okK er ver dt l 0 = decide (er ≠ 0):=by simp [okK]
theorem okK_succ {er ver : Int} {dt : List Int} {l : List Wr} {k : Nat} {x : Wr} (h : l[k]? = some x) : okK er ver dt l (k + 1) = (okK er ver dt l k || matchW ver dt x):=by
 have hk : k < l.length:=(List.getElem?_eq_some_iff.1 h).1
 have hx : l[k] = x:=(List.getElem?_eq_some_iff.1 h).2
 unfold okK
 rw [List.take_succ_eq_append_getElem hk,List.any_append,hx]
 simp [Bool.or_assoc]
theorem okK_all {g : Geo} {F : List Flt} {n c : Nat} {R : RG} {b : Nat} (h : HonI g n c R) : okK (readE20 g F 0 R.S b) (readX20 g F 0 R.S b).ver (readX20 g F 0 R.S b).dt (R.hist.getD b []) (R.hist.getD b []).length = true:=by
 unfold okK
 by_cases h0 : readE20 g F 0 R.S b = 0
 ·obtain ⟨x,hx,h1,h2,h3⟩:=hon_read h h0
  rw [List.take_length,Bool.or_eq_true]
  right
  rw [List.any_eq_true]
  exact ⟨x,hx,by unfold matchW; simp [h1,h2,h3]⟩
 ·simp [h0]
end Go.Proofs.YtggkengmlkhdiaaGreat
