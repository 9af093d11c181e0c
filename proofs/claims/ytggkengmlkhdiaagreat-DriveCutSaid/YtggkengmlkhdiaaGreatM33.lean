/-
  WHAT IS SHOWN: what Scan of scan returns: the bands, and the newest entries in some order. Conditions: the sectors read; they are those of all bands.
-/
import Derived.Test.YtggkengmlkhdiaaGreatM32
namespace Go.Proofs.YtggkengmlkhdiaaGreat
set_option linter.unusedVariables false
open Go.RowKit Go.Maps
theorem eqlS_some (a:Addr) (n c:Nat) (W:World):(binOp .eql 65 (.slice (some a) n c) (.slice none 0 0)).run Tryz.prog W= .ok (.bool false) W:=by kernel_rfl
theorem eqlS_none (W:World):(binOp .eql 65 (.slice none 0 0) (.slice none 0 0)).run Tryz.prog W= .ok (.bool true) W:=by kernel_rfl
def SecV (w:World) (v:Value) (o:Option (List Int)):Prop:=
 match o with
 | none=>v= .slice none 0 0
 | some xs=>∃ a c,v= .slice (some a) xs.length c∧RdT w 5 (some a) (xs.map (Value.int .u8))∧xs.length≤64∧U8s xs∧xs.length≤c∧c≤9223372036854775807
theorem SecV.kept {w w':World} {S:Nat→Prop} {v:Value} {o:Option (List Int)} (h:SecV w v o) (hk:Kept S w w') (hf:Free w 5 S):SecV w' v o:=by
 cases o with
 | none=>exact h
 | some xs=>obtain ⟨a,c,h1,h2,h3⟩:=h; exact ⟨a,c,h1,h2.kept hk hf,h3⟩
structure SecsM (w:World) (A:Option Addr) (vals:List Value) (ss:List (Option (List Int))):Prop where
 rd:RdT w 65 A vals
 len:vals.length=ss.length
 each:∀ (i:Nat) (v:Value) (o:Option (List Int)),vals[i]?=some v→ss[i]?=some o→SecV w v o
theorem SecsM.below0 {w w':World} {A:Option Addr} {vals:List Value} {ss:List (Option (List Int))} (h:SecsM w A vals ss) (hb:Below w.heap.size w w'):SecsM w' A vals ss:=
 ⟨h.rd.below0 hb,h.len,fun i v o hv ho=>(h.each i v o hv ho).kept (belKept0 (S:=fun _=>False) hb) (Free.none _ _)⟩
theorem flatV_get {l:List V.BI} {k:Nat} (hk:k < l.length) (t:Nat) (ht:t < 4):(V.flat l)[k * 4+t]?=l[k].cells[t]?:=by
 have:=flat_get V.BI.cells 4 V.cells_len l k t ht
 unfold V.flat
 rw [this,List.getElem?_eq_getElem hk]; rfl
theorem flat_live:∀ (l:List V.BI) (k:Nat) (hk:k < l.length) (u:Int),(V.flat l).set (k * 4+1) (.int .i64 u)=V.flat (l.set k { l[k] with live:=u })
 | b::l,0,_,u=>by simp [V.flat,V.BI.cells]
 | b::l,k+1,hk,u=>by
   have ih:=flat_live l k (by simpa using hk) u
   unfold V.flat at ih ⊢
   rw [List.flatMap_cons,List.set_cons_succ,List.flatMap_cons,List.getElem_cons_succ,← ih]
   rw [show (k+1) * 4+1=k * 4+1+1+1+1+1 by omega]
   simp only [V.BI.cells,List.cons_append,List.nil_append,List.set_cons_succ]
theorem flat_age:∀ (l:List V.BI) (k:Nat) (hk:k < l.length) (u:Int),(V.flat l).set (k * 4+2) (.int .u64 u)=V.flat (l.set k { l[k] with age:=u })
 | b::l,0,_,u=>by simp [V.flat,V.BI.cells]
 | b::l,k+1,hk,u=>by
   have ih:=flat_age l k (by simpa using hk) u
   unfold V.flat at ih ⊢
   rw [List.flatMap_cons,List.set_cons_succ,List.flatMap_cons,List.getElem_cons_succ,← ih]
   rw [show (k+1) * 4+2=k * 4+2+1+1+1+1 by omega]
   simp only [V.BI.cells,List.cons_append,List.nil_append,List.set_cons_succ]
theorem cells13 {w:World} {b:Nat} {v0 v1 v2 v3 v4 v5 v6 v7 v8 v9 v10 v11 v12:Value} {t:TypeId} (h:w.heap[b]?=some (.cells #[v0,v1,v2,v3,v4,v5,v6,v7,v8,v9,v10,v11,v12] t (0,0))):w.cell? ⟨b,0,none⟩=some v0∧w.cell? ⟨b,1,none⟩=some v1∧w.cell? ⟨b,2,none⟩=some v2∧w.cell? ⟨b,3,none⟩=some v3∧w.cell? ⟨b,4,none⟩=some v4∧w.cell? ⟨b,5,none⟩=some v5∧w.cell? ⟨b,6,none⟩=some v6∧w.cell? ⟨b,7,none⟩=some v7∧w.cell? ⟨b,8,none⟩=some v8∧w.cell? ⟨b,9,none⟩=some v9∧w.cell? ⟨b,10,none⟩=some v10∧w.cell? ⟨b,11,none⟩=some v11∧w.cell? ⟨b,12,none⟩=some v12:=by
 refine ⟨?_,?_,?_,?_,?_,?_,?_,?_,?_,?_,?_,?_,?_⟩ <;> (simp [World.cell?,h]; done)
theorem wrap_kz {k n:Nat} (h:k < n) (h2:n≤64):wrap64 (k:Int)=(k:Int):=by unfold wrap64; omega
theorem add_sub_self (a b:Int):a+b - a=b:=by omega
theorem wrap_small {n:Nat} (h:n≤1024):IntKind.i64.wrap ((n:Int)+1)=(n:Int)+1:=by rw [IntKind.wrap_i64]; omega
theorem info_found:(Tryz.prog.info? 118).map (fun i=>(i.zero,i.size,i.bytes))=some (some (.agg #[.int .i64 0,.int .i64 0,.int .u64 0,.int .u8 0,.int .u8 0,.int .u8 0,.int .u8 0,.int .u8 0,.int .u8 0,.int .u8 0,.int .u8 0,.int .i64 0]),12,40):=by kernel_rfl
def flatD (L:List Cnd):List Value:=L.flatMap fun d=>d.x.cells++[Value.int .i64 d.adr]
theorem flatD_snoc (L:List Cnd) (c:Cnd):flatD (L++[c])=flatD L++(c.x.cells++[Value.int .i64 c.adr]):=by unfold flatD; rw [List.flatMap_append]; simp
theorem left_eq {left:Lit→Bool} (i:Int):(fun j:Int=>(left (.int .i64 j) && !(Lit.int .i64 j).sameKey (.int .i64 i)))=fun j=>left (.int .i64 j) && !decide (j=i):=by
 funext j
 have:(Lit.int .i64 j).sameKey (.int .i64 i)=decide (j=i):=by
  by_cases e:j=i
  ·subst e; rw [decide_eq_true rfl]; exact (WideAt.sameKey_iff (show WideAt.IsKeyLit (.int .i64 j) from trivial)).2 rfl
  ·rw [decide_eq_false e]; exact sameKey_ne (lit_ne e)
 rw [this]
theorem FoundOk.perm {m:Int→Option Cnd} {left:Int→Bool} {L L':List Cnd} (h:FoundOk m left L) (hp:L'.Perm L):FoundOk m left L':=
 ⟨fun c=>by rw [hp.mem_iff]; exact h.mem c,(hp.pairwise_iff (fun h e=>h e.symm)).2 h.nd⟩
theorem ranges_ne {w:World} {P:Program} {k:TypeId} {b r n cnt:Nat} {D:DataW Cnd} {left:Lit→Bool} (h:w.ranges P k R20 b r n D left cnt) {j:Nat} {t:TypeId} (ht:IsT t w j):j≠r:=fun e=>by
 subst e
 obtain ⟨es,clock,since,seen,c0,_,_,_,_,h2,_⟩:=h
 obtain ⟨cur,fr,h3⟩:=ht
 rw [h2] at h3
 cases h3
theorem own_ranged {w w':World} {P:Program} {k:TypeId} {b r n cnt:Nat} {D:DataW Cnd} {left:Lit→Bool} (h:w.ranges P k R20 b r n D left cnt) (hg:w.grownBy w' (some r)) {base size m:Nat} {e:TypeId} {v:Value} {xs:List Value} (ho:w.ownsRow base e size v m xs):w'.ownsRow base e size v m xs:=by
 refine own_kept ho ((Kept.refl (fun i=>i=r) w).grown hg (fun i _ e=>by injection e with e; exact e.symm)) (fun j hj e=>?_)
 rcases ho.2 with ⟨h2,_⟩ | ⟨g',cap,cur,h2,_,h3,_⟩
 ·rw [h2] at hj; cases hj
 ·rw [h2] at hj
  simp only [Value.ownBlock,Option.some.injEq] at hj
  subst hj
  exact ranges_ne h ⟨_,_,h3⟩ e
theorem own_row {w:World} {base size m:Nat} {e:TypeId} {v:Value} {xs:List Value} (ho:w.ownsRow base e size v m xs) {j:Nat} (hj:v.ownBlock=some j):IsT e w j∧base≤j:=by
 rcases ho.2 with ⟨h2,_⟩ | ⟨g',cap,cur,h2,h4,h3,_⟩
 ·rw [h2] at hj; cases hj
 ·rw [h2] at hj
  simp only [Value.ownBlock,Option.some.injEq] at hj
  subst hj
  exact ⟨⟨_,_,h3⟩,h4⟩
theorem grown_set (w:World) (b o:Nat) (u:Value):w.grownBy (w.setCell ⟨b,o,none⟩ u) (some b):=by
 have hk:=(Kept.refl (fun i=>i=b) w).setCell (p:=⟨b,o,none⟩) (fun _=>rfl) u
 exact ⟨hk.os,hk.tape,hk.output,hk.size,fun i hi hne=>hk.block i hi (fun e=>hne (by have e':i=b:=e; rw [e']))⟩
theorem FoundOk.start {D:DataW Cnd} {m:Int→Option Cnd} (h:MapIs D m):FoundOk m (fun i=>Maps.has D (.int .i64 i)) []:=by
 refine ⟨fun c=>⟨fun h=>by simp at h,fun ⟨h1,h2⟩=>?_⟩,List.Pairwise.nil⟩
 rw [h.has,h1] at h2; cases h2
theorem FoundOk.len {g:Geo} {n:Int} {k:Nat} {m:Int→Option Cnd} {left:Int→Bool} {L:List Cnd} (h:FoundOk m left L) (hm:MOk g n k m):∀ c∈L,c.x.dt.length=8∧0≤c.x.blk∧c.x.blk < n∧∃ i:Nat,i < k∧c.adr=g.random+i:=fun c hc=>by
 have h1:=((h.mem c).1 hc).1
 obtain ⟨_,h2,h3,h4,h5⟩:=hm.at_ _ c h1
 exact ⟨h4,h2,h3,h5⟩
theorem wpList_next_cand {P:Program} (w:World) {ops:Array Oper} {rest:List Oper} {o:Oper} {a:Act} {Q:Exit→Act→World→Prop} (hg:o.guard=none) (it:Operand) (hop:o.op=Op.next it false) (k:TypeId) (K:Keyed P k) (hk:P.underlying k=some (.int .i64)) (b r n:Nat) (D:DataW Cnd) (left:Lit→Bool) (cnt:Nat)
  (m:Int→Option Cnd) (hm:MapIs D m) (hit:a.eval it= .pointer (some ⟨r,0,none⟩)) (h:w.ranges P k R20 b r n D left cnt)
  (hDone:cnt=0→(∀ kl,left kl=false)→wpList P ops Q rest (a.put o.dst (.tuple #[.bool false])) w)
  (hMore:∀ (i kd bk ver d0 d1 d2 d3 d4 d5 d6 d7 ad t:Int) (w':World) (cnt':Nat),m i=some ⟨⟨kd,bk,ver,[d0,d1,d2,d3,d4,d5,d6,d7]⟩,ad,t⟩→left (.int .i64 i)=true→w'.ranges P k R20 b r n D (fun z=>left z && !z.sameKey (.int .i64 i)) cnt'→cnt' < cnt→
    w.grownBy w' (some r)→w'.heap.size=w.heap.size→
    (Instr.entry (.pointer (some ⟨r,0,none⟩))).run P w'= .ok (.tuple #[.int .i64 i,.agg #[.int .i64 kd,.int .i64 bk,.int .u64 ver,.int .u8 d0,.int .u8 d1,.int .u8 d2,.int .u8 d3,.int .u8 d4,.int .u8 d5,.int .u8 d6,.int .u8 d7,.int .i64 ad,.int .u64 t]]) w'→
    wpList P ops Q rest (a.put o.dst (.tuple #[.bool true,.int .i64 i,.agg #[.int .i64 kd,.int .i64 bk,.int .u64 ver,.int .u8 d0,.int .u8 d1,.int .u8 d2,.int .u8 d3,.int .u8 d4,.int .u8 d5,.int .u8 d6,.int .u8 d7,.int .i64 ad,.int .u64 t]])) w'):
  wpList P ops Q (o::rest) a w:=by
 refine wpList_next_ranges (α:=Int) (β:=Cnd) w hg it hop k K R20 (fun x=>.int .i64 x) candV (fun key kl hkk=>?_) (fun v y hy=>?_) b r n D left cnt hit h hDone (fun x c kl y w' cnt' hkey hlk hv hat hrg hlt hgr hsz hen=>?_)
 ·obtain ⟨x,h1,_⟩:=Maps.keyOf_int_inv hk hkk
  exact ⟨x,h1⟩
 ·obtain ⟨c,h1,_⟩:=R20_inv hy
  exact ⟨c,h1⟩
 ·obtain ⟨x',h1,h2,_⟩:=Maps.keyOf_int_inv hk hkey
  have hxx:x'=x:=by injection h1 with _ e; exact e.symm
  rw [hxx] at h2
  subst h2
  obtain ⟨c',h3,h4,h5⟩:=R20_inv hv
  have hc:c'=c:=by
   have e1:=congrArg candOf h3
   rw [candOf_val h5] at e1
   have e2:candOf (candV c)=some c':=e1
   obtain ⟨e3,_⟩:=candOf_inv e2
   unfold R20 at hv
   rw [e2,h4] at hv
   have h8:c.x.dt.length=8:=by
    have e4:=congrArg (fun v=>match v with | Value.agg a=>a.size | _=>0) h3
    simp only [candV,Ent.cells,List.size_toArray,List.length_append,List.length_cons,List.length_map,List.length_nil] at e4
    omega
   rw [candOf_val h8] at e2
   injection e2 with e2
   exact e2.symm
  subst hc
  have hmx:m x=some c':=by
   have hh:Maps.has D (.int .i64 x)=true:=Maps.has_true_of_atKey (y:=.held c') (fun z=>by rw [hat z,h4])
   rw [hm.has] at hh
   cases hmx:m x with
   | none=>rw [hmx] at hh; cases hh
   | some d=>
     have h6:=hm.at_ x d hmx (.held cnd0)
     rw [hat,h4] at h6
     injection h6 with h6
     rw [h6]
  obtain ⟨⟨kd,bk,ver,dts⟩,ad,t⟩:=c'
  obtain ⟨d0,d1,d2,d3,d4,d5,d6,d7,rfl⟩:=len8 h5
  exact hMore x kd bk ver d0 d1 d2 d3 d4 d5 d6 d7 ad t w' cnt' hmx hlk hrg hlt hgr hsz hen
structure ScM (w wr:World) (bb mb nb:Nat) (g:Geo) (bs:List V.BI) (m:Int→Option Cnd) (k:Nat):Prop where
 row:wr.ownsRow w.heap.size 76 4 (.slice (some ⟨bb,0,none⟩) nb nb) nb (V.flat bs)
 len:bs.length=nb
 m:MapM wr mb k m
 bel:Below w.heap.size w wr
 gx:wr.heap[w.heap.size]?=some (.cells #[.int .i64 g.random,.int .i64 g.bands,.int .i64 g.tracks,.int .i64 g.sectors,.int .i64 g.overlap] 42 (0,0))
 ml:w.heap.size≤mb
section
variable {w wr w':World} {bb mb nb:Nat} {g:Geo} {bs:List V.BI} {m:Int→Option Cnd} {k:Nat}
theorem ScM.below (h:ScM w wr bb mb nb g bs m k) (hb:Below wr.heap.size wr w'):ScM w w' bb mb nb g bs m k:=
 ⟨own_kept h.row (belKept0 (S:=fun _=>False) hb) (fun _ _ h=>h),h.len,h.m.below hb h.m.lt,h.bel.trans (hb.mono h.bel.size),belObj hb h.gx (lt_of_block h.gx),h.ml⟩
theorem ScM.low (h:ScM w wr bb mb nb g bs m k):w.heap.size≤bb:=drow_low h.row
theorem ScM.ne (h:ScM w wr bb mb nb g bs m k):mb≠bb∧w.heap.size≠bb∧mb≠w.heap.size:=⟨h.m.ne (IsT.own h.row),(IsT.of h.gx).ne (IsT.own h.row) (by decide),h.m.ne (IsT.of h.gx)⟩
theorem ScM.cells (h:ScM w wr bb mb nb g bs m k) {j:Nat} {b:V.BI} (hb:bs[j]?=some b):wr.cell? ⟨bb,j * 4,none⟩=some (.int .i64 b.used)∧wr.cell? ⟨bb,j * 4+1,none⟩=some (.int .i64 b.live)∧wr.cell? ⟨bb,j * 4+2,none⟩=some (.int .u64 b.age)∧wr.cell? ⟨bb,j * 4+3,none⟩=some (.int .u64 b.wear):=by
 have hj:j < bs.length:=(List.getElem?_eq_some_iff.1 hb).1
 have hjb:bs[j]=b:=by rw [List.getElem?_eq_getElem hj] at hb; injection hb
 have hn:=h.len
 have e:=fun t ht=>(World.ownsRow.cellAt h.row (j * 4+t) (by omega)).trans (flatV_get hj t ht)
 rw [hjb] at e
 exact ⟨(e 0 (by decide)).trans rfl,(e 1 (by decide)).trans rfl,(e 2 (by decide)).trans rfl,(e 3 (by decide)).trans rfl⟩
theorem ScM.free (h:ScM w wr bb mb nb g bs m k) (j:Nat):wr.frozen? ⟨bb,j,none⟩=false:=h.row.frozenAt j
theorem ScM.geo (h:ScM w wr bb mb nb g bs m k):Cells5 wr w.heap.size (.int .i64 g.random) (.int .i64 g.bands) (.int .i64 g.tracks) (.int .i64 g.sectors) (.int .i64 g.overlap):=by
 constructor <;> (rw [cell_of_row _ _ _ _ _ _ h.gx]; rfl)
theorem ScM.store (h:ScM w wr bb mb nb g bs m k) (j:Nat) (u:Value) {bs':List V.BI} (hl:bs'.length=nb) (hf:(V.flat bs).set j u=V.flat bs'):ScM w (wr.setCell ⟨bb,j,none⟩ u) bb mb nb g bs' m k:=by
 have h1:=(World.ownsRow.stored h.row j u).1
 rw [hf] at h1
 have hk:Kept (fun i=>i=bb) wr (wr.setCell ⟨bb,j,none⟩ u):=(Kept.refl (fun i=>i=bb) wr).setCell (p:=⟨bb,j,none⟩) (fun _=>rfl) _
 exact ⟨h1,hl,h.m.set (a:=⟨bb,j,none⟩) h.ne.1 u,h.bel.setCell (p:=⟨bb,j,none⟩) h.low u,Kept.obj hk h.gx h.ne.2.1,h.ml⟩
theorem ScM.mapped (h:ScM w wr bb mb nb g bs m k) {m':Int→Option Cnd} (hg:wr.grownBy w' (some mb)) (hm:MapM w' mb (k+1) m'):ScM w w' bb mb nb g bs m' (k+1):=by
 have hk:Kept (fun i=>i=mb) wr w':=(Kept.refl (fun i=>i=mb) wr).grown hg (fun i _ e=>by injection e with e; exact e.symm)
 refine ⟨own_kept h.row hk (fun i e e'=>?_),h.len,hm,?_,Kept.obj hk h.gx (fun e=>h.ne.2.2 e.symm),h.ml⟩
 ·simp only [Value.ownBlock,Option.some.injEq] at e
  have e2:i=mb:=e'
  exact h.ne.1 (by omega)
 ·exact h.bel.trans (hk.below (fun i e=>by have e':i=mb:=e; have:=h.ml; omega) h.bel.size)
theorem ScM.ranged (h:ScM w wr bb mb nb g bs m k) {row:Option Nat} (hg:wr.grownBy w' row) (h1:some bb≠row) (h2:some mb≠row) (h3:∀ i,row=some i→w.heap.size≤i) (h4:some w.heap.size≠row):ScM w w' bb mb nb g bs m k:=by
 have hk:Kept (fun i=>row=some i) wr w':=(Kept.refl (fun i=>row=some i) wr).grown hg (fun i _ e=>e)
 exact ⟨own_kept h.row hk (fun i e e'=>by simp only [Value.ownBlock,Option.some.injEq] at e; have e2:row=some i:=e'; exact h1 (by rw [e2,e])),h.len,h.m.kept hg h2,h.bel.trans (hk.below (fun i e=>h3 i e) h.bel.size),Kept.obj hk h.gx (fun e=>h4 (by have e2:row=some w.heap.size:=e; rw [e2])),h.ml⟩
theorem ScM.mono (h:ScM w wr bb mb nb g bs m k) {j:Nat} (hj:k≤j):ScM w wr bb mb nb g bs m j:=⟨h.row,h.len,h.m.mono hj,h.bel,h.gx,h.ml⟩
end
section
variable {w:World} {g:Geo}
def ScanPost (w:World) (g:Geo) (n:Int) (ss:List (Option (List Int))) (e:Ending) (w':World):Prop:=
 ∃ (L0 L:List Cnd) (A:Option Addr) (c bb:Nat),FoundOk (scanK g (bz g).toNat n ss ss.length).m (fun _=>false) L∧L.Perm L0∧
  e= .returned (.tuple #[.slice A L.length c,.slice (some ⟨bb,0,none⟩) g.bands.toNat g.bands.toNat])∧
  w'.ownsRow w.heap.size 118 12 (.slice A L.length c) L.length (flatD L)∧
  w'.ownsRow w.heap.size 76 4 (.slice (some ⟨bb,0,none⟩) g.bands.toNat g.bands.toNat) g.bands.toNat (V.flat (liveAll g (bz g) (scanK g (bz g).toNat n ss ss.length).bs L0))∧Below w.heap.size w w'
set_option maxRecDepth 100000
set_option maxHeartbeats 16000000
theorem scan_any (n:Int) (hn:n≤65536) (hg:Vg g) (ss:List (Option (List Int))) (hl:ss.length=nSec g) (A:Option Addr) (c:Nat) (hc:ss.length≤c) (hc2:c≤9223372036854775807) (vals:List Value) (h:SecsM w A vals ss):
  Calls Tryz.prog 60 #[.agg #[.int .i64 g.random,.int .i64 g.bands,.int .i64 g.tracks,.int .i64 g.sectors,.int .i64 g.overlap],.slice A ss.length c,.int .i64 n] w (ScanPost w g n ss):=by
 have hz:=hg.bz
 have hb:=hg.b0
 have hb1:=hg.b1
 have hr0:=hg.r0
 have hr1:=hg.r1
 obtain ⟨nb,hnb⟩:∃ nb:Nat,g.bands=(nb:Int):=⟨g.bands.toNat,by omega⟩
 obtain ⟨z,hzz⟩:∃ z:Nat,bz g=(z:Int):=⟨(bz g).toNat,by have:bz g=g.tracks * g.sectors:=rfl; omega⟩
 have hbz:bz g=g.tracks * g.sectors:=rfl
 have HZN:Hid (bzN g=(z:Int)):=by unfold Hid; rw [bzN_valid hg,← hbz,hzz]
 have hN:ss.length=nb * z:=by rw [hl]; unfold nSec; rw [hnb,hzz]; omega
 have hz1:1≤z:=by omega
 have hz2:z≤1024:=by omega
 have hnb1:nb≤64:=by omega
 have hNm:nb * z≤65536:=Nat.le_trans (Nat.mul_le_mul hnb1 hz2) (by decide)
 have HG:Hid (g.bands.toNat=nb∧(bz g).toNat=z∧bz g=(z:Int)):=⟨by omega,by omega,hzz⟩
 have HSS:Hid (∀ k,(scanK g z n ss k).bs.length=nb):=by intro k; rw [scanK_len]; omega
 have HMO:=Lib.hid (scanK_mok g z n ss)
 have HST:Hid (∀ k,scanK g z n ss (k+1)=scanOne g z n (scanK g z n ss k) k (ss.getD k none)):=fun _=>rfl
 have HS0:Hid (scanK g z n ss 0=⟨List.replicate nb ⟨0,0,0,0⟩,fun _=>none⟩):=by unfold Hid scanK; rw [hnb]; rfl
 have HPOST:Hid (∀ e w',(∃ (L0 L:List Cnd) (A:Option Addr) (c bb:Nat),FoundOk (scanK g z n ss (nb * z)).m (fun _=>false) L∧L.Perm L0∧
  e= .returned (.tuple #[.slice A L.length c,.slice (some ⟨bb,0,none⟩) nb nb])∧
  w'.ownsRow w.heap.size 118 12 (.slice A L.length c) L.length (flatD L)∧
  w'.ownsRow w.heap.size 76 4 (.slice (some ⟨bb,0,none⟩) nb nb) nb (V.flat (liveAll g z (scanK g z n ss (nb * z)).bs L0))∧Below w.heap.size w w')→ScanPost w g n ss e w'):=by
  intro e w' hh; unfold ScanPost; rw [hN,HG.out.1,HG.out.2.1,HG.out.2.2]; exact hh
 have HH:=Lib.hid h
 obtain ⟨i0,hi,hz0,hz1',hz2'⟩:=info_parts info_bandi
 have HMK:Hid (∀ W:World,(Instr.makeSlice 35 (.int .i64 (nb:Int)) (.int .i64 (nb:Int))).run Tryz.prog W= .ok (.slice (some ⟨W.heap.size,0,none⟩) nb nb) (W.alloc (.cells (madeCells #[.int .i64 0,.int .i64 0,.int .u64 0,.int .u64 0] (nb * 4)) 76))):=fun W=>by
  have:=run_make (P:=Tryz.prog) W 35 76 i0 _ Tryz.underlying35 hi hz0 .i64 .i64 nb nb (by omega) (Int.le_refl _) (by rw [hz2']; omega) (by omega)
  rw [hz1'] at this
  exact this
 have HBZ:Hid (∀ W,Calls Tryz.prog 90 #[.agg #[.int .i64 g.random,.int .i64 (nb:Int),.int .i64 g.tracks,.int .i64 g.sectors,.int .i64 g.overlap]] W fun e w'=>e= .returned (.int .i64 (z:Int))∧Below W.heap.size W w'):=fun W=>by
  have:=gbz_any g W
  rw [HZN.out,hnb] at this
  exact this
 have hmm:=@run_makeMap Tryz.prog
 obtain ⟨N,hNN⟩:∃ N,nb * z=N:=⟨_,rfl⟩
 have HNZ:=Lib.hid hNN
 have hw0:IntKind.i64.wrap ((nb:Int) * (z:Int))=(N:Int):=by rw [IntKind.wrap_i64,← hNN]; have:((nb * z:Nat):Int)=(nb:Int) * (z:Int):=Int.natCast_mul nb z; omega
 rw [hNN] at hN hNm HPOST
 have HLN:Hid (ss.length=N):=hN
 have HNB:=Lib.hid hnb
 rw [hnb,hN]
 have hcN:N≤c:=by omega
 have HLEN:=Lib.hid h.len
 have dz:((z:Int)==0)=false:=by simp; omega
 have hN1:1≤N:=by rw [← hNN]; exact Nat.mul_pos (by omega) (by omega)
 have HNb:Hid (1≤nb∧nb≤64∧1≤z∧z≤1024∧1≤N∧N≤65536):=⟨by omega,by omega,by omega,by omega,by omega,by omega⟩
 clear h hl hc hzz hbz hnb hN hg hi hz0 hz1' hz2' hNN hz
 generalize ScanPost w g n ss=SP at *
 go_enter Tryz.func60,Tryz.ntmps60
 go_wp2_with fail
 refine (HBZ.out _).mono ?_
 rintro e w1 ⟨rfl,hb1⟩
 have HB1:Hid (Below w.heap.size w w1):=(((Below.refl w.heap.size w).alloc (Nat.le_refl _) _).trans (hb1.mono (by simp)))
 have HG1:Hid (w1.heap[w.heap.size]?=some (.cells #[.int .i64 g.random,.int .i64 (nb:Int),.int .i64 g.tracks,.int .i64 g.sectors,.int .i64 g.overlap] 42 (0,0))):=belObj hb1 (heap_alloc_new _ _) (by simp)
 have c1:w1.cell? ⟨w.heap.size,1,none⟩=some (.int .i64 (nb:Int)):=by rw [cell_of_row _ _ _ _ _ _ HG1.out]; rfl
 clear hb1
 have hmk:=HMK.out w1
 go_upto_region 6 with fail
 have hrow:=World.ownsRow_lit (base:=w.heap.size) (e:=76) (size:=4) w1 (madeCells #[.int .i64 0,.int .i64 0,.int .u64 0,.int .u64 0] (nb * 4)) nb HB1.out.size (by unfold maxLen; omega) (by rw [size_madeCells])
 rw [made4_flat] at hrow
 have hsz2:(w1.alloc (.cells (madeCells #[.int .i64 0,.int .i64 0,.int .u64 0,.int .u64 0] (nb * 4)) 76)).heap.size=w1.heap.size+1:=by simp
 have hmap:=World.ownsMap_made (w1.alloc (.cells (madeCells #[.int .i64 0,.int .i64 0,.int .u64 0,.int .u64 0] (nb * 4)) 76)) Tryz.prog 3 R20
 rw [hsz2] at hmap
 have hbb:Below w1.heap.size w1 ((w1.alloc (.cells (madeCells #[.int .i64 0,.int .i64 0,.int .u64 0,.int .u64 0] (nb * 4)) 76)).alloc (.map #[] 0)):=((Below.refl _ _).alloc (Nat.le_refl _) _).alloc (by simp) _
 have H3:Hid (ScM w ((w1.alloc (.cells (madeCells #[.int .i64 0,.int .i64 0,.int .u64 0,.int .u64 0] (nb * 4)) 76)).alloc (.map #[] 0)) w1.heap.size (w1.heap.size+1) nb g (List.replicate nb ⟨0,0,0,0⟩) (fun _=>none) 0):=
  ⟨hrow.alloc _,by simp,⟨_,hmap,MapIs.nil⟩,HB1.out.trans (hbb.mono HB1.out.size),by rw [HNB.out]; exact belObj hbb HG1.out (lt_of_block HG1.out),by have:=HB1.out.size; omega⟩
 have H4:Hid (ScM w ((w1.alloc (.cells (madeCells #[.int .i64 0,.int .i64 0,.int .u64 0,.int .u64 0] (nb * 4)) 76)).alloc (.map #[] 0)) w1.heap.size (w1.heap.size+1) nb g (scanK g z n ss 0).bs (scanK g z n ss 0).m 0):=by rw [HS0.out]; exact H3.out
 clear hrow hmap hbb H3 hmk c1 hsz2
 generalize ((w1.alloc (.cells (madeCells #[.int .i64 0,.int .i64 0,.int .u64 0,.int .u64 0] (nb * 4)) 76)).alloc (.map #[] 0))=w3 at *
 generalize w1.heap.size+1=mb at *
 generalize w1.heap.size=bb at *
 have PG:=H4.out.geo
 rw [HNB.out] at PG
 have p1:=PG.c1
 clear PG
 go_wp2
 go_loopw [41] (fun i wr=>∃ k:Nat,k≤N∧i= .int .i64 k∧Hid (ScM w wr bb mb nb g (scanK g z n ss k).bs (scanK g z n ss k).m k)) (fun i _=>N - (intOf i).toNat)
 case atStart=>exact ⟨0,Nat.zero_le _,rfl,H4⟩
 case round=>
  obtain ⟨k,hk,rfl,HSC⟩:=hrel
  clear p1 H4
  by_cases hlt:k < N
  ·have hlv:k < vals.length:=by rw [HLEN.out,HLN.out]; exact hlt
   have hls:k < ss.length:=by rw [HLN.out]; exact hlt
   have hsec:=HH.out.below0 (HSC.out.bel)
   have hev:=hsec.each k _ _ (List.getElem?_eq_getElem hlv) (List.getElem?_eq_getElem hls)
   obtain ⟨ga,oa,rfl,hga,hcv⟩:=hsec.rd.rd k _ (List.getElem?_eq_getElem hlv)
   have HSTK:=Lib.hid (HST.out k)
   have hgd:ss.getD k none=ss[k]:=by simp [List.getD,hls]
   unfold Hid at HSTK
   rw [hgd] at HSTK
   have hk1:(k:Int) < N:=by omega
   generalize ss[k]=o at *
   generalize vals[k]=v at *
   clear hsec hlv hls hgd
   cases o with
   | none=>
     have hv:v= .slice none 0 0:=hev
     subst hv
     have HN:Hid (scanK g z n ss (k+1)=scanK g z n ss k):=HSTK
     have HSM:Hid (ScM w wr bb mb nb g (scanK g z n ss (k+1)).bs (scanK g z n ss (k+1)).m (k+1)):=by rw [HN.out]; exact HSC.out.mono (by omega)
     have hNN2:=HNb.out
     have en:=eqlS_none
     clear HSTK hev
     go_wp2
     go_roundw
     case rel=>exact ⟨k+1,by omega,by go_num,HSM⟩
     case measure=>simp [intOf]; omega
   | some xs=>
     obtain ⟨a,ca,rfl,hrx,hx64,hxu,hxc,hxc2⟩:=hev
     have HSTX:Hid (scanK g z n ss (k+1)=if decE xs=0∧(decX xs).blk < n then ⟨ageB z (useB z (scanK g z n ss k).bs k) k (decT xs),addM (scanK g z n ss k).m ⟨decX xs,g.random+k,decT xs⟩⟩ else ⟨useB z (scanK g z n ss k).bs k,(scanK g z n ss k).m⟩):=HSTK
     have hbl:=HSS.out k
     have HMK1:=Lib.hid (HMO.out k)
     generalize (scanK g z n ss k).bs=bs at *
     generalize (scanK g z n ss k).m=m at *
     clear HSTK
     have hNN2:=HNb.out
     have hkz:k / z < nb:=by rw [Nat.div_lt_iff_lt_mul (by omega)]; rw [← HNZ.out] at hlt; exact hlt
     have hmz:k % z < z:=Nat.mod_lt _ (by omega)
     have hkk:k / z < bs.length:=by omega
     have hbk:=List.getElem?_eq_getElem hkk
     have hat:V.at_ bs ((k / z:Nat):Int)=bs[k / z]:=V.at_eq hkk
     have HU:Hid (useB z bs k=bs.set (k / z) { bs[k / z] with used:=((k % z:Nat):Int)+1 }):=by unfold Hid useB; rw [hat]
     have HFU:Hid ((V.flat bs).set (k / z * 4) (.int .i64 (((k % z:Nat):Int)+1))=V.flat (useB z bs k)):=by rw [HU.out]; exact flat_used bs (k / z) hkk _
     obtain ⟨u0,u1,u2,u3⟩:=HSC.out.cells hbk
     have uf:=HSC.out.free (k / z * 4)
     have HS1:=Lib.hid (HSC.out.store (k / z * 4) (.int .i64 (((k % z:Nat):Int)+1)) (bs':=useB z bs k) (by rw [useB_len]; exact hbl) HFU.out)
     have q0:((k:Int) / (z:Int))=((k / z:Nat):Int):=(Int.natCast_ediv k z).symm
     have q0':((k:Int) % (z:Int))=((k % z:Nat):Int):=(Int.natCast_emod k z).symm
     have en:=eqlS_some a xs.length ca
     generalize hq:k / z=kz at *
     generalize hr:k % z=mz at *
     have q1:wrap64 ((k:Int) / (z:Int))=(kz:Int):=by rw [q0]; unfold wrap64; omega
     have q1t:wrap64 ((k:Int).tdiv (z:Int))=(kz:Int):=by rw [Int.tdiv_eq_ediv_of_nonneg (by omega)]; exact q1
     have q2t:(k:Int).tmod (z:Int)=(mz:Int):=(Int.tmod_eq_emod_of_nonneg (by omega)).trans q0'
     have q3:(kz:Int) < (nb:Int):=Int.ofNat_lt.2 hkz
     have q4:IntKind.i64.wrap ((mz:Int)+1)=(mz:Int)+1:=wrap_small (Nat.le_of_lt (Nat.lt_of_lt_of_le hmz hz2))
     clear q0
     clear hat hkz hbk
     generalize bs[kz]=b0 at *
     have HK1:=Lib.hid hk1
     have HQ:=Lib.hid (And.intro hq hr)
     clear hq hr
     have hkb:Kept (fun i=>i=bb) wr (wr.setCell ⟨bb,kz * 4,none⟩ (.int .i64 ((mz:Int)+1))):=(Kept.refl (fun i=>i=bb) wr).setCell (p:=⟨bb,kz * 4,none⟩) (fun _=>rfl) _
     have HRX:=Lib.hid (hrx.kept hkb (Free.one (show wr.heap[bb]?=_ from (IsT.own HSC.out.row).choose_spec.choose_spec) (by decide)))
     have hb1':(useB z bs k)[kz]?=some { b0 with used:=(mz:Int)+1 }:=by rw [HU.out,List.getElem?_set_self (by omega)]
     have HAG:Hid (∀ dt,ageB z (useB z bs k) k dt=(useB z bs k).set kz { used:=(mz:Int)+1,live:=b0.live,age:=if b0.age < dt then dt else b0.age,wear:=b0.wear }):=by
      intro dt
      unfold ageB
      rw [HQ.out.1]
      have:V.at_ (useB z bs k) ((kz:Nat):Int)={ b0 with used:=(mz:Int)+1 }:=by unfold V.at_; rw [Int.toNat_natCast,hb1']; rfl
      rw [this]
     have HUL:Hid ((useB z bs k).length=nb):=by unfold Hid; rw [useB_len]; exact hbl
     have HB1':=Lib.hid hb1'
     go_upto_region 12 with fail
     clear q0' q1 q1t q2t q4 u0 u1 u2 u3 uf en hkb hb1' hrx HFU HU HSC hkk hmz hbl
     generalize (wr.setCell ⟨bb,kz * 4,none⟩ (.int .i64 ((mz:Int)+1)))=w4 at *
     generalize useB z bs k=us at *
     clear hcv hga
     have hde:=decode_any xs hxu (some a) ca w4 HRX.out.rd (by omega) hxc hxc2
     have hx8:=decX_len8 xs
     have HBK:Hid (decE xs=0→I64 (decX xs).blk∧0≤(decX xs).blk):=fun h0=>by have:=validE_told (decX_valid h0); exact ⟨⟨by omega,by omega⟩,this.1⟩
     generalize decX xs=x at *
     generalize decE xs=de at *
     generalize decT xs=dt at *
     obtain ⟨kd,bk,ver,dts⟩:=x
     obtain ⟨d0,d1,d2,d3,d4,d5,d6,d7,rfl⟩:=len8 hx8
     have HDE:Hid (Calls Tryz.prog 69 #[.slice (some a) xs.length ca] w4 fun e w'=>e= .returned (.tuple #[.agg #[.int .i64 kd,.int .i64 bk,.int .u64 ver,.int .u8 d0,.int .u8 d1,.int .u8 d2,.int .u8 d3,.int .u8 d4,.int .u8 d5,.int .u8 d6,.int .u8 d7],.int .u64 dt,.int .i64 de])∧Below w4.heap.size w4 w'):=hde
     clear hde hx8 hxu HRX hx64 hxc hxc2
     go_wp2_with fail
     refine HDE.out.mono ?_
     rintro e w5 ⟨rfl,hb5⟩
     have HS5:=Lib.hid (HS1.out.below hb5)
     have hb6:Below w5.heap.size w5 (w5.alloc (.cells #[.int .i64 kd,.int .i64 bk,.int .u64 ver,.int .u8 d0,.int .u8 d1,.int .u8 d2,.int .u8 d3,.int .u8 d4,.int .u8 d5,.int .u8 d6,.int .u8 d7] 89)):=(Below.refl _ _).alloc (Nat.le_refl _) _
     have HS6:=Lib.hid (HS5.out.below hb6)
     have hO6:(w5.alloc (.cells #[.int .i64 kd,.int .i64 bk,.int .u64 ver,.int .u8 d0,.int .u8 d1,.int .u8 d2,.int .u8 d3,.int .u8 d4,.int .u8 d5,.int .u8 d6,.int .u8 d7] 89)).heap[w5.heap.size]?=some (.cells #[.int .i64 kd,.int .i64 bk,.int .u64 ver,.int .u8 d0,.int .u8 d1,.int .u8 d2,.int .u8 d3,.int .u8 d4,.int .u8 d5,.int .u8 d6,.int .u8 d7] 89 (0,0)):=heap_alloc_new _ _
     have HO6:=Lib.hid hO6
     clear hb5 hb6 hO6 HDE HS1
     go_upto_region 13 with fail
     generalize (w5.alloc (.cells #[.int .i64 kd,.int .i64 bk,.int .u64 ver,.int .u8 d0,.int .u8 d1,.int .u8 d2,.int .u8 d3,.int .u8 d4,.int .u8 d5,.int .u8 d6,.int .u8 d7] 89))=w6 at *
     generalize w5.heap.size=xb at *
     obtain ⟨⟨o0,o1,o2,o3,o4,o5,o6,o7,o8,o9,o10⟩,_⟩:=cells11 HO6.out
     have HSKIP:Hid (¬ (de=0∧bk < n)→ScM w w6 bb mb nb g (scanK g z n ss (k+1)).bs (scanK g z n ss (k+1)).m (k+1)):=by
      intro hno
      rw [HSTX.out,if_neg hno]
      exact HS6.out.mono (by omega)
     by_cases hde:de=0
     ·by_cases hbn:bk < n
      ·have f1:(de !=0)=false:=by simpa using hde
       have f2:decide (n≤bk)=false:=decide_eq_false (by omega)
       obtain ⟨hbi,hb0⟩:=HBK.out hde
       have HNW:Hid (scanK g z n ss (k+1)=⟨ageB z us k dt,addM m ⟨⟨kd,bk,ver,[d0,d1,d2,d3,d4,d5,d6,d7]⟩,g.random+k,dt⟩⟩):=by unfold Hid; rw [HSTX.out,if_pos ⟨hde,hbn⟩]
       obtain ⟨v0,v1,v2,v3⟩:=HS6.out.cells HB1'.out
       simp only at v0 v1 v2 v3
       have vf:=HS6.out.free (kz * 4+2)
       have PG:=HS6.out.geo
       have p0:=PG.c0
       clear PG v0 v1 v3 hbn hde HSKIP HSTX
       have hkl:kz < us.length:=by have:=HUL.out; omega
       have hmx:max b0.age dt=if b0.age < dt then dt else b0.age:=by rw [Int.max_def]; split <;> split <;> omega
       have hus:us[kz]={ used:=(mz:Int)+1,live:=b0.live,age:=b0.age,wear:=b0.wear }:=by have:=HB1'.out; rw [List.getElem?_eq_getElem hkl] at this; injection this
       have HFA:Hid ((V.flat us).set (kz * 4+2) (.int .u64 (max b0.age dt))=V.flat (ageB z us k dt)):=by
        unfold Hid; rw [flat_age us kz hkl,HAG.out,hus,hmx]
       have HS7:=Lib.hid (HS6.out.store (kz * 4+2) (.int .u64 (max b0.age dt)) (bs':=ageB z us k dt) (by rw [ageB_len]; exact HUL.out) HFA.out)
       have hne7:=(IsT.of HO6.out).ne (IsT.own HS6.out.row) (by decide)
       have HO7:Hid ((w6.setCell ⟨bb,kz * 4+2,none⟩ (.int .u64 (max b0.age dt))).heap[xb]?=some (.cells #[.int .i64 kd,.int .i64 bk,.int .u64 ver,.int .u8 d0,.int .u8 d1,.int .u8 d2,.int .u8 d3,.int .u8 d4,.int .u8 d5,.int .u8 d6,.int .u8 d7] 89 (0,0))):=Kept.obj ((Kept.refl (fun i=>i=bb) w6).setCell (p:=⟨bb,kz * 4+2,none⟩) (fun _=>rfl) _) HO6.out hne7
       clear hus HFA hkl hmx
       go_upto_region 15 with fail
       clear o0 o1 o2 o3 o4 o5 o6 o7 o8 o9 o10 v2 vf p0 hne7
       generalize (w6.setCell ⟨bb,kz * 4+2,none⟩ (.int .u64 (max b0.age dt)))=w7 at *
       obtain ⟨⟨o0,o1,o2,o3,o4,o5,o6,o7,o8,o9,o10⟩,_⟩:=cells11 HO7.out
       have p0:=HS7.out.geo.c0
       have hwk:IntKind.i64.wrap (g.random+(k:Int))=g.random+(k:Int):=by rw [IntKind.wrap_i64]; have:=HNb.out; omega
       have hb8:Below w7.heap.size w7 (w7.alloc (.cells #[.int .i64 kd,.int .i64 bk,.int .u64 ver,.int .u8 d0,.int .u8 d1,.int .u8 d2,.int .u8 d3,.int .u8 d4,.int .u8 d5,.int .u8 d6,.int .u8 d7,.int .i64 (g.random+(k:Int)),.int .u64 dt] 144)):=(Below.refl _ _).alloc (Nat.le_refl _) _
       have HS8:=Lib.hid (HS7.out.below hb8)
       have HO8:Hid ((w7.alloc (.cells #[.int .i64 kd,.int .i64 bk,.int .u64 ver,.int .u8 d0,.int .u8 d1,.int .u8 d2,.int .u8 d3,.int .u8 d4,.int .u8 d5,.int .u8 d6,.int .u8 d7,.int .i64 (g.random+(k:Int)),.int .u64 dt] 144)).heap[w7.heap.size]?=some (.cells #[.int .i64 kd,.int .i64 bk,.int .u64 ver,.int .u8 d0,.int .u8 d1,.int .u8 d2,.int .u8 d3,.int .u8 d4,.int .u8 d5,.int .u8 d6,.int .u8 d7,.int .i64 (g.random+(k:Int)),.int .u64 dt] 144 (0,0))):=heap_alloc_new _ _
       have HX8:=Lib.hid (belObj hb8 HO7.out (lt_of_block HO7.out))
       clear hb8
       go_upto_region 16 with fail
       clear o0 o1 o2 o3 o4 o5 o6 o7 o8 o9 o10 p0 hwk
       generalize (w7.alloc (.cells #[.int .i64 kd,.int .i64 bk,.int .u64 ver,.int .u8 d0,.int .u8 d1,.int .u8 d2,.int .u8 d3,.int .u8 d4,.int .u8 d5,.int .u8 d6,.int .u8 d7,.int .i64 (g.random+(k:Int)),.int .u64 dt] 144))=w8 at *
       generalize w7.heap.size=cb at *
       obtain ⟨⟨_,o1,_⟩,_⟩:=cells11 HX8.out
       obtain ⟨D,HMD,HMI⟩:=HS8.out.m
       have HBI:=Lib.hid hbi
       have HMI2:=Lib.hid HMI
       have HR20:Hid (R20 (.agg #[.int .i64 kd,.int .i64 bk,.int .u64 ver,.int .u8 d0,.int .u8 d1,.int .u8 d2,.int .u8 d3,.int .u8 d4,.int .u8 d5,.int .u8 d6,.int .u8 d7,.int .i64 (g.random+(k:Int)),.int .u64 dt])=some (.held (⟨⟨kd,bk,ver,[d0,d1,d2,d3,d4,d5,d6,d7]⟩,g.random+(k:Int),dt⟩:Cnd),[])):=R20_mk (c:=⟨⟨kd,bk,ver,[d0,d1,d2,d3,d4,d5,d6,d7]⟩,g.random+(k:Int),dt⟩) rfl
       have HFX:Hid (∀ W,Below w8.heap.size w8 W→W.heap[xb]?=some (.cells #[.int .i64 kd,.int .i64 bk,.int .u64 ver,.int .u8 d0,.int .u8 d1,.int .u8 d2,.int .u8 d3,.int .u8 d4,.int .u8 d5,.int .u8 d6,.int .u8 d7] 89 (0,0))∧W.heap[cb]?=some (.cells #[.int .i64 kd,.int .i64 bk,.int .u64 ver,.int .u8 d0,.int .u8 d1,.int .u8 d2,.int .u8 d3,.int .u8 d4,.int .u8 d5,.int .u8 d6,.int .u8 d7,.int .i64 (g.random+(k:Int)),.int .u64 dt] 144 (0,0))):=fun W hW=>⟨belObj hW HX8.out (lt_of_block HX8.out),belObj hW HO8.out (lt_of_block HO8.out)⟩
       rcases hm:m bk with _ | o
       ·have HLK:=Lib.hid (look_none HMI hm)
        have HTK:Hid (addM m (⟨⟨kd,bk,ver,[d0,d1,d2,d3,d4,d5,d6,d7]⟩,g.random+(k:Int),dt⟩:Cnd)=mput m bk ⟨⟨kd,bk,ver,[d0,d1,d2,d3,d4,d5,d6,d7]⟩,g.random+(k:Int),dt⟩):=by
         unfold Hid addM takeM; simp only; rw [hm]; rfl
        have hb9:Below w8.heap.size w8 (w8.alloc (.cells #[.int .i64 0,.int .i64 0,.int .u64 0,.int .u8 0,.int .u8 0,.int .u8 0,.int .u8 0,.int .u8 0,.int .u8 0,.int .u8 0,.int .u8 0,.int .i64 0,.int .u64 0] 144)):=(Below.refl _ _).alloc (Nat.le_refl _) _
        have HS9:=Lib.hid (HS8.out.below hb9)
        have HMW:Hid ((w8.alloc (.cells #[.int .i64 0,.int .i64 0,.int .u64 0,.int .u8 0,.int .u8 0,.int .u8 0,.int .u8 0,.int .u8 0,.int .u8 0,.int .u8 0,.int .u8 0,.int .i64 0,.int .u64 0] 144)).ownsMap Tryz.prog 3 R20 mb k D):=HMD.alloc _
        obtain ⟨hx9,hc9⟩:=HFX.out _ hb9
        have HX9:=Lib.hid hx9
        have HC9:=Lib.hid hc9
        clear hb9 hx9 hc9 hm
        go_upto_region 17 with (at_lookup; refine wpList_look_as _ rfl _ _ 141 rfl 3 144 lawI Tryz.underlying141 R20 (cand_zero _) (.held cnd0) [] (R20_mk rfl) mb k D rfl HMD _ (.int .i64 bk) rfl (keyI HBI.out) (.agg #[.int .i64 0,.int .i64 0,.int .u64 0,.int .u8 0,.int .u8 0,.int .u8 0,.int .u8 0,.int .u8 0,.int .u8 0,.int .u8 0,.int .u8 0,.int .i64 0,.int .u64 0]) false HLK.out.1 HLK.out.2 ?_)
        clear HLK HMD HMI o1
        generalize (w8.alloc (.cells #[.int .i64 0,.int .i64 0,.int .u64 0,.int .u8 0,.int .u8 0,.int .u8 0,.int .u8 0,.int .u8 0,.int .u8 0,.int .u8 0,.int .u8 0,.int .i64 0,.int .u64 0] 144))=w9 at *
        obtain ⟨⟨_,o1,_⟩,_⟩:=cells11 HX9.out
        obtain ⟨y0,y1,y2,y3,y4,y5,y6,y7,y8,y9,y10,y11,y12⟩:=cells13 HC9.out
        go_wp2_with (at_mapUpdate; refine wpList_mapUpdate_own _ rfl _ _ _ 141 rfl 3 144 lawI Tryz.underlying141 R20 mb k D rfl HMW.out (by have:=HNb.out; unfold maxLen; omega) _ _ (.int .i64 bk) rfl rfl (keyI HBI.out) (.held ⟨⟨kd,bk,ver,[d0,d1,d2,d3,d4,d5,d6,d7]⟩,g.random+(k:Int),dt⟩) [] HR20.out ?_; intro wU hownU hgrowU; go_frame)
        have HF:Hid (ScM w wU bb mb nb g (scanK g z n ss (k+1)).bs (scanK g z n ss (k+1)).m (k+1)):=by
         rw [HNW.out]
         show ScM w wU bb mb nb g (ageB z us k dt) (addM m ⟨⟨kd,bk,ver,[d0,d1,d2,d3,d4,d5,d6,d7]⟩,g.random+(k:Int),dt⟩) (k+1)
         rw [HTK.out]
         exact HS9.out.mapped hgrowU ⟨_,hownU,HMI2.out.put HBI.out ⟨⟨kd,bk,ver,[d0,d1,d2,d3,d4,d5,d6,d7]⟩,g.random+(k:Int),dt⟩⟩
        clear hownU hgrowU
        go_roundw
        case rel=>exact ⟨k+1,by omega,by go_num,HF⟩
        case measure=>simp [intOf]; omega
       ·have ho8:=(HMK1.out.at_ bk o hm).2.2.2.1
        have HLK:=Lib.hid (look_some HMI hm)
        have HAD:Hid (∀ bo,newerB (⟨⟨kd,bk,ver,[d0,d1,d2,d3,d4,d5,d6,d7]⟩,g.random+(k:Int),dt⟩:Cnd) o=bo→addM m (⟨⟨kd,bk,ver,[d0,d1,d2,d3,d4,d5,d6,d7]⟩,g.random+(k:Int),dt⟩:Cnd)=if bo then mput m bk ⟨⟨kd,bk,ver,[d0,d1,d2,d3,d4,d5,d6,d7]⟩,g.random+(k:Int),dt⟩ else m):=by
         intro bo hbo; unfold addM takeM; simp only; rw [hm]; simp only; subst hbo; rfl
        obtain ⟨⟨k1,b1,r1,odt⟩,a1,t1⟩:=o
        obtain ⟨e0,e1,e2,e3,e4,e5,e6,e7,rfl⟩:=len8 ho8
        have HNB2:Hid (∀ bo,(decide (r1 < ver) || (decide (ver=r1) && decide (t1 < dt)))=bo→addM m (⟨⟨kd,bk,ver,[d0,d1,d2,d3,d4,d5,d6,d7]⟩,g.random+(k:Int),dt⟩:Cnd)=if bo then mput m bk ⟨⟨kd,bk,ver,[d0,d1,d2,d3,d4,d5,d6,d7]⟩,g.random+(k:Int),dt⟩ else m):=fun bo hbo=>HAD.out bo hbo
        have hb9:Below w8.heap.size w8 (w8.alloc (.cells #[.int .i64 k1,.int .i64 b1,.int .u64 r1,.int .u8 e0,.int .u8 e1,.int .u8 e2,.int .u8 e3,.int .u8 e4,.int .u8 e5,.int .u8 e6,.int .u8 e7,.int .i64 a1,.int .u64 t1] 144)):=(Below.refl _ _).alloc (Nat.le_refl _) _
        have HS9:=Lib.hid (HS8.out.below hb9)
        have HO9:Hid ((w8.alloc (.cells #[.int .i64 k1,.int .i64 b1,.int .u64 r1,.int .u8 e0,.int .u8 e1,.int .u8 e2,.int .u8 e3,.int .u8 e4,.int .u8 e5,.int .u8 e6,.int .u8 e7,.int .i64 a1,.int .u64 t1] 144)).heap[w8.heap.size]?=some (.cells #[.int .i64 k1,.int .i64 b1,.int .u64 r1,.int .u8 e0,.int .u8 e1,.int .u8 e2,.int .u8 e3,.int .u8 e4,.int .u8 e5,.int .u8 e6,.int .u8 e7,.int .i64 a1,.int .u64 t1] 144 (0,0))):=heap_alloc_new _ _
        have HM9:Hid ((w8.alloc (.cells #[.int .i64 k1,.int .i64 b1,.int .u64 r1,.int .u8 e0,.int .u8 e1,.int .u8 e2,.int .u8 e3,.int .u8 e4,.int .u8 e5,.int .u8 e6,.int .u8 e7,.int .i64 a1,.int .u64 t1] 144)).ownsMap Tryz.prog 3 R20 mb k D):=HMD.alloc _
        obtain ⟨hx9,hc9⟩:=HFX.out _ hb9
        have HX9:=Lib.hid hx9
        have HC9:=Lib.hid hc9
        have HML:Hid (mb < (w8.alloc (.cells #[.int .i64 k1,.int .i64 b1,.int .u64 r1,.int .u8 e0,.int .u8 e1,.int .u8 e2,.int .u8 e3,.int .u8 e4,.int .u8 e5,.int .u8 e6,.int .u8 e7,.int .i64 a1,.int .u64 t1] 144)).heap.size):=HM9.out.lt
        clear hb9 hx9 hc9 hm ho8 HAD
        go_upto_region 17 with (at_lookup; refine wpList_look_as _ rfl _ _ 141 rfl 3 144 lawI Tryz.underlying141 R20 (cand_zero _) (.held cnd0) [] (R20_mk rfl) mb k D rfl HMD _ (.int .i64 bk) rfl (keyI HBI.out) (.agg #[.int .i64 k1,.int .i64 b1,.int .u64 r1,.int .u8 e0,.int .u8 e1,.int .u8 e2,.int .u8 e3,.int .u8 e4,.int .u8 e5,.int .u8 e6,.int .u8 e7,.int .i64 a1,.int .u64 t1]) true HLK.out.1 HLK.out.2 ?_)
        clear HLK HMD HMI o1
        generalize (w8.alloc (.cells #[.int .i64 k1,.int .i64 b1,.int .u64 r1,.int .u8 e0,.int .u8 e1,.int .u8 e2,.int .u8 e3,.int .u8 e4,.int .u8 e5,.int .u8 e6,.int .u8 e7,.int .i64 a1,.int .u64 t1] 144))=w9 at *
        generalize w8.heap.size=ob at *
        obtain ⟨y0,y1,y2,y3,y4,y5,y6,y7,y8,y9,y10,y11,y12⟩:=cells13 HC9.out
        obtain ⟨x0,x1,x2,x3,x4,x5,x6,x7,x8,x9,x10,x11,x12⟩:=cells13 HO9.out
        have HNE:=Lib.hid (newer_any (w:=w9) kd bk ver d0 d1 d2 d3 d4 d5 d6 d7 (g.random+(k:Int)) dt k1 b1 r1 e0 e1 e2 e3 e4 e5 e6 e7 a1 t1)
        unfold Hid at HNE
        generalize (decide (r1 < ver) || (decide (ver=r1) && decide (t1 < dt)))=bo at *
        have HAD:=Lib.hid (HNB2.out bo rfl)
        clear HNB2
        cases bo with
        | true=>
          go_wp2_with fail
          refine HNE.mono ?_
          rintro e wA ⟨rfl,hbA⟩
          have HSA:=Lib.hid (HS9.out.below hbA)
          have HXA:=Lib.hid (belObj hbA HX9.out (lt_of_block HX9.out))
          have HCA:=Lib.hid (belObj hbA HC9.out (lt_of_block HC9.out))
          obtain ⟨D2,HMW',HMI3'⟩:=HSA.out.m
          have HMW:=Lib.hid HMW'
          have HMI3:=Lib.hid HMI3'
          clear hbA y0 y1 y2 y3 y4 y5 y6 y7 y8 y9 y10 y11 y12 x0 x1 x2 x3 x4 x5 x6 x7 x8 x9 x10 x11 x12 HNE HMW' HMI3'
          obtain ⟨⟨_,o1,_⟩,_⟩:=cells11 HXA.out
          obtain ⟨y0,y1,y2,y3,y4,y5,y6,y7,y8,y9,y10,y11,y12⟩:=cells13 HCA.out
          go_wp2_with (at_mapUpdate; refine wpList_mapUpdate_own _ rfl _ _ _ 141 rfl 3 144 lawI Tryz.underlying141 R20 mb k D2 rfl HMW.out (by have:=HNb.out; unfold maxLen; omega) _ _ (.int .i64 bk) rfl rfl (keyI HBI.out) (.held ⟨⟨kd,bk,ver,[d0,d1,d2,d3,d4,d5,d6,d7]⟩,g.random+(k:Int),dt⟩) [] HR20.out ?_; intro wU hownU hgrowU; go_frame)
          have HF:Hid (ScM w wU bb mb nb g (scanK g z n ss (k+1)).bs (scanK g z n ss (k+1)).m (k+1)):=by
           rw [HNW.out]
           show ScM w wU bb mb nb g (ageB z us k dt) (addM m ⟨⟨kd,bk,ver,[d0,d1,d2,d3,d4,d5,d6,d7]⟩,g.random+(k:Int),dt⟩) (k+1)
           rw [HAD.out]
           exact HSA.out.mapped hgrowU ⟨_,hownU,HMI3.out.put HBI.out ⟨⟨kd,bk,ver,[d0,d1,d2,d3,d4,d5,d6,d7]⟩,g.random+(k:Int),dt⟩⟩
          clear hownU hgrowU
          go_roundw
          case rel=>exact ⟨k+1,by omega,by go_num,HF⟩
          case measure=>simp [intOf]; omega
        | false=>
          go_wp2_with fail
          refine HNE.mono ?_
          rintro e wA ⟨rfl,hbA⟩
          have HSA:=Lib.hid (HS9.out.below hbA)
          have HF:Hid (ScM w wA bb mb nb g (scanK g z n ss (k+1)).bs (scanK g z n ss (k+1)).m (k+1)):=by
           rw [HNW.out]
           show ScM w wA bb mb nb g (ageB z us k dt) (addM m ⟨⟨kd,bk,ver,[d0,d1,d2,d3,d4,d5,d6,d7]⟩,g.random+(k:Int),dt⟩) (k+1)
           rw [HAD.out]
           exact HSA.out.mono (by omega)
          clear hbA y0 y1 y2 y3 y4 y5 y6 y7 y8 y9 y10 y11 y12 x0 x1 x2 x3 x4 x5 x6 x7 x8 x9 x10 x11 x12 HNE
          go_wp2
          go_roundw
          case rel=>exact ⟨k+1,by omega,by go_num,HF⟩
          case measure=>simp [intOf]; omega
      ·have f1:(de !=0)=false:=by simpa using hde
       have f2:decide (n≤bk)=true:=decide_eq_true (by omega)
       have HN:=Lib.hid (HSKIP.out (fun h=>hbn h.2))
       clear hbn hde HSKIP
       go_wp2
       go_roundw
       case rel=>exact ⟨k+1,by omega,by go_num,HN⟩
       case measure=>simp [intOf]; omega
     ·have f1:(de !=0)=true:=by simpa using hde
      have HN:=Lib.hid (HSKIP.out (fun h=>hde h.1))
      clear hde HSKIP
      go_wp2
      go_roundw
      case rel=>exact ⟨k+1,by omega,by go_num,HN⟩
      case measure=>simp [intOf]; omega
  ·obtain rfl:k=N:=by omega
   have HMOK:=Lib.hid (HMO.out k)
   have HBL:=Lib.hid (HSS.out k)
   have HLV:=Lib.hid (scanK_live g z n ss k)
   generalize (scanK g z n ss k).bs=bs at *
   generalize (scanK g z n ss k).m=m at *
   obtain ⟨D,HMD,hmi⟩:=HSC.out.m
   have HMI:=Lib.hid hmi
   clear hmi hlt hk
   go_wp2_with (at_range; refine wpList_range_own _ rfl _ 141 rfl 3 144 lawI Tryz.underlying141 R20 mb k D rfl HMD ?_; intro w4 hrg4 hg4 hs4; go_frame)
   have hrb:wr.heap.size≠bb:=by have:=HSC.out.ne; have h1:=(IsT.own HSC.out.row).lt; omega
   have hrm:wr.heap.size≠mb:=by have h1:=HSC.out.m.lt; omega
   have HRN:Hid (wr.heap.size≠bb∧wr.heap.size≠mb∧w.heap.size < wr.heap.size):=⟨hrb,hrm,lt_of_block HSC.out.gx⟩
   have HS4:=Lib.hid (HSC.out.ranged hg4 (by simp) (by simp) (fun i e=>by cases e) (by simp))
   have HRG4:=Lib.hid hrg4
   have HSZ4:Hid (([]:List Cnd).length+Maps.size D≤k):=by have:=HMD.size_le; unfold Hid; simp; exact this
   clear hrg4 hg4 hs4 hrb hrm HMD
   generalize wr.heap.size=rb at *
   go_loopw [20] (fun o w2=>∃ (left:Lit→Bool) (cnt:Nat) (L:List Cnd) (A2:Option Addr) (c2:Nat),o= .slice A2 L.length c2∧Hid (w2.ranges Tryz.prog 3 R20 mb rb k D left cnt)∧Hid (FoundOk m (fun i=>left (.int .i64 i)) L)∧
    Hid (w2.ownsRow w.heap.size 118 12 (.slice A2 L.length c2) L.length (flatD L))∧Hid (ScM w w2 bb mb nb g (liveAll g z bs L) m k)∧Hid (L.length+cnt≤k)) (fun _ w2=>w2.rangeLeft mb rb)
   case atStart=>exact ⟨_,_,[],none,0,rfl,HRG4,FoundOk.start HMI.out,World.ownsRow_nil _ _ _ _,HS4,HSZ4⟩
   case round=>
    obtain ⟨left,cnt,L,A2,c2,rfl,HRG,HFO,HOW,HSL,HLC⟩:=hrel
    have hrg:=HRG.out
    have HDONE:Hid ((∀ kl,left kl=false)→FoundOk m (fun _=>false) L):=fun h0=>by
     have:=HFO.out
     have e:(fun i:Int=>left (.int .i64 i))=fun _=>false:=by funext i; exact h0 _
     rw [e] at this; exact this
    go_wp2_with (first | (at_next; refine wpList_next_cand _ rfl _ rfl 3 lawI Tryz.underlying3 mb rb k D left cnt m HMI.out rfl hrg ?_ ?_) | go_in)
    ·intro hc0 hl0
     have HFD:=Lib.hid (HDONE.out hl0)
     have hcl:=HFO.out.len HMOK.out
     have HSRT:=Lib.hid (fndsort_any L (fun d hd=>⟨(hcl d hd).1,(hcl d hd).2.1,by have:=(hcl d hd).2.2.1; omega⟩) (by have:=HLC.out; have:=HNb.out; omega) HOW.out)
     clear hrg HDONE hc0 hl0 hcl
     go_wp2_with fail
     refine HSRT.out.mono ?_
     rintro e w5 ⟨rfl,L',hp,ho5,hk5⟩
     have hlen:L.length=L'.length:=hp.length_eq.symm
     rw [hlen]
     have HFI:=Lib.hid (HPOST.out _ w5 ⟨L,L',A2,c2,bb,HFD.out.perm hp,hp,rfl,ho5,own_ty HSL.out.row hk5 (by decide),HSL.out.bel.trans (hk5.below HSL.out.bel.size)⟩)
     clear hp ho5 hk5 hlen HSRT
     go_wp2
     exact HFI.out
    ·intro i kd bk ver d0 d1 d2 d3 d4 d5 d6 d7 ad tm w5 cnt5 hmi hli hrg5 hlt5 hg5 hs5 hen
     have hm5:=HMOK.out.at_ i _ hmi
     simp only at hm5
     obtain ⟨hbk,hi0,hin,_,ix,hix,had⟩:=hm5
     have HRG5:=Lib.hid hrg5
     have HFO5:Hid (FoundOk m (fun j=>(fun z=>left z && !z.sameKey (.int .i64 i)) (.int .i64 j)) (L++[(⟨⟨kd,bk,ver,[d0,d1,d2,d3,d4,d5,d6,d7]⟩,ad,tm⟩:Cnd)])):=by
      unfold Hid
      have e:(fun j:Int=>(fun z=>left z && !z.sameKey (.int .i64 i)) (.int .i64 j))=fun j=>left (.int .i64 j) && !decide (j=i):=left_eq i
      rw [e]
      exact HFO.out.next hmi hbk hli
     have HME5:Hid (w5.rangeLeft mb rb=cnt5∧cnt5 < cnt∧wr.rangeLeft mb rb=cnt):=⟨hrg5.left_eq,hlt5,hrg.left_eq⟩
     have HS5:=Lib.hid (HSL.out.ranged hg5 (fun e=>by injection e with e; exact HRN.out.1 e.symm) (fun e=>by injection e with e; exact HRN.out.2.1 e.symm) (fun j e=>by injection e with e; have:=HRN.out.2.2; omega) (fun e=>by injection e with e; have:=HRN.out.2.2; omega))
     have HO5:Hid (w5.ownsRow w.heap.size 118 12 (.slice A2 L.length c2) L.length (flatD L)):=by
      exact own_ranged hrg hg5 HOW.out
     have HAD:=Lib.hid had
     have HIX:Hid (ix < k∧0≤bk∧bk < n):=⟨hix,by rw [hbk]; exact hi0,by rw [hbk]; exact hin⟩
     clear hrg hrg5 hg5 hlt5 hmi hli HDONE HRG HSL HOW HFO had hs5 hi0 hin hix
     subst hbk
     have hb6:Below w5.heap.size w5 (w5.alloc (.cells #[.int .i64 kd,.int .i64 bk,.int .u64 ver,.int .u8 d0,.int .u8 d1,.int .u8 d2,.int .u8 d3,.int .u8 d4,.int .u8 d5,.int .u8 d6,.int .u8 d7,.int .i64 ad,.int .u64 tm] 144)):=(Below.refl _ _).alloc (Nat.le_refl _) _
     have HC6:Hid ((w5.alloc (.cells #[.int .i64 kd,.int .i64 bk,.int .u64 ver,.int .u8 d0,.int .u8 d1,.int .u8 d2,.int .u8 d3,.int .u8 d4,.int .u8 d5,.int .u8 d6,.int .u8 d7,.int .i64 ad,.int .u64 tm] 144)).heap[w5.heap.size]?=some (.cells #[.int .i64 kd,.int .i64 bk,.int .u64 ver,.int .u8 d0,.int .u8 d1,.int .u8 d2,.int .u8 d3,.int .u8 d4,.int .u8 d5,.int .u8 d6,.int .u8 d7,.int .i64 ad,.int .u64 tm] 144 (0,0))):=heap_alloc_new _ _
     have HS6:=Lib.hid (HS5.out.below hb6)
     have HO6:Hid ((w5.alloc (.cells #[.int .i64 kd,.int .i64 bk,.int .u64 ver,.int .u8 d0,.int .u8 d1,.int .u8 d2,.int .u8 d3,.int .u8 d4,.int .u8 d5,.int .u8 d6,.int .u8 d7,.int .i64 ad,.int .u64 tm] 144)).ownsRow w.heap.size 118 12 (.slice A2 L.length c2) L.length (flatD L)):=HO5.out.alloc _
     have HRG6:=Lib.hid (HRG5.out.alloc (.cells #[.int .i64 kd,.int .i64 bk,.int .u64 ver,.int .u8 d0,.int .u8 d1,.int .u8 d2,.int .u8 d3,.int .u8 d4,.int .u8 d5,.int .u8 d6,.int .u8 d7,.int .i64 ad,.int .u64 tm] 144))
     have HLT6:Hid ((w5.alloc (.cells #[.int .i64 kd,.int .i64 bk,.int .u64 ver,.int .u8 d0,.int .u8 d1,.int .u8 d2,.int .u8 d3,.int .u8 d4,.int .u8 d5,.int .u8 d6,.int .u8 d7,.int .i64 ad,.int .u64 tm] 144)).rangeLeft mb rb < wr.rangeLeft mb rb):=by unfold Hid; rw [HRG6.out.left_eq,HME5.out.2.2]; exact HME5.out.2.1
     clear hb6
     go_upto_region 24 with fail
     generalize (w5.alloc (.cells #[.int .i64 kd,.int .i64 bk,.int .u64 ver,.int .u8 d0,.int .u8 d1,.int .u8 d2,.int .u8 d3,.int .u8 d4,.int .u8 d5,.int .u8 d6,.int .u8 d7,.int .i64 ad,.int .u64 tm] 144))=w6 at *
     generalize w5.heap.size=xb at *
     obtain ⟨y0,y1,y2,y3,y4,y5,y6,y7,y8,y9,y10,y11,y12⟩:=cells13 HC6.out
     obtain ⟨i0,hi,hz0,hz1',hz2'⟩:=info_parts info_found
     have hLl:L.length≤65536:=by have:=HLC.out; have:=HNb.out; omega
     have hfl:(flatD L).length=L.length * 12:=HO6.out.1
     have hsz6:=HS6.out.bel.size
     go_wp2_with (at_builtin; refine wpList_append_own _ rfl _ _ 114 rfl w.heap.size 118 i0 _ 12 40 Tryz.underlying114 hi hz0 hz1' hz2' rfl (by decide) _ L.length (flatD L) rfl (HO6.out.alloc _) ⟨w6.heap.size,0,none⟩ 1 1 [.int .i64 kd,.int .i64 bk,.int .u64 ver,.int .u8 d0,.int .u8 d1,.int .u8 d2,.int .u8 d3,.int .u8 d4,.int .u8 d5,.int .u8 d6,.int .u8 d7,.int .i64 ad] rfl rfl (World.news_of_block (heap_alloc_new _ _)) (by intro u hu; simp at hu; rcases hu with rfl | rfl | rfl | rfl | rfl | rfl | rfl | rfl | rfl | rfl | rfl | rfl <;> rfl) ?c1 ?c2 ?c3 ?_)
     case c1=>unfold maxLen; omega
     case c2=>omega
     case c3=>first | omega | (simp; omega)
     intro v' w7 hown hgrow hiff
     obtain ⟨DA',dc',hv⟩:=own_form hown
     subst hv
     have hgw:w6.grownBy w7 (Value.slice A2 L.length c2).ownBlock:=(World.grownBy_alloc w6 _ (Value.slice A2 L.length c2).ownBlock).andThen hgrow (fun j hj=>.inr hj)
     have hrT:∀ j,(Value.slice A2 L.length c2).ownBlock=some j→IsT 118 w6 j∧w.heap.size≤j:=fun j hj=>own_row HO6.out hj
     have HS7:=Lib.hid (HS6.out.ranged hgw (fun e=>(hrT bb e.symm).1.ne (IsT.own HS6.out.row) (by decide) rfl) (fun e=>HS6.out.m.ne (hrT mb e.symm).1 rfl) (fun j e=>(hrT j e).2) (fun e=>(hrT _ e.symm).1.ne (IsT.of HS6.out.gx) (by decide) rfl))
     have HRG7:=Lib.hid (HRG6.out.kept hgw (fun e=>HS6.out.m.ne (hrT mb e.symm).1 rfl) (fun e=>ranges_ne HRG6.out (hrT rb e.symm).1 rfl))
     have HC7:Hid (w7.heap[xb]?=some (.cells #[.int .i64 kd,.int .i64 bk,.int .u64 ver,.int .u8 d0,.int .u8 d1,.int .u8 d2,.int .u8 d3,.int .u8 d4,.int .u8 d5,.int .u8 d6,.int .u8 d7,.int .i64 ad,.int .u64 tm] 144 (0,0))):=(hgw.block xb (lt_of_block HC6.out) (fun e=>(hrT xb e.symm).1.ne (IsT.of HC6.out) (by decide) rfl)).trans HC6.out
     have HOW7:Hid (w7.ownsRow w.heap.size 118 12 (.slice DA' (L++[(⟨⟨kd,bk,ver,[d0,d1,d2,d3,d4,d5,d6,d7]⟩,ad,tm⟩:Cnd)]).length dc') (L++[(⟨⟨kd,bk,ver,[d0,d1,d2,d3,d4,d5,d6,d7]⟩,ad,tm⟩:Cnd)]).length (flatD (L++[(⟨⟨kd,bk,ver,[d0,d1,d2,d3,d4,d5,d6,d7]⟩,ad,tm⟩:Cnd)]))):=by
      unfold Hid; rw [flatD_snoc,List.length_append]; exact hown
     have HLEN7:Hid (L.length+1=(L++[(⟨⟨kd,bk,ver,[d0,d1,d2,d3,d4,d5,d6,d7]⟩,ad,tm⟩:Cnd)]).length):=by unfold Hid; simp
     clear hgw hrT hown hgrow hiff hfl hsz6 y0 y1 y2 y3 y4 y5 y6 y7 y8 y9 y10 y11 y12 hi hz0 hz1' hz2'
     obtain ⟨y0,y1,y2,y3,y4,y5,y6,y7,y8,y9,y10,y11,y12⟩:=cells13 HC7.out
     have p0:=HS7.out.geo.c0
     have had:=HAD.out
     have hixk:=HIX.out.1
     have hNN2:=HNb.out
     have hkz:ix / z < nb:=by rw [Nat.div_lt_iff_lt_mul (by omega)]; rw [HNZ.out]; exact hixk
     obtain ⟨kz,hkzz⟩:∃ kz,ix / z=kz:=⟨_,rfl⟩
     rw [hkzz] at hkz
     have HKZ:=Lib.hid hkzz
     clear hkzz
     have hwa:IntKind.i64.wrap (ad - g.random)=(ix:Int):=by rw [had,IntKind.wrap_i64]; omega
     have q3:(kz:Int) < (nb:Int):=Int.ofNat_lt.2 hkz
     have hkl:kz < (liveAll g z bs L).length:=by rw [liveAll_len]; have:=HBL.out; omega
     have hbk:=List.getElem?_eq_getElem hkl
     have hlb:=liveAll_bd2 (g:=g) (z:=z) HLV.out L _ (List.getElem_mem hkl)
     have HLC8:Hid ((L++[(⟨⟨kd,bk,ver,[d0,d1,d2,d3,d4,d5,d6,d7]⟩,ad,tm⟩:Cnd)]).length+cnt5≤k):=by have:=HLC.out; have:=HME5.out.2.1; unfold Hid; rw [← HLEN7.out]; omega
     have hwl:IntKind.i64.wrap ((liveAll g z bs L)[kz].live+1)=(liveAll g z bs L)[kz].live+1:=by rw [IntKind.wrap_i64]; omega
     have q0:((ix:Int) / (z:Int))=(kz:Int):=by rw [← HKZ.out]; exact (Int.natCast_ediv ix z).symm
     have q1:wrap64 ((ix:Int) / (z:Int))=(kz:Int):=by rw [q0]; exact wrap_kz hkz hnb1
     have q1t:wrap64 ((ix:Int).tdiv (z:Int))=(kz:Int):=by rw [Int.tdiv_eq_ediv_of_nonneg (Int.natCast_nonneg ix)]; exact q1
     have htd:Int.tdiv (ad - g.random) (z:Int)=(kz:Int):=by rw [had,add_sub_self,Int.tdiv_eq_ediv_of_nonneg (Int.natCast_nonneg ix)]; exact q0
     obtain ⟨v0,v1,v2,v3⟩:=HS7.out.cells hbk
     have vf:=HS7.out.free (kz * 4+1)
     have HAL:Hid (liveAll g z bs (L++[(⟨⟨kd,bk,ver,[d0,d1,d2,d3,d4,d5,d6,d7]⟩,ad,tm⟩:Cnd)])=(liveAll g z bs L).set kz { (liveAll g z bs L)[kz] with live:=(liveAll g z bs L)[kz].live+1 }):=by
      unfold Hid; rw [liveAll_snoc]; unfold liveAdd; simp only; rw [htd,Int.toNat_natCast,V.at_eq hkl]
     have HFL:Hid ((V.flat (liveAll g z bs L)).set (kz * 4+1) (.int .i64 ((liveAll g z bs L)[kz].live+1))=V.flat (liveAll g z bs (L++[(⟨⟨kd,bk,ver,[d0,d1,d2,d3,d4,d5,d6,d7]⟩,ad,tm⟩:Cnd)]))):=by rw [HAL.out]; exact flat_live _ kz hkl _
     have HS8:=Lib.hid (HS7.out.store (kz * 4+1) (.int .i64 ((liveAll g z bs L)[kz].live+1)) (bs':=liveAll g z bs (L++[(⟨⟨kd,bk,ver,[d0,d1,d2,d3,d4,d5,d6,d7]⟩,ad,tm⟩:Cnd)])) (by rw [liveAll_len]; exact HBL.out) HFL.out)
     have HGS:=Lib.hid (grown_set w7 bb (kz * 4+1) (.int .i64 ((liveAll g z bs L)[kz].live+1)))
     have HRG8:=Lib.hid (HRG7.out.kept HGS.out (fun e=>by injection e with e; exact HS7.out.ne.1 e) (fun e=>by injection e with e; exact ranges_ne HRG7.out (IsT.own HS7.out.row) e.symm))
     have HOW8:Hid ((w7.setCell ⟨bb,kz * 4+1,none⟩ (.int .i64 ((liveAll g z bs L)[kz].live+1))).ownsRow w.heap.size 118 12 (.slice DA' (L++[(⟨⟨kd,bk,ver,[d0,d1,d2,d3,d4,d5,d6,d7]⟩,ad,tm⟩:Cnd)]).length dc') (L++[(⟨⟨kd,bk,ver,[d0,d1,d2,d3,d4,d5,d6,d7]⟩,ad,tm⟩:Cnd)]).length (flatD (L++[(⟨⟨kd,bk,ver,[d0,d1,d2,d3,d4,d5,d6,d7]⟩,ad,tm⟩:Cnd)]))):=
      own_kept HOW7.out ((Kept.refl (fun i=>i=bb) w7).setCell (p:=⟨bb,kz * 4+1,none⟩) (fun _=>rfl) _) (fun j hj e=>(own_row HOW7.out hj).1.ne (IsT.own HS7.out.row) (by decide) e)
     have HM8:Hid ((w7.setCell ⟨bb,kz * 4+1,none⟩ (.int .i64 ((liveAll g z bs L)[kz].live+1))).rangeLeft mb rb < wr.rangeLeft mb rb):=by unfold Hid; rw [HRG8.out.left_eq,HME5.out.2.2]; exact HME5.out.2.1
     clear had htd hbk hkz q0 hixk
     generalize (liveAll g z bs L)[kz].live=lv at *
     go_wp2
     go_roundw
     case rel=>exact ⟨_,cnt5,_,DA',dc',by rw [← HLEN7.out],HRG8,HFO5,HOW8,HS8,HLC8⟩
     case measure=>exact HM8.out
end
end Go.Proofs.YtggkengmlkhdiaaGreat
