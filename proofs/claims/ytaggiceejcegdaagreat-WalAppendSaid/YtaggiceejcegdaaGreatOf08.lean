/-
  WHAT IS SHOWN: more: what a walk is told of the parameters of tegulalaw49: faults, lists of faults, records. what heavy of tegulalaw49 returns; pointers of disks that are taken away. plain facts, of no program: a region that draws its order, whose calls stand in a chain and whose other operations only read what no call changes: one walk of the text's order serves every order. Conditions: as each theorem names them.
-/
import Derived.Test.YtaggiceejcegdaaGreatNc35
import Derived.BigQuiet
import Derived.ChangeKeysEq
import Derived.ChangeOld
import Derived.Deep.AppendLies
import Derived.Deep.DeepCutAuto
import Derived.Deep.Draws
import Derived.Deep.Fields
import Derived.Deep.QuietTactic
import Derived.Deep.RegionHeld3
import Derived.Deep.RegionLaw
import Derived.Deep.Slices
import Derived.Handy
import Derived.Laws.AppendOwnNone
import Derived.Laws.BytesArg
import Derived.Laws.Cover3
import Derived.Laws.MakeOwn
import Derived.Laws.OwnMore
import Derived.Laws.Rows
import Derived.Lib.ConvBytes
import Derived.Lib.Hide
import Derived.Lib.SmallJoins
import Derived.Lib.VarintBits
import Derived.Lib.Zigzag
import Derived.LoopIn
import Derived.LoopNIn
import Derived.Maps.AppendAt
import Derived.OpenShut
import Derived.OwnWalkIn
import Derived.ProofKit
import Derived.RangeFuncBox
import Derived.RangeFuncLeaves
import Derived.Shelf.Abstract
import Derived.Sort.QuietIn
import Derived.TacticsInMore
import Derived.WalkKit
import Derived.WalkLawsBesides
import Derived.WalkMore
import Derived.WalkSpells
import Derived.Test.YtaggiceejcegdaaGreatOf07
namespace Go.Proofs.YtaggiceejcegdaaGreat
set_option linter.unusedVariables false
open Go.ChangeShapes Go.WideShapes Go.ChangeAt Go.RowKit Go.Deep
theorem cellsFltW : Tryz.prog.cellsOf 138 = 3:=by kernel_rfl
theorem cellsFltsW : Tryz.prog.cellsOf 48 = 1:=by kernel_rfl
section
variable {H : Type} {enc : TypeId × Value → H} {w : World} {base : Nat} {spare : Nat → Bool} {held : Bool}
set_option maxRecDepth 100000 in
theorem open_fltW {fuel : Nat} {cs : List Value} {y : DataW H × List MemPlace} (hcs : cs.length = 3) (h : DataW.trod enc Tryz.prog w base spare held fuel 138 cs = some y) : ∃ f : Flt,cs = f.cells ∧ I64 f.to_:=by
 match cs,hcs with
 | [c0,c1,c2],_=>
   obtain ⟨xs,k,_,_,_,hxl,hf⟩:=DataW.trod_struct Tryz.underlying138 h
   match xs,hxl with
   | [x0,x1,x2],_=>
     have f0 : DataW.trod enc Tryz.prog w base spare held k 3 (([c0,c1,c2].drop 0).take (Tryz.prog.cellsOf 3)) = some x0:=hf 0 _ rfl
     have f1 : DataW.trod enc Tryz.prog w base spare held k 3 (([c0,c1,c2].drop 1).take (Tryz.prog.cellsOf 3)) = some x1:=hf 1 _ rfl
     have f2 : DataW.trod enc Tryz.prog w base spare held k 3 (([c0,c1,c2].drop 2).take (Tryz.prog.cellsOf 3)) = some x2:=hf 2 _ rfl
     rw [cellsInt] at f0 f1 f2
     obtain ⟨n0,e0,_,_⟩:=DataW.trod_int Tryz.underlying3 f0
     obtain ⟨n1,e1,_,_⟩:=DataW.trod_int Tryz.underlying3 f1
     obtain ⟨n2,e2,_,w2⟩:=DataW.trod_int Tryz.underlying3 f2
     simp at e0 e1 e2
     subst e0; subst e1; subst e2
     exact ⟨⟨n0,n1,n2⟩,rfl,i64_of w2⟩
set_option maxRecDepth 100000 in
theorem open_fltsW {fuel : Nat} {v : Value} {y : DataW H × List MemPlace} (h : DataW.trod enc Tryz.prog w base spare held fuel 48 [v] = some y) : ∃ A l c,v = .slice A l.length c ∧ FlsIn w A l:=by
 rcases open_slice Tryz.underlying48 h with ⟨hcs,_⟩ | ⟨a,len,cap,m,n,D,Pl,hcs,_,hl,hm,hmm,hx,hel⟩
 ·simp at hcs
  subst hcs
  exact ⟨none,[],0,rfl,Rd.nil_ _ _ _,by simp,by simp⟩
 ·simp at hcs
  subst hcs
  have hlm : len ≤ m:=by rw [hmm]; split <;> omega
  obtain ⟨l,hll,hq⟩:=list_of (Q:=fun i (o : Flt)=>I64 o.to_ ∧ ∀ t u,o.cells[t]? = some u → w.cell? (a.add (i * 3 + t)) = some u) len (fun i hi=>by
   obtain ⟨cs',hc,ht⟩:=hel i (by omega)
   rw [cellsFltW] at hc
   obtain ⟨_,hcl,hat⟩:=World.cells?_some hc
   obtain ⟨o,rfl,h1⟩:=open_fltW hcl ht
   refine ⟨o,h1,fun t u hu=>?_⟩
   have ht3 : t < 3:=(List.getElem?_eq_some_iff.1 hu).1
   rw [← Go.Deep.add_add,hat t ht3]
   exact hu)
  refine ⟨some a,l,cap,by rw [hll],rd_of_add fun j u hu=>?_,fun b hb=>?_,by unfold maxLen at hm; omega⟩
  ·have hj : j < l.length * 3:=by rw [← flatF_len]; exact (List.getElem?_eq_some_iff.1 hu).1
   have hj4 : j = j / 3 * 3 + j % 3:=by omega
   rw [hj4] at hu
   unfold flatF at hu
   rw [flat_get _ 3 fltcells_len l _ _ (by omega),List.getElem?_eq_getElem (show j / 3 < l.length by omega)] at hu
   have:=(hq (j / 3) _ (List.getElem?_eq_getElem (by omega))).2 (j % 3) u hu
   rw [hj4]; exact this
  ·obtain ⟨i,hi⟩:=List.mem_iff_getElem?.1 hb
   exact (hq i b hi).1
set_option maxRecDepth 100000 in
theorem open_fltssW {fuel : Nat} {v : Value} {y : DataW H × List MemPlace} (h : DataW.trod enc Tryz.prog w base spare held fuel 39 [v] = some y) : ∃ A fs c,FlssIn w v A fs c:=by
 rcases open_slice Tryz.underlying39 h with ⟨hcs,_⟩ | ⟨a,len,cap,m,n,D,Pl,hcs,hx1,hl,hm,hmm,hx2,hel⟩
 ·simp at hcs
  subst hcs
  exact ⟨none,[],0,rfl,⟨Rd.nil_ _ _ _,fun s hs=>by simp at hs⟩,fun s hs=>by simp at hs,by simp⟩
 ·simp at hcs
  subst hcs
  have hlm : len ≤ m:=by rw [hmm]; split <;> omega
  obtain ⟨l,hll,hq⟩:=list_of (Q:=fun i (s : FL)=>FlsIn w s.A s.F ∧ w.cell? (a.add i) = some s.v) len (fun i hi=>by
   obtain ⟨cs',hc,ht⟩:=hel i (by omega)
   rw [cellsFltsW] at hc
   obtain ⟨_,hcl,hat⟩:=World.cells?_some hc
   match cs',hcl with
   | [c0],_=>
     obtain ⟨A,l,c,e,hs⟩:=open_fltsW ht
     subst e
     refine ⟨⟨A,l,c⟩,hs,?_⟩
     show w.cell? (a.add i) = some (.slice A l.length c)
     have:=hat 0 (by omega)
     simpa [Go.Deep.add_add] using this)
  refine ⟨some a,l,cap,by rw [hll],⟨rd_of_add fun j u hu=>?_,fun s hs=>?_⟩,fun s hs=>?_,by unfold maxLen at hm; omega⟩
  ·rw [List.getElem?_map] at hu
   obtain ⟨x,hx,rfl⟩:=Option.map_eq_some_iff.1 hu
   exact (hq j x hx).2
  ·obtain ⟨i,hi⟩:=List.mem_iff_getElem?.1 hs
   exact (hq i s hi).1.rd
  ·obtain ⟨i,hi⟩:=List.mem_iff_getElem?.1 hs
   exact (hq i s hi).1
set_option maxRecDepth 100000 in
theorem open_work {r : Reach} {b0 : Nat} {v : Value} {d : DataW H} {p : List MemPlace} (hv : Value.okWide Tryz.prog w r b0 75 v) (h : DataW.Trod enc Tryz.prog w base spare held 75 v d p) :
  ∃ (fA : Option Addr) (fs : List FL) (fc gen : Nat) (sz : Int) (A : Option Addr) (l : List RS) (c : Nat) (nl : Int),v = .agg #[.slice fA fs.length fc,.int .u64 (gen : Nat),.int .i64 sz,.slice A l.length c,.int .u8 nl] ∧ gen < 2 ^ 64 ∧ FlssIn w (.slice fA fs.length fc) fA fs fc ∧ RcsIn w (.slice A l.length c) A l c:=by
 obtain ⟨cs,rfl,hsz⟩:=Go.WideShapes.okWide_struct Tryz.underlying75 hv
 rw [show Tryz.prog.cellsOf 75 = 5 from by kernel_rfl] at hsz
 obtain ⟨l⟩:=cs
 match l,hsz with
 | [c0,c1,c2,c3,c4],_=>
   obtain ⟨fuel,hf⟩:=h
   obtain ⟨xs,k,_,_,_,hxl,hf⟩:=DataW.trod_struct Tryz.underlying75 hf
   match xs,hxl with
   | [x0,x1,x2,x3,x4],_=>
     have f0 : DataW.trod enc Tryz.prog w base spare held k 39 (([c0,c1,c2,c3,c4].drop 0).take (Tryz.prog.cellsOf 39)) = some x0:=hf 0 _ rfl
     have f1 : DataW.trod enc Tryz.prog w base spare held k 23 (([c0,c1,c2,c3,c4].drop 1).take (Tryz.prog.cellsOf 23)) = some x1:=hf 1 _ rfl
     have f2 : DataW.trod enc Tryz.prog w base spare held k 3 (([c0,c1,c2,c3,c4].drop 2).take (Tryz.prog.cellsOf 3)) = some x2:=hf 2 _ rfl
     have f3 : DataW.trod enc Tryz.prog w base spare held k 22 (([c0,c1,c2,c3,c4].drop 3).take (Tryz.prog.cellsOf 22)) = some x3:=hf 3 _ rfl
     have f4 : DataW.trod enc Tryz.prog w base spare held k 5 (([c0,c1,c2,c3,c4].drop 4).take (Tryz.prog.cellsOf 5)) = some x4:=hf 4 _ rfl
     rw [show Tryz.prog.cellsOf 39 = 1 from by kernel_rfl] at f0
     rw [cellsU64] at f1
     rw [cellsInt] at f2
     rw [cellsRecs] at f3
     rw [cellsU8] at f4
     have f0' : DataW.trod enc Tryz.prog w base spare held k 39 [c0] = some x0:=f0
     have f3' : DataW.trod enc Tryz.prog w base spare held k 22 [c3] = some x3:=f3
     obtain ⟨fA,fs,fc,hfs⟩:=open_fltssW f0'
     obtain ⟨A,ls,c,hls⟩:=open_recs f3'
     obtain ⟨n1,e1,_,w1⟩:=DataW.trod_int Tryz.underlying23 f1
     obtain ⟨n2,e2,_,w2⟩:=DataW.trod_int Tryz.underlying3 f2
     obtain ⟨n4,e4,_,w4⟩:=DataW.trod_int Tryz.underlying5 f4
     have hg:=u64_of w1
     obtain ⟨gn,rfl⟩:=Int.eq_ofNat_of_zero_le hg.1
     have v0:=hfs.val
     have v3:=hls.val
     simp at e1 e2 e4
     subst e1; subst e2; subst e4; subst v0; subst v3
     exact ⟨fA,fs,fc,gn,n2,A,ls,c,n4,rfl,by have:=hg.2; omega,hfs,hls⟩
end
end Go.Proofs.YtaggiceejcegdaaGreat
namespace Go.Proofs.YtaggiceejcegdaaGreat
set_option linter.unusedVariables false
open Go.RowKit
def heavyN (fs : List FL) (sz : Int) (l : List RS) : Prop:=(∀ x ∈ l,briefR x.r = true) ∧ wrongL (fs.map FL.F) = false ∧ l.length ≤ 12 ∧ 0 ≤ sz ∧ sz ≤ 18
set_option maxRecDepth 100000 in
set_option maxHeartbeats 4000000 in
theorem heavy_any (fs : List FL) (fA : Option Addr) (fc gen : Nat) (sz : Int) (l : List RS) (A : Option Addr) (c : Nat) (nl : Int) (w : World) (hf : FlsR w w.heap.size fA fs) (hfl : fs.length ≤ 9223372036854775807) (hfx : ∀ x ∈ fs,x.F.length ≤ 9223372036854775807) (hl : RcsR w w.heap.size A l) (hll : l.length ≤ 9223372036854775807) :
  Calls Tryz.prog 29 #[.agg #[.slice fA fs.length fc,.int .u64 (gen : Nat),.int .i64 sz,.slice A l.length c,.int .u8 nl]] w fun e w'=>∃ b,e = .returned (.bool b) ∧ (b = false → heavyN fs sz l) ∧ Below w.heap.size w w':=by
 have HB : Hid (∀ W,Below (w.heap.size + 1) (w.alloc (.cells #[.slice fA fs.length fc,.int .u64 (gen : Nat),.int .i64 sz,.slice A l.length c,.int .u8 nl] 75)) W → Below w.heap.size w W):=fun W hW=>((Below.refl w.heap.size w).alloc (Nat.le_refl _) _).trans (hW.mono (by omega))
 have HP0 : Hid (∀ W,Below (w.heap.size + 1) (w.alloc (.cells #[.slice fA fs.length fc,.int .u64 (gen : Nat),.int .i64 sz,.slice A l.length c,.int .u8 nl] 75)) W → Cells5 W w.heap.size (.slice fA fs.length fc) (.int .u64 (gen : Nat)) (.int .i64 sz) (.slice A l.length c) (.int .u8 nl)):=fun W hW=>(Cells5.new w 75 _ _ _ _ _).below hW (by simp)
 have hz0 : (w.alloc (.cells #[.slice fA fs.length fc,.int .u64 (gen : Nat),.int .i64 sz,.slice A l.length c,.int .u8 nl] 75)).heap.size = w.heap.size + 1:=by simp
 have HF:=Lib.hid hf
 have HL:=Lib.hid hl
 have HFX:=Lib.hid hfx
 have HB0 : Hid (Below (w.heap.size + 1) (w.alloc (.cells #[.slice fA fs.length fc,.int .u64 (gen : Nat),.int .i64 sz,.slice A l.length c,.int .u8 nl] 75)) (w.alloc (.cells #[.slice fA fs.length fc,.int .u64 (gen : Nat),.int .i64 sz,.slice A l.length c,.int .u8 nl] 75))):=Below.refl _ _
 have PB:=HP0.out _ HB0.out
 have p0:=PB.c0; have p1:=PB.c1; have p2:=PB.c2; have p3:=PB.c3; have p4:=PB.c4
 clear PB hf hl hfx
 go_enter Tryz.func29,Tryz.ntmps29
 go_wp2
 generalize (w.alloc (.cells #[.slice fA fs.length fc,.int .u64 (gen : Nat),.int .i64 sz,.slice A l.length c,.int .u8 nl] 75)) = w0 at *
 go_loopw [8] (fun i wr=>∃ k : Nat,k ≤ l.length ∧ i = .int .i64 k ∧ Hid (Below (w.heap.size + 1) w0 wr ∧ ∀ j (hj : j < l.length),j < k → briefR l[j].r = true)) (fun i _=>l.length - (intOf i).toNat)
 case atStart=>exact ⟨0,Nat.zero_le _,rfl,HB0.out,fun j hj h=>by omega⟩
 case round=>
  obtain ⟨k,hk,rfl,HW⟩:=hrel
  clear p0 p1 p2 p3 p4
  by_cases hlt : k < l.length
  ·have hXW:=HL.out.up (HB.out _ HW.out.1)
   obtain ⟨g7,o7,rA,hg7,j0,j1,j2,j3,j4⟩:=hXW.rd.rs hlt
   subst rA
   have PB:=(Cells5.new wr 28 (.int .u64 l[k].r.gen) (.int .u64 l[k].r.seq) (.slice l[k].A l[k].r.ws.length l[k].c) (.slice l[k].D l[k].r.ms.length l[k].d) (.slice l[k].N l[k].r.note.length l[k].n))
   have p0:=PB.c0; have p1:=PB.c1; have p2:=PB.c2; have p3:=PB.c3; have p4:=PB.c4
   have hzr : w.heap.size + 1 ≤ wr.heap.size:=by have:=HW.out.1.size; rw [hz0] at this; exact this
   have HBX : Hid (Below (w.heap.size + 1) w0 (wr.alloc (.cells #[.int .u64 l[k].r.gen,.int .u64 l[k].r.seq,.slice l[k].A l[k].r.ws.length l[k].c,.slice l[k].D l[k].r.ms.length l[k].d,.slice l[k].N l[k].r.note.length l[k].n] 28))):=HW.out.1.alloc hzr _
   have HKB : Hid (briefR l[k].r = true → ∀ j (hj : j < l.length),j < k + 1 → briefR l[j].r = true):=fun hb j hj h=>by
    by_cases e : j = k
    ·subst e; exact hb
    ·exact HW.out.2 j hj (by omega)
   have hzx : (wr.alloc (.cells #[.int .u64 l[k].r.gen,.int .u64 l[k].r.seq,.slice l[k].A l[k].r.ws.length l[k].c,.slice l[k].D l[k].r.ms.length l[k].d,.slice l[k].N l[k].r.note.length l[k].n] 28)).heap.size = wr.heap.size + 1:=by simp
   clear hXW PB HW
   go_wp2_with fail
   refine (brief_any l[k].r l[k].A l[k].D l[k].N l[k].c l[k].d l[k].n _).mono ?_
   rintro e w6 ⟨rfl,hb6⟩
   have HB6:=Lib.hid (HBX.out.trans (hb6.mono (by rw [hzx]; omega)))
   clear p0 p1 p2 p3 p4 hb6
   obtain hs | hs : briefR l[k].r = false ∨ briefR l[k].r = true:=by cases briefR l[k].r; exact .inl rfl; exact .inr rfl
   ·rw [hs]
    clear hs HKB
    go_wp2
    go_ret
    exact ⟨true,rfl,(fun h=>by cases h),HB.out _ HB6.out⟩
   have HD:=Lib.hid (HKB.out hs)
   rw [hs]
   clear hs HKB
   go_wp2
   go_roundw
   case rel=>exact ⟨k + 1,hlt,by go_num,HB6.out,HD.out⟩
   case measure=>simp [intOf]; omega
  ·obtain rfl : k = l.length:=by omega
   have HBR : Hid (∀ x ∈ l,briefR x.r = true):=fun x hx=>by
    obtain ⟨i,hi,rfl⟩:=List.mem_iff_getElem.1 hx
    exact HW.out.2 i hi hi
   have HB1:=Lib.hid HW.out.1
   have hzr : w.heap.size + 1 ≤ wr.heap.size:=by have:=HW.out.1.size; rw [hz0] at this; exact this
   have PB:=HP0.out _ HB1.out
   have p0:=PB.c0; have p1:=PB.c1; have p2:=PB.c2; have p3:=PB.c3; have p4:=PB.c4
   have HWR:=Lib.hid (wrong_any fs fA fc wr (HF.out.up (HB.out _ HB1.out)) hfl HFX.out)
   clear HW PB
   go_wp2_with fail
   refine HWR.out.mono ?_
   rintro e w2 ⟨rfl,hb2⟩
   have HB2:=Lib.hid (HB1.out.trans (hb2.mono hzr))
   clear hb2 p0 p1 p2 p3 p4
   have PB:=HP0.out _ HB2.out
   have p0:=PB.c0; have p1:=PB.c1; have p2:=PB.c2; have p3:=PB.c3; have p4:=PB.c4
   clear PB
   obtain hs | hs : wrongL (fs.map FL.F) = true ∨ wrongL (fs.map FL.F) = false:=by cases wrongL (fs.map FL.F); exact .inr rfl; exact .inl rfl
   ·rw [hs]
    clear hs
    go_wp2
    go_ret
    exact ⟨true,rfl,(fun h=>by cases h),HB.out _ HB2.out⟩
   rw [hs]
   have HS:=Lib.hid hs
   clear hs
   by_cases h1 : (12 : Int) < (l.length : Int)
   ·have d1 : decide ((12 : Int) < (l.length : Int)) = true:=decide_eq_true h1
    clear h1
    go_wp2
    go_ret
    exact ⟨true,rfl,(fun h=>by cases h),HB.out _ HB2.out⟩
   have d1 : decide ((12 : Int) < (l.length : Int)) = false:=decide_eq_false h1
   by_cases h2 : sz < 0
   ·have d2 : decide (sz < 0) = true:=decide_eq_true h2
    clear h1 h2
    go_wp2
    go_ret
    exact ⟨true,rfl,(fun h=>by cases h),HB.out _ HB2.out⟩
   have d2 : decide (sz < 0) = false:=decide_eq_false h2
   by_cases h3 : 18 < sz
   ·have d3 : decide (18 < sz) = true:=decide_eq_true h3
    clear h1 h2 h3
    go_wp2
    go_ret
    exact ⟨true,rfl,(fun h=>by cases h),HB.out _ HB2.out⟩
   have d3 : decide (18 < sz) = false:=decide_eq_false h3
   have HD : Hid (heavyN fs sz l):=⟨HBR.out,HS.out,by omega,by omega,by omega⟩
   clear h1 h2 h3
   go_wp2
   go_ret
   exact ⟨false,rfl,fun _=>HD.out,HB.out _ HB2.out⟩
theorem ptrs_set (qs : List Nat) (no : Nat → Bool) {i : Nat} (hi : i < qs.length) : (ptrs qs no).set i (.pointer none) = ptrs qs (fun j=>no j || decide (j = i)):=by
 refine List.ext_getElem? (fun j=>?_)
 rw [List.getElem?_set]
 by_cases e : i = j
 ·subst e
  obtain ⟨q,hq⟩ : ∃ q,qs[i]? = some q:=⟨qs[i],List.getElem?_eq_getElem hi⟩
  rw [if_pos rfl,if_pos (by rw [ptrs_len]; exact hi),ptrs_get hq]
  simp
 ·rw [if_neg e]
  rcases Nat.lt_or_ge j qs.length with hj | hj
  ·obtain ⟨q,hq⟩ : ∃ q,qs[j]? = some q:=⟨qs[j],List.getElem?_eq_getElem hj⟩
   rw [ptrs_get hq,ptrs_get hq]
   have : decide (j = i) = false:=decide_eq_false (fun h=>e h.symm)
   rw [this,Bool.or_false]
  ·rw [List.getElem?_eq_none (by rw [ptrs_len]; exact hj),List.getElem?_eq_none (by rw [ptrs_len]; exact hj)]
theorem ptrs_same {qs : List Nat} {no no' : Nat → Bool} (h : ∀ i,i < qs.length → no i = no' i) : ptrs qs no = ptrs qs no':=by
 unfold ptrs
 exact List.map_congr_left (fun i hi=>by rw [h i (List.mem_range.1 hi)])
theorem PS.same {w W : World} {n pb pw rp : Nat} {PA RA : Option Addr} {pc rc : Nat} {qs rqs : List Nat} {no no' : Nat → Bool} {m mr : MS} (h : PS w W n pb pw rp PA RA pc rc qs rqs no m mr) (h1 : ∀ i,i < qs.length → no i = no' i) (h2 : rqs.length = qs.length) : PS w W n pb pw rp PA RA pc rc qs rqs no' m mr:=
 ⟨h.pair,by rw [← ptrs_same h1]; exact h.ptr,by rw [← ptrs_same (qs:=rqs) (fun i hi=>h1 i (by omega))]; exact h.rptr,h.many,h.ref,h.bel,h.le⟩
theorem set_row {w : World} {base k m c b : Nat} {t : TypeId} {xs : List Value} (h : w.ownsRow base t 1 (.slice (some ⟨b,0,none⟩) m c) m xs) (j : Nat) (hm : 0 < m) (v : Value) (hk : k ≤ base) : KeptT [t] (Bd.of k) w (w.setCell ⟨b,j,none⟩ v):=by
 have hl : base ≤ b:=own_low h (by simp [Value.ownBlock])
 exact KeptT.of ((Kept.refl (fun i=>i = b) w).setCell (p:=⟨b,j,none⟩) (fun _=>rfl) _) (fun i _ e=>by have e' : i = b:=e; subst e'; exact ⟨⟨Nat.le_trans hk hl,fun h=>h⟩,HasT.mem (own_isT h hm) (by simp)⟩)
theorem PS.take {w W : World} {n pb pw rp gp gr : Nat} {pc rc : Nat} {qs rqs : List Nat} {no : Nat → Bool} {m mr : MS} (h : PS w W n pb pw rp (some ⟨gp,0,none⟩) (some ⟨gr,0,none⟩) pc rc qs rqs no m mr) {i : Nat} (hi : i < qs.length) (hr : rqs.length = qs.length) :
  PS w ((W.setCell ⟨gp,i,none⟩ (.pointer none)).setCell ⟨gr,i,none⟩ (.pointer none)) n pb pw rp (some ⟨gp,0,none⟩) (some ⟨gr,0,none⟩) pc rc qs rqs (fun j=>no j || decide (j = i)) m mr:=by
 have hw:=h.bel.size
 have k1 : KeptT [52] (Bd.of w.heap.size) W (W.setCell ⟨gp,i,none⟩ (.pointer none)):=set_row h.ptr i (by omega) _ (Nat.le_refl _)
 have o1:=(World.ownsRow.stored h.ptr i (.pointer none)).1
 have r1:=own_ty h.rptr k1 (by decide)
 have k2 : KeptT [54] (Bd.of w.heap.size) (W.setCell ⟨gp,i,none⟩ (.pointer none)) ((W.setCell ⟨gp,i,none⟩ (.pointer none)).setCell ⟨gr,i,none⟩ (.pointer none)):=set_row r1 i (by omega) _ (Nat.le_refl _)
 have o2:=(World.ownsRow.stored r1 i (.pointer none)).1
 rw [ptrs_set qs no hi] at o1
 rw [ptrs_set rqs no (by omega)] at o2
 exact ⟨own_ty (own_ty h.pair k1 (by decide)) k2 (by decide),own_ty o1 k2 (by decide),o2,(h.many.types k1 (by decide) (by decide) (by decide) (by decide)).types k2 (by decide) (by decide) (by decide) (by decide),(h.ref.types k1 (by decide) (by decide) (by decide) (by decide)).types k2 (by decide) (by decide) (by decide) (by decide),
  (h.bel.trans (k1.below hw)).trans (k2.below (Nat.le_trans hw k1.size)),h.le⟩
end Go.Proofs.YtaggiceejcegdaaGreat
namespace Go.Proofs.YtaggiceejcegdaaGreat
set_option linter.unusedVariables false
open Go
section
variable {P : Program} {ops : Array Oper} {C : List Value → World → Prop} {ch : Nat → Bool}
def holdsUpon (w : World) (v : Value) : Result Next → Prop
 | .ok (.value u) w'=>w' = w ∧ u = v
 | .ok .skip w'=>w' = w ∧ v = undef
 | _=>False
def callUpon (P : Program) (R : Value → World → Prop) (w : World) : Result Next → Prop
 | .ok (.enter f args) w'=>w' = w ∧ Calls P f args w (fun e w''=>∃ v,e = .returned v ∧ R v w'')
 | _=>False
def loudAt (P : Program) (C : List Value → World → Prop) (o : Oper) (a : Act) (h : List Value) : Prop:=∀ w,C h w → callUpon P (fun v w'=>C (h ++ [v]) w') w ((execOp a.eval o).run P w)
def stillAt (P : Program) (C : List Value → World → Prop) (o : Oper) (a : Act) (v : Value) : Prop:=∀ h w,C h w → holdsUpon w v ((execOp a.eval o).run P w)
def wantC (ops : Array Oper) (o : Oper) (a : Act) : Bool:=Region.wanted o (yielded ops a.tmps)
def oneC (P : Program) (ops : Array Oper) (C : List Value → World → Prop) (c : Bool) (o : Oper) (h : List Value) (K : List Value → Act → Prop) (a : Act) : Prop:=
 (wantC ops o a = true ∧ c = true ∧ loudAt P C o a h ∧ ∀ v w',C (h ++ [v]) w' → K (h ++ [v]) (a.put o.dst v)) ∨
 (wantC ops o a = true ∧ c = false ∧ ∃ v,stillAt P C o a v ∧ K h (a.put o.dst v)) ∨
 (wantC ops o a = false ∧ K h (a.put o.dst undef))
def cOp (P : Program) (ops : Array Oper) (C : List Value → World → Prop) (ch : Nat → Bool) (i : Nat) (h : List Value) (K : List Value → Act → Prop) (a : Act) : Prop:=
 match ops[i]? with
 | none=>K h a
 | some o=>oneC P ops C (ch i) o h K a
def wpAnyC (P : Program) (ops : Array Oper) (C : List Value → World → Prop) (ch : Nat → Bool) (Q : List Value → Act → Prop) : Nat → Array Bool → List Value → Act → Prop
 | 0,listed,h,a=>Region.ready .any ops listed = [] ∧ Q h a
 | fuel + 1,listed,h,a=>(Region.ready .any ops listed = [] → Q h a) ∧ ∀ i ∈ Region.ready .any ops listed,cOp P ops C ch i h (wpAnyC P ops C ch Q fuel (listed.setIfInBounds i true)) a
def wpCh (P : Program) (ops : Array Oper) (C : List Value → World → Prop) (ch : Nat → Bool) (Q : List Value → Act → Prop) : List Oper → Nat → List Value → Act → Prop
 | [],_,h,a=>Q h a
 | o :: rest,k,h,a=>oneC P ops C (ch k) o h (wpCh P ops C ch Q rest (k + 1)) a
theorem holds_eq {w : World} {u v : Value} {r : Result Next} (h : holdsUpon w u r) (k : holdsUpon w v r) : u = v:=by
 cases r with
 | ok n w'=>
   cases n <;> simp only [holdsUpon] at h k
   case value x=>exact h.2.symm.trans k.2
   case skip=>rw [h.2,k.2]
 | halt x w'=>simp only [holdsUpon] at h
theorem loud_some {o : Oper} {a : Act} {h : List Value} {w : World} (hl : loudAt P C o a h) (hw : C h w) : ∃ v w',C (h ++ [v]) w':=by
 have h3:=hl w hw
 generalize (execOp a.eval o).run P w = r at *
 cases r with
 | ok n w'=>
   cases n <;> simp only [callUpon] at h3
   case enter f args=>
    obtain ⟨_,hc⟩:=h3
    obtain ⟨e,w'',fr,⟨v,_,hv⟩,_⟩:=hc []
    exact ⟨v,w'',hv⟩
 | halt x w'=>simp only [callUpon] at h3
theorem wpOp_of_cOp {i : Nat} {h : List Value} {a : Act} {K : List Value → Act → Prop} {K' : Act → World → Prop} {Q' : Exit → Act → World → Prop} {w : World} (hC : C h w) (hk : ∀ h a w',C h w' → K h a → K' a w') (hh : cOp P ops C ch i h K a) : wpOp P ops Q' i K' a w:=by
 unfold cOp at hh
 unfold wpOp
 split
 ·rename_i ho; simp only [ho] at hh; exact hk _ _ _ hC hh
 ·rename_i o ho
  simp only [ho] at hh
  rcases hh with ⟨h1,_,h3,h4⟩ | ⟨h1,_,v,h3,h4⟩ | ⟨h1,h2⟩
  ·unfold wantC at h1
   simp only [h1,if_true]
   left
   unfold Oper.wp
   have h5:=h3 w hC
   generalize (execOp a.eval o).run P w = r at *
   cases r with
   | ok n w'=>
     cases n <;> simp only [callUpon] at h5
     case enter f args=>
      obtain ⟨e1,hc⟩:=h5
      subst e1
      simp only [Oper.upon]
      exact hc.mono fun e w'' ⟨v,he,hw''⟩=>by subst he; exact hk _ _ _ hw'' (h4 v w'' hw'')
   | halt x w'=>simp only [callUpon] at h5
  ·unfold wantC at h1
   simp only [h1,if_true]
   left
   unfold Oper.wp
   have h5:=h3 h w hC
   generalize (execOp a.eval o).run P w = r at *
   cases r with
   | ok n w'=>
     cases n <;> simp only [holdsUpon] at h5
     case value u=>
      obtain ⟨e1,e2⟩:=h5
      subst e1; subst e2
      simp only [Oper.upon]
      exact hk _ _ _ hC h4
     case skip=>
      obtain ⟨e1,e2⟩:=h5
      subst e1; subst e2
      simp only [Oper.upon]
      exact hk _ _ _ hC h4
   | halt x w'=>simp only [holdsUpon] at h5
  ·unfold wantC at h1
   simp only [h1,Bool.false_eq_true,if_false]
   exact hk _ _ _ hC h2
theorem wpAny_of_chain {Q : List Value → Act → Prop} {Q' : Exit → Act → World → Prop} (hQ : ∀ h a w,C h w → Q h a → Q' .normal a w) : ∀ (fuel : Nat) (listed : Array Bool) (h : List Value) (a : Act) (w : World),C h w →
  wpAnyC P ops C ch Q fuel listed h a → wpAny P .any ops Q' fuel listed a w
 | 0,_,_,_,_,hw,hh=>⟨hh.1,hQ _ _ _ hw hh.2⟩
 | fuel + 1,_,_,_,_,hw,hh=>⟨fun h0=>hQ _ _ _ hw (hh.1 h0),fun i hi=>wpOp_of_cOp hw (fun h' a' w' hw'=>wpAny_of_chain hQ fuel _ h' a' w' hw') (hh.2 i hi)⟩
inductive Waits (ops : Array Oper) : Nat → Nat → Prop
 | one {j i : Nat} {o : Oper} {e : Edge} : ops[j]? = some o → e ∈ o.after → Region.binds .any e = true → e.on = i → Waits ops j i
 | more {j k i : Nat} {o : Oper} {e : Edge} : ops[j]? = some o → e ∈ o.after → Region.binds .any e = true → e.on = k → Waits ops k i → Waits ops j i
def Shut (ops : Array Oper) (listed : Array Bool) : Prop:=∀ (j : Nat) (o : Oper),ops[j]? = some o → listed.getD j false = true → ∀ e ∈ o.after,Region.binds .any e = true → listed.getD e.on false = true
theorem Waits.listed {listed : Array Bool} (hs : Shut ops listed) {j i : Nat} (h : Waits ops j i) (hj : listed.getD j false = true) : listed.getD i false = true:=by
 induction h with
 | one ho he hb hi=>subst hi; exact hs _ _ ho hj _ he hb
 | more ho he hb hk _ ih=>subst hk; exact ih (hs _ _ ho hj _ he hb)
theorem Waits.ready {listed : Array Bool} (hs : Shut ops listed) {j i : Nat} (h : Waits ops j i) (hj : j ∈ Region.ready .any ops listed) : listed.getD i false = true:=by
 obtain ⟨_,o,ho,hall⟩:=mem_ready.1 hj
 cases h with
 | one ho' he hb hi=>
   rw [ho] at ho'
   obtain rfl:=Option.some.inj ho'
   subst hi
   exact hall _ he hb
 | more ho' he hb hk hw=>
   rw [ho] at ho'
   obtain rfl:=Option.some.inj ho'
   subst hk
   exact hw.listed hs (hall _ he hb)
theorem unlisted_ne {listed : Array Bool} {i : Nat} (h : listed.getD i true = false) (h' : listed.getD i false = true) : False:=by
 rcases Nat.lt_or_ge i listed.size with hi | hi
 ·simp [hi] at h h'; rw [h] at h'; cases h'
 ·simp [Array.getElem?_eq_none hi] at h'
theorem Shut.set {listed : Array Bool} (hs : Shut ops listed) {j : Nat} (hj : j ∈ Region.ready .any ops listed) : Shut ops (listed.setIfInBounds j true):=by
 intro k o ho hk e he hb
 by_cases hkj : k = j
 ·subst hkj
  obtain ⟨_,o',ho',hall⟩:=mem_ready.1 hj
  rw [ho] at ho'
  obtain rfl:=Option.some.inj ho'
  exact getD_set_true (hall e he hb)
 ·rw [getD_set_ne false (fun e=>hkj e.symm)] at hk
  exact getD_set_true (hs k o ho hk e he hb)
theorem oneC_first {c : Bool} {oi : Oper} {h : List Value} {a : Act} {K : List Value → Act → Prop} {x : Option Tmp} {u : Value} (hs : ∀ cs b,oi.op ≠ .select cs b) (h3 : ∀ d,x = some d → d ∉ oi.looksAt ops) (h2 : ∀ d,oi.dst = some d → x ≠ some d)
  (hh : oneC P ops C c oi h (fun h' a'=>K h' (a'.put x u)) a) : oneC P ops C c oi h K (a.put x u):=by
 have ew : wantC ops oi (a.put x u) = wantC ops oi a:=wanted_put oi a x u h3
 have ee : execOp (a.put x u).eval oi = execOp a.eval oi:=execOp_put oi hs a x u h3
 unfold oneC loudAt stillAt at *
 rw [ew,ee]
 rcases hh with ⟨g1,g2,g3,g4⟩ | ⟨g1,g2,v,g3,g4⟩ | ⟨g1,g4⟩
 ·exact .inl ⟨g1,g2,g3,fun v w' hc=>by rw [← Act.put_comm a v u h2]; exact g4 v w' hc⟩
 ·exact .inr (.inl ⟨g1,g2,v,g3,by rw [← Act.put_comm a v u h2]; exact g4⟩)
 ·exact .inr (.inr ⟨g1,by rw [← Act.put_comm a undef u h2]; exact g4⟩)
theorem wpAnyC_first {Q : List Value → Act → Prop} {i : Nat} {oi : Oper} (hi : ops[i]? = some oi) (hsel : ∀ (j : Nat) (o : Oper) cs b,ops[j]? = some o → o.op ≠ .select cs b)
  (hpair : ∀ i j,ch i = true → ch j = true → i ≠ j → Waits ops i j ∨ Waits ops j i) :
  ∀ (fuel : Nat) (listed : Array Bool) (h : List Value) (a : Act),Shut ops listed → (∃ w,C h w) →
   (∀ j oj,ops[j]? = some oj → j ≠ i → listed.getD j true = false → (∀ e ∈ oj.after,Region.binds .any e = true → e.on ≠ i) → oi.apart ops oj = true) →
   i ∈ Region.ready .any ops listed → oneC P ops C (ch i) oi h (wpAnyC P ops C ch Q fuel (listed.setIfInBounds i true)) a → wpAnyC P ops C ch Q (fuel + 1) listed h a:=by
 have own : ∀ {K : List Value → Act → Prop} {h : List Value} {a : Act},oneC P ops C (ch i) oi h K a → cOp P ops C ch i h K a:=fun hk=>by
  unfold cOp; simp only [hi]; exact hk
 intro fuel
 induction fuel with
 | zero=>
   intro listed h a _ hne _ hr H
   refine ⟨fun h=>(by rw [h] at hr; cases hr),fun j hj=>?_⟩
   by_cases hji : j = i
   ·subst hji; exact own H
   ·exfalso
    have h1:=ready_mono hj hji
    obtain ⟨w,hw⟩:=hne
    rcases H with ⟨_,_,g3,g4⟩ | ⟨_,_,v,_,g4⟩ | ⟨_,g4⟩
    ·obtain ⟨v,w',hc⟩:=loud_some g3 hw
     have:=(g4 v w' hc).1
     rw [this] at h1; cases h1
    ·have:=g4.1
     rw [this] at h1; cases h1
    ·have:=g4.1
     rw [this] at h1; cases h1
 | succ fuel ih=>
   intro listed h a hsh hne hfree hr H
   refine ⟨fun h=>(by rw [h] at hr; cases hr),fun j hj=>?_⟩
   by_cases hji : j = i
   ·subst hji; exact own H
   ·obtain ⟨hjun,oj,hoj,hall⟩:=mem_ready.1 hj
    have hnot : ∀ e ∈ oj.after,Region.binds .any e = true → e.on ≠ i:=fun e he hb heq=>by
     have h1:=hall e he hb
     rw [heq] at h1
     exact unlisted_ne (mem_ready.1 hr).1 h1
    obtain ⟨a1,a2,a3⟩:=Oper.apart_spec (hfree j oj hoj hji hjun hnot)
    have a2' : ∀ d,oj.dst = some d → oi.dst ≠ some d:=fun d hd he=>a2 d he hd
    have hnb : ch i = true → ch j = true → False:=fun ci cj=>by
     rcases hpair i j ci cj (fun e=>hji e.symm) with hw | hw
     ·exact unlisted_ne hjun (hw.ready hsh hr)
     ·exact unlisted_ne (mem_ready.1 hr).1 (hw.ready hsh hj)
    have hji':=ready_mono hj hji
    have at_ : ∀ {h' : List Value} {v : Value},(∀ k ∈ Region.ready .any ops (listed.setIfInBounds i true),cOp P ops C ch k h' (wpAnyC P ops C ch Q fuel ((listed.setIfInBounds i true).setIfInBounds k true)) (a.put oi.dst v)) → oneC P ops C (ch j) oj h' (wpAnyC P ops C ch Q fuel ((listed.setIfInBounds i true).setIfInBounds j true)) (a.put oi.dst v):=fun hh=>by
     have:=hh j hji'
     unfold cOp at this; simp only [hoj] at this; exact this
    have ew : ∀ v,wantC ops oj (a.put oi.dst v) = wantC ops oj a:=fun v=>wanted_put oj a oi.dst v a1
    have ee : ∀ v,execOp (a.put oi.dst v).eval oj = execOp a.eval oj:=fun v=>execOp_put oj (fun cs b=>hsel j oj cs b hoj) a oi.dst v a1
    have next : ∀ (h' : List Value) (u : Value),(∃ w,C h' w) → oneC P ops C (ch i) oi h' (fun h'' a'=>wpAnyC P ops C ch Q fuel ((listed.setIfInBounds j true).setIfInBounds i true) h'' (a'.put oj.dst u)) a → wpAnyC P ops C ch Q (fuel + 1) (listed.setIfInBounds j true) h' (a.put oj.dst u):=fun h' u hne' hh=>by
     refine ih (listed.setIfInBounds j true) h' (a.put oj.dst u) (hsh.set hj) hne' (fun k ok hk hki hun hno=>?_) (ready_mono hr (Ne.symm hji)) (oneC_first (fun cs b=>hsel i oi cs b hi) a3 a2 hh)
     refine hfree k ok hk hki ?_ hno
     by_cases hjk : j = k
     ·subst hjk; exact hjun
     ·rw [getD_set_ne true hjk] at hun; exact hun
    have comm : (listed.setIfInBounds i true).setIfInBounds j true = (listed.setIfInBounds j true).setIfInBounds i true:=Array.setIfInBounds_comm _ _ (fun e=>hji e.symm)
    unfold cOp
    simp only [hoj]
    rcases H with ⟨g1,g2,g3,g4⟩ | ⟨g1,g2,v,g3,g4⟩ | ⟨g1,g4⟩
    ·
     have cj : ch j = false:=by cases e : ch j; rfl; exact absurd e (fun e=>hnb g2 e)
     obtain ⟨w,hw⟩:=hne
     obtain ⟨v0,w0,hc0⟩:=loud_some g3 hw
     have H0:=at_ ((g4 v0 w0 hc0).2)
     rcases H0 with ⟨_,k2,_⟩ | ⟨k1,_,u,k3,k4⟩ | ⟨k1,k4⟩
     ·rw [cj] at k2; cases k2
     ·unfold stillAt at k3
      rw [ee] at k3
      rw [ew] at k1
      refine .inr (.inl ⟨k1,cj,u,k3,next h u ⟨w,hw⟩ (.inl ⟨g1,g2,g3,fun v w' hc=>?_⟩)⟩)
      have H1:=at_ ((g4 v w' hc).2)
      rcases H1 with ⟨_,k2,_⟩ | ⟨_,_,u',m3,m4⟩ | ⟨m1,_⟩
      ·rw [cj] at k2; cases k2
      ·unfold stillAt at m3
       rw [ee] at m3
       have:=holds_eq (k3 h w hw) (m3 h w hw)
       subst this
       rw [← comm]; exact m4
      ·rw [ew,k1] at m1; cases m1
     ·rw [ew] at k1
      refine .inr (.inr ⟨k1,next h undef ⟨w,hw⟩ (.inl ⟨g1,g2,g3,fun v w' hc=>?_⟩)⟩)
      have H1:=at_ ((g4 v w' hc).2)
      rcases H1 with ⟨m1,_⟩ | ⟨m1,_⟩ | ⟨_,m4⟩
      ·rw [ew,k1] at m1; cases m1
      ·rw [ew,k1] at m1; cases m1
      ·rw [← comm]; exact m4
    ·have H0:=at_ g4.2
     rcases H0 with ⟨k1,k2,k3,k4⟩ | ⟨k1,k2,u,k3,k4⟩ | ⟨k1,k4⟩
     ·rw [ew] at k1
      unfold loudAt at k3
      rw [ee] at k3
      exact .inl ⟨k1,k2,k3,fun u w' hc=>next (h ++ [u]) u ⟨w',hc⟩ (.inr (.inl ⟨g1,g2,v,g3,by rw [← comm]; exact k4 u w' hc⟩))⟩
     ·rw [ew] at k1
      unfold stillAt at k3
      rw [ee] at k3
      exact .inr (.inl ⟨k1,k2,u,k3,next h u hne (.inr (.inl ⟨g1,g2,v,g3,by rw [← comm]; exact k4⟩))⟩)
     ·rw [ew] at k1
      exact .inr (.inr ⟨k1,next h undef hne (.inr (.inl ⟨g1,g2,v,g3,by rw [← comm]; exact k4⟩))⟩)
    ·have H0:=at_ g4.2
     rcases H0 with ⟨k1,k2,k3,k4⟩ | ⟨k1,k2,u,k3,k4⟩ | ⟨k1,k4⟩
     ·rw [ew] at k1
      unfold loudAt at k3
      rw [ee] at k3
      exact .inl ⟨k1,k2,k3,fun u w' hc=>next (h ++ [u]) u ⟨w',hc⟩ (.inr (.inr ⟨g1,by rw [← comm]; exact k4 u w' hc⟩))⟩
     ·rw [ew] at k1
      unfold stillAt at k3
      rw [ee] at k3
      exact .inr (.inl ⟨k1,k2,u,k3,next h u hne (.inr (.inr ⟨g1,by rw [← comm]; exact k4⟩))⟩)
     ·rw [ew] at k1
      exact .inr (.inr ⟨k1,next h undef hne (.inr (.inr ⟨g1,by rw [← comm]; exact k4⟩))⟩)
theorem wpAnyC_lex {Q : List Value → Act → Prop} (hs : Region.noSelect ops = true) (hpair : ∀ i j,ch i = true → ch j = true → i ≠ j → Waits ops i j ∨ Waits ops j i) : ∀ (l : List Oper) (k : Nat) (listed : Array Bool) (h : List Value) (a : Act),(∀ j,l[j]? = ops[k + j]?) →
  Region.lexFrom .any ops l.length k listed = true → Shut ops listed → (∃ w,C h w) → wpCh P ops C ch Q l k h a → wpAnyC P ops C ch Q l.length listed h a
 | [],_,_,_,_,_,hB,_,_,hh=>⟨by simpa [Region.lexFrom] using hB,hh⟩
 | o :: l,k,listed,h,a,hl,hB,hsh,hne,hh=>by
   have h0 : ops[k]? = some o:=by simpa using (hl 0).symm
   simp only [List.length_cons,Region.lexFrom,Bool.and_eq_true] at hB
   obtain ⟨⟨hr,hf⟩,hB'⟩:=hB
   have hr' : k ∈ Region.ready .any ops listed:=by simpa using hr
   have on : ∀ h' a',(∃ w,C h' w) → wpCh P ops C ch Q l (k + 1) h' a' → wpAnyC P ops C ch Q l.length (listed.setIfInBounds k true) h' a':=fun h' a' hne' hK=>
    wpAnyC_lex hs hpair l (k + 1) _ _ _ (fun j=>by have:=hl (j + 1); simpa [Nat.add_assoc,Nat.add_comm 1 j] using this) hB' (hsh.set hr') hne' hK
   refine wpAnyC_first h0 (Region.noSelect_spec hs) hpair l.length listed h a hsh hne (Region.free_spec h0 hf) hr' ?_
   rcases hh with ⟨g1,g2,g3,g4⟩ | ⟨g1,g2,v,g3,g4⟩ | ⟨g1,g4⟩
   ·exact .inl ⟨g1,g2,g3,fun v w' hc=>on _ _ ⟨w',hc⟩ (g4 v w' hc)⟩
   ·exact .inr (.inl ⟨g1,g2,v,g3,on _ _ hne g4⟩)
   ·exact .inr (.inr ⟨g1,on _ _ hne g4⟩)
def pathB (ops : Array Oper) : List Nat → Bool
 | []=>true
 | [_]=>true
 | j :: k :: rest=>(match ops[j]? with | some o=>o.after.any (fun e=>Region.binds .any e && e.on == k) | none=>false) && pathB ops (k :: rest)
theorem path_waits : ∀ (l : List Nat) (j : Nat),pathB ops (j :: l) = true → ∀ i ∈ l,Waits ops j i
 | [],_,_,i,hi=>by simp at hi
 | k :: l,j,h,i,hi=>by
   simp only [pathB,Bool.and_eq_true] at h
   obtain ⟨h1,h2⟩:=h
   cases ho : ops[j]? with
   | none=>rw [ho] at h1; cases h1
   | some o=>
     rw [ho] at h1
     simp only at h1
     rw [Array.any_eq_true] at h1
     obtain ⟨x,hx,hxe⟩:=h1
     simp only [Bool.and_eq_true,beq_iff_eq] at hxe
     rcases List.mem_cons.1 hi with hi | hi
     ·subst hi; exact .one ho (Array.getElem_mem hx) hxe.1 hxe.2
     ·exact .more ho (Array.getElem_mem hx) hxe.1 hxe.2 (path_waits l k h2 i hi)
theorem path_pair : ∀ (l : List Nat),pathB ops l = true → ∀ i ∈ l,∀ j ∈ l,i ≠ j → Waits ops i j ∨ Waits ops j i
 | [],_,i,hi,_,_,_=>by simp at hi
 | k :: l,h,i,hi,j,hj,hij=>by
   have h2 : pathB ops l = true:=by
    cases l with
    | nil=>rfl
    | cons m l=>simp only [pathB,Bool.and_eq_true] at h; exact h.2
   rcases List.mem_cons.1 hi with i1 | i1
   ·subst i1
    rcases List.mem_cons.1 hj with j1 | j1
    ·exact absurd j1.symm hij
    ·exact .inl (path_waits l i h j j1)
   ·rcases List.mem_cons.1 hj with j1 | j1
    ·subst j1; exact .inr (path_waits l j h i i1)
    ·exact path_pair l h2 i i1 j j1 hij
theorem wp_region_chain {id : Nat} {Q : Exit → Act → World → Prop} {a : Act} {w : World} {l : List Oper} (C : List Value → World → Prop) (cs path : List Nat) (hm : P.follows .mixedOrders = true) (hB : Region.lexB .any l.toArray = true)
  (hp : pathB l.toArray path = true) (hcs : cs.all path.contains = true) (hC : C [] w.drew)
  (hh : wpCh P l.toArray C cs.contains (fun h a'=>∀ w',C h w' → Q .normal a' w') l 0 [] a) : (Code.region id l.toArray true).wp P Q a w:=by
 simp only [Region.lexB,Bool.and_eq_true] at hB
 have hmem : ∀ i,cs.contains i = true → i ∈ path:=fun i hi=>by
  have:=List.all_eq_true.1 hcs i (by simpa using hi)
  simpa using this
 refine wp_region_any hm (wpAny_of_chain (C:=C) (ch:=cs.contains) (Q:=fun h a'=>∀ w',C h w' → Q .normal a' w') (fun _ _ w' hw' h=>h w' hw') _ _ [] _ _ hC ?_)
 have:=wpAnyC_lex (P:=P) (C:=C) (ch:=cs.contains) (Q:=fun h a'=>∀ w',C h w' → Q .normal a' w') hB.1 (fun i j hi hj hij=>path_pair path hp i (hmem i hi) j (hmem j hj) hij) l 0 (Array.replicate l.toArray.size false) [] a (by simp) (by simpa using hB.2)
  (fun j o _ hj=>by simp [Array.getD,Array.getElem_replicate] at hj) ⟨_,hC⟩ hh
 simpa using this
end
structure HeldC (C : List Value → World → Prop) where
 s : List Value
 w : World
 h : C s w
section
variable {P : Program} {ops : Array Oper} {C : List Value → World → Prop} {ch : Nat → Bool} {Q : List Value → Act → Prop}
def plainOp : Op → Bool
 | .move _ | .assign _ | .pick _ _ _ | .load _ _ | .fieldAddr _ _ _ | .indexAddr _ _ _ | .binOp _ _ _ _ _ | .unOp _ _ _ | .convert _ _ _ | .field _ _ _ | .index _ _ _ | .nilCheck _=>true
 | _=>false
theorem noEnter_bind {α : Type} (s : Sem α) (f : α → Sem Next) (hf : ∀ x w w' g b,(f x).run P w ≠ .ok (.enter g b) w') (w w' : World) (g : FuncId) (b : Array Value) : (s >>= f).run P w ≠ .ok (.enter g b) w':=by
 rw [Sem.run_bind]
 cases s.run P w with
 | ok x w1=>exact hf x w1 w' g b
 | halt x w1=>intro h; cases h
theorem noEnter_pure (n : Next) (hn : ∀ g b,n ≠ .enter g b) (w w' : World) (g : FuncId) (b : Array Value) : (pure n : Sem Next).run P w ≠ .ok (.enter g b) w':=by
 rw [Sem.run_pure]
 intro h
 injection h with h
 exact hn g b h
theorem noEnter_plain {o : Oper} {ρ : Operand → Value} (h : plainOp o.op = true) (w w' : World) (g : FuncId) (b : Array Value) : (execOp ρ o).run P w ≠ .ok (.enter g b) w':=by
 obtain ⟨dst,op,ty,pos,after,guard⟩:=o
 cases op <;> (try (simp [plainOp] at h; done))
 all_goals unfold execOp
 all_goals simp only
 all_goals first
  | exact noEnter_pure _ (fun _ _ e=>by cases e) _ _ _ _
  | exact noEnter_bind _ _ (fun x w w' g b=>noEnter_pure _ (fun _ _ e=>by cases e) _ _ _ _) _ _ _ _
  | skip
 repeat' split
 all_goals first
  | exact noEnter_pure _ (fun _ _ e=>by cases e) _ _ _ _
  | (intro e; simp [runtimePanic] at e; done)
  | (intro e; cases e; done)
  | skip
 refine noEnter_bind _ _ (fun x w w' g b=>noEnter_bind _ _ (fun y w w' g b=>?_) _ _ _ _) _ _ _ _
 split
 ·exact noEnter_bind _ _ (fun x w w' g b=>noEnter_pure _ (fun _ _ e=>by cases e) _ _ _ _) _ _ _ _
 ·exact noEnter_pure _ (fun _ _ e=>by cases e) _ _ _ _
theorem wpCh_nil {k : Nat} {h : List Value} {a : Act} (hh : Q h a) : wpCh P ops C ch Q [] k h a:=hh
theorem wpCh_n {o : Oper} {rest : List Oper} {k : Nat} {h : List Value} {a : Act} (hch : ch k = false) (hp : plainOp o.op = true)
  (hh : wpQuiet P ops (fun w=>∃ t : HeldC C,w = t.w) (fun a'=>wpCh P ops C ch Q rest (k + 1) h a') [o] a) : wpCh P ops C ch Q (o :: rest) k h a:=by
 unfold wpQuiet at hh
 split at hh
 ·rename_i hw
  obtain ⟨v,h1,h2⟩:=hh
  refine .inr (.inl ⟨hw,hch,v,fun h w hC=>?_,h2⟩)
  have h3:=h1 w ⟨⟨h,w,hC⟩,rfl⟩
  have hne:=noEnter_plain (P:=P) (ρ:=a.eval) hp w
  unfold Oper.quietAt at h3
  generalize (execOp a.eval o).run P w = r at *
  cases r with
  | ok n w'=>
    cases n <;> simp only [Oper.quietUpon] at h3
    case value u=>exact h3
    case skip=>exact h3
    case enter f args=>exact absurd rfl (hne w' f args)
  | halt x w'=>simp only [Oper.quietUpon] at h3
 ·rename_i hw
  exact .inr (.inr ⟨by unfold wantC; simpa using hw,hh⟩)
theorem wpCh_l {dst : Option Tmp} {op : Op} {ty : TypeId} {pos : String} {after : Array Edge} {guard : Option (Nat × Bool)} {rest : List Oper} {k : Nat} {h : List Value} {a : Act} {f : FuncId} {args : Array Value} (hch : ch k = true)
  (hw : Region.wanted ⟨dst,op,ty,pos,after,guard⟩ (yielded ops a.tmps) = true) (hrun : ∀ w,(execOp a.eval ⟨dst,op,ty,pos,after,guard⟩).run P w = .ok (.enter f args) w)
  (hc : ∀ w,C h w → Calls P f args w (fun e w'=>∃ v,e = .returned v ∧ C (h ++ [v]) w'))
  (hh : ∀ v w',C (h ++ [v]) w' → wpQuiet P ([] : List Oper).toArray (fun x=>x = w') (fun a'=>wpCh P ops C ch Q rest (k + 1) (h ++ [v]) a') [⟨dst,.move (.const v),ty,pos,#[],none⟩] a) : wpCh P ops C ch Q (⟨dst,op,ty,pos,after,guard⟩ :: rest) k h a:=by
 refine .inl ⟨hw,hch,fun w hC=>?_,fun v w' hv=>?_⟩
 ·rw [hrun w]
  exact ⟨rfl,hc w hC⟩
 ·have:=hh v w' hv
  unfold wpQuiet at this
  rw [if_pos (by rfl)] at this
  obtain ⟨u,h1,h2⟩:=this
  have h3:=h1 w' rfl
  unfold Oper.quietAt at h3
  have e : (execOp a.eval ⟨dst,.move (.const v),ty,pos,#[],none⟩).run P w' = .ok (.value v) w':=rfl
  rw [e] at h3
  obtain ⟨_,rfl⟩:=h3
  exact h2
end
end Go.Proofs.YtaggiceejcegdaaGreat
