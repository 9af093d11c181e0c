/-
  WHAT IS SHOWN: what the library's sort makes of a list of what was found. Conditions: the list is the call's own.
-/
import Derived.Test.YtggkengmlkhdiaaGreatM31
namespace Go.Proofs.YtggkengmlkhdiaaGreat
set_option linter.unusedVariables false
open Go.Shelf Go.RowKit Go.Lib Go.Sort
def fndC (d:Cnd):List Value:=d.x.cells++[Value.int .i64 d.adr]
structure CndOk (d:Cnd):Prop where
 len:d.x.dt.length=8
 b0:0≤d.x.blk
 b1:d.x.blk≤65536
theorem fndC_len {d:Cnd} (h:CndOk d):(fndC d).length=12:=by simp [fndC,Ent.cells,h.len]
section
variable {w:World}
set_option maxRecDepth 100000
set_option maxHeartbeats 4000000
theorem fcmp_any {x y:Cnd} (hx:CndOk x) (hy:CndOk y):Calls Tryz.prog 96 #[.agg (fndC x).toArray,.agg (fndC y).toArray] w fun e w'=>e= .returned (.int .i64 (x.x.blk - y.x.blk))∧∃ q os',w'=grow (w.drewN q) os':=by
 obtain ⟨⟨k,b,v,dts⟩,ad,t⟩:=x
 obtain ⟨⟨k',b',v',dts'⟩,ad',t'⟩:=y
 obtain ⟨hl,h0,h1⟩:=hx
 obtain ⟨hl',h0',h1'⟩:=hy
 obtain ⟨d0,d1,d2,d3,d4,d5,d6,d7,rfl⟩:=len8 hl
 obtain ⟨e0,e1,e2,e3,e4,e5,e6,e7,rfl⟩:=len8 hl'
 simp only at h0 h1 h0' h1'
 have hw:IntKind.i64.wrap (b - b')=b - b':=by rw [IntKind.wrap_i64]; omega
 show Calls Tryz.prog 96 #[.agg #[.int .i64 k,.int .i64 b,.int .u64 v,.int .u8 d0,.int .u8 d1,.int .u8 d2,.int .u8 d3,.int .u8 d4,.int .u8 d5,.int .u8 d6,.int .u8 d7,.int .i64 ad],.agg #[.int .i64 k',.int .i64 b',.int .u64 v',.int .u8 e0,.int .u8 e1,.int .u8 e2,.int .u8 e3,.int .u8 e4,.int .u8 e5,.int .u8 e6,.int .u8 e7,.int .i64 ad']] w _
 clear hl hl' h0 h1 h0' h1'
 go_enter Tryz.func96,Tryz.ntmps96
 go_wp2
 go_ret
 exact ⟨rfl,0,_,by rw [alloc_eq_grow,alloc_eq_grow,grow_grow]; rfl⟩
end
theorem flatK_list {α:Type} [Inhabited α] (enc:α→List Value) (k:Nat) (hk:∀ x,(enc x).length=k) (hk0:0 < k) (d:Array α):(flatK enc k d).toList=d.toList.flatMap enc:=by
 apply List.ext_getElem?
 intro j
 by_cases hj:j < d.size * k
 ·have h1:(flatK enc k d).toList[j]?=some ((flatK enc k d)[j]!):=by
   rw [Array.getElem?_toList,Array.getElem?_eq_getElem (by rw [size_flatK]; exact hj),getElem!_pos _ j (by rw [size_flatK]; exact hj)]
  have hd:j / k < d.size:=by rw [Nat.div_lt_iff_lt_mul hk0]; exact hj
  have hm:=Nat.mod_lt j hk0
  rw [h1,get_flatK _ _ _ _ hj]
  have h2:=flat_get enc k hk d.toList (j / k) (j % k) hm
  rw [show j / k * k+j % k=j by rw [Nat.mul_comm]; exact Nat.div_add_mod j k] at h2
  rw [h2,Array.getElem?_toList,Array.getElem?_eq_getElem hd,getElem!_pos d (j / k) hd]
  show some ((enc d[j / k])[j % k]!)=(enc d[j / k])[j % k]?
  rw [List.getElem!_eq_getElem?_getD,List.getElem?_eq_getElem (by rw [hk]; exact hm)]
  rfl
 ·rw [List.getElem?_eq_none (by rw [Array.length_toList,size_flatK]; omega),List.getElem?_eq_none]
  rw [flat_len enc k hk,Array.length_toList]; omega
section
variable {w:World}
theorem fndsort_any {base c:Nat} {A:Option Addr} (L:List Cnd) (hL:∀ d∈L,CndOk d) (hn:L.length≤100000) (ho:w.ownsRow base 118 12 (.slice A L.length c) L.length (L.flatMap fndC)):
  Calls Tryz.prog 95 #[.slice A L.length c,.func (.func 96) #[] #[]] w fun e w'=>e= .returned (.tuple #[])∧∃ L':List Cnd,L'.Perm L∧w'.ownsRow base 118 12 (.slice A L'.length c) L'.length (L'.flatMap fndC)∧KeptT [118] (Bd.of base) w w':=by
 by_cases hz:L=[]
 ·subst hz
  refine (AnyF.slices_SortFunc_none srtFnd A c _ w).mono ?_
  rintro e w' ⟨rfl,rfl⟩
  exact ⟨rfl,[],List.Perm.refl _,ho,KeptT.refl _ _ _⟩
 ·have hpos:0 < L.length:=List.length_pos_iff.2 hz
  obtain ⟨blk,rfl,hblk,hlt⟩:=own_at ho hpos
  haveI:Inhabited {d:Cnd // CndOk d}:=⟨⟨cnd0,⟨rfl,by simp [cnd0,noEnt],by simp [cnd0,noEnt]⟩⟩⟩
  obtain ⟨d,hdd⟩:∃ d:Array {d:Cnd // CndOk d},d.toList.map (fun i=>i.val)=L:=by
   refine ⟨(L.attach.map fun x=>(⟨x.1,hL x.1 x.2⟩:{d:Cnd // CndOk d})).toArray,?_⟩
   simp [List.map_map,Function.comp_def]
  have hds:d.size=L.length:=by rw [← hdd]; simp
  have htI:=IsT.own ho
  have hk:∀ x:{d:Cnd // CndOk d},(fndC x.val).length=12:=fun x=>fndC_len x.property
  have h1:∀ (x:{d:Cnd // CndOk d}),∀ v∈fndC x.val,v.oneCell'=true:=fun x v hv=>by
   unfold fndC Ent.cells at hv
   simp only [List.cons_append,List.mem_cons,List.mem_append,List.mem_map,List.not_mem_nil,or_false] at hv
   rcases hv with rfl | rfl | rfl | ⟨y,_,rfl⟩ | rfl <;> rfl
  have hO:SWO (ltOf fun x y:{d:Cnd // CndOk d}=>x.val.x.blk - y.val.x.blk):=by
   constructor
   ·intro x; simp [ltOf]
   ·intro x y z h1 h2; simp [ltOf] at *; omega
   ·intro x y z h1 h2; simp [ltOf] at *; omega
  have hcmp:CmpLays Tryz.prog 96 #[] (fun x:{d:Cnd // CndOk d}=>fndC x.val) 12 (fun x y=>x.val.x.blk - y.val.x.blk) blk 0 d.size w:=fun _ _ _ _ x y=>fcmp_any x.property y.property
  have hfl:(flatK (fun x:{d:Cnd // CndOk d}=>fndC x.val) 12 d).toList=L.flatMap fndC:=by
   rw [flatK_list _ 12 hk (by decide),← hdd,List.flatMap_map]
  have hH:HoldsK (fun x:{d:Cnd // CndOk d}=>fndC x.val) 12 w blk 0 d:=by
   intro j hj
   refine ⟨?_,ho.frozenAt _⟩
   rw [size_flatK] at hj
   rw [Nat.zero_add,World.ownsRow.cellAt ho j (by omega),← hfl,Array.getElem?_toList,Array.getElem?_eq_getElem (by rw [size_flatK]; exact hj),getElem!_pos _ j (by rw [size_flatK]; exact hj)]
   rfl
  have eg:∀ args w,(callFunc 96 args).run Tryz.prog w= .ok (.enter 96 args) w:=enters_of Tryz.func96 (by kernel_rfl) rfl
  have hcon:=AnyQ.slices_SortFunc srtFnd 12 Tryz.isAgg118 Tryz.sizeOf118 (fun x:{d:Cnd // CndOk d}=>fndC x.val) hk h1 (fun x y=>x.val.x.blk - y.val.x.blk) hO 96 #[] blk 0 c d w eg hcmp hH hlt (by omega)
  rw [hds] at hcon
  refine Calls.mono hcon fun e w' he=>?_
  obtain ⟨he,d',n,os,hp,hs,rfl⟩:=he
  rw [← hds] at hp
  obtain ⟨p1,p2⟩:=perm_all hp
  have hl2:(d'.toList.map (fun i=>i.val)).length=L.length:=by simp; omega
  refine ⟨he,d'.toList.map (fun i=>i.val),?_,?_,?_⟩
  ·rw [← hdd]; exact p2.map _
  ·rw [hl2]
   have:=sort_own (w:=w) (id:Value→Value) ho n (flatK (fun x:{d:Cnd // CndOk d}=>fndC x.val) 12 d') (by rw [size_flatK]; omega) os
   rw [List.map_id,flatK_list _ 12 hk (by decide)] at this
   rw [List.flatMap_map]
   exact this
  ·exact KeptT.of (sort_kept (id:Value→Value) w blk 0 n (flatK (fun x:{d:Cnd // CndOk d}=>fndC x.val) 12 d') os) (fun i _ e=>by have e':i=blk:=e; subst e'; exact ⟨Bd.hasOf.2 hblk,HasT.mem htI (by simp)⟩)
end
end Go.Proofs.YtggkengmlkhdiaaGreat
