/-
  WHAT IS SHOWN: the library's sort of this program is the kit's: its bodies, the numbers renamed. what the library's sort makes of a list of blocks under the order of their addresses. Conditions: as each theorem names them.
-/
import Derived.Test.YtggkengmlkhdiaaGreatM16
import Derived.Test.YtggkengmlkhdiaaGreatProg
import Derived.Shelf.SlSortCmp.NoneTotal
import Derived.Test.YtggkengmlkhdiaaGreatM28
import Derived.Test.YtggkengmlkhdiaaGreatM14
namespace Go.Proofs.YtggkengmlkhdiaaGreat
set_option linter.unusedVariables false
open Go.Shelf Go.RowKit Go.Lib Go.Sort
def srtInt_ren:Go.Shelf.Ren:=⟨fun | 6=>76 | 15=>107 | 14=>106 | 28=>143 | 29=>144 | 20=>135 | 21=>136 | 22=>137 | 23=>138 | 24=>139 | 25=>140 | 26=>141 | 27=>142 | 46=>165 | 47=>166 | 48=>167 | 49=>168 | 50=>169 | 57=>177 | n=>n,fun | 22=>56 | 24=>3 | 25=>127 | 3=>3 | 39=>154 | 0=>0 | 53=>189 | 55=>23 | 4=>4 | 46=>182 | 45=>181 | 50=>186 | 5=>5 | 9=>9 | 66=>205 | 70=>209 | 76=>214 | 77=>215 | n=>n,fun | n=>n⟩
set_option maxRecDepth 100000 in
theorem srtInt:Go.Proofs.SlLaysF.n6 Tryz.prog srtInt_ren:={
 mixed:=by kernel_rfl
 f6:=⟨ "slices.SortFunc[[]int,int]",by decide,Tryz.func76.trans (congrArg some (by kernel_rfl))⟩
 f14:=⟨ "slices.pdqsortCmpFunc[int]",by decide,Tryz.func106.trans (congrArg some (by kernel_rfl))⟩
 f15:=Tryz.func107.trans (congrArg some (by kernel_rfl))
 f20:=⟨ "slices.insertionSortCmpFunc[int]",by decide,Tryz.func135.trans (congrArg some (by kernel_rfl))⟩
 f21:=⟨ "slices.heapSortCmpFunc[int]",by decide,Tryz.func136.trans (congrArg some (by kernel_rfl))⟩
 f22:=⟨ "slices.breakPatternsCmpFunc[int]",by decide,Tryz.func137.trans (congrArg some (by kernel_rfl))⟩
 f23:=⟨ "slices.choosePivotCmpFunc[int]",by decide,Tryz.func138.trans (congrArg some (by kernel_rfl))⟩
 f24:=⟨ "slices.reverseRangeCmpFunc[int]",by decide,Tryz.func139.trans (congrArg some (by kernel_rfl))⟩
 f25:=⟨ "slices.partialInsertionSortCmpFunc[int]",by decide,Tryz.func140.trans (congrArg some (by kernel_rfl))⟩
 f26:=⟨ "slices.partitionEqualCmpFunc[int]",by decide,Tryz.func141.trans (congrArg some (by kernel_rfl))⟩
 f27:=⟨ "slices.partitionCmpFunc[int]",by decide,Tryz.func142.trans (congrArg some (by kernel_rfl))⟩
 f28:=Tryz.func143.trans (congrArg some (by kernel_rfl))
 f29:=Tryz.func144.trans (congrArg some (by kernel_rfl))
 f46:=⟨ "slices.siftDownCmpFunc[int]",by decide,Tryz.func165.trans (congrArg some (by kernel_rfl))⟩
 f47:=Tryz.func166.trans (congrArg some (by kernel_rfl))
 f48:=Tryz.func167.trans (congrArg some (by kernel_rfl))
 f49:=⟨ "slices.medianAdjacentCmpFunc[int]",by decide,Tryz.func168.trans (congrArg some (by kernel_rfl))⟩
 f50:=⟨ "slices.medianCmpFunc[int]",by decide,Tryz.func169.trans (congrArg some (by kernel_rfl))⟩
 f57:=⟨ "slices.order2CmpFunc[int]",by decide,Tryz.func177.trans (congrArg some (by kernel_rfl))⟩
 t0:=Tryz.underlying0
 a0:=Tryz.isAgg0
 z0:=Tryz.sizeOf0
 v0:=Tryz.zeroValue0
 t3:=Tryz.underlying3
 a3:=Tryz.isAgg3
 z3:=Tryz.sizeOf3
 v3:=Tryz.zeroValue3
 t4:=Tryz.underlying4
 a4:=Tryz.isAgg4
 z4:=Tryz.sizeOf4
 v4:=Tryz.zeroValue4
 t5:=Tryz.underlying5
 a5:=Tryz.isAgg5
 z5:=Tryz.sizeOf5
 v5:=Tryz.zeroValue5
 t9:=Tryz.underlying9
 a9:=Tryz.isAgg9
 z9:=Tryz.sizeOf9
 v9:=Tryz.zeroValue9
 t22:=Tryz.underlying56
 a22:=Tryz.isAgg56
 z22:=Tryz.sizeOf56
 v22:=Tryz.zeroValue56
 a24:=Tryz.isAgg3
 z24:=Tryz.sizeOf3
 t25:=Tryz.underlying127
 a25:=Tryz.isAgg127
 z25:=Tryz.sizeOf127
 v25:=Tryz.zeroValue127
 t39:=Tryz.underlying154
 a39:=Tryz.isAgg154
 z39:=Tryz.sizeOf154
 v39:=Tryz.zeroValue154
 t45:=Tryz.underlying181
 a45:=Tryz.isAgg181
 z45:=Tryz.sizeOf181
 v45:=Tryz.zeroValue181
 t46:=Tryz.underlying182
 a46:=Tryz.isAgg182
 z46:=Tryz.sizeOf182
 v46:=Tryz.zeroValue182
 t50:=Tryz.underlying186
 a50:=Tryz.isAgg186
 z50:=Tryz.sizeOf186
 v50:=Tryz.zeroValue186
 t53:=Tryz.underlying189
 a53:=Tryz.isAgg189
 z53:=Tryz.sizeOf189
 v53:=Tryz.zeroValue189
 t55:=Tryz.underlying23
 a55:=Tryz.isAgg23
 z55:=Tryz.sizeOf23
 v55:=Tryz.zeroValue23
 t66:=Tryz.underlying205
 a66:=Tryz.isAgg205
 z66:=Tryz.sizeOf205
 v66:=Tryz.zeroValue205
 t70:=Tryz.underlying209
 a70:=Tryz.isAgg209
 z70:=Tryz.sizeOf209
 v70:=Tryz.zeroValue209
 t76:=Tryz.underlying214
 a76:=Tryz.isAgg214
 z76:=Tryz.sizeOf214
 v76:=Tryz.zeroValue214
 t77:=Tryz.underlying215
 a77:=Tryz.isAgg215
 z77:=Tryz.sizeOf215
 v77:=Tryz.zeroValue215 }
def srtIntN_ren:Go.Shelf.Ren:=⟨fun | 6=>76 | 15=>107 | 14=>106 | 28=>143 | 29=>144 | 20=>135 | 21=>136 | 22=>137 | 23=>138 | 24=>139 | 25=>140 | 26=>141 | 27=>142 | 46=>165 | 47=>166 | 48=>167 | 49=>168 | 50=>169 | 57=>177 | n=>n,fun | 22=>56 | 24=>3 | 25=>127 | 3=>3 | 39=>154 | 0=>0 | 53=>189 | 55=>23 | 4=>4 | 46=>182 | 45=>181 | 50=>186 | 5=>5 | 9=>9 | 66=>205 | 70=>209 | 76=>214 | 77=>215 | n=>n,fun | n=>n⟩
set_option maxRecDepth 100000 in
theorem srtIntN:Go.Proofs.SlLaysF0.n6 Tryz.prog srtIntN_ren:={
 mixed:=by kernel_rfl
 f6:=⟨ "slices.SortFunc[[]int,int]",by decide,Tryz.func76.trans (congrArg some (by kernel_rfl))⟩
 f14:=⟨ "slices.pdqsortCmpFunc[int]",by decide,Tryz.func106.trans (congrArg some (by kernel_rfl))⟩
 f15:=Tryz.func107.trans (congrArg some (by kernel_rfl))
 f20:=⟨ "slices.insertionSortCmpFunc[int]",by decide,Tryz.func135.trans (congrArg some (by kernel_rfl))⟩
 f21:=⟨ "slices.heapSortCmpFunc[int]",by decide,Tryz.func136.trans (congrArg some (by kernel_rfl))⟩
 f22:=⟨ "slices.breakPatternsCmpFunc[int]",by decide,Tryz.func137.trans (congrArg some (by kernel_rfl))⟩
 f23:=⟨ "slices.choosePivotCmpFunc[int]",by decide,Tryz.func138.trans (congrArg some (by kernel_rfl))⟩
 f24:=⟨ "slices.reverseRangeCmpFunc[int]",by decide,Tryz.func139.trans (congrArg some (by kernel_rfl))⟩
 f25:=⟨ "slices.partialInsertionSortCmpFunc[int]",by decide,Tryz.func140.trans (congrArg some (by kernel_rfl))⟩
 f26:=⟨ "slices.partitionEqualCmpFunc[int]",by decide,Tryz.func141.trans (congrArg some (by kernel_rfl))⟩
 f27:=⟨ "slices.partitionCmpFunc[int]",by decide,Tryz.func142.trans (congrArg some (by kernel_rfl))⟩
 f28:=Tryz.func143.trans (congrArg some (by kernel_rfl))
 f29:=Tryz.func144.trans (congrArg some (by kernel_rfl))
 f46:=⟨ "slices.siftDownCmpFunc[int]",by decide,Tryz.func165.trans (congrArg some (by kernel_rfl))⟩
 f47:=Tryz.func166.trans (congrArg some (by kernel_rfl))
 f48:=Tryz.func167.trans (congrArg some (by kernel_rfl))
 f49:=⟨ "slices.medianAdjacentCmpFunc[int]",by decide,Tryz.func168.trans (congrArg some (by kernel_rfl))⟩
 f50:=⟨ "slices.medianCmpFunc[int]",by decide,Tryz.func169.trans (congrArg some (by kernel_rfl))⟩
 f57:=⟨ "slices.order2CmpFunc[int]",by decide,Tryz.func177.trans (congrArg some (by kernel_rfl))⟩
 t0:=Tryz.underlying0
 a0:=Tryz.isAgg0
 z0:=Tryz.sizeOf0
 v0:=Tryz.zeroValue0
 t3:=Tryz.underlying3
 a3:=Tryz.isAgg3
 z3:=Tryz.sizeOf3
 v3:=Tryz.zeroValue3
 t4:=Tryz.underlying4
 a4:=Tryz.isAgg4
 z4:=Tryz.sizeOf4
 v4:=Tryz.zeroValue4
 t5:=Tryz.underlying5
 a5:=Tryz.isAgg5
 z5:=Tryz.sizeOf5
 v5:=Tryz.zeroValue5
 t9:=Tryz.underlying9
 a9:=Tryz.isAgg9
 z9:=Tryz.sizeOf9
 v9:=Tryz.zeroValue9
 t22:=Tryz.underlying56
 a22:=Tryz.isAgg56
 z22:=Tryz.sizeOf56
 v22:=Tryz.zeroValue56
 t25:=Tryz.underlying127
 a25:=Tryz.isAgg127
 z25:=Tryz.sizeOf127
 v25:=Tryz.zeroValue127
 t39:=Tryz.underlying154
 a39:=Tryz.isAgg154
 z39:=Tryz.sizeOf154
 v39:=Tryz.zeroValue154
 t45:=Tryz.underlying181
 a45:=Tryz.isAgg181
 z45:=Tryz.sizeOf181
 v45:=Tryz.zeroValue181
 t46:=Tryz.underlying182
 a46:=Tryz.isAgg182
 z46:=Tryz.sizeOf182
 v46:=Tryz.zeroValue182
 t50:=Tryz.underlying186
 a50:=Tryz.isAgg186
 z50:=Tryz.sizeOf186
 v50:=Tryz.zeroValue186
 t53:=Tryz.underlying189
 a53:=Tryz.isAgg189
 z53:=Tryz.sizeOf189
 v53:=Tryz.zeroValue189
 t55:=Tryz.underlying23
 a55:=Tryz.isAgg23
 z55:=Tryz.sizeOf23
 v55:=Tryz.zeroValue23
 t66:=Tryz.underlying205
 a66:=Tryz.isAgg205
 z66:=Tryz.sizeOf205
 v66:=Tryz.zeroValue205
 t70:=Tryz.underlying209
 a70:=Tryz.isAgg209
 z70:=Tryz.sizeOf209
 v70:=Tryz.zeroValue209
 t76:=Tryz.underlying214
 a76:=Tryz.isAgg214
 z76:=Tryz.sizeOf214
 v76:=Tryz.zeroValue214
 t77:=Tryz.underlying215
 a77:=Tryz.isAgg215
 z77:=Tryz.sizeOf215
 v77:=Tryz.zeroValue215 }
def srtFnd_ren:Go.Shelf.Ren:=⟨fun | 6=>95 | 15=>107 | 14=>124 | 28=>143 | 29=>144 | 20=>153 | 21=>154 | 22=>155 | 23=>156 | 24=>157 | 25=>158 | 26=>159 | 27=>160 | 46=>174 | 47=>166 | 48=>167 | 49=>175 | 50=>176 | 57=>179 | n=>n,fun | 22=>114 | 24=>118 | 25=>148 | 3=>3 | 39=>154 | 0=>0 | 53=>189 | 55=>23 | 4=>4 | 46=>182 | 45=>181 | 50=>186 | 5=>5 | 9=>9 | 66=>205 | 70=>209 | 76=>214 | 77=>215 | n=>n,fun | n=>n⟩
set_option maxRecDepth 100000 in
theorem srtFnd:Go.Proofs.SlLaysF0.n6 Tryz.prog srtFnd_ren:={
 mixed:=by kernel_rfl
 f6:=⟨ "slices.SortFunc[[]tegula/api.Found,tegula/api.Found]",by decide,Tryz.func95.trans (congrArg some (by kernel_rfl))⟩
 f14:=⟨ "slices.pdqsortCmpFunc[tegula/api.Found]",by decide,Tryz.func124.trans (congrArg some (by kernel_rfl))⟩
 f15:=Tryz.func107.trans (congrArg some (by kernel_rfl))
 f20:=⟨ "slices.insertionSortCmpFunc[tegula/api.Found]",by decide,Tryz.func153.trans (congrArg some (by kernel_rfl))⟩
 f21:=⟨ "slices.heapSortCmpFunc[tegula/api.Found]",by decide,Tryz.func154.trans (congrArg some (by kernel_rfl))⟩
 f22:=⟨ "slices.breakPatternsCmpFunc[tegula/api.Found]",by decide,Tryz.func155.trans (congrArg some (by kernel_rfl))⟩
 f23:=⟨ "slices.choosePivotCmpFunc[tegula/api.Found]",by decide,Tryz.func156.trans (congrArg some (by kernel_rfl))⟩
 f24:=⟨ "slices.reverseRangeCmpFunc[tegula/api.Found]",by decide,Tryz.func157.trans (congrArg some (by kernel_rfl))⟩
 f25:=⟨ "slices.partialInsertionSortCmpFunc[tegula/api.Found]",by decide,Tryz.func158.trans (congrArg some (by kernel_rfl))⟩
 f26:=⟨ "slices.partitionEqualCmpFunc[tegula/api.Found]",by decide,Tryz.func159.trans (congrArg some (by kernel_rfl))⟩
 f27:=⟨ "slices.partitionCmpFunc[tegula/api.Found]",by decide,Tryz.func160.trans (congrArg some (by kernel_rfl))⟩
 f28:=Tryz.func143.trans (congrArg some (by kernel_rfl))
 f29:=Tryz.func144.trans (congrArg some (by kernel_rfl))
 f46:=⟨ "slices.siftDownCmpFunc[tegula/api.Found]",by decide,Tryz.func174.trans (congrArg some (by kernel_rfl))⟩
 f47:=Tryz.func166.trans (congrArg some (by kernel_rfl))
 f48:=Tryz.func167.trans (congrArg some (by kernel_rfl))
 f49:=⟨ "slices.medianAdjacentCmpFunc[tegula/api.Found]",by decide,Tryz.func175.trans (congrArg some (by kernel_rfl))⟩
 f50:=⟨ "slices.medianCmpFunc[tegula/api.Found]",by decide,Tryz.func176.trans (congrArg some (by kernel_rfl))⟩
 f57:=⟨ "slices.order2CmpFunc[tegula/api.Found]",by decide,Tryz.func179.trans (congrArg some (by kernel_rfl))⟩
 t0:=Tryz.underlying0
 a0:=Tryz.isAgg0
 z0:=Tryz.sizeOf0
 v0:=Tryz.zeroValue0
 t3:=Tryz.underlying3
 a3:=Tryz.isAgg3
 z3:=Tryz.sizeOf3
 v3:=Tryz.zeroValue3
 t4:=Tryz.underlying4
 a4:=Tryz.isAgg4
 z4:=Tryz.sizeOf4
 v4:=Tryz.zeroValue4
 t5:=Tryz.underlying5
 a5:=Tryz.isAgg5
 z5:=Tryz.sizeOf5
 v5:=Tryz.zeroValue5
 t9:=Tryz.underlying9
 a9:=Tryz.isAgg9
 z9:=Tryz.sizeOf9
 v9:=Tryz.zeroValue9
 t22:=Tryz.underlying114
 a22:=Tryz.isAgg114
 z22:=Tryz.sizeOf114
 v22:=Tryz.zeroValue114
 t25:=Tryz.underlying148
 a25:=Tryz.isAgg148
 z25:=Tryz.sizeOf148
 v25:=Tryz.zeroValue148
 t39:=Tryz.underlying154
 a39:=Tryz.isAgg154
 z39:=Tryz.sizeOf154
 v39:=Tryz.zeroValue154
 t45:=Tryz.underlying181
 a45:=Tryz.isAgg181
 z45:=Tryz.sizeOf181
 v45:=Tryz.zeroValue181
 t46:=Tryz.underlying182
 a46:=Tryz.isAgg182
 z46:=Tryz.sizeOf182
 v46:=Tryz.zeroValue182
 t50:=Tryz.underlying186
 a50:=Tryz.isAgg186
 z50:=Tryz.sizeOf186
 v50:=Tryz.zeroValue186
 t53:=Tryz.underlying189
 a53:=Tryz.isAgg189
 z53:=Tryz.sizeOf189
 v53:=Tryz.zeroValue189
 t55:=Tryz.underlying23
 a55:=Tryz.isAgg23
 z55:=Tryz.sizeOf23
 v55:=Tryz.zeroValue23
 t66:=Tryz.underlying205
 a66:=Tryz.isAgg205
 z66:=Tryz.sizeOf205
 v66:=Tryz.zeroValue205
 t70:=Tryz.underlying209
 a70:=Tryz.isAgg209
 z70:=Tryz.sizeOf209
 v70:=Tryz.zeroValue209
 t76:=Tryz.underlying214
 a76:=Tryz.isAgg214
 z76:=Tryz.sizeOf214
 v76:=Tryz.zeroValue214
 t77:=Tryz.underlying215
 a77:=Tryz.isAgg215
 z77:=Tryz.sizeOf215
 v77:=Tryz.zeroValue215 }
end Go.Proofs.YtggkengmlkhdiaaGreat
namespace Go.Proofs.YtggkengmlkhdiaaGreat
set_option linter.unusedVariables false
open Go.Shelf Go.RowKit Go.Lib Go.Sort
section
variable {α:Type} [Inhabited α] {w w':World}
theorem sort_kept (enc:α→Value) (w:World) (blk off m:Nat) (d:Array α) (os:Array Obj):Kept (fun i=>i=blk) w (sortWorld enc w blk off m d os):=by
 refine ⟨rfl,rfl,rfl,?_,fun k hk hne=>?_⟩
 ·show w.heap.size≤(w.heap.modify blk _++os).size
  rw [Array.size_append,Array.size_modify]; omega
 ·show (w.heap.modify blk _++os)[k]?=w.heap[k]?
  rw [Array.getElem?_append_left (by rw [Array.size_modify]; exact hk),Array.getElem?_modify,if_neg (fun e=>hne e.symm)]
theorem putCells_take (enc:α→Value) (d:Array α) (c:Array Value) (h:d.size≤c.size):(putCells enc 0 d c).toList.take d.size=d.toList.map enc:=by
 apply List.ext_getElem?
 intro j
 by_cases hj:j < d.size
 ·rw [List.getElem?_take_of_lt hj,Array.getElem?_toList]
  unfold putCells
  rw [Array.getElem?_mapIdx,Array.getElem?_eq_getElem (by omega),Option.map_some,if_pos ⟨Nat.zero_le _,by omega⟩,Nat.sub_zero,getElem!_pos d j hj,List.getElem?_map,Array.getElem?_toList,Array.getElem?_eq_getElem hj]
  rfl
 ·rw [List.getElem?_eq_none (by rw [List.length_take]; omega),List.getElem?_eq_none (by simp; omega)]
theorem sort_own {base n c blk size:Nat} {e:TypeId} {xs:List Value} (enc:α→Value) (h:w.ownsRow base e size (.slice (some ⟨blk,0,none⟩) n c) n xs) (m:Nat) (d:Array α) (hd:d.size=n * size) (os:Array Obj):
  (sortWorld enc w blk 0 m d os).ownsRow base e size (.slice (some ⟨blk,0,none⟩) n c) n (d.toList.map enc):=by
 obtain ⟨hl,h⟩:=h
 refine ⟨by simp [hd],?_⟩
 rcases h with ⟨h2,_⟩ | ⟨g,cap,cur,h1,h2,h3,h4,h5,h6,h7⟩
 ·cases h2
 ·injection h1 with e1 e2 e3
  injection e1 with e1
  injection e1 with e1
  subst e1
  have hn:n≤cap:=h4
  have hle:n * size≤cap * size:=Nat.mul_le_mul_right _ hn
  refine .inr ⟨blk,cap,putCells enc 0 d cur,by rw [e3],h2,?_,h4,h5,by unfold putCells; rw [Array.size_mapIdx]; exact h6,?_⟩
  ·show (w.heap.modify blk (onCells (putCells enc 0 d))++os)[blk]?=_
   have hb:=lt_of_block h3
   rw [Array.getElem?_append_left (by rw [Array.size_modify]; exact hb),Array.getElem?_modify,if_pos rfl,h3]
   rfl
  ·rw [← hd]; exact putCells_take enc d cur (by omega)
theorem perm_all {d d':Array α} (h:PermIn 0 d.size d d'):d'.size=d.size∧d'.toList.Perm d.toList:=by
 obtain ⟨h1,_,h2⟩:=h
 refine ⟨h1,?_⟩
 have e1:d.extract 0 d.size=d:=Array.extract_size
 have e2:d'.extract 0 d.size=d':=by rw [← h1]; exact Array.extract_size
 rw [e1,e2] at h2
 exact h2
end
section
variable {w w':World} {B:Bd} {p q pw:Nat} {g:Geo} {F:List Flt} {key:Int} {S:ST} {ea ec:Nat} {BA:Option Addr} {bc:Nat}
set_option maxRecDepth 100000
set_option maxHeartbeats 4000000
theorem clcmp_any {a b bd:Nat} {n m:NE} {len:Nat} (ha:a < len) (hb:b < len) (h0:w.cell? ⟨bd,0,none⟩=some (.pointer (some ⟨p,0,none⟩))) (h2:w.cell? ⟨p,2,none⟩=some (.slice (some ⟨ea,0,none⟩) len ec))
  (hn:w.cell? ⟨ea,a * 3+2,none⟩=some (.int .i64 n.adr)) (hm:w.cell? ⟨ea,b * 3+2,none⟩=some (.int .i64 m.adr)) (n0: -1≤n.adr∧n.adr≤100000) (m0: -1≤m.adr∧m.adr≤100000):
  Calls Tryz.prog 77 #[.int .i64 a,.int .i64 b,.pointer (some ⟨bd,0,none⟩)] w fun e w'=>e= .returned (.int .i64 (n.adr - m.adr))∧∃ q,w'=w.drewN q:=by
 have ha':(a:Int) < len:=by omega
 have hb':(b:Int) < len:=by omega
 have w1:IntKind.i64.wrap (n.adr - m.adr)=n.adr - m.adr:=by rw [IntKind.wrap_i64]; omega
 go_enter Tryz.func77,Tryz.ntmps77
 go_wp2
 go_quiet (fail)
 go_wp2
 go_ret
 exact ⟨rfl,_,rfl⟩
def intsN (l:List Nat):List Value:=l.map fun (b:Nat)=>Value.int .i64 (b:Int)
theorem VOk.adrB {v:DV} (h:VOk g v) {b:Nat} {n:NE} (hn:v.es[b]?=some n): -1≤n.adr∧n.adr≤100000:=by
 rcases h.adr b n hn with h1 | ⟨k,i,h1⟩
 ·omega
 ·have h0:=(h1.nn h).2.1
  have:=h.adr_le hn h0
  omega
theorem blsort_any {base bd:Nat} {A:Option Addr} {c:Nat} {fd:Nat × Nat} (l:List Nat) (hl:∀ b∈l,b < S.v.es.length) (hln:l.length≤100000) (hv:VOk g S.v) (h:Drv w B p q pw g F key S ea ec BA bc) (hd:w.heap[bd]?=some (.cells #[.pointer (some ⟨p,0,none⟩)] 22 fd))
  (ho:w.ownsRow base 3 1 (.slice A l.length c) l.length (intsN l)):
  Calls Tryz.prog 76 #[.slice A l.length c,.func (.func 77) #[] #[.pointer (some ⟨bd,0,none⟩)]] w fun e w'=>e= .returned (.tuple #[])∧∃ l':List Nat,l'.Perm l∧(l'.Pairwise fun a b=>(S.v.es.getD a noNE).adr≤(S.v.es.getD b noNE).adr)∧
   w'.ownsRow base 3 1 (.slice A l'.length c) l'.length (intsN l')∧KeptT [3] (Bd.of base) w w':=by
 by_cases hz:l=[]
 ·subst hz
  refine (AnyF.slices_SortFunc_none srtIntN A c _ w).mono ?_
  rintro e w' ⟨rfl,rfl⟩
  exact ⟨rfl,[],List.Perm.refl _,List.Pairwise.nil,ho,KeptT.refl _ _ _⟩
 ·have hpos:0 < l.length:=List.length_pos_iff.2 hz
  obtain ⟨blk,rfl,hblk,hlt⟩:=own_at ho hpos
  have hes:=hv.e0
  haveI:Inhabited (Fin S.v.es.length):=⟨⟨0,by omega⟩⟩
  obtain ⟨d,hdd⟩:∃ d:Array (Fin S.v.es.length),d.toList.map (fun i=>i.val)=l:=by
   refine ⟨(l.attach.map fun x=>(⟨x.1,hl x.1 x.2⟩:Fin S.v.es.length)).toArray,?_⟩
   simp [List.map_map,Function.comp_def]
  have hds:d.size=l.length:=by rw [← hdd]; simp
  have htI:=IsT.own ho
  have enc1:OneCell (fun i:Fin S.v.es.length=>Value.int .i64 (i.val:Int)):=fun _=>rfl
  have hO:SWO (ltOf fun x y:Fin S.v.es.length=>(S.v.es.getD x.val noNE).adr - (S.v.es.getD y.val noNE).adr):=by
   constructor
   ·intro x; simp [ltOf]
   ·intro x y z h1 h2; simp [ltOf] at *; omega
   ·intro x y z h1 h2; simp [ltOf] at *; omega
  have hcmp:CmpLays1 Tryz.prog 77 #[.pointer (some ⟨bd,0,none⟩)] (fun i:Fin S.v.es.length=>Value.int .i64 (i.val:Int)) (fun x y=>(S.v.es.getD x.val noNE).adr - (S.v.es.getD y.val noNE).adr) blk 0 d.size w:=by
   intro m os dk hdk x y
   have hk:=sort_kept (fun i:Fin S.v.es.length=>Value.int .i64 (i.val:Int)) w blk 0 m dk os
   have hkT:KeptT [3] (Bd.of 0) w (sortWorld (fun i:Fin S.v.es.length=>Value.int .i64 (i.val:Int)) w blk 0 m dk os):=KeptT.of hk (fun i _ e=>by have e':i=blk:=e; subst e'; exact ⟨⟨Nat.zero_le _,fun h=>h⟩,HasT.mem htI (by simp)⟩)
   generalize (sortWorld (fun i:Fin S.v.es.length=>Value.int .i64 (i.val:Int)) w blk 0 m dk os)=W at *
   have hx:=List.getElem?_eq_getElem x.isLt
   have hy:=List.getElem?_eq_getElem y.isLt
   have eo:=own_ty h.es hkT (by decide)
   have po:=own_ty h.obj hkT (by decide)
   have c2:W.cell? ⟨p,2,none⟩=some (.slice (some ⟨ea,0,none⟩) S.v.es.length ec):=(World.ownsRow.cellAt po 2 (by decide)).trans rfl
   have ca:∀ (i:Fin S.v.es.length) n,S.v.es[i.val]?=some n→W.cell? ⟨ea,i.val * 3+2,none⟩=some (.int .i64 n.adr):=fun i n hn=>((World.ownsRow.cellAt eo (i.val * 3+2) (by have:=i.isLt; omega)).trans (flatE_get hn 2 (by decide))).trans rfl
   have hb:W.cell? ⟨bd,0,none⟩=some (.pointer (some ⟨p,0,none⟩)):=Kept.cell hkT (dcell_one hd) (KeptT.no (IsT.of hd) (by decide))
   have:=clcmp_any (w:=W) (p:=p) (ea:=ea) (ec:=ec) x.isLt y.isLt hb c2 (ca x _ hx) (ca y _ hy) (hv.adrB hx) (hv.adrB hy)
   simp only []
   rw [getD_of hx,getD_of hy]
   refine Calls.mono this fun e w' he=>?_
   obtain ⟨he,q,hq⟩:=he
   exact ⟨he,q,#[],by rw [hq,grow_empty]⟩
  have hH:Holds (fun i:Fin S.v.es.length=>Value.int .i64 (i.val:Int)) w blk 0 d:=by
   intro j hj
   refine ⟨?_,ho.frozenAt _⟩
   rw [Nat.zero_add,World.ownsRow.cellAt ho j (by omega)]
   unfold intsN
   rw [← hdd,List.map_map,List.getElem?_map,Array.getElem?_toList,Array.getElem?_eq_getElem hj,getElem!_pos d j hj]
   rfl
  have eg:∀ args w,(callFunc 77 args).run Tryz.prog w= .ok (.enter 77 args) w:=enters_of Tryz.func77 (by kernel_rfl) rfl
  have hcon:=Any.slices_SortFunc srtInt (fun i:Fin S.v.es.length=>Value.int .i64 (i.val:Int)) enc1 (fun x y=>(S.v.es.getD x.val noNE).adr - (S.v.es.getD y.val noNE).adr) hO 77 #[.pointer (some ⟨bd,0,none⟩)] blk 0 c d w eg hcmp hH hlt (by omega)
  rw [hds] at hcon
  refine Calls.mono hcon fun e w' he=>?_
  obtain ⟨he,d',n,os,hp,hs,rfl⟩:=he
  rw [← hds] at hp
  obtain ⟨p1,p2⟩:=perm_all hp
  refine ⟨he,d'.toList.map (fun i=>i.val),?_,?_,?_,?_⟩
  ·rw [← hdd]; exact p2.map _
  ·rw [List.pairwise_map,List.pairwise_iff_getElem]
   intro i j hi hj hij
   have hi':i < d'.size:=by simpa using hi
   have hj':j < d'.size:=by simpa using hj
   have:=hs i j (Nat.zero_le _) hij (by omega)
   rw [getElem!_pos d' j hj',getElem!_pos d' i hi'] at this
   unfold ltOf at this
   have h3:=of_decide_eq_false this
   simp only [] at h3
   simp only [Array.getElem_toList]
   omega
  ·have hl2:(d'.toList.map (fun i=>i.val)).length=l.length:=by simp; omega
   rw [hl2]
   have:=sort_own (fun i:Fin S.v.es.length=>Value.int .i64 (i.val:Int)) ho n d' (by omega) os
   have e:intsN (d'.toList.map (fun i=>i.val))=d'.toList.map (fun i:Fin S.v.es.length=>Value.int .i64 (i.val:Int)):=by unfold intsN; rw [List.map_map]; rfl
   rw [e]; exact this
  ·exact KeptT.of (sort_kept _ w blk 0 n d' os) (fun i _ e=>by have e':i=blk:=e; subst e'; exact ⟨Bd.hasOf.2 hblk,HasT.mem htI (by simp)⟩)
end
end Go.Proofs.YtggkengmlkhdiaaGreat
