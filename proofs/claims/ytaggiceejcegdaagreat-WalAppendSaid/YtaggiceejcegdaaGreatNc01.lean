/-
  WHAT IS SHOWN: what AppendInt, AppendBytes and AppendBlock of codec and of tegularef09 return. what the methods of the readers of codec and of tegularef09 return. what Uint of the readers of codec and of tegularef09 returns. what Uint of the reader of tegularef09 returns. what New, Int, Bytes, Done and Left of the readers of codec and of tegularef09 return. Conditions: as each theorem names them.
-/
import Derived.Test.YtaggiceejcegdaaGreatNc00
import Derived.Lib.Zigzag
import Derived.Deep.RegionLaw
namespace Go.Proofs.YtaggiceejcegdaaGreat
set_option linter.unusedVariables false
open Go.RowKit
theorem zigN_code {n : Int} (h0 : -9223372036854775808 ≤ n) (h1 : n ≤ 9223372036854775807) :
  bits BinOp.xor IntKind.u64 (IntKind.u64.wrap (IntKind.u64.wrap n * 2)) (IntKind.u64.wrap (n / 9223372036854775808)) = ((zigN n : Nat) : Int):=by
 by_cases hn : 0 ≤ n
 ·have e2 : n / 9223372036854775808 = 0:=by omega
  have e1 : IntKind.u64.wrap (IntKind.u64.wrap n * 2) = (((2 * n).toNat : Nat) : Int):=by
   rw [IntKind.wrap_u64,IntKind.wrap_u64]; omega
  have e3 : IntKind.u64.wrap 0 = ((0 : Nat) : Int):=by decide
  rw [e1,e2,e3,bits_xor_u64_nat _ _ (by omega) (by decide),Nat.xor_zero]
  unfold zigN
  rw [if_pos hn]
 ·have e2 : n / 9223372036854775808 = -1:=by omega
  have e1 : IntKind.u64.wrap (IntKind.u64.wrap n * 2) = (((2 * n + 18446744073709551616).toNat : Nat) : Int):=by
   rw [IntKind.wrap_u64,IntKind.wrap_u64]; omega
  have e3 : IntKind.u64.wrap (-1) = ((2 ^ 64 - 1 : Nat) : Int):=by decide
  rw [e1,e2,e3,bits_xor_u64_nat _ _ (by omega) (by decide),Nat.xor_comm,Lib.xor_ones64 _ (by omega)]
  unfold zigN
  rw [if_neg hn]
  omega
theorem zigN_lt {n : Int} (h0 : -9223372036854775808 ≤ n) (h1 : n ≤ 9223372036854775807) : zigN n < 2 ^ 64:=by
 unfold zigN; split <;> omega
theorem qstep_append_own {P : Program} {w : World} {ops : Array Oper} {o : Oper} {a : Act} {K : Act → World → Prop} {Q : Exit → Act → World → Prop} {E : Prop} (hgd : o.guard = none) (s x : Operand) (t : TypeId)
  (ho : o.op = .call { callee:=.builtin .append,args:=#[s,x],argTypes:=#[t,t] })
  (base : Nat) (e : TypeId) (i : TypeInfo) (z : Value) (size bytes : Nat) (ht : P.underlying t = some (.slice e)) (hi : P.info? e = some i) (hz : i.zero = some z)
  (hsize : i.size = size) (hby : i.bytes = bytes) (hzs : z.cells.size = size) (hsz : 0 < size)
  (v : Value) (n : Nat) (xs : List Value) (hs : a.eval s = v) (hown : w.ownsRow base e size v n xs)
  (ad : Addr) (m c : Nat) (news : List Value) (hx : a.eval x = .slice (some ad) m c) (hl : news.length = m * size) (hnews : ∀ j u,news[j]? = some u → w.cell? (ad.add j) = some u) (h1 : ∀ u ∈ news,u.oneCell' = true)
  (h63 : n + m ≤ maxLen) (hbytes : (n + m) * bytes ≤ 140737488355328) (hbase : base ≤ w.heap.size)
  (h : ∀ v' w',w'.ownsRow base e size v' (n + m) (xs ++ news) → w.grownBy w' v.ownBlock → (v' = .slice none 0 0 ↔ v = .slice none 0 0 ∧ m = 0) → K (a.put o.dst v') w') :
  if Region.wanted o (yielded ops a.tmps) = true then Oper.wp P o a w K Q else E:=by
 have hw : Region.wanted o (yielded ops a.tmps) = true:=by simp [Region.wanted,hgd]
 rw [if_pos hw]
 exact wp_append_own w s x t ho base e i z size bytes ht hi hz hsize hby hzs hsz v n xs hs hown ad m c news hx hl hnews h1 h63 hbytes hbase h
theorem own_cap {w : World} {base : Nat} {e : TypeId} {size : Nat} {v : Value} {n : Nat} {xs : List Value} (h : w.ownsRow base e size v n xs) (hn : 0 < n) : ∃ g cap,v = .slice (some ⟨g,0,none⟩) n cap ∧ n ≤ cap:=by
 rcases h.2 with ⟨_,h0⟩ | ⟨g,cap,cur,hv,hb,hg,hc,_⟩
 ·omega
 ·exact ⟨g,cap,hv,hc⟩
set_option maxRecDepth 100000 in
set_option maxHeartbeats 1000000 in
theorem appint_any (n : Int) (h0 : -9223372036854775808 ≤ n) (h1 : n ≤ 9223372036854775807) (xs : List Int) (A : Option Addr) (c : Nat) (w : World) (hr : Rd w w.heap.size A (xs.map (Value.int .u8))) (hx : xs.length ≤ 900000) :
  Calls Tryz.prog 129 #[.slice A xs.length c,.int .i64 n] w (NewO w (xs ++ uintB (zigN n))):=by
 have hc0:=appuint_any (zigN n) (zigN_lt h0 h1) xs A c w hr hx
 generalize xs ++ uintB (zigN n) = zs at *
 have HC:=Lib.hid hc0
 clear hc0 hr
 have HE:=Lib.hid (zigN_code h0 h1)
 go_enter Tryz.func129,Tryz.ntmps129
 go_wp2_with fail
 rw [HE.out]
 refine HC.out.mono ?_
 rintro e w1 ⟨A1,c1,rfl,ho1,hb1⟩
 go_wp2
 go_ret
 exact ⟨A1,c1,rfl,ho1,hb1⟩
set_option maxRecDepth 100000 in
set_option maxHeartbeats 1000000 in
theorem rappint_any (n : Int) (h0 : -9223372036854775808 ≤ n) (h1 : n ≤ 9223372036854775807) (xs : List Int) (A : Option Addr) (c : Nat) (w : World) (hr : Rd w w.heap.size A (xs.map (Value.int .u8))) (hx : xs.length ≤ 900000) :
  Calls Tryz.prog 107 #[.slice A xs.length c,.int .i64 n] w (NewO w (xs ++ uintB (zigN n))):=by
 have hc0:=rappuint_any (zigN n) (zigN_lt h0 h1) xs A c w hr hx
 generalize xs ++ uintB (zigN n) = zs at *
 have HC:=Lib.hid hc0
 clear hc0 hr
 by_cases hn : 0 ≤ n
 ·have HE : Hid ((2 * n : Int) = ((zigN n : Nat) : Int)):=by unfold Hid zigN; rw [if_pos hn]; omega
  go_enter Tryz.func107,Tryz.ntmps107
  go_wp2_with fail
  rw [HE.out]
  refine HC.out.mono ?_
  rintro e w1 ⟨A1,c1,rfl,ho1,hb1⟩
  go_wp2
  go_ret
  exact ⟨A1,c1,rfl,ho1,hb1⟩
 ·have HE : Hid ((2 * -(n + 1) + 1 : Int) = ((zigN n : Nat) : Int)):=by unfold Hid zigN; rw [if_neg hn]; omega
  go_enter Tryz.func107,Tryz.ntmps107
  go_wp2_with fail
  rw [HE.out]
  refine HC.out.mono ?_
  rintro e w1 ⟨A1,c1,rfl,ho1,hb1⟩
  go_wp2
  go_ret
  exact ⟨A1,c1,rfl,ho1,hb1⟩
set_option maxRecDepth 100000 in
set_option maxHeartbeats 1000000 in
theorem appbytes_any (xs ys : List Int) (A D : Option Addr) (c d : Nat) (w : World) (hr : Rd w w.heap.size A (xs.map (Value.int .u8))) (hx : xs.length ≤ 900000) (hs : Rd w w.heap.size D (ys.map (Value.int .u8))) (hy : ys.length ≤ 900000) :
  Calls Tryz.prog 89 #[.slice A xs.length c,.slice D ys.length d] w (NewO w (xs ++ uintB ys.length ++ ys)):=by
 obtain ⟨i0,hi,hz0,hz1,hz2⟩:=info_parts qinfo_u8
 have hc0:=appuint_any ys.length (by omega) xs A c w hr hx
 have hlen : (xs ++ uintB ys.length).length ≤ 900010:=by have:=uintB_len ys.length; simp; omega
 have hpos : 0 < (xs ++ uintB ys.length).length:=by
  have : 0 < (uintB ys.length).length:=uintB_pos _
  simp; omega
 generalize xs ++ uintB ys.length = us at *
 have hu : us.length + ys.length = (us ++ ys).length:=by simp
 have hm2 : us.map (Value.int .u8) ++ ys.map (Value.int .u8) = (us ++ ys).map (Value.int .u8):=by simp
 generalize hzs : us ++ ys = zs at *
 have HU:=Lib.hid hu
 have HM:=Lib.hid hm2
 have HZ:=Lib.hid hzs
 have HC:=Lib.hid hc0
 have HS:=Lib.hid hs
 have HP:=Lib.hid hpos
 clear hr hs hu hm2 hzs hc0 hpos
 cases D with
 | none=>
   have hx0:=HS.out.qat_none
   obtain rfl : ys = []:=by cases ys; rfl; simp at hx0
   clear hx0
   go_enter Tryz.func89,Tryz.ntmps89
   go_wp2_with fail
   refine HC.out.mono ?_
   rintro e w1 ⟨A1,c1,rfl,ho1,hb1⟩
   obtain ⟨g,cp,hv,hcp⟩:=own_cap ho1 HP.out
   injection hv with hv1 hv2 hv3
   subst hv1
   subst hv3
   have HO1:=Lib.hid ho1
   clear ho1
   go_wp2
   go_ret
   have e : us = zs:=by rw [← HZ.out]; simp
   subst e
   exact ⟨_,_,rfl,HO1.out,hb1⟩
 | some d0=>
   go_enter Tryz.func89,Tryz.ntmps89
   go_wp2_with fail
   refine HC.out.mono ?_
   rintro e w1 ⟨A1,c1,rfl,ho1,hb1⟩
   have HO1:=Lib.hid ho1
   have HS1:=Lib.hid ((HS.out.below hb1 (Nat.le_refl _)).qat_add)
   have hz:=hb1.size
   clear ho1
   go_wp2_with (at_builtin; refine wpList_append_own _ rfl _ _ 26 rfl w.heap.size 5 i0 _ 1 1 Tryz.underlying26 hi hz0 hz1 hz2 rfl (by decide) _ _ _ rfl HO1.out d0 ys.length d (ys.map (Value.int .u8)) rfl (by simp) HS1.out (qbytes_one ys) ?a1 ?a2 ?a3 ?_)
   case a1=>unfold maxLen; omega
   case a2=>omega
   case a3=>exact hz
   intro v' w' hown hgrow hiff
   obtain ⟨A',c',hv⟩:=own_form hown
   subst hv
   have hbl : Below w.heap.size w w':=hb1.grown hgrow hz (fun k hk=>own_low HO1.out hk)
   have HOW : Hid (w'.ownsRow w.heap.size 5 1 (.slice A' zs.length c') zs.length (zs.map (Value.int .u8))):=by
    unfold Hid; rw [← HU.out,← HM.out]; exact hown
   clear hown hgrow hiff
   go_wp2
   go_ret
   exact ⟨A',c',by rw [← HU.out]; rfl,HOW.out,hbl⟩
set_option maxRecDepth 100000 in
set_option maxHeartbeats 1000000 in
theorem rappbytes_any (xs ys : List Int) (A D : Option Addr) (c d : Nat) (w : World) (hr : Rd w w.heap.size A (xs.map (Value.int .u8))) (hx : xs.length ≤ 900000) (hs : Rd w w.heap.size D (ys.map (Value.int .u8))) (hy : ys.length ≤ 900000) :
  Calls Tryz.prog 108 #[.slice A xs.length c,.slice D ys.length d] w (NewO w (xs ++ uintB ys.length ++ ys)):=by
 obtain ⟨i0,hi,hz0,hz1,hz2⟩:=info_parts qinfo_u8
 have hc0:=rappuint_any ys.length (by omega) xs A c w hr hx
 have hlen : (xs ++ uintB ys.length).length ≤ 900010:=by have:=uintB_len ys.length; simp; omega
 have hpos : 0 < (xs ++ uintB ys.length).length:=by
  have : 0 < (uintB ys.length).length:=uintB_pos _
  simp; omega
 generalize xs ++ uintB ys.length = us at *
 have hu : us.length + ys.length = (us ++ ys).length:=by simp
 have hm2 : us.map (Value.int .u8) ++ ys.map (Value.int .u8) = (us ++ ys).map (Value.int .u8):=by simp
 generalize hzs : us ++ ys = zs at *
 have HU:=Lib.hid hu
 have HM:=Lib.hid hm2
 have HZ:=Lib.hid hzs
 have HC:=Lib.hid hc0
 have HS:=Lib.hid hs
 have HP:=Lib.hid hpos
 clear hr hs hu hm2 hzs hc0 hpos
 cases D with
 | none=>
   have hx0:=HS.out.qat_none
   obtain rfl : ys = []:=by cases ys; rfl; simp at hx0
   clear hx0
   go_enter Tryz.func108,Tryz.ntmps108
   go_wp2_with fail
   refine HC.out.mono ?_
   rintro e w1 ⟨A1,c1,rfl,ho1,hb1⟩
   obtain ⟨g,cp,hv,hcp⟩:=own_cap ho1 HP.out
   injection hv with hv1 hv2 hv3
   subst hv1
   subst hv3
   have HO1:=Lib.hid ho1
   clear ho1
   go_wp2
   go_ret
   have e : us = zs:=by rw [← HZ.out]; simp
   subst e
   exact ⟨_,_,rfl,HO1.out,hb1⟩
 | some d0=>
   go_enter Tryz.func108,Tryz.ntmps108
   go_wp2_with fail
   refine HC.out.mono ?_
   rintro e w1 ⟨A1,c1,rfl,ho1,hb1⟩
   have HO1:=Lib.hid ho1
   have HS1:=Lib.hid ((HS.out.below hb1 (Nat.le_refl _)).qat_add)
   have hz:=hb1.size
   clear ho1
   go_wp2_with (at_builtin; refine wpList_append_own _ rfl _ _ 26 rfl w.heap.size 5 i0 _ 1 1 Tryz.underlying26 hi hz0 hz1 hz2 rfl (by decide) _ _ _ rfl HO1.out d0 ys.length d (ys.map (Value.int .u8)) rfl (by simp) HS1.out (qbytes_one ys) ?a1 ?a2 ?a3 ?_)
   case a1=>unfold maxLen; omega
   case a2=>omega
   case a3=>exact hz
   intro v' w' hown hgrow hiff
   obtain ⟨A',c',hv⟩:=own_form hown
   subst hv
   have hbl : Below w.heap.size w w':=hb1.grown hgrow hz (fun k hk=>own_low HO1.out hk)
   have HOW : Hid (w'.ownsRow w.heap.size 5 1 (.slice A' zs.length c') zs.length (zs.map (Value.int .u8))):=by
    unfold Hid; rw [← HU.out,← HM.out]; exact hown
   clear hown hgrow hiff
   go_wp2
   go_ret
   exact ⟨A',c',by rw [← HU.out]; rfl,HOW.out,hbl⟩
set_option maxRecDepth 100000 in
set_option maxHeartbeats 1000000 in
theorem appblk_any (b0 b1 b2 b3 b4 b5 b6 b7 : Int) (xs : List Int) (A : Option Addr) (c : Nat) (w : World) (hr : Rd w w.heap.size A (xs.map (Value.int .u8))) (hx : xs.length ≤ 900000) :
  Calls Tryz.prog 128 #[.slice A xs.length c,.agg #[.int .u8 b0,.int .u8 b1,.int .u8 b2,.int .u8 b3,.int .u8 b4,.int .u8 b5,.int .u8 b6,.int .u8 b7]] w (NewO w (xs ++ [b0,b1,b2,b3,b4,b5,b6,b7])):=by
 obtain ⟨i0,hi,hz0,hz1,hz2⟩:=info_parts qinfo_u8
 have hu : xs.length + 8 = (xs ++ [b0,b1,b2,b3,b4,b5,b6,b7]).length:=by simp
 have hm2 : xs.map (Value.int .u8) ++ [.int .u8 b0,.int .u8 b1,.int .u8 b2,.int .u8 b3,.int .u8 b4,.int .u8 b5,.int .u8 b6,.int .u8 b7] = (xs ++ [b0,b1,b2,b3,b4,b5,b6,b7]).map (Value.int .u8):=by simp
 generalize xs ++ [b0,b1,b2,b3,b4,b5,b6,b7] = zs at *
 have HU:=Lib.hid hu
 have HM:=Lib.hid hm2
 have hb0 : Below w.heap.size w (w.alloc (.cells #[.int .u8 b0,.int .u8 b1,.int .u8 b2,.int .u8 b3,.int .u8 b4,.int .u8 b5,.int .u8 b6,.int .u8 b7] 149)).drew:=((Below.refl _ _).alloc (Nat.le_refl _) _).drew
 have HN:=Lib.hid (World.news_of_block (heap_alloc_new w (.cells #[.int .u8 b0,.int .u8 b1,.int .u8 b2,.int .u8 b3,.int .u8 b4,.int .u8 b5,.int .u8 b6,.int .u8 b7] 149)))
 have HC:=Lib.hid (cloneo_any xs A c _ ((hr.below hb0 (Nat.le_refl _)).more hb0.size) (by omega))
 have H8 : Hid (∀ u ∈ ([.int .u8 b0,.int .u8 b1,.int .u8 b2,.int .u8 b3,.int .u8 b4,.int .u8 b5,.int .u8 b6,.int .u8 b7] : List Value),u.oneCell' = true):=by
  unfold Hid; intro u hu; simp at hu; rcases hu with rfl | rfl | rfl | rfl | rfl | rfl | rfl | rfl <;> rfl
 clear hr hu hm2
 go_enter Tryz.func128,Tryz.ntmps128
 go_wp2_with fail
 go_region_law (first
  | (refine qstep_append_own rfl _ _ 26 rfl w.heap.size 5 i0 _ 1 1 Tryz.underlying26 hi hz0 hz1 hz2 rfl (by decide) _ _ _ rfl HO1.out ⟨w.heap.size,0,none⟩ 8 8 [.int .u8 b0,.int .u8 b1,.int .u8 b2,.int .u8 b3,.int .u8 b4,.int .u8 b5,.int .u8 b6,.int .u8 b7] rfl rfl HN1.out H8.out (by unfold maxLen; omega) (by omega) hz ?_
     intro v' w' hown hgrow hiff
     obtain ⟨A',c',hv⟩:=own_form hown
     subst hv
     have hbl : Below w.heap.size w w':=hb2.grown hgrow hz (fun k hk=>own_low HO1.out hk)
     have HOW : Hid (w'.ownsRow w.heap.size 5 1 (.slice A' zs.length c') zs.length (zs.map (Value.int .u8))):=by
      unfold Hid; rw [← HU.out,← HM.out]; exact hown
     clear hown hgrow hiff)
  | (go_simp
     go_at_call 82
     refine HC.out.mono ?_
     rintro e w1 ⟨A1,c1,rfl,ho1,hb1⟩
     have hb2:=hb0.trans (hb1.mono hb0.size)
     have hz:=hb2.size
     have HO1 : Hid (w1.ownsRow w.heap.size 5 1 (.slice A1 xs.length c1) xs.length (xs.map (Value.int .u8))):=own_mono ho1 hb0.size
     have HN1 : Hid (∀ j u,([.int .u8 b0,.int .u8 b1,.int .u8 b2,.int .u8 b3,.int .u8 b4,.int .u8 b5,.int .u8 b6,.int .u8 b7] : List Value)[j]? = some u → w1.cell? (Addr.add ⟨w.heap.size,0,none⟩ j) = some u):=by
      unfold Hid; intro j u hu; have h:=HN.out j u hu; rw [add_off] at h ⊢; exact (hb1.cell (p:=⟨w.heap.size,0 + j,none⟩) (by simp)).trans h
     clear ho1))
 all_goals (go_wp2; go_ret; exact ⟨A',c',by rw [← HU.out]; rfl,HOW.out,hbl⟩)
set_option maxRecDepth 100000 in
set_option maxHeartbeats 1000000 in
theorem rappblk_any (b0 b1 b2 b3 b4 b5 b6 b7 : Int) (xs : List Int) (A : Option Addr) (c : Nat) (w : World) (hr : Rd w w.heap.size A (xs.map (Value.int .u8))) (hx : xs.length ≤ 900000) :
  Calls Tryz.prog 106 #[.slice A xs.length c,.agg #[.int .u8 b0,.int .u8 b1,.int .u8 b2,.int .u8 b3,.int .u8 b4,.int .u8 b5,.int .u8 b6,.int .u8 b7]] w (NewO w (xs ++ [b0,b1,b2,b3,b4,b5,b6,b7])):=by
 obtain ⟨i0,hi,hz0,hz1,hz2⟩:=info_parts qinfo_u8
 have hu : xs.length + 8 = (xs ++ [b0,b1,b2,b3,b4,b5,b6,b7]).length:=by simp
 have hm2 : xs.map (Value.int .u8) ++ [.int .u8 b0,.int .u8 b1,.int .u8 b2,.int .u8 b3,.int .u8 b4,.int .u8 b5,.int .u8 b6,.int .u8 b7] = (xs ++ [b0,b1,b2,b3,b4,b5,b6,b7]).map (Value.int .u8):=by simp
 have hzs : xs ++ [b0,b1,b2,b3,b4,b5,b6,b7] = xs ++ [b0,b1,b2,b3,b4,b5,b6,b7]:=rfl
 generalize hz : xs ++ [b0,b1,b2,b3,b4,b5,b6,b7] = zs at *
 have HU:=Lib.hid hu
 have HM:=Lib.hid hm2
 have HB0 : Hid (Below w.heap.size w (w.alloc (.cells #[.int .u8 b0,.int .u8 b1,.int .u8 b2,.int .u8 b3,.int .u8 b4,.int .u8 b5,.int .u8 b6,.int .u8 b7] 149)).drew):=((Below.refl _ _).alloc (Nat.le_refl _) _).drew
 have HN:=Lib.hid (World.news_of_block (heap_alloc_new w (.cells #[.int .u8 b0,.int .u8 b1,.int .u8 b2,.int .u8 b3,.int .u8 b4,.int .u8 b5,.int .u8 b6,.int .u8 b7] 149)))
 have H8 : Hid (∀ u ∈ ([.int .u8 b0,.int .u8 b1,.int .u8 b2,.int .u8 b3,.int .u8 b4,.int .u8 b5,.int .u8 b6,.int .u8 b7] : List Value),u.oneCell' = true):=by
  unfold Hid; intro u hu; simp at hu; rcases hu with rfl | rfl | rfl | rfl | rfl | rfl | rfl | rfl <;> rfl
 have HB1 : Hid (Below w.heap.size w ((w.alloc (.cells #[.int .u8 b0,.int .u8 b1,.int .u8 b2,.int .u8 b3,.int .u8 b4,.int .u8 b5,.int .u8 b6,.int .u8 b7] 149)).alloc (.cells #[] 5)).drew):=(((Below.refl _ _).alloc (Nat.le_refl _) _).alloc (by simp) _).drew
 have HRO : Hid (((w.alloc (.cells #[.int .u8 b0,.int .u8 b1,.int .u8 b2,.int .u8 b3,.int .u8 b4,.int .u8 b5,.int .u8 b6,.int .u8 b7] 149)).alloc (.cells #[] 5)).drew.ownsRow w.heap.size 5 1 (.slice (some ⟨w.heap.size + 1,0,none⟩) 0 0) 0 []):=by
  have h:=World.ownsRow_lit (base:=w.heap.size) (e:=5) (size:=1) (w.alloc (.cells #[.int .u8 b0,.int .u8 b1,.int .u8 b2,.int .u8 b3,.int .u8 b4,.int .u8 b5,.int .u8 b6,.int .u8 b7] 149)) #[] 0 (by simp) (by decide) rfl
  rw [World.size_alloc] at h; exact h
 have HS:=Lib.hid hr
 clear hr hu hm2
 cases A with
 | none=>
   have hx0:=HS.out.qat_none
   obtain rfl : xs = []:=by cases xs; rfl; simp at hx0
   have hz:=HB1.out.size
   have HN1 : Hid (∀ j u,([.int .u8 b0,.int .u8 b1,.int .u8 b2,.int .u8 b3,.int .u8 b4,.int .u8 b5,.int .u8 b6,.int .u8 b7] : List Value)[j]? = some u → ((w.alloc (.cells #[.int .u8 b0,.int .u8 b1,.int .u8 b2,.int .u8 b3,.int .u8 b4,.int .u8 b5,.int .u8 b6,.int .u8 b7] 149)).alloc (.cells #[] 5)).drew.cell? (Addr.add ⟨w.heap.size,0,none⟩ j) = some u):=by
    unfold Hid; intro j u hu; have h:=HN.out j u hu; rw [add_off] at h ⊢; exact ((((Below.refl (w.heap.size + 1) _).alloc (by simp) _).cell (p:=⟨w.heap.size,0 + j,none⟩) (by simp)).trans h)
   go_enter Tryz.func106,Tryz.ntmps106
   go_wp2_with fail
   go_region_law (first
    | (refine qstep_append_own rfl (.tmp 7) (.tmp 8) 26 rfl w.heap.size 5 i0 _ 1 1 Tryz.underlying26 hi hz0 hz1 hz2 rfl (by decide) (.slice (some ⟨w.heap.size + 1,0,none⟩) 0 0) 0 [] rfl HRO.out ⟨w.heap.size,0,none⟩ 8 8 [.int .u8 b0,.int .u8 b1,.int .u8 b2,.int .u8 b3,.int .u8 b4,.int .u8 b5,.int .u8 b6,.int .u8 b7] rfl rfl HN1.out H8.out (by unfold maxLen; omega) (by omega) hz ?_
       intro v' w' hown hgrow hiff
       obtain ⟨A',c',hv⟩:=own_form hown
       subst hv
       have hbl : Below w.heap.size w w':=HB1.out.grown hgrow hz (fun k hk=>own_low HRO.out hk)
       have HOW : Hid (w'.ownsRow w.heap.size 5 1 (.slice A' zs.length c') zs.length (zs.map (Value.int .u8))):=by
        unfold Hid; rw [← HU.out,← HM.out]; exact hown
       clear hown hgrow hiff))
   all_goals (go_wp2; go_ret; exact ⟨A',c',by rw [← HU.out]; rfl,HOW.out,hbl⟩)
 | some a0=>
   have HAT:=Lib.hid (HS.out.below HB1.out (Nat.le_refl _)).qat_add
   go_enter Tryz.func106,Tryz.ntmps106
   go_wp2_with fail
   go_region_law (first
    | (refine qstep_append_own rfl (.tmp 5) (.tmp 6) 26 rfl w.heap.size 5 i0 _ 1 1 Tryz.underlying26 hi hz0 hz1 hz2 rfl (by decide) (.slice (some ⟨w.heap.size + 1,0,none⟩) 0 0) 0 [] rfl HRO.out a0 xs.length c (xs.map (Value.int .u8)) rfl (by simp) HAT.out (qbytes_one xs) (by unfold maxLen; omega) (by omega) (by simp; omega) ?_
       intro v1 w1 hown hgrow hiff
       try simp only [Nat.zero_add,List.nil_append] at hown
       obtain ⟨A1,c1,hv⟩:=own_form hown
       subst hv
       have hb2:=HB1.out.grown hgrow (by simp; omega) (fun k hk=>by simp [Value.ownBlock] at hk; omega)
       have HO1:=Lib.hid hown
       have hz:=hb2.size
       have HN1 : Hid (∀ j u,([.int .u8 b0,.int .u8 b1,.int .u8 b2,.int .u8 b3,.int .u8 b4,.int .u8 b5,.int .u8 b6,.int .u8 b7] : List Value)[j]? = some u → w1.cell? (Addr.add ⟨w.heap.size,0,none⟩ j) = some u):=by
        unfold Hid; intro j u hu; have h:=HN.out j u hu; rw [add_off] at h ⊢; exact (((Below.refl (w.heap.size + 1) _).grown hgrow (by simp) (fun k hk=>by simp [Value.ownBlock] at hk; omega)).cell (p:=⟨w.heap.size,0 + j,none⟩) (by simp)).trans ((((Below.refl (w.heap.size + 1) _).alloc (by simp) _).cell (p:=⟨w.heap.size,0 + j,none⟩) (by simp)).trans h)
       clear hown hgrow hiff)
    | (refine qstep_append_own rfl (.tmp 7) (.tmp 8) 26 rfl w.heap.size 5 i0 _ 1 1 Tryz.underlying26 hi hz0 hz1 hz2 rfl (by decide) (.slice A1 xs.length c1) _ _ rfl HO1.out ⟨w.heap.size,0,none⟩ 8 8 [.int .u8 b0,.int .u8 b1,.int .u8 b2,.int .u8 b3,.int .u8 b4,.int .u8 b5,.int .u8 b6,.int .u8 b7] rfl rfl HN1.out H8.out (by unfold maxLen; omega) (by omega) hz ?_
       intro v' w' hown hgrow hiff
       obtain ⟨A',c',hv⟩:=own_form hown
       subst hv
       have hbl : Below w.heap.size w w':=hb2.grown hgrow hz (fun k hk=>own_low HO1.out hk)
       have HOW : Hid (w'.ownsRow w.heap.size 5 1 (.slice A' zs.length c') zs.length (zs.map (Value.int .u8))):=by
        unfold Hid; rw [← HU.out,← HM.out]; exact hown
       clear hown hgrow hiff))
   all_goals (go_wp2; go_ret; exact ⟨A',c',by rw [← HU.out]; rfl,HOW.out,hbl⟩)
end Go.Proofs.YtaggiceejcegdaaGreat
namespace Go.Proofs.YtaggiceejcegdaaGreat
set_option linter.unusedVariables false
open Go.RowKit
def RdrM (ty : TypeId) (w : World) (q : Nat) (r : Rdr) : Prop:=
 ∃ A c,w.heap[q]? = some (.cells #[.slice A r.rest.length c,.bool r.bad] ty (0,0)) ∧ RdT w 5 A (r.rest.map (Value.int .u8)) ∧ U8s r.rest ∧ r.ok ∧ r.rest.length ≤ c ∧ c ≤ 9223372036854775807 ∧ (A = none → c = 0)
theorem heap_cells {w : World} {q : Nat} {v0 v1 : Value} {ty : TypeId} (h : w.heap[q]? = some (.cells #[v0,v1] ty (0,0))) : w.cell? ⟨q,0,none⟩ = some v0 ∧ w.cell? ⟨q,1,none⟩ = some v1 ∧ w.frozen? ⟨q,0,none⟩ = false ∧ w.frozen? ⟨q,1,none⟩ = false:=by
 refine ⟨by simp [World.cell?,h],by simp [World.cell?,h],by simp [World.frozen?,h],by simp [World.frozen?,h]⟩
theorem heap_set0 {w : World} {q : Nat} {v0 v1 : Value} {ty : TypeId} (h : w.heap[q]? = some (.cells #[v0,v1] ty (0,0))) (u : Value) : (w.setCell ⟨q,0,none⟩ u).heap[q]? = some (.cells #[u,v1] ty (0,0)):=by
 simp [World.setCell,Array.getElem?_modify,h]
theorem heap_set1 {w : World} {q : Nat} {v0 v1 : Value} {ty : TypeId} (h : w.heap[q]? = some (.cells #[v0,v1] ty (0,0))) (u : Value) : (w.setCell ⟨q,1,none⟩ u).heap[q]? = some (.cells #[v0,u] ty (0,0)):=by
 simp [World.setCell,Array.getElem?_modify,h]
def RdrPost (ty : TypeId) (w : World) (q : Nat) (r : Rdr) (w' : World) : Prop:=RdrM ty w' q r ∧ Kept (fun k=>k = q) w w'
theorem RdrPost.trans {ty : TypeId} {w w1 w2 : World} {q : Nat} {r r2 : Rdr} (h : RdrPost ty w q r w1) (k : RdrPost ty w1 q r2 w2) : RdrPost ty w q r2 w2:=⟨k.1,h.2.trans k.2 (fun _ _ h=>h)⟩
theorem RdrM.lt {ty : TypeId} {w : World} {q : Nat} {r : Rdr} (h : RdrM ty w q r) : q < w.heap.size:=by
 obtain ⟨A,c,hq,_⟩:=h
 exact lt_of_block hq
theorem RdrM.below {ty : TypeId} {w w' : World} {q : Nat} {r : Rdr} (h : RdrM ty w q r) (hb : Below w.heap.size w w') : RdrM ty w' q r:=by
 obtain ⟨A,c,hq,hr,h2⟩:=h
 exact ⟨A,c,belObj hb hq (lt_of_block hq),hr.below0 hb,h2⟩
theorem RdrM.failed {ty : TypeId} {w : World} {q : Nat} {r : Rdr} (h : RdrM ty w q r) : RdrPost ty w q Rdr.fail ((w.setCell ⟨q,0,none⟩ (.slice none 0 0)).setCell ⟨q,1,none⟩ (.bool true)):=by
 obtain ⟨A,c,hq,_⟩:=h
 exact ⟨⟨none,0,heap_set1 (heap_set0 hq _) _,RdT.nil _ _ _,(by intro x hx; cases hx),fun _=>rfl,Nat.le_refl _,by decide,fun _=>rfl⟩,((Kept.refl (fun k=>k = q) _).setCell (fun _=>rfl) _).setCell (fun _=>rfl) _⟩
theorem take_mem {w : World} {t : TypeId} {A : Option Addr} {xs : List Value} (h : RdT w t A xs) (n : Nat) : RdT w t A (xs.take n):=fun j u hu=>by
 rw [List.getElem?_take] at hu
 split at hu
 ·exact h j u hu
 ·cases hu
theorem drop_mem {w : World} {t : TypeId} {A : Option Addr} {xs : List Value} (h : RdT w t A xs) (n : Nat) : RdT w t (A.map (fun x=>x.add n)) (xs.drop n):=fun j u hu=>by
 rw [List.getElem?_drop] at hu
 obtain ⟨g,o,cur,fr,e,hg,hc⟩:=h (n + j) u hu
 refine ⟨g,o + n,cur,fr,?_,hg,?_⟩
 ·rw [e,Option.map_some,add_off]
 ·rw [Nat.add_assoc]; exact hc
theorem U8s.take {xs : List Int} (h : U8s xs) (n : Nat) : U8s (xs.take n):=fun x hx=>h x (List.mem_of_mem_take hx)
theorem U8s.drop {xs : List Int} (h : U8s xs) (n : Nat) : U8s (xs.drop n):=fun x hx=>h x (List.mem_of_mem_drop hx)
theorem RdrM.went {ty : TypeId} {w : World} {q : Nat} {r : Rdr} {A : Option Addr} {c : Nat} (hty : ty ≠ 5) (hq : w.heap[q]? = some (.cells #[.slice A r.rest.length c,.bool r.bad] ty (0,0))) (hr : RdT w 5 A (r.rest.map (Value.int .u8))) (hu : U8s r.rest) (hok : r.ok) (hc : r.rest.length ≤ c) (hcm : c ≤ 9223372036854775807) (hnn : A = none → c = 0) (n : Nat) (hn : n ≤ r.rest.length) (D : Option Addr) (d : Nat) (hD : (c = n ∧ D = A ∧ d = 0) ∨ (c ≠ n ∧ D = A.map (fun x=>x.add n) ∧ d = c - n)) :
  RdrPost ty w q ⟨r.rest.drop n,r.bad⟩ (w.setCell ⟨q,0,none⟩ (.slice D (r.rest.length - n) d)):=by
 have hk : Kept (fun k=>k = q) w (w.setCell ⟨q,0,none⟩ (.slice D (r.rest.length - n) d)):=(Kept.refl (fun k=>k = q) w).setCell (p:=⟨q,0,none⟩) (fun _=>rfl) _
 refine ⟨⟨D,d,?_,?_,hu.drop n,fun hb=>by have:=hok hb; simp only at this ⊢; rw [this]; simp,?_,?_,?_⟩,hk⟩
 ·rw [List.length_drop]; exact heap_set0 hq _
 ·rw [List.map_drop]
  rcases hD with ⟨h1,rfl,_⟩ | ⟨_,rfl,_⟩
  ·have : (r.rest.map (Value.int .u8)).drop n = []:=List.drop_eq_nil_of_le (by simp; omega)
   rw [this]; exact RdT.nil _ _ _
  ·exact (drop_mem hr n).kept hk (Free.one hq hty)
 ·rcases hD with ⟨_,_,rfl⟩ | ⟨_,_,rfl⟩ <;> simp <;> omega
 ·rcases hD with ⟨_,_,rfl⟩ | ⟨_,_,rfl⟩ <;> omega
 ·rcases hD with ⟨_,_,rfl⟩ | ⟨_,rfl,rfl⟩
  ·intro _; rfl
  ·intro h; cases A with
   | none=>have:=hnn rfl; omega
   | some a=>cases h
theorem rfail_any {w : World} {q : Nat} {r : Rdr} (h : RdrM 239 w q r) : Calls Tryz.prog 174 #[.pointer (some ⟨q,0,none⟩)] w (fun e w'=>e = .returned (.int .i64 5) ∧ RdrPost 239 w q Rdr.fail w'):=by
 have HF:=Lib.hid h.failed
 obtain ⟨A,c,hq,hr,hu,hok,hc,hcm,hn⟩:=h
 obtain ⟨c0,c1,f0,f1⟩:=heap_cells hq
 clear hq hr hu hok hc hn
 go_enter Tryz.func174,Tryz.ntmps174
 go_wp2
 go_ret
 exact ⟨rfl,HF.out⟩
def TakePost (ty : TypeId) (w : World) (q : Nat) (x : List Int × Int × Rdr) (e : Ending) (w' : World) : Prop:=
 ∃ D d,e = .returned (.tuple #[.slice D x.1.length d,.int .i64 x.2.1]) ∧ RdT w' 5 D (x.1.map (Value.int .u8)) ∧ U8s x.1 ∧ (D = none → d = 0) ∧ x.1.length ≤ d ∧ RdrPost ty w q x.2.2 w'
end Go.Proofs.YtaggiceejcegdaaGreat
namespace Go.Proofs.YtaggiceejcegdaaGreat
set_option linter.unusedVariables false
open Go.RowKit
theorem uintGo_bad {i n : Nat} {c : Int} {l : List Int} (h : 9 < i ∨ (i = 9 ∧ 1 < c) ∨ (c < 128 ∧ c = 0 ∧ 0 < i)) : uintGo i n (c :: l) = none:=by
 unfold uintGo
 rcases h with h | h | ⟨h1,h2,h3⟩
 ·rw [if_pos h]
 ·by_cases h9 : 9 < i
  ·rw [if_pos h9]
  ·rw [if_neg h9,if_pos h]
 ·by_cases h9 : 9 < i
  ·rw [if_pos h9]
  ·rw [if_neg h9]
   by_cases h8 : i = 9 ∧ 1 < c
   ·rw [if_pos h8]
   ·rw [if_neg h8,if_pos h1,if_pos ⟨h2,h3⟩]
theorem uintGo_end {i n : Nat} {c : Int} {l : List Int} (h : ¬ 9 < i) (h2 : ¬ (i = 9 ∧ 1 < c)) (h3 : c < 128) (h4 : ¬ (c = 0 ∧ 0 < i)) : uintGo i n (c :: l) = some (n + (c % 128).toNat * 2 ^ (7 * i),l):=by
 unfold uintGo
 rw [if_neg h,if_neg h2,if_pos h3,if_neg h4]
theorem uintGo_on {i n : Nat} {c : Int} {l : List Int} (h : ¬ 9 < i) (h2 : ¬ (i = 9 ∧ 1 < c)) (h3 : ¬ c < 128) : uintGo i n (c :: l) = uintGo (i + 1) (n + (c % 128).toNat * 2 ^ (7 * i)) l:=by
 conv=>lhs; unfold uintGo
 rw [if_neg h,if_neg h2,if_neg h3]
theorem uintGo_nil (i n : Nat) : uintGo i n [] = none:=by unfold uintGo; rfl
theorem uintGo_ten (n : Nat) (l : List Int) : uintGo 10 n l = none:=by
 cases l with
 | nil=>exact uintGo_nil _ _
 | cons c l=>exact uintGo_bad (.inl (by decide))
theorem uint_bnd {i n : Nat} {c : Int} (hi : i ≤ 9) (hn : n < 2 ^ (7 * i)) (h0 : 0 ≤ c) (h2 : ¬ (i = 9 ∧ 1 < c)) : n + (c % 128).toNat * 2 ^ (7 * i) < 2 ^ (7 * (i + 1)) ∧ n + (c % 128).toNat * 2 ^ (7 * i) < 2 ^ 64:=by
 have e7 : 2 ^ (7 * (i + 1)) = 2 ^ (7 * i) * 128:=by rw [show 7 * (i + 1) = 7 * i + 7 by omega,Nat.pow_add]
 have hcm : (c % 128).toNat ≤ 127:=by omega
 have hmul : (c % 128).toNat * 2 ^ (7 * i) ≤ 127 * 2 ^ (7 * i):=Nat.mul_le_mul_right _ hcm
 refine ⟨by rw [e7]; omega,?_⟩
 by_cases h9 : i = 9
 ·subst h9
  have : (c % 128).toNat ≤ 1:=by omega
  have : (c % 128).toNat * 2 ^ (7 * 9) ≤ 1 * 2 ^ (7 * 9):=Nat.mul_le_mul_right _ this
  omega
 ·have : 2 ^ (7 * (i + 1)) ≤ 2 ^ 63:=Nat.pow_le_pow_right (by decide) (by omega)
  omega
def UintPost (ty : TypeId) (w : World) (q : Nat) (r : Rdr) (e : Ending) (w' : World) : Prop:=e = .returned (.tuple #[.int .u64 r.uint.1,.int .i64 r.uint.2.1]) ∧ RdrPost ty w q r.uint.2.2 w'
end Go.Proofs.YtaggiceejcegdaaGreat
namespace Go.Proofs.YtaggiceejcegdaaGreat
set_option linter.unusedVariables false
open Go.RowKit
theorem ruint_val {i n : Nat} {c : Int} (h0 : 0 ≤ c) (h1 : c ≤ 255) (hb : n + (c % 128).toNat * 2 ^ (7 * i) < 2 ^ 64) :
  IntKind.u64.wrap ((n : Int) + IntKind.u64.wrap (c % 128 * 2 ^ (7 * i))) = ((n + (c % 128).toNat * 2 ^ (7 * i) : Nat) : Int):=by
 have e : c % 128 = (((c % 128).toNat : Nat) : Int):=by omega
 have e2 : (((c % 128).toNat : Nat) : Int) * 2 ^ (7 * i) = (((c % 128).toNat * 2 ^ (7 * i) : Nat) : Int):=by push_cast; rfl
 have e4 : (((c % 128).toNat : Nat) : Int).toNat = (c % 128).toNat:=by omega
 rw [e,e2,e4,IntKind.wrap_u64,IntKind.wrap_u64]
 omega
theorem drop_cons {l : List Int} {i : Nat} (h : i < l.length) : l.drop i = l[i] :: l.drop (i + 1):=List.drop_eq_getElem_cons h
set_option maxRecDepth 100000 in
set_option maxHeartbeats 1000000 in
theorem ruint_any {w : World} {q : Nat} {r : Rdr} (hlen : r.rest.length ≤ 1000000) (h : RdrM 239 w q r) : Calls Tryz.prog 156 #[.pointer (some ⟨q,0,none⟩)] w (UintPost 239 w q r):=by
 have H0 : Hid (RdrPost 239 w q r w):=⟨h,Kept.refl _ _⟩
 clear h
 go_enter Tryz.func156,Tryz.ntmps156
 go_wp2
 go_loopw [4,5] (fun s4 s5 wr=>∃ (i n : Nat),i ≤ 10 ∧ i ≤ r.rest.length ∧ s5 = .int .i64 i ∧ s4 = .int .u64 n ∧ n < 2 ^ (7 * i) ∧ n < 2 ^ 64 ∧ Hid (RdrPost 239 w q r wr) ∧ Hid (uintGo i n (r.rest.drop i) = uintD r.rest)) (fun _ v _=>10 - (intOf v).toNat)
 case atStart=>exact ⟨0,0,by omega,by omega,rfl,rfl,by decide,by decide,H0,by simp [Hid,uintD]⟩
 case round=>
  obtain ⟨i,n,hi,hil,rfl,rfl,hn,hn64,HP,HE⟩:=hrel
  obtain ⟨A,c,hq,hr,hu,hok,hc,hcm,hnn⟩:=HP.out.1
  obtain ⟨c0,c1,f0,f1⟩:=heap_cells hq
  by_cases hx : i < r.rest.length
  ·by_cases hi10 : i < 10
   ·obtain ⟨g,o,rfl,_,hcell⟩:=byte_at hr.rd hx
    have hub:=hu (r.rest[i]) (by simp)
    have HED : Hid (uintGo i n (r.rest[i] :: r.rest.drop (i + 1)) = uintD r.rest):=by unfold Hid; rw [← drop_cons hx]; exact HE.out
    have HW:=Lib.hid (fun D d hD=>RdrM.went (D:=D) (d:=d) (by decide) hq hr hu hok hc hcm hnn (i + 1) (by omega) hD)
    generalize r.rest[i] = b at *
    obtain ⟨hc0,hc1⟩:=hub
    clear hq hr hu hok hnn
    by_cases hA : i = 9 ∧ 1 < b
    ·have HN : Hid (r.uint = (0,5,Rdr.fail)):=by unfold Hid Rdr.uint; rw [← HED.out,uintGo_bad (.inr (.inl hA))]
     obtain ⟨rfl,hA2⟩:=hA
     have HP1:=HP
     go_wp2_with fail
     refine (rfail_any HP1.out.1).mono ?_
     rintro e w2 ⟨rfl,hp⟩
     have HP2:=Lib.hid (HP1.out.trans hp)
     clear hp
     go_wp2
     go_ret2
     exact ⟨by rw [HN.out]; rfl,by rw [HN.out]; exact HP2.out⟩
    ·by_cases h128 : b < 128
     ·by_cases hB : b = 0 ∧ 0 < i
      ·have HN : Hid (r.uint = (0,5,Rdr.fail)):=by unfold Hid Rdr.uint; rw [← HED.out,uintGo_bad (.inr (.inr ⟨h128,hB⟩))]
       obtain ⟨rfl,hB2⟩:=hB
       have HP1:=HP
       by_cases h9 : i = 9
       ·subst h9
        go_wp2_with fail
        refine (rfail_any HP1.out.1).mono ?_
        rintro e w2 ⟨rfl,hp⟩
        have HP2:=Lib.hid (HP1.out.trans hp)
        clear hp
        go_wp2
        go_ret2
        exact ⟨by rw [HN.out]; rfl,by rw [HN.out]; exact HP2.out⟩
       ·have h9' : (↑i == (9 : Int)) = false:=by simp; omega
        go_wp2_with fail
        refine (rfail_any HP1.out.1).mono ?_
        rintro e w2 ⟨rfl,hp⟩
        have HP2:=Lib.hid (HP1.out.trans hp)
        clear hp
        go_wp2
        go_ret2
        exact ⟨by rw [HN.out]; rfl,by rw [HN.out]; exact HP2.out⟩
      ·have hb:=(uint_bnd (by omega) hn hc0 hA).2
       have HN : Hid (r.uint = (n + (b % 128).toNat * 2 ^ (7 * i),0,⟨r.rest.drop (i + 1),r.bad⟩)):=by unfold Hid Rdr.uint; rw [← HED.out,uintGo_end (by omega) hA h128 hB]
       have HV:=Lib.hid (ruint_val (i:=i) hc0 hc1 hb)
       by_cases hcn : c = i + 1
       ·have HWW:=Lib.hid (HW.out (some ⟨g,o,none⟩) 0 (.inl ⟨hcn,rfl,rfl⟩))
        clear HW
        have hcn' : (c : Int) = i + 1:=by omega
        by_cases h9 : i = 9
        ·have h9' : (↑i == (9 : Int)) = true:=by simp; omega
         have hc1 : ¬ (1 < b):=fun h=>hA ⟨h9,h⟩
         have hc' : (b == (0 : Int)) = false:=by have : b ≠ 0:=fun h=>hB ⟨h,by omega⟩; simpa using this
         have hi0 : 0 < (i : Int):=by omega
         clear h9
         go_wp2
         go_ret2
         exact ⟨by rw [HN.out]; simp only; rw [← HV.out]; rfl,by rw [HN.out]; exact HP.out.trans HWW.out⟩
        ·have h9' : (↑i == (9 : Int)) = false:=by simp; omega
         by_cases hi0 : i = 0
         ·have hi0' : ¬ (0 < (i : Int)):=by omega
          clear hi0
          go_wp2
          go_ret2
          exact ⟨by rw [HN.out]; simp only; rw [← HV.out]; rfl,by rw [HN.out]; exact HP.out.trans HWW.out⟩
         ·have hi0' : 0 < (i : Int):=by omega
          have hc' : (b == (0 : Int)) = false:=by have : b ≠ 0:=fun h=>hB ⟨h,by omega⟩; simpa using this
          go_wp2
          go_ret2
          exact ⟨by rw [HN.out]; simp only; rw [← HV.out]; rfl,by rw [HN.out]; exact HP.out.trans HWW.out⟩
       ·have HWW:=Lib.hid (HW.out (some ⟨g,o + (i + 1),none⟩) (c - (i + 1)) (.inr ⟨hcn,by rw [Option.map_some,add_off],rfl⟩))
        clear HW
        have hcn' : ¬ (c : Int) = i + 1:=by omega
        by_cases h9 : i = 9
        ·have h9' : (↑i == (9 : Int)) = true:=by simp; omega
         have hc1 : ¬ (1 < b):=fun h=>hA ⟨h9,h⟩
         have hc' : (b == (0 : Int)) = false:=by have : b ≠ 0:=fun h=>hB ⟨h,by omega⟩; simpa using this
         have hi0 : 0 < (i : Int):=by omega
         clear h9
         go_wp2
         go_ret2
         exact ⟨by rw [HN.out]; simp only; rw [← HV.out]; rfl,by rw [HN.out]; exact HP.out.trans HWW.out⟩
        ·have h9' : (↑i == (9 : Int)) = false:=by simp; omega
         by_cases hi0 : i = 0
         ·have hi0' : ¬ (0 < (i : Int)):=by omega
          clear hi0
          go_wp2
          go_ret2
          exact ⟨by rw [HN.out]; simp only; rw [← HV.out]; rfl,by rw [HN.out]; exact HP.out.trans HWW.out⟩
         ·have hi0' : 0 < (i : Int):=by omega
          have hc' : (b == (0 : Int)) = false:=by have : b ≠ 0:=fun h=>hB ⟨h,by omega⟩; simpa using this
          go_wp2
          go_ret2
          exact ⟨by rw [HN.out]; simp only; rw [← HV.out]; rfl,by rw [HN.out]; exact HP.out.trans HWW.out⟩
     ·have hb:=uint_bnd (by omega) hn hc0 hA
      have HE2:=Lib.hid ((uintGo_on (l:=r.rest.drop (i + 1)) (n:=n) (show ¬ 9 < i by omega) hA h128).symm.trans HED.out)
      have HV:=Lib.hid (ruint_val (i:=i) hc0 hc1 hb.2)
      have h9 : i ≠ 9:=fun h=>hA ⟨h,by omega⟩
      have h9' : (↑i == (9 : Int)) = false:=by simp; omega
      go_wp2
      rw [HV.out]
      go_roundw
      case rel=>exact ⟨i + 1,_,by omega,by omega,by go_num,rfl,hb.1,hb.2,HP,HE2⟩
      case measure=>simp [intOf]; omega
   ·obtain rfl : i = 10:=by omega
    have HN : Hid (r.uint = (0,5,Rdr.fail)):=by unfold Hid Rdr.uint; rw [← HE.out,uintGo_ten]
    have HP1:=HP
    clear hq hr hu hok hnn
    go_wp2_with fail
    refine (rfail_any HP1.out.1).mono ?_
    rintro e w2 ⟨rfl,hp⟩
    have HP2:=Lib.hid (HP1.out.trans hp)
    clear hp
    go_wp2
    go_ret2
    exact ⟨by rw [HN.out]; rfl,by rw [HN.out]; exact HP2.out⟩
  ·have HN : Hid (r.uint = (0,5,Rdr.fail)):=by unfold Hid Rdr.uint; rw [← HE.out,List.drop_eq_nil_of_le (by omega),uintGo_nil]
   have HP1:=HP
   clear hq hr hu hok hnn
   go_wp2_with fail
   refine (rfail_any HP1.out.1).mono ?_
   rintro e w2 ⟨rfl,hp⟩
   have HP2:=Lib.hid (HP1.out.trans hp)
   clear hp
   go_wp2
   go_ret2
   exact ⟨by rw [HN.out]; rfl,by rw [HN.out]; exact HP2.out⟩
end Go.Proofs.YtaggiceejcegdaaGreat
namespace Go.Proofs.YtaggiceejcegdaaGreat
set_option linter.unusedVariables false
open Go.RowKit
theorem i64_xor_m1 (x : Nat) (hx : x < 9223372036854775808) : bits BinOp.xor IntKind.i64 (x : Int) (-1) = -(x : Int) - 1:=by
 rw [← Lib.i64_not x hx]
 show IntKind.i64.wrap ((BitVec.ofInt 64 (x : Int) ^^^ BitVec.ofInt 64 (-1)).toNat : Int) = IntKind.i64.wrap ((BitVec.ofInt 64 (-1) ^^^ BitVec.ofInt 64 (x : Int)).toNat : Int)
 rw [BitVec.xor_comm]
theorem i64_xor_0 (x : Nat) (hx : x < 9223372036854775808) : bits BinOp.xor IntKind.i64 (x : Int) 0 = (x : Int):=by
 show IntKind.i64.wrap ((BitVec.ofInt 64 (x : Int) ^^^ BitVec.ofInt 64 0).toNat : Int) = _
 have h2 : (BitVec.ofInt 64 (x : Int)).toNat = x:=by
  rw [BitVec.ofInt_natCast,BitVec.toNat_ofNat]; exact Nat.mod_eq_of_lt (by omega)
 have h0 : (BitVec.ofInt 64 0).toNat = 0:=by decide
 rw [BitVec.toNat_xor,h2,h0,Nat.xor_zero,IntKind.wrap_i64]
 omega
theorem zag_code {n : Nat} (hn : n < 2 ^ 64) : bits BinOp.xor IntKind.i64 ((n : Int) / 2) (wrap64 (-wrap64 (bits BinOp.and IntKind.u64 (n : Int) 1))) = zagN n:=by
 have e : (n : Int) / 2 = ((n / 2 : Nat) : Int):=by omega
 rw [Lib.u64_and1 _ (by omega) (by omega),e]
 unfold zagN
 by_cases h : n % 2 = 0
 ·rw [if_pos h,show (n : Int) % 2 = 0 by omega,show wrap64 (-wrap64 0) = 0 by unfold wrap64; omega,i64_xor_0 _ (by omega)]
 ·rw [if_neg h,show (n : Int) % 2 = 1 by omega,show wrap64 (-wrap64 1) = -1 by unfold wrap64; omega,i64_xor_m1 _ (by omega)]
def qRNewPost (ty : TypeId) (w : World) (xs : List Int) (e : Ending) (w' : World) : Prop:=∃ q,e = .returned (.pointer (some ⟨q,0,none⟩)) ∧ w.heap.size ≤ q ∧ RdrM ty w' q ⟨xs,false⟩ ∧ Below w.heap.size w w'
theorem own_cap0 {w : World} {base : Nat} {e : TypeId} {size n c : Nat} {A : Option Addr} {xs : List Value} (h : w.ownsRow base e size (.slice A n c) n xs) : n ≤ c ∧ c ≤ maxLen ∧ (A = none → c = 0):=by
 rcases h.2 with ⟨h1,h0⟩ | ⟨g,cap,cur,hv,hb,hg,hc,hm,_⟩
 ·injection h1 with h1 h2 h3; subst h3; subst h0; exact ⟨Nat.le_refl _,Nat.zero_le _,fun _=>rfl⟩
 ·injection hv with h1 h2 h3; subst h3; exact ⟨hc,hm,fun h=>by rw [h] at h1; cases h1⟩
theorem rdr_new {ty : TypeId} {w w1 : World} {A : Option Addr} {c : Nat} {xs : List Int} (hu : U8s xs) (ho : w1.ownsRow w.heap.size 5 1 (.slice A xs.length c) xs.length (xs.map (Value.int .u8))) (hb : Below w.heap.size w w1) :
  qRNewPost ty w xs (.returned (.pointer (some ⟨w1.heap.size,0,none⟩))) (w1.alloc (.cells #[.slice A xs.length c,.bool false] ty)):=by
 obtain ⟨h1,h2,h3⟩:=own_cap0 ho
 have hb2:=hb.alloc hb.size (.cells #[.slice A xs.length c,.bool false] ty)
 have hb1 : Below w1.heap.size w1 (w1.alloc (.cells #[.slice A xs.length c,.bool false] ty)):=(Below.refl _ _).alloc (Nat.le_refl _) _
 refine ⟨_,rfl,hb.size,⟨A,c,heap_alloc_new _ _,(RdT.of_own ho).below0 hb1,hu,(fun h=>by cases h),h1,?_,h3⟩,hb2⟩
 unfold maxLen at h2; omega
theorem uint_fst {ty : TypeId} {w : World} {q : Nat} {r : Rdr} (h : RdrM ty w q r) : r.uint.1 < 2 ^ 64 ∧ (r.uint.2.1 = 0 ∨ (r.uint.2.1 = 5 ∧ r.uint.1 = 0)):=by
 obtain ⟨_,_,_,_,hu,_⟩:=h
 unfold Rdr.uint
 split
 ·rename_i n l h
  exact ⟨(uintD_lt hu h).1,.inl rfl⟩
 ·exact ⟨by decide,.inr ⟨rfl,rfl⟩⟩
set_option maxRecDepth 100000 in
set_option maxHeartbeats 1000000 in
theorem rnew_any (xs : List Int) (hu : U8s xs) (A : Option Addr) (c : Nat) (w : World) (hr : Rd w w.heap.size A (xs.map (Value.int .u8))) (hx : xs.length ≤ 900000) :
  Calls Tryz.prog 155 #[.slice A xs.length c] w (qRNewPost 239 w xs):=by
 obtain ⟨i0,hi,hz0,hz1,hz2⟩:=info_parts qinfo_u8
 cases A with
 | none=>
   have hx:=hr.qat_none
   obtain rfl : xs = []:=by cases xs; rfl; simp at hx
   have hro:=World.ownsRow_lit (base:=w.heap.size) (e:=5) (size:=1) w #[] 0 (Nat.le_refl _) (by decide) rfl
   have hn:=rdr_new (ty:=239) (A:=some ⟨w.heap.size,0,none⟩) (c:=0) hu hro ((Below.refl _ _).alloc (Nat.le_refl _) _)
   simp only [List.length_nil,World.size_alloc] at hn
   have HN:=Lib.hid hn
   clear hr hx hro hn
   go_enter Tryz.func155,Tryz.ntmps155
   go_wp2
   go_ret
   exact HN.out
 | some a=>
   have hro:=World.ownsRow_lit (base:=w.heap.size) (e:=5) (size:=1) w #[] 0 (Nat.le_refl _) (by decide) rfl
   have hla:=hr.alloc (Nat.le_refl _) (.cells #[] 5)
   go_enter Tryz.func155,Tryz.ntmps155
   go_wp2_with (at_builtin; refine wpList_append_own _ rfl _ _ 26 rfl w.heap.size 5 i0 _ 1 1 Tryz.underlying26 hi hz0 hz1 hz2 rfl (by decide) _ 0 [] rfl hro a xs.length c (xs.map (Value.int .u8)) rfl (by simp) hla.qat_add (qbytes_one xs) ?c1 ?c2 ?c3 ?_)
   case c1=>unfold maxLen; omega
   case c2=>omega
   intro v' w' hown hgrow hiff
   try simp only [Nat.zero_add,List.nil_append] at hown
   obtain ⟨A',c',hv⟩:=own_form hown
   subst hv
   have hbl : Below w.heap.size w w':=((Below.refl _ _).alloc (Nat.le_refl _) _).grown hgrow (by simp) (fun k hk=>by simp [Value.ownBlock] at hk; omega)
   have HN:=Lib.hid (rdr_new (ty:=239) hu hown hbl)
   clear hr hro hla hown hgrow hiff
   go_wp2
   go_ret
   exact HN.out
theorem rdone_any {w : World} {q : Nat} {r : Rdr} (hlen : r.rest.length ≤ 1000000) (h : RdrM 239 w q r) : Calls Tryz.prog 158 #[.pointer (some ⟨q,0,none⟩)] w (fun e w'=>e = .returned (.int .i64 r.done) ∧ w' = w):=by
 obtain ⟨A,c,hq,hr,hu,hok,hc,hcm,hnn⟩:=h
 obtain ⟨c0,c1,f0,f1⟩:=heap_cells hq
 clear hq hr hu
 by_cases hb : r.bad = true
 ·have HD : Hid (r.done = 5):=by unfold Hid Rdr.done; rw [if_pos (.inl hb)]
  rw [hb] at c1
  clear hok hb
  go_enter Tryz.func158,Tryz.ntmps158
  go_wp2
  go_ret
  exact ⟨by rw [HD.out]; rfl,rfl⟩
 ·have hbf : r.bad = false:=by simpa using hb
  rw [hbf] at c1
  by_cases hl : 0 < r.rest.length
  ·have HD : Hid (r.done = 5):=by unfold Hid Rdr.done; rw [if_pos (.inr hl)]
   clear hok hb hbf
   go_enter Tryz.func158,Tryz.ntmps158
   go_wp2
   go_ret
   exact ⟨by rw [HD.out]; rfl,rfl⟩
  ·have HD : Hid (r.done = 0):=by unfold Hid Rdr.done; rw [if_neg (by rintro (h | h); exact hb h; exact hl h)]
   have hl0 : r.rest.length = 0:=by omega
   clear hok hb hbf
   go_enter Tryz.func158,Tryz.ntmps158
   go_wp2
   go_ret
   exact ⟨by rw [HD.out]; rfl,rfl⟩
set_option maxRecDepth 100000 in
set_option maxHeartbeats 1000000 in
theorem rint_any {w : World} {q : Nat} {r : Rdr} (hlen : r.rest.length ≤ 1000000) (h : RdrM 239 w q r) : Calls Tryz.prog 161 #[.pointer (some ⟨q,0,none⟩)] w (fun e w'=>e = .returned (.tuple #[.int .i64 (zagN r.uint.1),.int .i64 r.uint.2.1]) ∧ RdrPost 239 w q r.uint.2.2 w'):=by
 have hc:=ruint_any hlen h
 unfold UintPost at hc
 obtain ⟨hn64,he⟩:=uint_fst h
 clear h
 generalize r.uint.2.2 = r2 at *
 generalize r.uint.1 = n at *
 generalize r.uint.2.1 = er at *
 have HC:=Lib.hid hc
 have HZ:=Lib.hid (zag_code hn64)
 have HG : Hid (zagN n = if n % 2 = 0 then ((n / 2 : Nat) : Int) else -((n / 2 : Nat) : Int) - 1):=rfl
 have hdv : (n : Int) / 2 = ((n / 2 : Nat) : Int):=by omega
 have HDV:=Lib.hid hdv
 clear hc hdv
 rcases he with rfl | ⟨rfl,rfl⟩
 ·by_cases hm : n % 2 = 0
  ·have HG2:=HG.out
   rw [if_pos hm,← HDV.out] at HG2
   have HG3:=Lib.hid HG2
   have hm' : (n : Int) % 2 = 0:=by omega
   clear HG2 hm
   go_enter Tryz.func161,Tryz.ntmps161
   go_wp2_with fail
   refine HC.out.mono ?_
   rintro e w1 ⟨rfl,hp⟩
   have HP:=Lib.hid hp
   clear hp
   go_wp2
   go_ret2
   exact ⟨by first | (rw [← HZ.out]; rfl) | (rw [HG3.out]; rfl),HP.out⟩
  ·have HG2:=HG.out
   rw [if_neg hm,← HDV.out] at HG2
   have HG3:=Lib.hid HG2
   have hm' : ¬ (n : Int) % 2 = 0:=by omega
   clear HG2 hm
   go_enter Tryz.func161,Tryz.ntmps161
   go_wp2_with fail
   refine HC.out.mono ?_
   rintro e w1 ⟨rfl,hp⟩
   have HP:=Lib.hid hp
   clear hp
   go_wp2
   go_ret2
   exact ⟨by first | (rw [← HZ.out]; rfl) | (rw [HG3.out]; rfl),HP.out⟩
 ·go_enter Tryz.func161,Tryz.ntmps161
  go_wp2_with fail
  refine HC.out.mono ?_
  rintro e w1 ⟨rfl,hp⟩
  have HP:=Lib.hid hp
  clear hp
  go_wp2
  go_ret2
  exact ⟨by first | (rw [← HZ.out]; rfl) | rfl,HP.out⟩
theorem uint_bad {ty : TypeId} {w : World} {q : Nat} {r : Rdr} (h : RdrM ty w q r) (he : r.uint.2.1 = 0) : r.uint.2.2.bad = false:=by
 obtain ⟨_,_,_,_,hu,hok,_⟩:=h
 unfold Rdr.uint at he ⊢
 split at he
 ·rename_i n l h
  simp only
  cases hb : r.bad with
  | false=>rfl
  | true=>have:=hok hb; rw [this] at h; unfold uintD uintGo at h; cases h
 ·cases he
end Go.Proofs.YtaggiceejcegdaaGreat
