/-
  WHAT IS SHOWN: what AppendInt, AppendBytes and AppendBlock of codec and of tegularef09 return. Conditions: the bytes can be read.
-/
import Derived.Test.YtndifkjenjfjpaaRec2
import Derived.Lib.Zigzag
import Derived.Deep.RegionLaw
namespace Go.Proofs.Ytndifkjenjfjpaa
set_option linter.unusedVariables false
open Go.RowKit

theorem zigN_code {n : Int} (h0 : -9223372036854775808 ≤ n) (h1 : n ≤ 9223372036854775807) :
    bits BinOp.xor IntKind.u64 (IntKind.u64.wrap (IntKind.u64.wrap n * 2)) (IntKind.u64.wrap (n / 9223372036854775808)) = ((zigN n : Nat) : Int) := by
  by_cases hn : 0 ≤ n
  · have e2 : n / 9223372036854775808 = 0 := by omega
    have e1 : IntKind.u64.wrap (IntKind.u64.wrap n * 2) = (((2 * n).toNat : Nat) : Int) := by
      rw [IntKind.wrap_u64, IntKind.wrap_u64]; omega
    have e3 : IntKind.u64.wrap 0 = ((0 : Nat) : Int) := by decide
    rw [e1, e2, e3, bits_xor_u64_nat _ _ (by omega) (by decide), Nat.xor_zero]
    unfold zigN
    rw [if_pos hn]
  · have e2 : n / 9223372036854775808 = -1 := by omega
    have e1 : IntKind.u64.wrap (IntKind.u64.wrap n * 2) = (((2 * n + 18446744073709551616).toNat : Nat) : Int) := by
      rw [IntKind.wrap_u64, IntKind.wrap_u64]; omega
    have e3 : IntKind.u64.wrap (-1) = ((2 ^ 64 - 1 : Nat) : Int) := by decide
    rw [e1, e2, e3, bits_xor_u64_nat _ _ (by omega) (by decide), Nat.xor_comm, Lib.xor_ones64 _ (by omega)]
    unfold zigN
    rw [if_neg hn]
    omega
theorem zigN_lt {n : Int} (h0 : -9223372036854775808 ≤ n) (h1 : n ≤ 9223372036854775807) : zigN n < 2 ^ 64 := by
  unfold zigN; split <;> omega
theorem step_append_own {P : Program} {w : World} {ops : Array Oper} {o : Oper} {a : Act} {K : Act → World → Prop} {Q : Exit → Act → World → Prop} {E : Prop} (hgd : o.guard = none) (s x : Operand) (t : TypeId)
    (ho : o.op = .call { callee := .builtin .append, args := #[s, x], argTypes := #[t, t] })
    (base : Nat) (e : TypeId) (i : TypeInfo) (z : Value) (size bytes : Nat) (ht : P.underlying t = some (.slice e)) (hi : P.info? e = some i) (hz : i.zero = some z)
    (hsize : i.size = size) (hby : i.bytes = bytes) (hzs : z.cells.size = size) (hsz : 0 < size)
    (v : Value) (n : Nat) (xs : List Value) (hs : a.eval s = v) (hown : w.ownsRow base e size v n xs)
    (ad : Addr) (m c : Nat) (news : List Value) (hx : a.eval x = .slice (some ad) m c) (hl : news.length = m * size) (hnews : ∀ j u, news[j]? = some u → w.cell? (ad.add j) = some u) (h1 : ∀ u ∈ news, u.oneCell' = true)
    (h63 : n + m ≤ maxLen) (hbytes : (n + m) * bytes ≤ 140737488355328) (hbase : base ≤ w.heap.size)
    (h : ∀ v' w', w'.ownsRow base e size v' (n + m) (xs ++ news) → w.grownBy w' v.ownBlock → (v' = .slice none 0 0 ↔ v = .slice none 0 0 ∧ m = 0) → K (a.put o.dst v') w') :
    if Region.wanted o (yielded ops a.tmps) = true then Oper.wp P o a w K Q else E := by
  have hw : Region.wanted o (yielded ops a.tmps) = true := by simp [Region.wanted, hgd]
  rw [if_pos hw]
  exact wp_append_own w s x t ho base e i z size bytes ht hi hz hsize hby hzs hsz v n xs hs hown ad m c news hx hl hnews h1 h63 hbytes hbase h
theorem own_cap {w : World} {base : Nat} {e : TypeId} {size : Nat} {v : Value} {n : Nat} {xs : List Value} (h : w.ownsRow base e size v n xs) (hn : 0 < n) : ∃ g cap, v = .slice (some ⟨g, 0, none⟩) n cap ∧ n ≤ cap := by
  rcases h.2 with ⟨_, h0⟩ | ⟨g, cap, cur, hv, hb, hg, hc, _⟩
  · omega
  · exact ⟨g, cap, hv, hc⟩
theorem NewO.mono {w w1 : World} {xs : List Int} {e : Ending} {w' : World} (hb : Below w.heap.size w w1) (h : NewO w1 xs e w') : NewO w xs e w' := by
  obtain ⟨A, c, he, ho, hbl⟩ := h
  exact ⟨A, c, he, ⟨ho.1, ho.2.imp id (fun ⟨g, cap, cur, h1, h2, h3⟩ => ⟨g, cap, cur, h1, Nat.le_trans hb.size h2, h3⟩)⟩, hb.trans (hbl.mono hb.size)⟩
set_option maxRecDepth 100000 in
set_option maxHeartbeats 1000000 in
theorem appint_any (n : Int) (h0 : -9223372036854775808 ≤ n) (h1 : n ≤ 9223372036854775807) (xs : List Int) (A : Option Addr) (c : Nat) (w : World) (hr : Rd w w.heap.size A (xs.map (Value.int .u8))) (hx : xs.length ≤ 900000) :
    Calls Try.prog 79 #[.slice A xs.length c, .int .i64 n] w (NewO w (xs ++ uintB (zigN n))) := by
  have hc0 := appuint_any (zigN n) (zigN_lt h0 h1) xs A c w hr hx
  generalize xs ++ uintB (zigN n) = zs at *
  have HC := Lib.hid hc0
  clear hc0 hr
  have HE := Lib.hid (zigN_code h0 h1)
  go_enter Try.func79, Try.ntmps79
  go_wp2_with fail
  rw [HE.out]
  refine HC.out.mono ?_
  rintro e w1 ⟨A1, c1, rfl, ho1, hb1⟩
  go_wp2
  go_ret
  exact ⟨A1, c1, rfl, ho1, hb1⟩
set_option maxRecDepth 100000 in
set_option maxHeartbeats 1000000 in
theorem rappint_any (n : Int) (h0 : -9223372036854775808 ≤ n) (h1 : n ≤ 9223372036854775807) (xs : List Int) (A : Option Addr) (c : Nat) (w : World) (hr : Rd w w.heap.size A (xs.map (Value.int .u8))) (hx : xs.length ≤ 900000) :
    Calls Try.prog 75 #[.slice A xs.length c, .int .i64 n] w (NewO w (xs ++ uintB (zigN n))) := by
  have hc0 := rappuint_any (zigN n) (zigN_lt h0 h1) xs A c w hr hx
  generalize xs ++ uintB (zigN n) = zs at *
  have HC := Lib.hid hc0
  clear hc0 hr
  by_cases hn : 0 ≤ n
  · have HE : Hid ((2 * n : Int) = ((zigN n : Nat) : Int)) := by unfold Hid zigN; rw [if_pos hn]; omega
    go_enter Try.func75, Try.ntmps75
    go_wp2_with fail
    rw [HE.out]
    refine HC.out.mono ?_
    rintro e w1 ⟨A1, c1, rfl, ho1, hb1⟩
    go_wp2
    go_ret
    exact ⟨A1, c1, rfl, ho1, hb1⟩
  · have HE : Hid ((2 * -(n + 1) + 1 : Int) = ((zigN n : Nat) : Int)) := by unfold Hid zigN; rw [if_neg hn]; omega
    go_enter Try.func75, Try.ntmps75
    go_wp2_with fail
    rw [HE.out]
    refine HC.out.mono ?_
    rintro e w1 ⟨A1, c1, rfl, ho1, hb1⟩
    go_wp2
    go_ret
    exact ⟨A1, c1, rfl, ho1, hb1⟩
set_option maxRecDepth 100000 in
set_option maxHeartbeats 1000000 in
theorem appbytes_any (xs ys : List Int) (A D : Option Addr) (c d : Nat) (w : World) (hr : Rd w w.heap.size A (xs.map (Value.int .u8))) (hx : xs.length ≤ 900000) (hs : Rd w w.heap.size D (ys.map (Value.int .u8))) (hy : ys.length ≤ 900000) :
    Calls Try.prog 53 #[.slice A xs.length c, .slice D ys.length d] w (NewO w (xs ++ uintB ys.length ++ ys)) := by
  obtain ⟨i0, hi, hz0, hz1, hz2⟩ := info_parts info_u8
  have hc0 := appuint_any ys.length (by omega) xs A c w hr hx
  have hlen : (xs ++ uintB ys.length).length ≤ 900010 := by have := uintB_len ys.length; simp; omega
  have hpos : 0 < (xs ++ uintB ys.length).length := by
    have : 0 < (uintB ys.length).length := uintB_pos _
    simp; omega
  generalize xs ++ uintB ys.length = us at *
  have hu : us.length + ys.length = (us ++ ys).length := by simp
  have hm2 : us.map (Value.int .u8) ++ ys.map (Value.int .u8) = (us ++ ys).map (Value.int .u8) := by simp
  generalize hzs : us ++ ys = zs at *
  have HU := Lib.hid hu
  have HM := Lib.hid hm2
  have HZ := Lib.hid hzs
  have HC := Lib.hid hc0
  have HS := Lib.hid hs
  have HP := Lib.hid hpos
  clear hr hs hu hm2 hzs hc0 hpos
  cases D with
  | none =>
    have hx0 := HS.out.at_none
    obtain rfl : ys = [] := by cases ys; rfl; simp at hx0
    clear hx0
    go_enter Try.func53, Try.ntmps53
    go_wp2_with fail
    refine HC.out.mono ?_
    rintro e w1 ⟨A1, c1, rfl, ho1, hb1⟩
    obtain ⟨g, cp, hv, hcp⟩ := own_cap ho1 HP.out
    injection hv with hv1 hv2 hv3
    subst hv1
    subst hv3
    have HO1 := Lib.hid ho1
    clear ho1
    go_wp2
    go_ret
    have e : us = zs := by rw [← HZ.out]; simp
    subst e
    exact ⟨_, _, rfl, HO1.out, hb1⟩
  | some d0 =>
    go_enter Try.func53, Try.ntmps53
    go_wp2_with fail
    refine HC.out.mono ?_
    rintro e w1 ⟨A1, c1, rfl, ho1, hb1⟩
    have HO1 := Lib.hid ho1
    have HS1 := Lib.hid ((HS.out.below hb1 (Nat.le_refl _)).at_add)
    have hz := hb1.size
    clear ho1
    go_wp2_with (at_builtin; refine wpList_append_own _ rfl _ _ 25 rfl w.heap.size 5 i0 _ 1 1 Try.underlying25 hi hz0 hz1 hz2 rfl (by decide) _ _ _ rfl HO1.out d0 ys.length d (ys.map (Value.int .u8)) rfl (by simp) HS1.out (bytes_one ys) ?a1 ?a2 ?a3 ?_)
    case a1 => unfold maxLen; omega
    case a2 => omega
    case a3 => exact hz
    intro v' w' hown hgrow hiff
    obtain ⟨A', c', hv⟩ := own_form hown
    subst hv
    have hbl : Below w.heap.size w w' := hb1.grown hgrow hz (fun k hk => own_low HO1.out hk)
    have HOW : Hid (w'.ownsRow w.heap.size 5 1 (.slice A' zs.length c') zs.length (zs.map (Value.int .u8))) := by
      unfold Hid; rw [← HU.out, ← HM.out]; exact hown
    clear hown hgrow hiff
    go_wp2
    go_ret
    exact ⟨A', c', by rw [← HU.out]; rfl, HOW.out, hbl⟩
set_option maxRecDepth 100000 in
set_option maxHeartbeats 1000000 in
theorem rappbytes_any (xs ys : List Int) (A D : Option Addr) (c d : Nat) (w : World) (hr : Rd w w.heap.size A (xs.map (Value.int .u8))) (hx : xs.length ≤ 900000) (hs : Rd w w.heap.size D (ys.map (Value.int .u8))) (hy : ys.length ≤ 900000) :
    Calls Try.prog 73 #[.slice A xs.length c, .slice D ys.length d] w (NewO w (xs ++ uintB ys.length ++ ys)) := by
  obtain ⟨i0, hi, hz0, hz1, hz2⟩ := info_parts info_u8
  have hc0 := rappuint_any ys.length (by omega) xs A c w hr hx
  have hlen : (xs ++ uintB ys.length).length ≤ 900010 := by have := uintB_len ys.length; simp; omega
  have hpos : 0 < (xs ++ uintB ys.length).length := by
    have : 0 < (uintB ys.length).length := uintB_pos _
    simp; omega
  generalize xs ++ uintB ys.length = us at *
  have hu : us.length + ys.length = (us ++ ys).length := by simp
  have hm2 : us.map (Value.int .u8) ++ ys.map (Value.int .u8) = (us ++ ys).map (Value.int .u8) := by simp
  generalize hzs : us ++ ys = zs at *
  have HU := Lib.hid hu
  have HM := Lib.hid hm2
  have HZ := Lib.hid hzs
  have HC := Lib.hid hc0
  have HS := Lib.hid hs
  have HP := Lib.hid hpos
  clear hr hs hu hm2 hzs hc0 hpos
  cases D with
  | none =>
    have hx0 := HS.out.at_none
    obtain rfl : ys = [] := by cases ys; rfl; simp at hx0
    clear hx0
    go_enter Try.func73, Try.ntmps73
    go_wp2_with fail
    refine HC.out.mono ?_
    rintro e w1 ⟨A1, c1, rfl, ho1, hb1⟩
    obtain ⟨g, cp, hv, hcp⟩ := own_cap ho1 HP.out
    injection hv with hv1 hv2 hv3
    subst hv1
    subst hv3
    have HO1 := Lib.hid ho1
    clear ho1
    go_wp2
    go_ret
    have e : us = zs := by rw [← HZ.out]; simp
    subst e
    exact ⟨_, _, rfl, HO1.out, hb1⟩
  | some d0 =>
    go_enter Try.func73, Try.ntmps73
    go_wp2_with fail
    refine HC.out.mono ?_
    rintro e w1 ⟨A1, c1, rfl, ho1, hb1⟩
    have HO1 := Lib.hid ho1
    have HS1 := Lib.hid ((HS.out.below hb1 (Nat.le_refl _)).at_add)
    have hz := hb1.size
    clear ho1
    go_wp2_with (at_builtin; refine wpList_append_own _ rfl _ _ 25 rfl w.heap.size 5 i0 _ 1 1 Try.underlying25 hi hz0 hz1 hz2 rfl (by decide) _ _ _ rfl HO1.out d0 ys.length d (ys.map (Value.int .u8)) rfl (by simp) HS1.out (bytes_one ys) ?a1 ?a2 ?a3 ?_)
    case a1 => unfold maxLen; omega
    case a2 => omega
    case a3 => exact hz
    intro v' w' hown hgrow hiff
    obtain ⟨A', c', hv⟩ := own_form hown
    subst hv
    have hbl : Below w.heap.size w w' := hb1.grown hgrow hz (fun k hk => own_low HO1.out hk)
    have HOW : Hid (w'.ownsRow w.heap.size 5 1 (.slice A' zs.length c') zs.length (zs.map (Value.int .u8))) := by
      unfold Hid; rw [← HU.out, ← HM.out]; exact hown
    clear hown hgrow hiff
    go_wp2
    go_ret
    exact ⟨A', c', by rw [← HU.out]; rfl, HOW.out, hbl⟩
set_option maxRecDepth 100000 in
set_option maxHeartbeats 1000000 in
theorem appblk_any (b0 b1 b2 b3 b4 b5 b6 b7 : Int) (xs : List Int) (A : Option Addr) (c : Nat) (w : World) (hr : Rd w w.heap.size A (xs.map (Value.int .u8))) (hx : xs.length ≤ 900000) :
    Calls Try.prog 78 #[.slice A xs.length c, .agg #[.int .u8 b0, .int .u8 b1, .int .u8 b2, .int .u8 b3, .int .u8 b4, .int .u8 b5, .int .u8 b6, .int .u8 b7]] w (NewO w (xs ++ [b0, b1, b2, b3, b4, b5, b6, b7])) := by
  obtain ⟨i0, hi, hz0, hz1, hz2⟩ := info_parts info_u8
  have hu : xs.length + 8 = (xs ++ [b0, b1, b2, b3, b4, b5, b6, b7]).length := by simp
  have hm2 : xs.map (Value.int .u8) ++ [.int .u8 b0, .int .u8 b1, .int .u8 b2, .int .u8 b3, .int .u8 b4, .int .u8 b5, .int .u8 b6, .int .u8 b7] = (xs ++ [b0, b1, b2, b3, b4, b5, b6, b7]).map (Value.int .u8) := by simp
  generalize xs ++ [b0, b1, b2, b3, b4, b5, b6, b7] = zs at *
  have HU := Lib.hid hu
  have HM := Lib.hid hm2
  have hb0 : Below w.heap.size w (w.alloc (.cells #[.int .u8 b0, .int .u8 b1, .int .u8 b2, .int .u8 b3, .int .u8 b4, .int .u8 b5, .int .u8 b6, .int .u8 b7] 75)).drew := ((Below.refl _ _).alloc (Nat.le_refl _) _).drew
  have HN := Lib.hid (World.news_of_block (heap_alloc_new w (.cells #[.int .u8 b0, .int .u8 b1, .int .u8 b2, .int .u8 b3, .int .u8 b4, .int .u8 b5, .int .u8 b6, .int .u8 b7] 75)))
  have HC := Lib.hid (cloneo_any xs A c _ ((hr.below hb0 (Nat.le_refl _)).more hb0.size) (by omega))
  have H8 : Hid (∀ u ∈ ([.int .u8 b0, .int .u8 b1, .int .u8 b2, .int .u8 b3, .int .u8 b4, .int .u8 b5, .int .u8 b6, .int .u8 b7] : List Value), u.oneCell' = true) := by
    unfold Hid; intro u hu; simp at hu; rcases hu with rfl | rfl | rfl | rfl | rfl | rfl | rfl | rfl <;> rfl
  clear hr hu hm2
  go_enter Try.func78, Try.ntmps78
  go_wp2_with fail
  go_region_law (first
    | (refine step_append_own rfl _ _ 25 rfl w.heap.size 5 i0 _ 1 1 Try.underlying25 hi hz0 hz1 hz2 rfl (by decide) _ _ _ rfl HO1.out ⟨w.heap.size, 0, none⟩ 8 8 [.int .u8 b0, .int .u8 b1, .int .u8 b2, .int .u8 b3, .int .u8 b4, .int .u8 b5, .int .u8 b6, .int .u8 b7] rfl rfl HN1.out H8.out (by unfold maxLen; omega) (by omega) hz ?_
       intro v' w' hown hgrow hiff
       obtain ⟨A', c', hv⟩ := own_form hown
       subst hv
       have hbl : Below w.heap.size w w' := hb2.grown hgrow hz (fun k hk => own_low HO1.out hk)
       have HOW : Hid (w'.ownsRow w.heap.size 5 1 (.slice A' zs.length c') zs.length (zs.map (Value.int .u8))) := by
         unfold Hid; rw [← HU.out, ← HM.out]; exact hown
       clear hown hgrow hiff)
    | (go_simp
       go_at_call 58
       refine HC.out.mono ?_
       rintro e w1 ⟨A1, c1, rfl, ho1, hb1⟩
       have hb2 := hb0.trans (hb1.mono hb0.size)
       have hz := hb2.size
       have HO1 : Hid (w1.ownsRow w.heap.size 5 1 (.slice A1 xs.length c1) xs.length (xs.map (Value.int .u8))) := own_mono ho1 hb0.size
       have HN1 : Hid (∀ j u, ([.int .u8 b0, .int .u8 b1, .int .u8 b2, .int .u8 b3, .int .u8 b4, .int .u8 b5, .int .u8 b6, .int .u8 b7] : List Value)[j]? = some u → w1.cell? (Addr.add ⟨w.heap.size, 0, none⟩ j) = some u) := by
         unfold Hid; intro j u hu; have h := HN.out j u hu; rw [add_off] at h ⊢; exact (hb1.cell (p := ⟨w.heap.size, 0 + j, none⟩) (by simp)).trans h
       clear ho1))
  all_goals (go_wp2; go_ret; exact ⟨A', c', by rw [← HU.out]; rfl, HOW.out, hbl⟩)
set_option maxRecDepth 100000 in
set_option maxHeartbeats 1000000 in
theorem rappblk_any (b0 b1 b2 b3 b4 b5 b6 b7 : Int) (xs : List Int) (A : Option Addr) (c : Nat) (w : World) (hr : Rd w w.heap.size A (xs.map (Value.int .u8))) (hx : xs.length ≤ 900000) :
    Calls Try.prog 74 #[.slice A xs.length c, .agg #[.int .u8 b0, .int .u8 b1, .int .u8 b2, .int .u8 b3, .int .u8 b4, .int .u8 b5, .int .u8 b6, .int .u8 b7]] w (NewO w (xs ++ [b0, b1, b2, b3, b4, b5, b6, b7])) := by
  obtain ⟨i0, hi, hz0, hz1, hz2⟩ := info_parts info_u8
  have hu : xs.length + 8 = (xs ++ [b0, b1, b2, b3, b4, b5, b6, b7]).length := by simp
  have hm2 : xs.map (Value.int .u8) ++ [.int .u8 b0, .int .u8 b1, .int .u8 b2, .int .u8 b3, .int .u8 b4, .int .u8 b5, .int .u8 b6, .int .u8 b7] = (xs ++ [b0, b1, b2, b3, b4, b5, b6, b7]).map (Value.int .u8) := by simp
  have hzs : xs ++ [b0, b1, b2, b3, b4, b5, b6, b7] = xs ++ [b0, b1, b2, b3, b4, b5, b6, b7] := rfl
  generalize hz : xs ++ [b0, b1, b2, b3, b4, b5, b6, b7] = zs at *
  have HU := Lib.hid hu
  have HM := Lib.hid hm2
  have HB0 : Hid (Below w.heap.size w (w.alloc (.cells #[.int .u8 b0, .int .u8 b1, .int .u8 b2, .int .u8 b3, .int .u8 b4, .int .u8 b5, .int .u8 b6, .int .u8 b7] 75)).drew) := ((Below.refl _ _).alloc (Nat.le_refl _) _).drew
  have HN := Lib.hid (World.news_of_block (heap_alloc_new w (.cells #[.int .u8 b0, .int .u8 b1, .int .u8 b2, .int .u8 b3, .int .u8 b4, .int .u8 b5, .int .u8 b6, .int .u8 b7] 75)))
  have H8 : Hid (∀ u ∈ ([.int .u8 b0, .int .u8 b1, .int .u8 b2, .int .u8 b3, .int .u8 b4, .int .u8 b5, .int .u8 b6, .int .u8 b7] : List Value), u.oneCell' = true) := by
    unfold Hid; intro u hu; simp at hu; rcases hu with rfl | rfl | rfl | rfl | rfl | rfl | rfl | rfl <;> rfl
  have HB1 : Hid (Below w.heap.size w ((w.alloc (.cells #[.int .u8 b0, .int .u8 b1, .int .u8 b2, .int .u8 b3, .int .u8 b4, .int .u8 b5, .int .u8 b6, .int .u8 b7] 75)).alloc (.cells #[] 5)).drew) := (((Below.refl _ _).alloc (Nat.le_refl _) _).alloc (by simp) _).drew
  have HRO : Hid (((w.alloc (.cells #[.int .u8 b0, .int .u8 b1, .int .u8 b2, .int .u8 b3, .int .u8 b4, .int .u8 b5, .int .u8 b6, .int .u8 b7] 75)).alloc (.cells #[] 5)).drew.ownsRow w.heap.size 5 1 (.slice (some ⟨w.heap.size + 1, 0, none⟩) 0 0) 0 []) := by
    have h := World.ownsRow_lit (base := w.heap.size) (e := 5) (size := 1) (w.alloc (.cells #[.int .u8 b0, .int .u8 b1, .int .u8 b2, .int .u8 b3, .int .u8 b4, .int .u8 b5, .int .u8 b6, .int .u8 b7] 75)) #[] 0 (by simp) (by decide) rfl
    rw [World.size_alloc] at h; exact h
  have HS := Lib.hid hr
  clear hr hu hm2
  cases A with
  | none =>
    have hx0 := HS.out.at_none
    obtain rfl : xs = [] := by cases xs; rfl; simp at hx0
    have hz := HB1.out.size
    have HN1 : Hid (∀ j u, ([.int .u8 b0, .int .u8 b1, .int .u8 b2, .int .u8 b3, .int .u8 b4, .int .u8 b5, .int .u8 b6, .int .u8 b7] : List Value)[j]? = some u → ((w.alloc (.cells #[.int .u8 b0, .int .u8 b1, .int .u8 b2, .int .u8 b3, .int .u8 b4, .int .u8 b5, .int .u8 b6, .int .u8 b7] 75)).alloc (.cells #[] 5)).drew.cell? (Addr.add ⟨w.heap.size, 0, none⟩ j) = some u) := by
      unfold Hid; intro j u hu; have h := HN.out j u hu; rw [add_off] at h ⊢; exact ((((Below.refl (w.heap.size + 1) _).alloc (by simp) _).cell (p := ⟨w.heap.size, 0 + j, none⟩) (by simp)).trans h)
    go_enter Try.func74, Try.ntmps74
    go_wp2_with fail
    go_region_law (first
      | (refine step_append_own rfl (.tmp 7) (.tmp 8) 25 rfl w.heap.size 5 i0 _ 1 1 Try.underlying25 hi hz0 hz1 hz2 rfl (by decide) (.slice (some ⟨w.heap.size + 1, 0, none⟩) 0 0) 0 [] rfl HRO.out ⟨w.heap.size, 0, none⟩ 8 8 [.int .u8 b0, .int .u8 b1, .int .u8 b2, .int .u8 b3, .int .u8 b4, .int .u8 b5, .int .u8 b6, .int .u8 b7] rfl rfl HN1.out H8.out (by unfold maxLen; omega) (by omega) hz ?_
         intro v' w' hown hgrow hiff
         obtain ⟨A', c', hv⟩ := own_form hown
         subst hv
         have hbl : Below w.heap.size w w' := HB1.out.grown hgrow hz (fun k hk => own_low HRO.out hk)
         have HOW : Hid (w'.ownsRow w.heap.size 5 1 (.slice A' zs.length c') zs.length (zs.map (Value.int .u8))) := by
           unfold Hid; rw [← HU.out, ← HM.out]; exact hown
         clear hown hgrow hiff))
    all_goals (go_wp2; go_ret; exact ⟨A', c', by rw [← HU.out]; rfl, HOW.out, hbl⟩)
  | some a0 =>
    have HAT := Lib.hid (HS.out.below HB1.out (Nat.le_refl _)).at_add
    go_enter Try.func74, Try.ntmps74
    go_wp2_with fail
    go_region_law (first
      | (refine step_append_own rfl (.tmp 5) (.tmp 6) 25 rfl w.heap.size 5 i0 _ 1 1 Try.underlying25 hi hz0 hz1 hz2 rfl (by decide) (.slice (some ⟨w.heap.size + 1, 0, none⟩) 0 0) 0 [] rfl HRO.out a0 xs.length c (xs.map (Value.int .u8)) rfl (by simp) HAT.out (bytes_one xs) (by unfold maxLen; omega) (by omega) (by simp; omega) ?_
         intro v1 w1 hown hgrow hiff
         try simp only [Nat.zero_add, List.nil_append] at hown
         obtain ⟨A1, c1, hv⟩ := own_form hown
         subst hv
         have hb2 := HB1.out.grown hgrow (by simp; omega) (fun k hk => by simp [Value.ownBlock] at hk; omega)
         have HO1 := Lib.hid hown
         have hz := hb2.size
         have HN1 : Hid (∀ j u, ([.int .u8 b0, .int .u8 b1, .int .u8 b2, .int .u8 b3, .int .u8 b4, .int .u8 b5, .int .u8 b6, .int .u8 b7] : List Value)[j]? = some u → w1.cell? (Addr.add ⟨w.heap.size, 0, none⟩ j) = some u) := by
           unfold Hid; intro j u hu; have h := HN.out j u hu; rw [add_off] at h ⊢; exact (((Below.refl (w.heap.size + 1) _).grown hgrow (by simp) (fun k hk => by simp [Value.ownBlock] at hk; omega)).cell (p := ⟨w.heap.size, 0 + j, none⟩) (by simp)).trans ((((Below.refl (w.heap.size + 1) _).alloc (by simp) _).cell (p := ⟨w.heap.size, 0 + j, none⟩) (by simp)).trans h)
         clear hown hgrow hiff)
      | (refine step_append_own rfl (.tmp 7) (.tmp 8) 25 rfl w.heap.size 5 i0 _ 1 1 Try.underlying25 hi hz0 hz1 hz2 rfl (by decide) (.slice A1 xs.length c1) _ _ rfl HO1.out ⟨w.heap.size, 0, none⟩ 8 8 [.int .u8 b0, .int .u8 b1, .int .u8 b2, .int .u8 b3, .int .u8 b4, .int .u8 b5, .int .u8 b6, .int .u8 b7] rfl rfl HN1.out H8.out (by unfold maxLen; omega) (by omega) hz ?_
         intro v' w' hown hgrow hiff
         obtain ⟨A', c', hv⟩ := own_form hown
         subst hv
         have hbl : Below w.heap.size w w' := hb2.grown hgrow hz (fun k hk => own_low HO1.out hk)
         have HOW : Hid (w'.ownsRow w.heap.size 5 1 (.slice A' zs.length c') zs.length (zs.map (Value.int .u8))) := by
           unfold Hid; rw [← HU.out, ← HM.out]; exact hown
         clear hown hgrow hiff))
    all_goals (go_wp2; go_ret; exact ⟨A', c', by rw [← HU.out]; rfl, HOW.out, hbl⟩)
end Go.Proofs.Ytndifkjenjfjpaa
