/-
  WHAT IS SHOWN: what AppendUint of codec and of tegularef09 return: the bytes, and those of the number behind them. Conditions: the bytes can be read.
-/
import Derived.Test.YtndifkjenjfjpaaRec1
import Derived.Lib.VarintBits
namespace Go.Proofs.Ytndifkjenjfjpaa
set_option linter.unusedVariables false
open Go.RowKit

theorem or128 (m : Nat) : bits BinOp.or IntKind.u8 ((m : Int) % 256) 128 = ((m % 128 + 128 : Nat) : Int) := by
  have h : ∀ x : Fin 256, bits BinOp.or IntKind.u8 (x.val : Int) 128 = ((x.val % 128 + 128 : Nat) : Int) := by decide +kernel
  have hw : (m : Int) % 256 = ((m % 256 : Nat) : Int) := by omega
  rw [hw, h ⟨m % 256, by omega⟩]
  simp only
  omega
theorem own_low {w : World} {base : Nat} {e : TypeId} {size n k : Nat} {v : Value} {xs : List Value} (h : w.ownsRow base e size v n xs) (hk : v.ownBlock = some k) : base ≤ k := by
  rcases h.2 with ⟨h2, _⟩ | ⟨g, cap, cur, h2, h3, _⟩
  · rw [h2] at hk; cases hk
  · rw [h2] at hk; injection hk with hk; subst hk; exact h3
set_option maxRecDepth 100000 in
set_option maxHeartbeats 1000000 in
theorem appuint_any (n : Nat) (hn : n < 2 ^ 64) (xs : List Int) (A : Option Addr) (c : Nat) (w : World) (hr : Rd w w.heap.size A (xs.map (Value.int .u8))) (hx : xs.length ≤ 900000) :
    Calls Try.prog 80 #[.slice A xs.length c, .int .u64 n] w (NewO w (xs ++ uintB n)) := by
  obtain ⟨i0, hi, hz0, hz1, hz2⟩ := info_parts info_u8
  have HC := Lib.hid (cloneo_any xs A c w hr (by omega))
  clear hr
  go_enter Try.func80, Try.ntmps80
  go_wp2_with fail
  refine HC.out.mono ?_
  rintro e w1 ⟨A1, c1, rfl, ho1, hb1⟩
  have HO1 := Lib.hid ho1
  clear ho1
  go_wp2
  go_loopw [1, 5] (fun s1 s5 wr => ∃ (k m : Nat) (ys : List Int) (DA : Option Addr) (dc : Nat), m < 128 ^ (k + 1) ∧ s1 = .int .u64 m ∧ s5 = .slice DA ys.length dc ∧ Hid (wr.ownsRow w.heap.size 5 1 (.slice DA ys.length dc) ys.length (ys.map (Value.int .u8))) ∧ Hid (ys ++ uintF (k + 1) m = xs ++ uintB n) ∧ ys.length ≤ xs.length + 10 ∧ Below w.heap.size w wr) (fun v _ _ => (intOf v).toNat)
  case atStart => exact ⟨9, n, xs, A1, c1, Nat.lt_trans hn (by decide), rfl, rfl, HO1, rfl, by omega, hb1⟩
  case round =>
    obtain ⟨k, m, ys, DA, dc, hm, rfl, rfl, HO, HE, hl, hbr⟩ := hrel
    by_cases hlt : m < 128
    · have m1 : ¬ ((128 : Int) ≤ m) := by omega
      have hE : ys ++ [(m : Int)] = xs ++ uintB n := by rw [← HE.out, uintF_small hlt]
      have HE2 := Lib.hid hE
      clear hE
      have hbs := hbr.size
      go_wp2_with (at_builtin; refine wpList_append_own _ rfl _ _ 25 rfl w.heap.size 5 i0 _ 1 1 Try.underlying25 hi hz0 hz1 hz2 rfl (by decide) _ ys.length (ys.map (Value.int .u8)) rfl (HO.out.alloc _) ⟨wr.heap.size, 0, none⟩ 1 1 [.int .u8 (m)] rfl rfl (World.news_of_block (heap_alloc_new _ _)) (by intro u hu; simp at hu; subst hu; rfl) ?c1 ?c2 ?c3 ?_)
      case c1 => unfold maxLen; omega
      case c2 => omega
      case c3 => first | omega | (simp; omega)
      intro v' w' hown hgrow hiff
      obtain ⟨DA', dc', hv⟩ := own_form hown
      subst hv
      have hbl : Below w.heap.size w w' := (hbr.alloc hbr.size _).grown hgrow (by simp; omega) (fun k hk => own_low HO.out hk)
      have HOW : Hid (w'.ownsRow w.heap.size 5 1 (.slice DA' (xs ++ uintB n).length dc') (xs ++ uintB n).length ((xs ++ uintB n).map (Value.int .u8))) := by
        unfold Hid; rw [← HE2.out, List.length_append, List.map_append]; exact hown
      have HLN : Hid (ys.length + 1 = (xs ++ uintB n).length) := by unfold Hid; rw [← HE2.out]; simp
      clear hown hgrow hiff
      go_wp2
      go_ret
      exact ⟨DA', dc', by rw [← HLN.out]; rfl, HOW.out, hbl⟩
    · have m1 : (128 : Int) ≤ m := by omega
      have hE : (ys ++ [((m % 128 + 128 : Nat) : Int)]) ++ uintF k (m / 128) = xs ++ uintB n := by rw [← HE.out, uintF_big hlt]; simp
      have HE2 := Lib.hid hE
      have hkk : 0 < k := by
        rcases Nat.eq_zero_or_pos k with h | h
        · subst h; simp at hm; omega
        · exact h
      have hlen : (ys ++ [((m % 128 + 128 : Nat) : Int)]).length ≤ xs.length + 10 := by
        have h1 := congrArg List.length hE
        have h2 := uintB_len n
        simp only [List.length_append, List.length_cons, List.length_nil] at h1 ⊢
        omega
      clear hE
      have hbs := hbr.size
      have hor := or128 m
      generalize ((m % 128 + 128 : Nat) : Int) = b at *
      go_wp2_with (at_builtin; refine wpList_append_own _ rfl _ _ 25 rfl w.heap.size 5 i0 _ 1 1 Try.underlying25 hi hz0 hz1 hz2 rfl (by decide) _ ys.length (ys.map (Value.int .u8)) rfl (HO.out.alloc _) ⟨wr.heap.size, 0, none⟩ 1 1 [.int .u8 (b)] rfl rfl (World.news_of_block (heap_alloc_new _ _)) (by intro u hu; simp at hu; subst hu; rfl) ?c1 ?c2 ?c3 ?_)
      case c1 => unfold maxLen; omega
      case c2 => omega
      case c3 => first | omega | (simp; omega)
      intro v' w' hown hgrow hiff
      obtain ⟨DA', dc', hv⟩ := own_form hown
      subst hv
      have hbl : Below w.heap.size w w' := (hbr.alloc hbr.size _).grown hgrow (by simp; omega) (fun k hk => own_low HO.out hk)
      have HOW : Hid (w'.ownsRow w.heap.size 5 1 (.slice DA' (ys ++ [b]).length dc') (ys ++ [b]).length ((ys ++ [b]).map (Value.int .u8))) := by
        unfold Hid; rw [List.length_append, List.map_append]; exact hown
      have HLN : Hid (ys.length + 1 = (ys ++ [b]).length) := by unfold Hid; simp
      obtain ⟨k', rfl⟩ : ∃ k', k = k' + 1 := ⟨k - 1, by omega⟩
      have hm2 : m / 128 < 128 ^ (k' + 1) := by
        rw [Nat.div_lt_iff_lt_mul (by decide)]
        rw [Nat.pow_succ] at hm; exact hm
      have hdv : ((m / 128 : Nat) : Int) = (m : Int) / 128 := by omega
      clear hown hgrow hiff hor
      go_wp2
      go_roundw
      case rel => exact ⟨k', m / 128, ys ++ [b], DA', dc', hm2, by rw [hdv], by rw [← HLN.out], HOW.out, HE2, hlen, hbl⟩
      case measure => simp [intOf]; omega
set_option maxRecDepth 100000 in
set_option maxHeartbeats 1000000 in
theorem rappuint_any (n : Nat) (hn : n < 2 ^ 64) (xs : List Int) (A : Option Addr) (c : Nat) (w : World) (hr : Rd w w.heap.size A (xs.map (Value.int .u8))) (hx : xs.length ≤ 900000) :
    Calls Try.prog 72 #[.slice A xs.length c, .int .u64 n] w (NewO w (xs ++ uintB n)) := by
  obtain ⟨i0, hi, hz0, hz1, hz2⟩ := info_parts info_u8
  cases A with
  | none =>
    have hx0 := hr.at_none
    obtain rfl : xs = [] := by cases xs; rfl; simp at hx0
    have ho1 := World.ownsRow_lit (base := w.heap.size) (e := 5) (size := 1) w #[] 0 (Nat.le_refl _) (by decide) rfl
    have HO1 := Lib.hid ho1
    have hb1 : Below w.heap.size w (w.alloc (.cells #[] 5)) := (Below.refl _ _).alloc (Nat.le_refl _) _
    clear hr hx0 ho1
    go_enter Try.func72, Try.ntmps72
    go_wp2
    go_loopw [1, 5] (fun s1 s5 wr => ∃ (k m : Nat) (ys : List Int) (DA : Option Addr) (dc : Nat), m < 128 ^ (k + 1) ∧ m < 2 ^ 64 ∧ s1 = .int .u64 m ∧ s5 = .slice DA ys.length dc ∧ Hid (wr.ownsRow w.heap.size 5 1 (.slice DA ys.length dc) ys.length (ys.map (Value.int .u8))) ∧ Hid (ys ++ uintF (k + 1) m = ([] : List Int) ++ uintB n) ∧ ys.length ≤ ([] : List Int).length + 10 ∧ Below w.heap.size w wr) (fun v _ _ => (intOf v).toNat)
    case atStart => exact ⟨9, n, ([] : List Int), (some ⟨w.heap.size, 0, none⟩), 0, Nat.lt_trans hn (by decide), hn, rfl, rfl, HO1, rfl, by omega, hb1⟩
    case round =>
      obtain ⟨k, m, ys, DA, dc, hm, hm64, rfl, rfl, HO, HE, hl, hbr⟩ := hrel
      by_cases hlt : m < 128
      · have m1 : ¬ ((128 : Int) ≤ m) := by omega
        have hE : ys ++ [(m : Int)] = ([] : List Int) ++ uintB n := by rw [← HE.out, uintF_small hlt]
        have HE2 := Lib.hid hE
        clear hE
        have hbs := hbr.size
        go_wp2_with (at_builtin; refine wpList_append_own _ rfl _ _ 25 rfl w.heap.size 5 i0 _ 1 1 Try.underlying25 hi hz0 hz1 hz2 rfl (by decide) _ ys.length (ys.map (Value.int .u8)) rfl (HO.out.alloc _) ⟨wr.heap.size, 0, none⟩ 1 1 [.int .u8 (m)] rfl rfl (World.news_of_block (heap_alloc_new _ _)) (by intro u hu; simp at hu; subst hu; rfl) ?c1 ?c2 ?c3 ?_)
        case c1 => unfold maxLen; omega
        case c2 => omega
        case c3 => first | omega | (simp; omega)
        intro v' w' hown hgrow hiff
        obtain ⟨DA', dc', hv⟩ := own_form hown
        subst hv
        have hbl : Below w.heap.size w w' := (hbr.alloc hbr.size _).grown hgrow (by simp; omega) (fun k hk => own_low HO.out hk)
        have HOW : Hid (w'.ownsRow w.heap.size 5 1 (.slice DA' (([] : List Int) ++ uintB n).length dc') (([] : List Int) ++ uintB n).length ((([] : List Int) ++ uintB n).map (Value.int .u8))) := by
          unfold Hid; rw [← HE2.out, List.length_append, List.map_append]; exact hown
        have HLN : Hid (ys.length + 1 = (([] : List Int) ++ uintB n).length) := by unfold Hid; rw [← HE2.out]; simp
        clear hown hgrow hiff
        go_wp2
        go_ret
        exact ⟨DA', dc', by first | (rw [← HLN.out]; rfl) | (have h := HLN.out; simp only [List.nil_append] at h; rw [← h]; rfl), HOW.out, hbl⟩
      · have m1 : (128 : Int) ≤ m := by omega
        have hE : (ys ++ [((m % 128 + 128 : Nat) : Int)]) ++ uintF k (m / 128) = ([] : List Int) ++ uintB n := by rw [← HE.out, uintF_big hlt]; simp
        have HE2 := Lib.hid hE
        have hkk : 0 < k := by
          rcases Nat.eq_zero_or_pos k with h | h
          · subst h; simp at hm; omega
          · exact h
        have hlen : (ys ++ [((m % 128 + 128 : Nat) : Int)]).length ≤ ([] : List Int).length + 10 := by
          have h1 := congrArg List.length hE
          have h2 := uintB_len n
          simp only [List.length_append, List.length_cons, List.length_nil] at h1 ⊢
          omega
        clear hE
        have hbs := hbr.size
        have hor : ((m : Int) % 128 + 128 : Int) = ((m % 128 + 128 : Nat) : Int) := by omega
        generalize ((m % 128 + 128 : Nat) : Int) = b at *
        go_wp2_with (at_builtin; refine wpList_append_own _ rfl _ _ 25 rfl w.heap.size 5 i0 _ 1 1 Try.underlying25 hi hz0 hz1 hz2 rfl (by decide) _ ys.length (ys.map (Value.int .u8)) rfl (HO.out.alloc _) ⟨wr.heap.size, 0, none⟩ 1 1 [.int .u8 (b)] rfl rfl (World.news_of_block (heap_alloc_new _ _)) (by intro u hu; simp at hu; subst hu; rfl) ?c1 ?c2 ?c3 ?_)
        case c1 => unfold maxLen; omega
        case c2 => omega
        case c3 => first | omega | (simp; omega)
        intro v' w' hown hgrow hiff
        obtain ⟨DA', dc', hv⟩ := own_form hown
        subst hv
        have hbl : Below w.heap.size w w' := (hbr.alloc hbr.size _).grown hgrow (by simp; omega) (fun k hk => own_low HO.out hk)
        have HOW : Hid (w'.ownsRow w.heap.size 5 1 (.slice DA' (ys ++ [b]).length dc') (ys ++ [b]).length ((ys ++ [b]).map (Value.int .u8))) := by
          unfold Hid; rw [List.length_append, List.map_append]; exact hown
        have HLN : Hid (ys.length + 1 = (ys ++ [b]).length) := by unfold Hid; simp
        obtain ⟨k', rfl⟩ : ∃ k', k = k' + 1 := ⟨k - 1, by omega⟩
        have hm2 : m / 128 < 128 ^ (k' + 1) := by
          rw [Nat.div_lt_iff_lt_mul (by decide)]
          rw [Nat.pow_succ] at hm; exact hm
        have hdv : ((m / 128 : Nat) : Int) = (m : Int) / 128 := by omega
        clear hown hgrow hiff hor
        go_wp2
        go_roundw
        case rel => exact ⟨k', m / 128, ys ++ [b], DA', dc', hm2, by omega, by rw [hdv], by rw [← HLN.out], HOW.out, HE2, hlen, hbl⟩
        case measure => simp [intOf]; omega
  | some a =>
    have hro := World.ownsRow_lit (base := w.heap.size) (e := 5) (size := 1) w #[] 0 (Nat.le_refl _) (by decide) rfl
    have hla := hr.alloc (Nat.le_refl _) (.cells #[] 5)
    clear hr
    go_enter Try.func72, Try.ntmps72
    go_wp2_with (at_builtin; refine wpList_append_own _ rfl _ _ 25 rfl w.heap.size 5 i0 _ 1 1 Try.underlying25 hi hz0 hz1 hz2 rfl (by decide) _ 0 [] rfl hro a xs.length c (xs.map (Value.int .u8)) rfl (by simp) hla.at_add (bytes_one xs) ?a1 ?a2 ?a3 ?_)
    case a1 => unfold maxLen; omega
    case a2 => omega
    intro v' w1 hown hgrow hiff
    try simp only [Nat.zero_add, List.nil_append] at hown
    obtain ⟨A1, c1, hv⟩ := own_form hown
    subst hv
    have HO1 := Lib.hid hown
    have hb1 : Below w.heap.size w w1 := ((Below.refl _ _).alloc (Nat.le_refl _) _).grown hgrow (by simp) (fun k hk => by simp [Value.ownBlock] at hk; omega)
    clear hro hla hown hgrow hiff
    go_wp2
    go_loopw [1, 5] (fun s1 s5 wr => ∃ (k m : Nat) (ys : List Int) (DA : Option Addr) (dc : Nat), m < 128 ^ (k + 1) ∧ m < 2 ^ 64 ∧ s1 = .int .u64 m ∧ s5 = .slice DA ys.length dc ∧ Hid (wr.ownsRow w.heap.size 5 1 (.slice DA ys.length dc) ys.length (ys.map (Value.int .u8))) ∧ Hid (ys ++ uintF (k + 1) m = xs ++ uintB n) ∧ ys.length ≤ xs.length + 10 ∧ Below w.heap.size w wr) (fun v _ _ => (intOf v).toNat)
    case atStart => exact ⟨9, n, xs, A1, c1, Nat.lt_trans hn (by decide), hn, rfl, rfl, HO1, rfl, by omega, hb1⟩
    case round =>
      obtain ⟨k, m, ys, DA, dc, hm, hm64, rfl, rfl, HO, HE, hl, hbr⟩ := hrel
      by_cases hlt : m < 128
      · have m1 : ¬ ((128 : Int) ≤ m) := by omega
        have hE : ys ++ [(m : Int)] = xs ++ uintB n := by rw [← HE.out, uintF_small hlt]
        have HE2 := Lib.hid hE
        clear hE
        have hbs := hbr.size
        go_wp2_with (at_builtin; refine wpList_append_own _ rfl _ _ 25 rfl w.heap.size 5 i0 _ 1 1 Try.underlying25 hi hz0 hz1 hz2 rfl (by decide) _ ys.length (ys.map (Value.int .u8)) rfl (HO.out.alloc _) ⟨wr.heap.size, 0, none⟩ 1 1 [.int .u8 (m)] rfl rfl (World.news_of_block (heap_alloc_new _ _)) (by intro u hu; simp at hu; subst hu; rfl) ?c1 ?c2 ?c3 ?_)
        case c1 => unfold maxLen; omega
        case c2 => omega
        case c3 => first | omega | (simp; omega)
        intro v' w' hown hgrow hiff
        obtain ⟨DA', dc', hv⟩ := own_form hown
        subst hv
        have hbl : Below w.heap.size w w' := (hbr.alloc hbr.size _).grown hgrow (by simp; omega) (fun k hk => own_low HO.out hk)
        have HOW : Hid (w'.ownsRow w.heap.size 5 1 (.slice DA' (xs ++ uintB n).length dc') (xs ++ uintB n).length ((xs ++ uintB n).map (Value.int .u8))) := by
          unfold Hid; rw [← HE2.out, List.length_append, List.map_append]; exact hown
        have HLN : Hid (ys.length + 1 = (xs ++ uintB n).length) := by unfold Hid; rw [← HE2.out]; simp
        clear hown hgrow hiff
        go_wp2
        go_ret
        exact ⟨DA', dc', by first | (rw [← HLN.out]; rfl) | (have h := HLN.out; simp only [List.nil_append] at h; rw [← h]; rfl), HOW.out, hbl⟩
      · have m1 : (128 : Int) ≤ m := by omega
        have hE : (ys ++ [((m % 128 + 128 : Nat) : Int)]) ++ uintF k (m / 128) = xs ++ uintB n := by rw [← HE.out, uintF_big hlt]; simp
        have HE2 := Lib.hid hE
        have hkk : 0 < k := by
          rcases Nat.eq_zero_or_pos k with h | h
          · subst h; simp at hm; omega
          · exact h
        have hlen : (ys ++ [((m % 128 + 128 : Nat) : Int)]).length ≤ xs.length + 10 := by
          have h1 := congrArg List.length hE
          have h2 := uintB_len n
          simp only [List.length_append, List.length_cons, List.length_nil] at h1 ⊢
          omega
        clear hE
        have hbs := hbr.size
        have hor : ((m : Int) % 128 + 128 : Int) = ((m % 128 + 128 : Nat) : Int) := by omega
        generalize ((m % 128 + 128 : Nat) : Int) = b at *
        go_wp2_with (at_builtin; refine wpList_append_own _ rfl _ _ 25 rfl w.heap.size 5 i0 _ 1 1 Try.underlying25 hi hz0 hz1 hz2 rfl (by decide) _ ys.length (ys.map (Value.int .u8)) rfl (HO.out.alloc _) ⟨wr.heap.size, 0, none⟩ 1 1 [.int .u8 (b)] rfl rfl (World.news_of_block (heap_alloc_new _ _)) (by intro u hu; simp at hu; subst hu; rfl) ?c1 ?c2 ?c3 ?_)
        case c1 => unfold maxLen; omega
        case c2 => omega
        case c3 => first | omega | (simp; omega)
        intro v' w' hown hgrow hiff
        obtain ⟨DA', dc', hv⟩ := own_form hown
        subst hv
        have hbl : Below w.heap.size w w' := (hbr.alloc hbr.size _).grown hgrow (by simp; omega) (fun k hk => own_low HO.out hk)
        have HOW : Hid (w'.ownsRow w.heap.size 5 1 (.slice DA' (ys ++ [b]).length dc') (ys ++ [b]).length ((ys ++ [b]).map (Value.int .u8))) := by
          unfold Hid; rw [List.length_append, List.map_append]; exact hown
        have HLN : Hid (ys.length + 1 = (ys ++ [b]).length) := by unfold Hid; simp
        obtain ⟨k', rfl⟩ : ∃ k', k = k' + 1 := ⟨k - 1, by omega⟩
        have hm2 : m / 128 < 128 ^ (k' + 1) := by
          rw [Nat.div_lt_iff_lt_mul (by decide)]
          rw [Nat.pow_succ] at hm; exact hm
        have hdv : ((m / 128 : Nat) : Int) = (m : Int) / 128 := by omega
        clear hown hgrow hiff hor
        go_wp2
        go_roundw
        case rel => exact ⟨k', m / 128, ys ++ [b], DA', dc', hm2, by omega, by rw [hdv], by rw [← HLN.out], HOW.out, HE2, hlen, hbl⟩
        case measure => simp [intOf]; omega
end Go.Proofs.Ytndifkjenjfjpaa
