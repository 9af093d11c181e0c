/-
  WHAT IS SHOWN: what New, Int, Bytes, Done and Left of the readers of codec and of tegularef09 return. Conditions: as each theorem names them.
-/
import Derived.Test.YtndifkjenjfjpaaRec6
namespace Go.Proofs.Ytndifkjenjfjpaa
set_option linter.unusedVariables false
open Go.RowKit

theorem i64_xor_m1 (x : Nat) (hx : x < 9223372036854775808) : bits BinOp.xor IntKind.i64 (x : Int) (-1) = -(x : Int) - 1 := by
  rw [← Lib.i64_not x hx]
  show IntKind.i64.wrap ((BitVec.ofInt 64 (x : Int) ^^^ BitVec.ofInt 64 (-1)).toNat : Int) = IntKind.i64.wrap ((BitVec.ofInt 64 (-1) ^^^ BitVec.ofInt 64 (x : Int)).toNat : Int)
  rw [BitVec.xor_comm]
theorem i64_xor_0 (x : Nat) (hx : x < 9223372036854775808) : bits BinOp.xor IntKind.i64 (x : Int) 0 = (x : Int) := by
  show IntKind.i64.wrap ((BitVec.ofInt 64 (x : Int) ^^^ BitVec.ofInt 64 0).toNat : Int) = _
  have h2 : (BitVec.ofInt 64 (x : Int)).toNat = x := by
    rw [BitVec.ofInt_natCast, BitVec.toNat_ofNat]; exact Nat.mod_eq_of_lt (by omega)
  have h0 : (BitVec.ofInt 64 0).toNat = 0 := by decide
  rw [BitVec.toNat_xor, h2, h0, Nat.xor_zero, IntKind.wrap_i64]
  omega
theorem zag_code {n : Nat} (hn : n < 2 ^ 64) : bits BinOp.xor IntKind.i64 ((n : Int) / 2) (wrap64 (-wrap64 (bits BinOp.and IntKind.u64 (n : Int) 1))) = zagN n := by
  have e : (n : Int) / 2 = ((n / 2 : Nat) : Int) := by omega
  rw [Lib.u64_and1 _ (by omega) (by omega), e]
  unfold zagN
  by_cases h : n % 2 = 0
  · rw [if_pos h, show (n : Int) % 2 = 0 by omega, show wrap64 (-wrap64 0) = 0 by unfold wrap64; omega, i64_xor_0 _ (by omega)]
  · rw [if_neg h, show (n : Int) % 2 = 1 by omega, show wrap64 (-wrap64 1) = -1 by unfold wrap64; omega, i64_xor_m1 _ (by omega)]
/-- What New returns. -/
def RNewPost (ty : TypeId) (w : World) (xs : List Int) (e : Ending) (w' : World) : Prop := ∃ q, e = .returned (.pointer (some ⟨q, 0, none⟩)) ∧ w.heap.size ≤ q ∧ RdrM ty w' q ⟨xs, false⟩ ∧ Below w.heap.size w w'
theorem own_cap0 {w : World} {base : Nat} {e : TypeId} {size n c : Nat} {A : Option Addr} {xs : List Value} (h : w.ownsRow base e size (.slice A n c) n xs) : n ≤ c ∧ c ≤ maxLen ∧ (A = none → c = 0) := by
  rcases h.2 with ⟨h1, h0⟩ | ⟨g, cap, cur, hv, hb, hg, hc, hm, _⟩
  · injection h1 with h1 h2 h3; subst h3; subst h0; exact ⟨Nat.le_refl _, Nat.zero_le _, fun _ => rfl⟩
  · injection hv with h1 h2 h3; subst h3; exact ⟨hc, hm, fun h => by rw [h] at h1; cases h1⟩
theorem rdr_new {ty : TypeId} {w w1 : World} {A : Option Addr} {c : Nat} {xs : List Int} (hu : U8s xs) (ho : w1.ownsRow w.heap.size 5 1 (.slice A xs.length c) xs.length (xs.map (Value.int .u8))) (hb : Below w.heap.size w w1) :
    RNewPost ty w xs (.returned (.pointer (some ⟨w1.heap.size, 0, none⟩))) (w1.alloc (.cells #[.slice A xs.length c, .bool false] ty)) := by
  obtain ⟨h1, h2, h3⟩ := own_cap0 ho
  have hb2 := hb.alloc hb.size (.cells #[.slice A xs.length c, .bool false] ty)
  have hb1 : Below w1.heap.size w1 (w1.alloc (.cells #[.slice A xs.length c, .bool false] ty)) := (Below.refl _ _).alloc (Nat.le_refl _) _
  refine ⟨_, rfl, hb.size, ⟨A, c, heap_alloc_new _ _, (RdT.of_own ho).below0 hb1, hu, (fun h => by cases h), h1, ?_, h3⟩, hb2⟩
  unfold maxLen at h2; omega
theorem uint_fst {ty : TypeId} {w : World} {q : Nat} {r : Rdr} (h : RdrM ty w q r) : r.uint.1 < 2 ^ 64 ∧ (r.uint.2.1 = 0 ∨ (r.uint.2.1 = 5 ∧ r.uint.1 = 0)) := by
  obtain ⟨_, _, _, _, hu, _⟩ := h
  unfold Rdr.uint
  split
  · rename_i n l h
    exact ⟨(uintD_lt hu h).1, .inl rfl⟩
  · exact ⟨by decide, .inr ⟨rfl, rfl⟩⟩
set_option maxRecDepth 100000 in
set_option maxHeartbeats 1000000 in
theorem new_any (xs : List Int) (hu : U8s xs) (A : Option Addr) (c : Nat) (w : World) (hr : Rd w w.heap.size A (xs.map (Value.int .u8))) (hx : xs.length ≤ 900000) :
    Calls Try.prog 59 #[.slice A xs.length c] w (RNewPost 107 w xs) := by
  have HC := Lib.hid (cloneo_any xs A c w hr (by omega))
  clear hr
  go_enter Try.func59, Try.ntmps59
  go_wp2_with fail
  refine HC.out.mono ?_
  rintro e w1 ⟨A1, c1, rfl, ho1, hb1⟩
  have HN := Lib.hid (rdr_new (ty := 107) hu ho1 hb1)
  clear ho1
  go_wp2
  go_ret
  exact HN.out
set_option maxRecDepth 100000 in
set_option maxHeartbeats 1000000 in
theorem rnew_any (xs : List Int) (hu : U8s xs) (A : Option Addr) (c : Nat) (w : World) (hr : Rd w w.heap.size A (xs.map (Value.int .u8))) (hx : xs.length ≤ 900000) :
    Calls Try.prog 63 #[.slice A xs.length c] w (RNewPost 110 w xs) := by
  obtain ⟨i0, hi, hz0, hz1, hz2⟩ := info_parts info_u8
  cases A with
  | none =>
    have hx := hr.at_none
    obtain rfl : xs = [] := by cases xs; rfl; simp at hx
    have hro := World.ownsRow_lit (base := w.heap.size) (e := 5) (size := 1) w #[] 0 (Nat.le_refl _) (by decide) rfl
    have hn := rdr_new (ty := 110) (A := some ⟨w.heap.size, 0, none⟩) (c := 0) hu hro ((Below.refl _ _).alloc (Nat.le_refl _) _)
    simp only [List.length_nil, World.size_alloc] at hn
    have HN := Lib.hid hn
    clear hr hx hro hn
    go_enter Try.func63, Try.ntmps63
    go_wp2
    go_ret
    exact HN.out
  | some a =>
    have hro := World.ownsRow_lit (base := w.heap.size) (e := 5) (size := 1) w #[] 0 (Nat.le_refl _) (by decide) rfl
    have hla := hr.alloc (Nat.le_refl _) (.cells #[] 5)
    go_enter Try.func63, Try.ntmps63
    go_wp2_with (at_builtin; refine wpList_append_own _ rfl _ _ 25 rfl w.heap.size 5 i0 _ 1 1 Try.underlying25 hi hz0 hz1 hz2 rfl (by decide) _ 0 [] rfl hro a xs.length c (xs.map (Value.int .u8)) rfl (by simp) hla.at_add (bytes_one xs) ?c1 ?c2 ?c3 ?_)
    case c1 => unfold maxLen; omega
    case c2 => omega
    intro v' w' hown hgrow hiff
    try simp only [Nat.zero_add, List.nil_append] at hown
    obtain ⟨A', c', hv⟩ := own_form hown
    subst hv
    have hbl : Below w.heap.size w w' := ((Below.refl _ _).alloc (Nat.le_refl _) _).grown hgrow (by simp) (fun k hk => by simp [Value.ownBlock] at hk; omega)
    have HN := Lib.hid (rdr_new (ty := 110) hu hown hbl)
    clear hr hro hla hown hgrow hiff
    go_wp2
    go_ret
    exact HN.out
theorem done_any {w : World} {q : Nat} {r : Rdr} (hlen : r.rest.length ≤ 1000000) (h : RdrM 107 w q r) : Calls Try.prog 62 #[.pointer (some ⟨q, 0, none⟩)] w (fun e w' => e = .returned (.int .i64 r.done) ∧ w' = w) := by
  obtain ⟨A, c, hq, hr, hu, hok, hc, hcm, hnn⟩ := h
  obtain ⟨c0, c1, f0, f1⟩ := heap_cells hq
  clear hq hr hu
  by_cases hb : r.bad = true
  · have HD : Hid (r.done = 5) := by unfold Hid Rdr.done; rw [if_pos (.inl hb)]
    rw [hb] at c1
    clear hok hb
    go_enter Try.func62, Try.ntmps62
    go_wp2
    go_ret
    exact ⟨by rw [HD.out]; rfl, rfl⟩
  · have hbf : r.bad = false := by simpa using hb
    rw [hbf] at c1
    by_cases hl : 0 < r.rest.length
    · have HD : Hid (r.done = 5) := by unfold Hid Rdr.done; rw [if_pos (.inr hl)]
      clear hok hb hbf
      go_enter Try.func62, Try.ntmps62
      go_wp2
      go_ret
      exact ⟨by rw [HD.out]; rfl, rfl⟩
    · have HD : Hid (r.done = 0) := by unfold Hid Rdr.done; rw [if_neg (by rintro (h | h); exact hb h; exact hl h)]
      have hl0 : r.rest.length = 0 := by omega
      clear hok hb hbf
      go_enter Try.func62, Try.ntmps62
      go_wp2
      go_ret
      exact ⟨by rw [HD.out]; rfl, rfl⟩
set_option maxRecDepth 100000 in
set_option maxHeartbeats 1000000 in
theorem int_any {w : World} {q : Nat} {r : Rdr} (h : RdrM 107 w q r) : Calls Try.prog 88 #[.pointer (some ⟨q, 0, none⟩)] w (fun e w' => e = .returned (.tuple #[.int .i64 (zagN r.uint.1), .int .i64 r.uint.2.1]) ∧ RdrPost 107 w q r.uint.2.2 w') := by
  have hc := uint_any h
  unfold UintPost at hc
  obtain ⟨hn64, he⟩ := uint_fst h
  clear h
  generalize r.uint.2.2 = r2 at *
  generalize r.uint.1 = n at *
  generalize r.uint.2.1 = er at *
  have HC := Lib.hid hc
  have HZ := Lib.hid (zag_code hn64)
  have HG : Hid (zagN n = if n % 2 = 0 then ((n / 2 : Nat) : Int) else -((n / 2 : Nat) : Int) - 1) := rfl
  have hdv : (n : Int) / 2 = ((n / 2 : Nat) : Int) := by omega
  have HDV := Lib.hid hdv
  clear hc hdv
  rcases he with rfl | ⟨rfl, rfl⟩
  · by_cases hm : n % 2 = 0
    · have HG2 := HG.out
      rw [if_pos hm, ← HDV.out] at HG2
      have HG3 := Lib.hid HG2
      have hm' : (n : Int) % 2 = 0 := by omega
      clear HG2 hm
      go_enter Try.func88, Try.ntmps88
      go_wp2_with fail
      refine HC.out.mono ?_
      rintro e w1 ⟨rfl, hp⟩
      have HP := Lib.hid hp
      clear hp
      go_wp2
      go_ret2
      exact ⟨by first | (rw [← HZ.out]; rfl) | (rw [HG3.out]; rfl), HP.out⟩
    · have HG2 := HG.out
      rw [if_neg hm, ← HDV.out] at HG2
      have HG3 := Lib.hid HG2
      have hm' : ¬ (n : Int) % 2 = 0 := by omega
      clear HG2 hm
      go_enter Try.func88, Try.ntmps88
      go_wp2_with fail
      refine HC.out.mono ?_
      rintro e w1 ⟨rfl, hp⟩
      have HP := Lib.hid hp
      clear hp
      go_wp2
      go_ret2
      exact ⟨by first | (rw [← HZ.out]; rfl) | (rw [HG3.out]; rfl), HP.out⟩
  · go_enter Try.func88, Try.ntmps88
    go_wp2_with fail
    refine HC.out.mono ?_
    rintro e w1 ⟨rfl, hp⟩
    have HP := Lib.hid hp
    clear hp
    go_wp2
    go_ret2
    exact ⟨by first | (rw [← HZ.out]; rfl) | rfl, HP.out⟩
theorem rdone_any {w : World} {q : Nat} {r : Rdr} (hlen : r.rest.length ≤ 1000000) (h : RdrM 110 w q r) : Calls Try.prog 66 #[.pointer (some ⟨q, 0, none⟩)] w (fun e w' => e = .returned (.int .i64 r.done) ∧ w' = w) := by
  obtain ⟨A, c, hq, hr, hu, hok, hc, hcm, hnn⟩ := h
  obtain ⟨c0, c1, f0, f1⟩ := heap_cells hq
  clear hq hr hu
  by_cases hb : r.bad = true
  · have HD : Hid (r.done = 5) := by unfold Hid Rdr.done; rw [if_pos (.inl hb)]
    rw [hb] at c1
    clear hok hb
    go_enter Try.func66, Try.ntmps66
    go_wp2
    go_ret
    exact ⟨by rw [HD.out]; rfl, rfl⟩
  · have hbf : r.bad = false := by simpa using hb
    rw [hbf] at c1
    by_cases hl : 0 < r.rest.length
    · have HD : Hid (r.done = 5) := by unfold Hid Rdr.done; rw [if_pos (.inr hl)]
      clear hok hb hbf
      go_enter Try.func66, Try.ntmps66
      go_wp2
      go_ret
      exact ⟨by rw [HD.out]; rfl, rfl⟩
    · have HD : Hid (r.done = 0) := by unfold Hid Rdr.done; rw [if_neg (by rintro (h | h); exact hb h; exact hl h)]
      have hl0 : r.rest.length = 0 := by omega
      clear hok hb hbf
      go_enter Try.func66, Try.ntmps66
      go_wp2
      go_ret
      exact ⟨by rw [HD.out]; rfl, rfl⟩
set_option maxRecDepth 100000 in
set_option maxHeartbeats 1000000 in
theorem rint_any {w : World} {q : Nat} {r : Rdr} (hlen : r.rest.length ≤ 1000000) (h : RdrM 110 w q r) : Calls Try.prog 91 #[.pointer (some ⟨q, 0, none⟩)] w (fun e w' => e = .returned (.tuple #[.int .i64 (zagN r.uint.1), .int .i64 r.uint.2.1]) ∧ RdrPost 110 w q r.uint.2.2 w') := by
  have hc := ruint_any hlen h
  unfold UintPost at hc
  obtain ⟨hn64, he⟩ := uint_fst h
  clear h
  generalize r.uint.2.2 = r2 at *
  generalize r.uint.1 = n at *
  generalize r.uint.2.1 = er at *
  have HC := Lib.hid hc
  have HZ := Lib.hid (zag_code hn64)
  have HG : Hid (zagN n = if n % 2 = 0 then ((n / 2 : Nat) : Int) else -((n / 2 : Nat) : Int) - 1) := rfl
  have hdv : (n : Int) / 2 = ((n / 2 : Nat) : Int) := by omega
  have HDV := Lib.hid hdv
  clear hc hdv
  rcases he with rfl | ⟨rfl, rfl⟩
  · by_cases hm : n % 2 = 0
    · have HG2 := HG.out
      rw [if_pos hm, ← HDV.out] at HG2
      have HG3 := Lib.hid HG2
      have hm' : (n : Int) % 2 = 0 := by omega
      clear HG2 hm
      go_enter Try.func91, Try.ntmps91
      go_wp2_with fail
      refine HC.out.mono ?_
      rintro e w1 ⟨rfl, hp⟩
      have HP := Lib.hid hp
      clear hp
      go_wp2
      go_ret2
      exact ⟨by first | (rw [← HZ.out]; rfl) | (rw [HG3.out]; rfl), HP.out⟩
    · have HG2 := HG.out
      rw [if_neg hm, ← HDV.out] at HG2
      have HG3 := Lib.hid HG2
      have hm' : ¬ (n : Int) % 2 = 0 := by omega
      clear HG2 hm
      go_enter Try.func91, Try.ntmps91
      go_wp2_with fail
      refine HC.out.mono ?_
      rintro e w1 ⟨rfl, hp⟩
      have HP := Lib.hid hp
      clear hp
      go_wp2
      go_ret2
      exact ⟨by first | (rw [← HZ.out]; rfl) | (rw [HG3.out]; rfl), HP.out⟩
  · go_enter Try.func91, Try.ntmps91
    go_wp2_with fail
    refine HC.out.mono ?_
    rintro e w1 ⟨rfl, hp⟩
    have HP := Lib.hid hp
    clear hp
    go_wp2
    go_ret2
    exact ⟨by first | (rw [← HZ.out]; rfl) | rfl, HP.out⟩
theorem uint_bad {ty : TypeId} {w : World} {q : Nat} {r : Rdr} (h : RdrM ty w q r) (he : r.uint.2.1 = 0) : r.uint.2.2.bad = false := by
  obtain ⟨_, _, _, _, hu, hok, _⟩ := h
  unfold Rdr.uint at he ⊢
  split at he
  · rename_i n l h
    simp only
    cases hb : r.bad with
    | false => rfl
    | true => have := hok hb; rw [this] at h; unfold uintD uintGo at h; cases h
  · cases he
set_option maxRecDepth 100000 in
set_option maxHeartbeats 1000000 in
theorem bytes_any {w : World} {q : Nat} {r : Rdr} (h : RdrM 107 w q r) : Calls Try.prog 61 #[.pointer (some ⟨q, 0, none⟩)] w (TakePost 107 w q r.bytes) := by
  have hc := uint_any h
  unfold UintPost at hc
  obtain ⟨hn64, he⟩ := uint_fst h
  have HB : Hid (r.bytes = if r.uint.2.1 = 0 then r.uint.2.2.take r.uint.1 else ([], r.uint.2.1, r.uint.2.2)) := rfl
  clear h
  unfold Hid at HB
  generalize r.uint.2.2 = r2 at *
  generalize r.uint.1 = n at *
  generalize r.uint.2.1 = er at *
  have HC := Lib.hid hc
  clear hc
  rcases he with rfl | ⟨rfl, rfl⟩
  · rw [if_pos rfl] at HB
    have HBB := Lib.hid HB
    clear HB
    go_enter Try.func61, Try.ntmps61
    go_wp2_with fail
    refine HC.out.mono ?_
    rintro e w1 ⟨rfl, hp⟩
    have HT := Lib.hid (take_any n hn64 hp.1)
    have HP := Lib.hid hp
    clear hp
    go_wp2_with fail
    refine HT.out.mono ?_
    rintro e w2 ⟨D, d, rfl, h1, h2, h3, h4, h5⟩
    have HTT : Hid (TakePost 107 w q r.bytes (.returned (.tuple #[.slice D (r2.take n).1.length d, .int .i64 (r2.take n).2.1])) w2) := by
      unfold Hid; rw [HBB.out]; exact ⟨D, d, rfl, h1, h2, h3, h4, h5.1, HP.out.2.trans h5.2 (fun _ _ h => h)⟩
    clear h1 h2 h3 h4 h5
    go_wp2
    go_ret2
    exact HTT.out
  · rw [if_neg (by decide)] at HB
    have HBB := Lib.hid HB
    clear HB
    go_enter Try.func61, Try.ntmps61
    go_wp2_with fail
    refine HC.out.mono ?_
    rintro e w1 ⟨rfl, hp⟩
    have HP := Lib.hid hp
    clear hp
    go_wp2
    go_ret2
    unfold TakePost
    rw [HBB.out]
    exact ⟨none, 0, rfl, RdT.nil _ _ _, (by intro x hx; cases hx), fun _ => rfl, Nat.le_refl _, HP.out⟩
end Go.Proofs.Ytndifkjenjfjpaa
