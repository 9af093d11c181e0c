/-
  WHAT IS SHOWN: plain facts on the yields of bands (packages victim and tegularef18): the order that they give. Conditions: as each theorem names them.
-/
import Derived.Test.YtbnkpknoknenjaaBandPlain
namespace Go.Proofs.Ytbnkpknoknenjaa
set_option linter.unusedVariables false
open Go.RowKit

theorem bits_mask (x : Int) (k : Nat) (hk : k ≤ 64) (h0 : 0 ≤ x) (h1 : x < 18446744073709551616) : bits .and .u64 x ((2 ^ k - 1 : Nat) : Int) = x % ((2 ^ k : Nat) : Int) := by
  obtain ⟨a, rfl⟩ := Int.eq_ofNat_of_zero_le h0
  have h2 : 2 ^ k ≤ 2 ^ 64 := Nat.pow_le_pow_right (by omega) hk
  have h3 : 0 < 2 ^ k := Nat.two_pow_pos k
  rw [bits_and_u64_nat a (2 ^ k - 1) (by omega) (by omega), Nat.and_two_pow_sub_one_eq_mod]
  simp
theorem mask32 (x : Int) (h0 : 0 ≤ x) (h1 : x < 18446744073709551616) : bits .and .u64 x 4294967295 = x % 4294967296 := bits_mask x 32 (by omega) h0 h1
theorem mask20 (x : Int) (h0 : 0 ≤ x) (h1 : x < 18446744073709551616) : bits .and .u64 x 1048575 = x % 1048576 := bits_mask x 20 (by omega) h0 h1
theorem u64_mod (x : Int) : IntKind.u64.wrap x = x % 18446744073709551616 := IntKind.wrap_u64 x
theorem u64_self {x : Int} (h0 : 0 ≤ x) (h1 : x < 18446744073709551616) : IntKind.u64.wrap x = x := by rw [u64_mod]; omega
theorem mul_bound {a b A B : Int} (ha : 0 ≤ a) (hb : 0 ≤ b) (hA : a ≤ A) (hB : b ≤ B) : 0 ≤ a * b ∧ a * b ≤ A * B :=
  ⟨Int.mul_nonneg ha hb, Int.mul_le_mul hA hB hb (Int.le_trans ha hA)⟩

/-- The high word of a product, reckoned by halves. -/
theorem mul_halves (x y : Int) (hx : 0 ≤ x) (hx2 : x < 18446744073709551616) (hy : 0 ≤ y) (hy2 : y < 18446744073709551616) :
    IntKind.u64.wrap (IntKind.u64.wrap (IntKind.u64.wrap (x / 4294967296 * (y / 4294967296)) +
      IntKind.u64.wrap (IntKind.u64.wrap (x / 4294967296 * bits .and .u64 y 4294967295) + IntKind.u64.wrap (bits .and .u64 x 4294967295 * bits .and .u64 y 4294967295) / 4294967296) / 4294967296) +
      IntKind.u64.wrap (bits .and .u64 (IntKind.u64.wrap (IntKind.u64.wrap (x / 4294967296 * bits .and .u64 y 4294967295) + IntKind.u64.wrap (bits .and .u64 x 4294967295 * bits .and .u64 y 4294967295) / 4294967296)) 4294967295 +
        IntKind.u64.wrap (bits .and .u64 x 4294967295 * (y / 4294967296))) / 4294967296) = x * y / 18446744073709551616 := by
  rw [mask32 x hx hx2, mask32 y hy hy2]
  have ex : x = x / 4294967296 * 4294967296 + x % 4294967296 := by omega
  have ey : y = y / 4294967296 * 4294967296 + y % 4294967296 := by omega
  have b1 : 0 ≤ x / 4294967296 ∧ x / 4294967296 ≤ 4294967295 := by omega
  have b2 : 0 ≤ x % 4294967296 ∧ x % 4294967296 ≤ 4294967295 := by omega
  have b3 : 0 ≤ y / 4294967296 ∧ y / 4294967296 ≤ 4294967295 := by omega
  have b4 : 0 ≤ y % 4294967296 ∧ y % 4294967296 ≤ 4294967295 := by omega
  generalize x / 4294967296 = x1 at *
  generalize x % 4294967296 = x0 at *
  generalize y / 4294967296 = y1 at *
  generalize y % 4294967296 = y0 at *
  obtain ⟨a0, a1⟩ := mul_bound b2.1 b4.1 b2.2 b4.2
  obtain ⟨c0, c1⟩ := mul_bound b1.1 b4.1 b1.2 b4.2
  obtain ⟨d0, d1⟩ := mul_bound b2.1 b3.1 b2.2 b3.2
  obtain ⟨e0, e1⟩ := mul_bound b1.1 b3.1 b1.2 b3.2
  have hxy : x * y = x1 * y1 * 18446744073709551616 + (x1 * y0 + x0 * y1) * 4294967296 + x0 * y0 := by
    rw [ex, ey]
    simp only [Int.add_mul, Int.mul_add]
    have t1 : x1 * 4294967296 * (y1 * 4294967296) = x1 * y1 * 18446744073709551616 := by
      rw [Int.mul_assoc, Int.mul_left_comm 4294967296, ← Int.mul_assoc]; omega
    have t2 : x1 * 4294967296 * y0 = x1 * y0 * 4294967296 := by rw [Int.mul_assoc, Int.mul_comm 4294967296, ← Int.mul_assoc]
    have t3 : x0 * (y1 * 4294967296) = x0 * y1 * 4294967296 := by rw [Int.mul_assoc]
    omega
  rw [hxy]
  generalize x1 * y1 = p at *
  generalize x1 * y0 = q at *
  generalize x0 * y1 = r at *
  generalize x0 * y0 = s at *
  clear hxy ex ey
  rw [u64_self (x := s) (by omega) (by omega), u64_self (x := q) (by omega) (by omega), u64_self (x := r) (by omega) (by omega), u64_self (x := p) (by omega) (by omega)]
  rw [u64_self (x := q + s / 4294967296) (by omega) (by omega)]
  rw [mask32 _ (by omega) (by omega)]
  rw [u64_self (x := (q + s / 4294967296) % 4294967296 + r) (by omega) (by omega), u64_self (x := p + (q + s / 4294967296) / 4294967296) (by omega) (by omega)]
  rw [u64_self (by omega) (by omega)]
  omega

theorem Cells4.new_at (w : World) (t : TypeId) (n : Nat) (v0 v1 v2 v3 : Value) (h : n = w.heap.size) : Cells4 (w.alloc (.cells #[v0, v1, v2, v3] t)) n v0 v1 v2 v3 := by subst h; exact Cells4.new w t v0 v1 v2 v3

/-! ### yields -/
def ageN (b : BI) (now : Int) : Int := if b.age < now then (if now - b.age < 1099511627776 then now - b.age else 1099511627776) else 0
theorem ageN_bound (b : BI) (now : Int) : 0 ≤ ageN b now ∧ ageN b now ≤ 1099511627776 := by unfold ageN; split <;> (try split) <;> omega
/-- The numerator and the denominator of a yield. -/
def numN (b : BI) (sz now : Int) : Int := (sz - b.live) * (ageN b now + 1)
def denN (b : BI) (sz : Int) : Int := sz + b.live
def fitB (b : BI) : Bool := decide (0 ≤ b.live) && decide (b.live ≤ 1048576)
def szB (sz : Int) : Bool := decide (1 ≤ sz) && decide (sz ≤ 1048576)
def betterB (a b : BI) (sz now : Int) : Bool := fitB a && fitB b && szB sz && decide (numN b sz now * denN a sz < numN a sz now * denN b sz)
structure Fine (b : BI) (sz : Int) : Prop where
  live0 : 0 ≤ b.live
  live1 : b.live ≤ 1048576
  sz0 : 1 ≤ sz
  sz1 : sz ≤ 1048576
theorem betterB_fine {a b : BI} {sz : Int} (now : Int) (ha : Fine a sz) (hb : Fine b sz) : betterB a b sz now = decide (numN b sz now * denN a sz < numN a sz now * denN b sz) := by
  unfold betterB fitB szB
  simp [ha.live0, ha.live1, hb.live0, hb.live1, ha.sz0, ha.sz1]
theorem fine_of {a b : BI} {sz now : Int} (h : betterB a b sz now = true) : Fine a sz ∧ Fine b sz := by
  unfold betterB fitB szB at h
  simp at h
  exact ⟨⟨h.1.1.1.1, h.1.1.1.2, h.1.2.1, h.1.2.2⟩, ⟨h.1.1.2.1, h.1.1.2.2, h.1.2.1, h.1.2.2⟩⟩
theorem denN_pos {b : BI} {sz : Int} (h : Fine b sz) : 0 < denN b sz := by have := h.live0; have := h.sz0; unfold denN; omega
/-- The order is that of fractions with positive denominators. -/
theorem frac_trans {A B C a b c : Int} (ha : 0 < a) (hb : 0 < b) (hc : 0 < c) (h1 : B * a < A * b) (h2 : C * b < B * c) : C * a < A * c := by
  have k1 : B * a * c < A * b * c := Int.mul_lt_mul_of_pos_right h1 hc
  have k2 : C * b * a < B * c * a := Int.mul_lt_mul_of_pos_right h2 ha
  have e1 : B * c * a = B * a * c := by rw [Int.mul_assoc, Int.mul_comm c a, ← Int.mul_assoc]
  have e2 : C * b * a = C * a * b := by rw [Int.mul_assoc, Int.mul_comm b a, ← Int.mul_assoc]
  have e3 : A * b * c = A * c * b := by rw [Int.mul_assoc, Int.mul_comm b c, ← Int.mul_assoc]
  have k3 : C * a * b < A * c * b := by omega
  exact Int.lt_of_mul_lt_mul_right k3 (by omega)
theorem frac_trans_le {A B C a b c : Int} (ha : 0 < a) (hb : 0 < b) (hc : 0 < c) (h1 : A * b ≤ B * a) (h2 : B * c ≤ C * b) : A * c ≤ C * a := by
  have k1 : A * b * c ≤ B * a * c := Int.mul_le_mul_of_nonneg_right h1 (by omega)
  have k2 : B * c * a ≤ C * b * a := Int.mul_le_mul_of_nonneg_right h2 (by omega)
  have e1 : B * c * a = B * a * c := by rw [Int.mul_assoc, Int.mul_comm c a, ← Int.mul_assoc]
  have e2 : C * b * a = C * a * b := by rw [Int.mul_assoc, Int.mul_comm b a, ← Int.mul_assoc]
  have e3 : A * b * c = A * c * b := by rw [Int.mul_assoc, Int.mul_comm b c, ← Int.mul_assoc]
  have k3 : A * c * b ≤ C * a * b := by omega
  exact Int.le_of_mul_le_mul_right k3 hb
theorem better_irrefl (a : BI) (sz now : Int) : betterB a a sz now = false := by
  unfold betterB; simp
theorem better_asymm {a b : BI} {sz now : Int} (h : betterB a b sz now = true) : betterB b a sz now = false := by
  obtain ⟨ha, hb⟩ := fine_of h
  rw [betterB_fine now ha hb] at h
  rw [betterB_fine now hb ha]
  simp at h ⊢; omega
theorem better_trans {a b c : BI} {sz now : Int} (h : betterB a b sz now = true) (h2 : betterB b c sz now = true) : betterB a c sz now = true := by
  obtain ⟨ha, hb⟩ := fine_of h
  obtain ⟨_, hc⟩ := fine_of h2
  rw [betterB_fine now ha hb] at h
  rw [betterB_fine now hb hc] at h2
  rw [betterB_fine now ha hc]
  simp at h h2 ⊢
  exact frac_trans (denN_pos ha) (denN_pos hb) (denN_pos hc) h h2
theorem better_neg_trans {a b c : BI} {sz now : Int} (ha : Fine a sz) (hb : Fine b sz) (hc : Fine c sz) (h : betterB a b sz now = false) (h2 : betterB b c sz now = false) : betterB a c sz now = false := by
  rw [betterB_fine now ha hb] at h
  rw [betterB_fine now hb hc] at h2
  rw [betterB_fine now ha hc]
  simp at h h2 ⊢
  exact frac_trans_le (denN_pos ha) (denN_pos hb) (denN_pos hc) h h2
theorem better_live {a b : BI} {sz now : Int} (ha : Fine a sz) (hb : Fine b sz) (hage : a.age = b.age) : betterB a b sz now = decide (a.live < b.live) := by
  rw [betterB_fine now ha hb]
  have hg : ageN a now = ageN b now := by unfold ageN; rw [hage]
  have hb0 := (ageN_bound b now).1
  unfold numN denN
  rw [hg]
  generalize ageN b now = g at *
  have e1 : (sz - b.live) * (g + 1) * (sz + a.live) = (g + 1) * ((sz - b.live) * (sz + a.live)) := by rw [Int.mul_comm (sz - b.live), Int.mul_assoc]
  have e2 : (sz - a.live) * (g + 1) * (sz + b.live) = (g + 1) * ((sz - a.live) * (sz + b.live)) := by rw [Int.mul_comm (sz - a.live), Int.mul_assoc]
  have e3 : (sz - b.live) * (sz + a.live) = sz * sz + sz * a.live - b.live * sz - b.live * a.live := by simp only [Int.sub_mul, Int.mul_add]; omega
  have e4 : (sz - a.live) * (sz + b.live) = sz * sz + sz * b.live - a.live * sz - a.live * b.live := by simp only [Int.sub_mul, Int.mul_add]; omega
  have e5 : b.live * a.live = a.live * b.live := Int.mul_comm _ _
  have e6 : b.live * sz = sz * b.live := Int.mul_comm _ _
  have e7 : a.live * sz = sz * a.live := Int.mul_comm _ _
  have hsz := ha.sz0
  rw [e1, e2]
  have key : (g + 1) * ((sz - b.live) * (sz + a.live)) < (g + 1) * ((sz - a.live) * (sz + b.live)) ↔ a.live < b.live := by
    constructor
    · intro h
      have h1 := Int.lt_of_mul_lt_mul_left h (by omega)
      have h2 : sz * a.live < sz * b.live := by omega
      exact Int.lt_of_mul_lt_mul_left h2 (by omega)
    · intro h
      have h2 : sz * a.live < sz * b.live := Int.mul_lt_mul_of_pos_left h (by omega)
      exact Int.mul_lt_mul_of_pos_left (by omega) (by omega)
  simp only [key]
theorem better_age {a b : BI} {sz now : Int} (ha : Fine a sz) (hb : Fine b sz) (hl : a.live = b.live) (hs : a.live < sz) (h1 : a.age ≤ now) (h2 : b.age ≤ now) (h3 : now - a.age ≤ 1099511627776) (h4 : now - b.age ≤ 1099511627776) : betterB a b sz now = decide (a.age < b.age) := by
  rw [betterB_fine now ha hb]
  have g1 : ageN a now = now - a.age := by unfold ageN; split <;> (try split) <;> omega
  have g2 : ageN b now = now - b.age := by unfold ageN; split <;> (try split) <;> omega
  unfold numN denN
  rw [g1, g2, ← hl]
  have hl0 := ha.live0
  have e1 : (sz - a.live) * (now - b.age + 1) * (sz + a.live) = (sz - a.live) * (sz + a.live) * (now - b.age + 1) := by rw [Int.mul_assoc, Int.mul_comm (now - b.age + 1), ← Int.mul_assoc]
  have e2 : (sz - a.live) * (now - a.age + 1) * (sz + a.live) = (sz - a.live) * (sz + a.live) * (now - a.age + 1) := by rw [Int.mul_assoc, Int.mul_comm (now - a.age + 1), ← Int.mul_assoc]
  rw [e1, e2]
  have hp : 0 < (sz - a.live) * (sz + a.live) := Int.mul_pos (by omega) (by omega)
  have key : (sz - a.live) * (sz + a.live) * (now - b.age + 1) < (sz - a.live) * (sz + a.live) * (now - a.age + 1) ↔ a.age < b.age := by
    constructor
    · intro h
      have := Int.lt_of_mul_lt_mul_left h (by omega)
      omega
    · intro h
      exact Int.mul_lt_mul_of_pos_left (by omega) hp
  simp only [key]

/-! ### the choice -/
def candB (sz opn : Int) (i : Nat) (b : BI) : Bool := !decide ((i : Int) = opn) && (decide (0 < b.used) && decide (b.live < sz))
/-- Is b (a candidate) taken in place of the best so far? -/
def takeB (sz now : Int) (best b : BI) : Bool := betterB b best sz now || (!betterB best b sz now && decide (b.wear < best.wear))
def chooseStep (sz now opn : Int) (s : Option (Nat × BI)) (i : Nat) (b : BI) : Option (Nat × BI) :=
  if candB sz opn i b then (match s with | none => some (i, b) | some (j, c) => if takeB sz now c b then some (i, b) else some (j, c)) else s
def chooseFrom (sz now opn : Int) : Option (Nat × BI) → Nat → List BI → Option (Nat × BI)
  | s, _, [] => s
  | s, i, b :: l => chooseFrom sz now opn (chooseStep sz now opn s i b) (i + 1) l
def chRes (s : Option (Nat × BI)) : Int × Int := match s with | none => (0, 9) | some (j, _) => ((j : Int), 0)
def chooseN (l : List BI) (sz now opn : Int) : Int × Int :=
  if validB l sz && decide (sz ≤ 1048576) then chRes (chooseFrom sz now opn none 0 l) else (0, 1)
theorem chooseFrom_snoc (sz now opn : Int) : ∀ (l : List BI) (s : Option (Nat × BI)) (k : Nat) (b : BI), chooseFrom sz now opn s k (l ++ [b]) = chooseStep sz now opn (chooseFrom sz now opn s k l) (k + l.length) b
  | [], s, k, b => by simp [chooseFrom]
  | a :: l, s, k, b => by
    rw [List.cons_append, chooseFrom, chooseFrom, chooseFrom_snoc sz now opn l, List.length_cons]
    congr 1; omega
theorem chooseFrom_take (sz now opn : Int) (l : List BI) (s : Option (Nat × BI)) (k : Nat) (h : k < l.length) : chooseFrom sz now opn s 0 (l.take (k + 1)) = chooseStep sz now opn (chooseFrom sz now opn s 0 (l.take k)) k l[k] := by
  rw [List.take_succ_eq_append_getElem h, chooseFrom_snoc, List.length_take, Nat.min_eq_left (by omega), Nat.zero_add]
theorem choose_inv (sz now opn : Int) (l : List BI) : ∀ k, k ≤ l.length → (chooseFrom sz now opn none 0 (l.take k) = none ∨ ∃ (i : Nat) (hi : i < l.length), i < k ∧ chooseFrom sz now opn none 0 (l.take k) = some (i, l[i]) ∧ candB sz opn i l[i] = true)
  | 0, _ => by left; simp [chooseFrom]
  | k + 1, h => by
    rw [chooseFrom_take sz now opn l _ k (by omega)]
    unfold chooseStep
    by_cases hc : candB sz opn k l[k] = true
    · rw [if_pos hc]
      right
      rcases choose_inv sz now opn l k (by omega) with h1 | ⟨i, hi, hik, h1, h2⟩
      · rw [h1]; exact ⟨k, by omega, by omega, rfl, hc⟩
      · rw [h1]
        simp only
        split
        · exact ⟨k, by omega, by omega, rfl, hc⟩
        · exact ⟨i, hi, by omega, rfl, h2⟩
    · rw [if_neg hc]
      rcases choose_inv sz now opn l k (by omega) with h1 | ⟨i, hi, hik, h1, h2⟩
      · exact .inl h1
      · exact .inr ⟨i, hi, by omega, h1, h2⟩
end Go.Proofs.Ytbnkpknoknenjaa
