/-
  WHAT IS SHOWN: plain facts on lists of bands: what Append, Unlink and Reset keep valid, what they do to the sum of Live, which band is open. Conditions: as each theorem names them.
-/
import Derived.Test.YtbnkpknoknenjaaBandPlain
namespace Go.Proofs.Ytbnkpknoknenjaa
set_option linter.unusedVariables false
open Go.RowKit

def okB (sz : Int) (b : BI) : Prop := 0 ≤ b.live ∧ b.live ≤ b.used ∧ b.used ≤ sz
theorem badB_false (sz : Int) (b : BI) : badB sz b.used b.live = false ↔ okB sz b := by
  unfold badB okB; simp; omega
theorem validB_iff (l : List BI) (sz : Int) : validB l sz = true ↔ 1 ≤ l.length ∧ l.length ≤ 64 ∧ 1 ≤ sz ∧ ∀ b ∈ l, okB sz b := by
  unfold validB anyBad
  simp only [Bool.and_eq_true, decide_eq_true_eq, Bool.not_eq_true', List.any_eq_false, and_assoc]
  constructor
  · rintro ⟨a, b, c, d⟩
    exact ⟨a, b, c, fun x hx => (badB_false sz x).1 (by simpa using d x hx)⟩
  · rintro ⟨a, b, c, d⟩
    exact ⟨a, b, c, fun x hx => by simpa using (badB_false sz x).2 (d x hx)⟩
theorem valid_set {l : List BI} {sz : Int} (h : validB l sz = true) (k : Nat) (b : BI) (hb : okB sz b) : validB (l.set k b) sz = true := by
  rw [validB_iff] at h ⊢
  obtain ⟨h1, h2, h3, h4⟩ := h
  refine ⟨by simpa using h1, by simpa using h2, h3, fun x hx => ?_⟩
  rcases List.mem_or_eq_of_mem_set hx with h | rfl
  · exact h4 x h
  · exact hb
theorem inL_of {l : List BI} {band : Int} (h : inL l band = true) : ∃ k : Nat, band = (k : Int) ∧ k < l.length := by
  simp [inL] at h
  obtain ⟨k, rfl⟩ := Int.eq_ofNat_of_zero_le h.1
  exact ⟨k, rfl, by omega⟩
theorem wrap64_of {n : Int} (h : I64 n) : wrap64 n = n := by obtain ⟨h1, h2⟩ := h; unfold wrap64; omega
theorem appE_zero {l : List BI} {sz band : Int} (h : appE l sz band = 0) : ∃ k : Nat, band = (k : Int) ∧ ∃ hk : k < l.length, l[k].used < sz := by
  unfold appE at h
  cases hi : inL l band
  · rw [hi] at h; simp at h
  · obtain ⟨k, rfl, hk⟩ := inL_of hi
    rw [hi, at_eq hk] at h
    refine ⟨k, rfl, hk, ?_⟩
    by_cases h1 : sz ≤ l[k].used
    · simp [h1] at h
    · omega
theorem unlE_zero {l : List BI} {band : Int} (h : unlE l band = 0) : ∃ k : Nat, band = (k : Int) ∧ ∃ hk : k < l.length, 1 ≤ l[k].live := by
  unfold unlE at h
  cases hi : inL l band
  · rw [hi] at h; simp at h
  · obtain ⟨k, rfl, hk⟩ := inL_of hi
    rw [hi, at_eq hk] at h
    refine ⟨k, rfl, hk, ?_⟩
    by_cases h1 : l[k].live < 1
    · simp [h1] at h
    · omega
theorem resE_zero {l : List BI} {band : Int} (h : resE l band = 0) : ∃ k : Nat, band = (k : Int) ∧ k < l.length := by
  unfold resE at h
  cases hi : inL l band
  · rw [hi] at h; simp at h
  · exact inL_of hi
theorem appL_zero {l : List BI} {sz now : Int} {k : Nat} (hk : k < l.length) (h : appE l sz k = 0) : appL l sz k now = l.set k (appBI now l[k]) := by
  unfold appL; rw [if_pos h, at_eq hk]; rfl
theorem unlL_zero {l : List BI} {k : Nat} (hk : k < l.length) (h : unlE l k = 0) : unlL l k = l.set k (unlBI l[k]) := by
  unfold unlL; rw [if_pos h, at_eq hk]; rfl
theorem resL_zero {l : List BI} {k : Nat} (hk : k < l.length) (h : resE l k = 0) : resL l k = l.set k (resBI l[k]) := by
  unfold resL; rw [if_pos h, at_eq hk]; rfl
theorem app_valid {l : List BI} {sz band now : Int} (hs : I64 sz) (h : validB l sz = true) (he : appE l sz band = 0) : validB (appL l sz band now) sz = true := by
  obtain ⟨k, rfl, hk, hu⟩ := appE_zero he
  rw [appL_zero hk he]
  have hb := ((validB_iff l sz).1 h).2.2.2 _ (List.getElem_mem hk)
  obtain ⟨h1, h2, h3⟩ := hb
  obtain ⟨h4, h5⟩ := hs
  refine valid_set h k _ ?_
  unfold okB appBI
  rw [wrap64_of ⟨by omega, by omega⟩, wrap64_of ⟨by omega, by omega⟩]
  exact ⟨by simp; omega, by simp; omega, by simp; omega⟩
theorem unl_valid {l : List BI} {sz band : Int} (h : validB l sz = true) (he : unlE l band = 0) : validB (unlL l band) sz = true := by
  obtain ⟨k, rfl, hk, hu⟩ := unlE_zero he
  rw [unlL_zero hk he]
  obtain ⟨h1, h2, h3⟩ := ((validB_iff l sz).1 h).2.2.2 _ (List.getElem_mem hk)
  refine valid_set h k _ ?_
  unfold okB unlBI
  exact ⟨by simp; omega, by simp; omega, by simp; omega⟩
theorem res_valid {l : List BI} {sz band : Int} (h : validB l sz = true) (he : resE l band = 0) : validB (resL l band) sz = true := by
  obtain ⟨k, rfl, hk⟩ := resE_zero he
  rw [resL_zero hk he]
  have hs := ((validB_iff l sz).1 h).2.2.1
  refine valid_set h k _ ?_
  unfold okB resBI
  exact ⟨by simp, by simp, by simp; omega⟩

/-! ### sums -/
def sumN (l : List BI) : Int := (l.map (·.live)).sum
theorem live_fold (M : Int) : ∀ (l : List BI) (n : Int), 0 ≤ n → (∀ b ∈ l, 0 ≤ b.live ∧ b.live ≤ M) → n + l.length * M ≤ 9223372036854775807 → l.foldl (fun n b => wrap64 (n + b.live)) n = n + sumN l
  | [], n, _, _, _ => by simp [sumN]
  | b :: l, n, h0, hb, hM => by
    have h1 := hb b (by simp)
    have h2 : 0 ≤ (l.length : Int) * M := Int.mul_nonneg (by omega) (by omega)
    have h3 : ((b :: l).length : Int) * M = l.length * M + M := by rw [List.length_cons, Int.natCast_add, Int.add_mul]; simp
    rw [List.foldl_cons, wrap64_of ⟨by omega, by omega⟩, live_fold M l (n + b.live) (by omega) (fun x hx => hb x (by simp [hx])) (by omega)]
    simp [sumN]; omega
theorem liveN_eq {l : List BI} {sz : Int} (h : validB l sz = true) (hs : sz ≤ 1099511627776) : liveN l = sumN l := by
  obtain ⟨h1, h2, h3, h4⟩ := (validB_iff l sz).1 h
  unfold liveN
  rw [live_fold sz l 0 (by omega) (fun b hb => ⟨(h4 b hb).1, Int.le_trans (h4 b hb).2.1 (h4 b hb).2.2⟩) ?_]
  · omega
  · have h5 : (l.length : Int) * sz ≤ 64 * sz := Int.mul_le_mul_of_nonneg_right (by omega) (by omega)
    omega
theorem sumN_nonneg {l : List BI} (h : ∀ b ∈ l, 0 ≤ b.live) : 0 ≤ sumN l := by
  induction l with
  | nil => simp [sumN]
  | cons b l ih =>
    have := ih (fun x hx => h x (by simp [hx]))
    have h0 := h b (by simp)
    simp [sumN] at this ⊢; omega
theorem sumN_le {l : List BI} {M : Int} (h : ∀ b ∈ l, b.live ≤ M) : sumN l ≤ l.length * M := by
  induction l with
  | nil => simp [sumN]
  | cons b l ih =>
    have h1 := ih (fun x hx => h x (by simp [hx]))
    have h0 := h b (by simp)
    have h3 : ((b :: l).length : Int) * M = l.length * M + M := by rw [List.length_cons, Int.natCast_add, Int.add_mul]; simp
    have h4 : sumN (b :: l) = b.live + sumN l := by simp [sumN]
    omega
theorem sumN_bound {l : List BI} {sz : Int} (h : validB l sz = true) (hs : sz ≤ 1099511627776) : 0 ≤ sumN l ∧ sumN l ≤ 70368744177664 := by
  obtain ⟨h1, h2, h3, h4⟩ := (validB_iff l sz).1 h
  refine ⟨sumN_nonneg fun b hb => (h4 b hb).1, ?_⟩
  have h6 := sumN_le (M := sz) fun b hb => Int.le_trans (h4 b hb).2.1 (h4 b hb).2.2
  have h5 : (l.length : Int) * sz ≤ 64 * sz := Int.mul_le_mul_of_nonneg_right (by omega) (by omega)
  omega
theorem sumN_set : ∀ (l : List BI) (k : Nat) (b : BI) (hk : k < l.length), sumN (l.set k b) = sumN l - l[k].live + b.live
  | a :: l, 0, b, _ => by simp [sumN]; omega
  | a :: l, k + 1, b, hk => by
    have := sumN_set l k b (by simpa using hk)
    simp [sumN] at this ⊢; omega
theorem app_sum {l : List BI} {sz band now : Int} (hs : sz ≤ 1099511627776) (h : validB l sz = true) (he : appE l sz band = 0) : liveN (appL l sz band now) = liveN l + 1 := by
  have hv := app_valid (now := now) ⟨by have := ((validB_iff l sz).1 h).2.2.1; omega, by omega⟩ h he
  rw [liveN_eq hv hs, liveN_eq h hs]
  obtain ⟨k, rfl, hk, hu⟩ := appE_zero he
  rw [appL_zero hk he, sumN_set _ _ _ hk]
  obtain ⟨h1, h2, h3⟩ := ((validB_iff l sz).1 h).2.2.2 _ (List.getElem_mem hk)
  unfold appBI
  rw [wrap64_of (n := l[k].live + 1) ⟨by omega, by omega⟩]
  simp only; omega
theorem unl_sum {l : List BI} {sz band : Int} (hs : sz ≤ 1099511627776) (h : validB l sz = true) (he : unlE l band = 0) : liveN (unlL l band) = liveN l - 1 := by
  have hv := unl_valid h he
  rw [liveN_eq hv hs, liveN_eq h hs]
  obtain ⟨k, rfl, hk, hu⟩ := unlE_zero he
  rw [unlL_zero hk he, sumN_set _ _ _ hk]
  unfold unlBI
  simp only; omega
theorem res_sum {l : List BI} {sz band : Int} (hs : sz ≤ 1099511627776) (h : validB l sz = true) (he : resE l band = 0) : ∃ k : Nat, band = (k : Int) ∧ ∃ hk : k < l.length, liveN (resL l band) = liveN l - l[k].live := by
  have hv := res_valid h he
  obtain ⟨k, rfl, hk⟩ := resE_zero he
  refine ⟨k, rfl, hk, ?_⟩
  rw [liveN_eq hv hs, liveN_eq h hs, resL_zero hk he, sumN_set _ _ _ hk]
  unfold resBI
  simp only; omega

/-! ### the newest band -/
theorem open_newest (sz : Int) (L : List BI) (k : Nat) (hk : k < L.length) (hp : partB sz L[k] = true) (hage : ∀ j b, j ≠ k → L[j]? = some b → b.age < L[k].age) :
    ∀ m, m ≤ L.length → (m ≤ k → True) ∧ (k < m → openFrom sz (-1, 0) 0 (L.take m) = ((k : Int), L[k].age))
  | 0, _ => ⟨fun _ => trivial, fun h => by omega⟩
  | m + 1, hm => by
    refine ⟨fun _ => trivial, fun h => ?_⟩
    rw [openFrom_take sz L _ m (by omega)]
    by_cases h1 : k < m
    · rw [(open_newest sz L k hk hp hage m (by omega)).2 h1]
      have h2 := hage m L[m] (by omega) (get_some (by omega))
      unfold openStep
      rw [if_neg]
      simp; omega
    · have h2 : m = k := by omega
      subst h2
      unfold openStep
      rw [if_pos]
      rw [hp, Bool.true_and]
      rcases openFrom_inv sz L m (by omega) with h3 | ⟨i, hi, h3, b, hb, h4⟩
      · simp [h3]
      · have h5 := hage i b (by omega) hb
        rw [h4] at h5
        simp [h5]
theorem freeN_set (l : List BI) (k : Nat) (b : BI) (hk : k < l.length) (h0 : l[k].used = 0) (h1 : b.used ≠ 0) : freeN (l.set k b) = freeN l - 1 := by
  unfold freeN
  induction l generalizing k with
  | nil => simp at hk
  | cons a l ih =>
    cases k with
    | zero =>
      simp at h0
      simp [h0, h1]
    | succ k =>
      have := ih k (by simpa using hk) (by simpa using h0)
      rw [List.set_cons_succ, List.filter_cons, List.filter_cons]
      by_cases ha : a.used = 0
      · simp [ha]; omega
      · simp [ha]; omega
theorem newest {l : List BI} {sz now : Int} {k : Nat} (hk : k < l.length) (hs : I64 sz) (h : validB l sz = true) (h2 : 2 ≤ sz) (h0 : l[k].used = 0) (hn : ∀ b ∈ l, b.age < now) :
    appE l sz k = 0 ∧ openB (appL l sz k now) sz = k ∧ freeN (appL l sz k now) = freeN l - 1 := by
  have he : appE l sz k = 0 := by
    unfold appE
    have hi : inL l (k : Int) = true := by simp [inL]; omega
    rw [hi, at_eq hk, if_pos rfl, if_neg (by omega)]
  have hv := app_valid (now := now) hs h he
  rw [appL_zero hk he] at hv ⊢
  have hu : (appBI now l[k]).used = 1 := by unfold appBI; simp only [h0]; exact wrap64_of ⟨by omega, by omega⟩
  refine ⟨he, ?_, freeN_set l k _ hk h0 (by rw [hu]; decide)⟩
  unfold openB
  rw [if_pos hv]
  have hk' : k < (l.set k (appBI now l[k])).length := by simpa using hk
  have hget : (l.set k (appBI now l[k]))[k] = appBI now l[k] := by simp
  have := (open_newest sz (l.set k (appBI now l[k])) k hk' (by rw [hget]; unfold partB; rw [hu]; simp; omega) (fun j b hj hb => by
    rw [hget]
    rw [List.getElem?_set_ne (by omega)] at hb
    exact hn b (List.mem_of_getElem? hb)) _ (Nat.le_refl _)).2 hk'
  rw [List.take_of_length_le (Nat.le_refl _)] at this
  rw [this]
end Go.Proofs.Ytbnkpknoknenjaa
