/-
  WHAT IS SHOWN: plain facts on the choice of a band (packages victim and tegularef18): no candidate is better than the chosen one; bands that are no candidates do not matter. Conditions: the list is valid.
-/
import Derived.Test.YtbnkpknoknenjaaVictimPlain
import Derived.Test.YtbnkpknoknenjaaBandLaws
namespace Go.Proofs.Ytbnkpknoknenjaa
set_option linter.unusedVariables false
open Go.RowKit

theorem fine_valid {l : List BI} {sz : Int} (h : validB l sz = true) (hs : sz ≤ 1048576) {b : BI} (hb : b ∈ l) : Fine b sz := by
  obtain ⟨_, _, h1, h2⟩ := (validB_iff l sz).1 h
  obtain ⟨u1, u2, u3⟩ := h2 b hb
  exact ⟨u1, by omega, h1, hs⟩
/-- x is no better choice than the chosen b. -/
def noBetter (sz now : Int) (b x : BI) : Prop := betterB x b sz now = false ∧ (betterB b x sz now = true ∨ b.wear ≤ x.wear)
theorem noBetter_step {sz now : Int} {b c x : BI} (fb : Fine b sz) (fc : Fine c sz) (fx : Fine x sz) (h : noBetter sz now c x) (ht : takeB sz now c b = true) : noBetter sz now b x := by
  obtain ⟨h1, h2⟩ := h
  unfold takeB at ht
  cases hbc : betterB b c sz now
  · rw [hbc] at ht
    simp at ht
    obtain ⟨hcb, hw⟩ := ht
    have k1 : betterB x b sz now = false := better_neg_trans fx fc fb h1 hcb
    refine ⟨k1, ?_⟩
    rcases h2 with h2 | h2
    · left
      cases hbx : betterB b x sz now
      · rw [better_neg_trans fc fb fx hcb hbx] at h2; cases h2
      · rfl
    · right; omega
  · have hbx : betterB b x sz now = true := by
      cases hbx : betterB b x sz now
      · rw [better_neg_trans fb fx fc hbx h1] at hbc; cases hbc
      · rfl
    exact ⟨better_asymm hbx, .inl hbx⟩
theorem noBetter_self (sz now : Int) (b : BI) : noBetter sz now b b := ⟨better_irrefl b sz now, .inr (Int.le_refl _)⟩
theorem noBetter_of {sz now : Int} {b c : BI} (ht : takeB sz now c b = false) : noBetter sz now c b := by
  unfold takeB at ht
  simp only [Bool.or_eq_false_iff, Bool.and_eq_false_iff, Bool.not_eq_false', decide_eq_false_iff_not] at ht
  exact ⟨ht.1, by rcases ht.2 with h | h; exact .inl h; exact .inr (by omega)⟩
theorem choose_best {l : List BI} {sz now opn : Int} (h : validB l sz = true) (hs : sz ≤ 1048576) : ∀ k, k ≤ l.length → ∀ s, chooseFrom sz now opn none 0 (l.take k) = s →
    match s with
    | none => ∀ i (hi : i < l.length), i < k → candB sz opn i l[i] = false
    | some (n, b) => ∃ hn : n < l.length, n < k ∧ b = l[n] ∧ candB sz opn n b = true ∧ ∀ i (hi : i < l.length), i < k → candB sz opn i l[i] = true → noBetter sz now b l[i]
  | 0, _, s, e => by
    simp [chooseFrom] at e
    subst e
    intro i hi hik; omega
  | k + 1, hk, s, e => by
    have hlt : k < l.length := by omega
    have ih := choose_best (now := now) (opn := opn) h hs k (by omega) _ rfl
    rw [chooseFrom_take sz now opn l none k hlt] at e
    unfold chooseStep at e
    cases hc : candB sz opn k l[k]
    · rw [if_neg (by rw [hc]; simp)] at e
      rw [e] at ih
      cases s with
      | none =>
        intro i hi hik
        by_cases hik2 : i < k
        · exact ih i hi hik2
        · obtain rfl : i = k := by omega
          exact hc
      | some p =>
        obtain ⟨n, b⟩ := p
        obtain ⟨hn, hnk, hb, hcn, hall⟩ := ih
        refine ⟨hn, by omega, hb, hcn, fun i hi hik hci => ?_⟩
        by_cases hik2 : i < k
        · exact hall i hi hik2 hci
        · obtain rfl : i = k := by omega
          rw [hc] at hci; cases hci
    · rw [if_pos hc] at e
      generalize hp : chooseFrom sz now opn none 0 (l.take k) = p at *
      cases p with
      | none =>
        simp only at e ih
        subst e
        refine ⟨hlt, by omega, rfl, hc, fun i hi hik hci => ?_⟩
        by_cases hik2 : i < k
        · rw [ih i hi hik2] at hci; cases hci
        · obtain rfl : i = k := by omega
          exact noBetter_self _ _ _
      | some q =>
        obtain ⟨n, b⟩ := q
        obtain ⟨hn, hnk, hb, hcn, hall⟩ := ih
        simp only at e
        cases ht : takeB sz now b l[k]
        · rw [if_neg (by rw [ht]; simp)] at e
          subst e
          refine ⟨hn, by omega, hb, hcn, fun i hi hik hci => ?_⟩
          by_cases hik2 : i < k
          · exact hall i hi hik2 hci
          · obtain rfl : i = k := by omega
            exact noBetter_of ht
        · rw [if_pos ht] at e
          subst e
          refine ⟨hlt, by omega, rfl, hc, fun i hi hik hci => ?_⟩
          by_cases hik2 : i < k
          · exact noBetter_step (fine_valid h hs (List.getElem_mem hlt)) (hb ▸ fine_valid h hs (List.getElem_mem hn)) (fine_valid h hs (List.getElem_mem hi)) (hall i hi hik2 hci) ht
          · obtain rfl : i = k := by omega
            exact noBetter_self _ _ _
/-- What is told of the choice. -/
theorem choose_told {l : List BI} {sz now opn : Int} (h : validB l sz = true) (hs : sz ≤ 1048576) :
    (chooseN l sz now opn = (0, 9) ∧ ∀ i (hi : i < l.length), candB sz opn i l[i] = false) ∨
    ∃ (n : Nat) (hn : n < l.length), chooseN l sz now opn = ((n : Int), 0) ∧ candB sz opn n l[n] = true ∧ ∀ i (hi : i < l.length), candB sz opn i l[i] = true → betterB l[i] l[n] sz now = false ∧ (betterB l[n] l[i] sz now = true ∨ l[n].wear ≤ l[i].wear) := by
  have hb := choose_best (now := now) (opn := opn) h hs l.length (Nat.le_refl _) _ rfl
  rw [List.take_of_length_le (Nat.le_refl _)] at hb
  unfold chooseN
  rw [if_pos (by rw [h, decide_eq_true hs]; rfl)]
  generalize chooseFrom sz now opn none 0 l = s at *
  cases s with
  | none => exact .inl ⟨rfl, fun i hi => hb i hi hi⟩
  | some q =>
    obtain ⟨n, b⟩ := q
    obtain ⟨hn, _, rfl, hc, hall⟩ := hb
    exact .inr ⟨n, hn, rfl, hc, fun i hi hci => hall i hi hi hci⟩
theorem choose_skip {l : List BI} {sz now opn : Int} (k : Nat) (x : BI) (hk : k < l.length) (h1 : candB sz opn k l[k] = false) (h2 : candB sz opn k x = false) : ∀ j, j ≤ l.length →
    chooseFrom sz now opn none 0 ((l.set k x).take j) = chooseFrom sz now opn none 0 (l.take j)
  | 0, _ => by simp
  | j + 1, hj => by
    rw [chooseFrom_take sz now opn l none j (by omega), chooseFrom_take sz now opn (l.set k x) none j (by rw [List.length_set]; omega), choose_skip k x hk h1 h2 j (by omega)]
    by_cases e : k = j
    · subst e
      rw [List.getElem_set_self]
      unfold chooseStep
      rw [if_neg (by rw [h2]; simp), if_neg (by rw [h1]; simp)]
    · rw [List.getElem_set_ne e]
theorem choose_others {l : List BI} {sz now opn : Int} (h : validB l sz = true) (k : Nat) (hk : k < l.length) (h1 : candB sz opn k l[k] = false) (wear : Int) : chooseN (l.set k ⟨0, 0, 0, wear⟩) sz now opn = chooseN l sz now opn := by
  have h1s := ((validB_iff l sz).1 h).2.2.1
  have hv : validB (l.set k ⟨0, 0, 0, wear⟩) sz = true := valid_set h k _ ⟨Int.le_refl _, Int.le_refl _, by show (0 : Int) ≤ sz; omega⟩
  have hc : candB sz opn k ⟨0, 0, 0, wear⟩ = false := by unfold candB; simp
  have := choose_skip (now := now) k _ hk h1 hc l.length (Nat.le_refl _)
  rw [List.take_of_length_le (by rw [List.length_set]; omega), List.take_of_length_le (Nat.le_refl _)] at this
  unfold chooseN
  rw [h, hv, this]
end Go.Proofs.Ytbnkpknoknenjaa
