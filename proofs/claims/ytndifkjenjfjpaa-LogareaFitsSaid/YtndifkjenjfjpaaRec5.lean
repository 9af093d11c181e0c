/-
  WHAT IS SHOWN: what Uint of the readers of codec and of tegularef09 returns. Conditions: as each theorem names them.
-/
import Derived.Test.YtndifkjenjfjpaaRec4
namespace Go.Proofs.Ytndifkjenjfjpaa
set_option linter.unusedVariables false
open Go.RowKit

theorem take1_nil (b : Bool) : (⟨[], b⟩ : Rdr).take 1 = ([], 5, Rdr.fail) := by unfold Rdr.take; simp
theorem take1_cons (c : Int) (l : List Int) : (⟨c :: l, false⟩ : Rdr).take 1 = ([c], 0, ⟨l, false⟩) := by unfold Rdr.take; simp
theorem uintGo_bad {i n : Nat} {c : Int} {l : List Int} (h : 9 < i ∨ (i = 9 ∧ 1 < c) ∨ (c < 128 ∧ c = 0 ∧ 0 < i)) : uintGo i n (c :: l) = none := by
  unfold uintGo
  rcases h with h | h | ⟨h1, h2, h3⟩
  · rw [if_pos h]
  · by_cases h9 : 9 < i
    · rw [if_pos h9]
    · rw [if_neg h9, if_pos h]
  · by_cases h9 : 9 < i
    · rw [if_pos h9]
    · rw [if_neg h9]
      by_cases h8 : i = 9 ∧ 1 < c
      · rw [if_pos h8]
      · rw [if_neg h8, if_pos h1, if_pos ⟨h2, h3⟩]
theorem uintGo_end {i n : Nat} {c : Int} {l : List Int} (h : ¬ 9 < i) (h2 : ¬ (i = 9 ∧ 1 < c)) (h3 : c < 128) (h4 : ¬ (c = 0 ∧ 0 < i)) : uintGo i n (c :: l) = some (n + (c % 128).toNat * 2 ^ (7 * i), l) := by
  unfold uintGo
  rw [if_neg h, if_neg h2, if_pos h3, if_neg h4]
theorem uintGo_on {i n : Nat} {c : Int} {l : List Int} (h : ¬ 9 < i) (h2 : ¬ (i = 9 ∧ 1 < c)) (h3 : ¬ c < 128) : uintGo i n (c :: l) = uintGo (i + 1) (n + (c % 128).toNat * 2 ^ (7 * i)) l := by
  conv => lhs; unfold uintGo
  rw [if_neg h, if_neg h2, if_neg h3]
theorem uintGo_nil (i n : Nat) : uintGo i n [] = none := by unfold uintGo; rfl
theorem uintGo_ten (n : Nat) (l : List Int) : uintGo 10 n l = none := by
  cases l with
  | nil => exact uintGo_nil _ _
  | cons c l => exact uintGo_bad (.inl (by decide))
theorem uint_bnd {i n : Nat} {c : Int} (hi : i ≤ 9) (hn : n < 2 ^ (7 * i)) (h0 : 0 ≤ c) (h2 : ¬ (i = 9 ∧ 1 < c)) : n + (c % 128).toNat * 2 ^ (7 * i) < 2 ^ (7 * (i + 1)) ∧ n + (c % 128).toNat * 2 ^ (7 * i) < 2 ^ 64 := by
  have e7 : 2 ^ (7 * (i + 1)) = 2 ^ (7 * i) * 128 := by rw [show 7 * (i + 1) = 7 * i + 7 by omega, Nat.pow_add]
  have hcm : (c % 128).toNat ≤ 127 := by omega
  have hmul : (c % 128).toNat * 2 ^ (7 * i) ≤ 127 * 2 ^ (7 * i) := Nat.mul_le_mul_right _ hcm
  refine ⟨by rw [e7]; omega, ?_⟩
  by_cases h9 : i = 9
  · subst h9
    have : (c % 128).toNat ≤ 1 := by omega
    have : (c % 128).toNat * 2 ^ (7 * 9) ≤ 1 * 2 ^ (7 * 9) := Nat.mul_le_mul_right _ this
    omega
  · have : 2 ^ (7 * (i + 1)) ≤ 2 ^ 63 := Nat.pow_le_pow_right (by decide) (by omega)
    omega
theorem u64_and127 {c : Int} (h0 : 0 ≤ c) (h1 : c ≤ 255) : bits BinOp.and IntKind.u64 c 127 = c % 128 := by
  have h := bits_mask .u64 64 (by decide) wraps_u64 7 (by decide) c h0 (by omega)
  simpa using h
theorem u64_or7 {i n : Nat} {k : Nat} (hn : n < 2 ^ (7 * i)) (hk : k * 2 ^ (7 * i) + n < 2 ^ 64) : bits BinOp.or IntKind.u64 (n : Int) ((k * 2 ^ (7 * i) : Nat) : Int) = ((n + k * 2 ^ (7 * i) : Nat) : Int) := by
  rw [bits_or_u64_nat _ _ (by omega) (by omega), Nat.or_comm, Nat.mul_comm, ← Nat.two_pow_add_eq_or_of_lt hn]
  rw [Nat.add_comm]
theorem uint_val {i n : Nat} {c : Int} (h0 : 0 ≤ c) (h1 : c ≤ 255) (hn : n < 2 ^ (7 * i)) (hb : n + (c % 128).toNat * 2 ^ (7 * i) < 2 ^ 64) :
    bits BinOp.or IntKind.u64 (n : Int) (IntKind.u64.wrap (bits BinOp.and IntKind.u64 c 127 * 2 ^ (7 * i))) = ((n + (c % 128).toNat * 2 ^ (7 * i) : Nat) : Int) := by
  have e : c % 128 = (((c % 128).toNat : Nat) : Int) := by omega
  have e2 : (((c % 128).toNat : Nat) : Int) * 2 ^ (7 * i) = (((c % 128).toNat * 2 ^ (7 * i) : Nat) : Int) := by push_cast; rfl
  rw [u64_and127 h0 h1, e, e2]
  have e3 : IntKind.u64.wrap (((c % 128).toNat * 2 ^ (7 * i) : Nat) : Int) = (((c % 128).toNat * 2 ^ (7 * i) : Nat) : Int) := by rw [IntKind.wrap_u64]; omega
  have e4 : (((c % 128).toNat : Nat) : Int).toNat = (c % 128).toNat := by omega
  rw [e3, u64_or7 hn (by omega), e4]
/-- What Uint returns. -/
def UintPost (ty : TypeId) (w : World) (q : Nat) (r : Rdr) (e : Ending) (w' : World) : Prop := e = .returned (.tuple #[.int .u64 r.uint.1, .int .i64 r.uint.2.1]) ∧ RdrPost ty w q r.uint.2.2 w'
set_option maxRecDepth 100000 in
set_option maxHeartbeats 1000000 in
theorem uint_any {w : World} {q : Nat} {r : Rdr} (h : RdrM 107 w q r) : Calls Try.prog 60 #[.pointer (some ⟨q, 0, none⟩)] w (UintPost 107 w q r) := by
  have h0 : RdrPost 107 w q ⟨r.rest, r.bad⟩ w := ⟨h, Kept.refl _ _⟩
  have H0 := Lib.hid h0
  clear h h0
  go_enter Try.func60, Try.ntmps60
  go_wp2
  go_loopw [4, 9] (fun s4 s9 wr => ∃ (i n : Nat) (l : List Int), i ≤ 10 ∧ s9 = .int .i64 i ∧ s4 = .int .u64 n ∧ n < 2 ^ (7 * i) ∧ n < 2 ^ 64 ∧ Hid (RdrPost 107 w q ⟨l, r.bad⟩ wr) ∧ Hid (uintGo i n l = uintD r.rest)) (fun _ v _ => 10 - (intOf v).toNat)
  case atStart => exact ⟨0, 0, r.rest, by omega, rfl, rfl, by decide, by decide, H0, rfl⟩
  case round =>
    obtain ⟨i, n, l, hi, rfl, rfl, hn, hn64, HP, HE⟩ := hrel
    by_cases hi10 : i < 10
    · cases l with
      | nil =>
        have HT := Lib.hid (take_any 1 (by decide) HP.out.1)
        have HN : Hid (r.uint = (0, 5, Rdr.fail)) := by unfold Hid Rdr.uint; rw [← HE.out, uintGo_nil]
        unfold Hid at HT
        rw [take1_nil] at HT
        go_wp2_with fail
        refine HT.mono ?_
        rintro e w1 ⟨D, d, rfl, _, _, _, _, hp⟩
        have HP1 := Lib.hid (HP.out.trans hp)
        clear hp HT
        go_wp2
        go_ret2
        exact ⟨by rw [HN.out]; rfl, by rw [HN.out]; exact HP1.out⟩
      | cons c l =>
        have hbf : r.bad = false := by
          have := HP.out.1
          obtain ⟨_, _, _, _, _, hok, _⟩ := this
          cases hb : r.bad with
          | false => rfl
          | true => have := hok hb; simp at this
        have hu : 0 ≤ c ∧ c ≤ 255 := by
          obtain ⟨_, _, _, _, hu, _⟩ := HP.out.1
          exact hu c (by simp)
        obtain ⟨hc0, hc1⟩ := hu
        have HT := Lib.hid (take_any 1 (by decide) HP.out.1)
        unfold Hid at HT
        rw [hbf, take1_cons] at HT
        have HBF := Lib.hid hbf
        clear hbf
        have HA := Lib.hid (u64_and127 hc0 hc1)
        go_wp2_with fail
        refine HT.mono ?_
        rintro e w1 ⟨D, d, rfl, hd, _, _, hdd, hp⟩
        obtain ⟨g, o, rfl, _, hcell⟩ := byte_at hd.rd (k := 0) (by simp)
        simp only [Nat.add_zero, List.getElem_cons_zero] at hcell
        have hp1 := HP.out.trans hp
        simp only at hp1
        rw [← HBF.out] at hp1
        have HP1 := Lib.hid hp1
        clear hp1
        clear hp HT hd
        by_cases hA : i = 9 ∧ 1 < c
        · have HN : Hid (r.uint = (0, 5, Rdr.fail)) := by unfold Hid Rdr.uint; rw [← HE.out, uintGo_bad (.inr (.inl hA))]
          obtain ⟨rfl, hA2⟩ := hA
          go_wp2_with fail
          refine (fail_any HP1.out.1).mono ?_
          rintro e w2 ⟨rfl, hp⟩
          have HP2 := Lib.hid (HP1.out.trans hp)
          clear hp
          go_wp2
          go_ret2
          exact ⟨by rw [HN.out]; rfl, by rw [HN.out]; exact HP2.out⟩
        · by_cases h128 : c < 128
          · by_cases hB : c = 0 ∧ 0 < i
            · have HN : Hid (r.uint = (0, 5, Rdr.fail)) := by unfold Hid Rdr.uint; rw [← HE.out, uintGo_bad (.inr (.inr ⟨h128, hB⟩))]
              obtain ⟨rfl, hB2⟩ := hB
              by_cases h9 : i = 9
              · subst h9
                go_wp2_with fail
                refine (fail_any HP1.out.1).mono ?_
                rintro e w2 ⟨rfl, hp⟩
                have HP2 := Lib.hid (HP1.out.trans hp)
                clear hp
                go_wp2
                go_ret2
                exact ⟨by rw [HN.out]; rfl, by rw [HN.out]; exact HP2.out⟩
              · have h9' : (↑i == (9 : Int)) = false := by simp; omega
                go_wp2_with fail
                refine (fail_any HP1.out.1).mono ?_
                rintro e w2 ⟨rfl, hp⟩
                have HP2 := Lib.hid (HP1.out.trans hp)
                clear hp
                go_wp2
                go_ret2
                exact ⟨by rw [HN.out]; rfl, by rw [HN.out]; exact HP2.out⟩
            · have hb := (uint_bnd (by omega) hn hc0 hA).2
              have HN : Hid (r.uint = (n + (c % 128).toNat * 2 ^ (7 * i), 0, ⟨l, r.bad⟩)) := by unfold Hid Rdr.uint; rw [← HE.out, uintGo_end (by omega) hA h128 hB]
              have HV := Lib.hid (uint_val hc0 hc1 hn hb)
              by_cases h9 : i = 9
              · subst h9
                have hc1 : ¬ (1 < c) := fun h => hA ⟨rfl, h⟩
                have hc2 : c ≠ 0 := fun h => hB ⟨h, by decide⟩
                obtain rfl : c = 1 := by omega
                go_wp2
                go_ret2
                exact ⟨by rw [HN.out]; simp only; rw [← HV.out]; rfl, by rw [HN.out]; exact HP1.out⟩
              · have h9' : (↑i == (9 : Int)) = false := by simp; omega
                by_cases hc : c = 0
                · subst hc
                  have h0 : ¬ 0 < i := fun h => hB ⟨rfl, h⟩
                  obtain rfl : i = 0 := by omega
                  go_wp2
                  go_ret2
                  exact ⟨by rw [HN.out]; simp only; rw [← HV.out]; rfl, by rw [HN.out]; exact HP1.out⟩
                · have hc' : (c == (0 : Int)) = false := by simp; omega
                  go_wp2
                  go_ret2
                  exact ⟨by rw [HN.out]; simp only; rw [← HV.out]; rfl, by rw [HN.out]; exact HP1.out⟩
          · have hb := uint_bnd (by omega) hn hc0 hA
            have HE2 := Lib.hid ((uintGo_on (l := l) (n := n) (show ¬ 9 < i by omega) hA h128).symm.trans HE.out)
            have HV := Lib.hid (uint_val hc0 hc1 hn hb.2)
            have h9 : i ≠ 9 := fun h => hA ⟨h, by omega⟩
            have h9' : (↑i == (9 : Int)) = false := by simp; omega
            go_wp2
            rw [HV.out]
            go_roundw
            case rel => exact ⟨i + 1, _, l, by omega, by go_num, rfl, hb.1, hb.2, HP1.out, HE2⟩
            case measure => simp [intOf]; omega
    · obtain rfl : i = 10 := by omega
      have HN : Hid (r.uint = (0, 5, Rdr.fail)) := by unfold Hid Rdr.uint; rw [← HE.out, uintGo_ten]
      have HP1 := HP
      go_wp2_with fail
      refine (fail_any HP1.out.1).mono ?_
      rintro e w2 ⟨rfl, hp⟩
      have HP2 := Lib.hid (HP1.out.trans hp)
      clear hp
      go_wp2
      go_ret2
      exact ⟨by rw [HN.out]; rfl, by rw [HN.out]; exact HP2.out⟩
end Go.Proofs.Ytndifkjenjfjpaa
