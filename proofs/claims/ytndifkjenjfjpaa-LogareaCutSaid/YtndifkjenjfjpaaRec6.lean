/-
  WHAT IS SHOWN: what Uint of the reader of tegularef09 returns. Conditions: as each theorem names them.
-/
import Derived.Test.YtndifkjenjfjpaaRec5
namespace Go.Proofs.Ytndifkjenjfjpaa
set_option linter.unusedVariables false
open Go.RowKit

theorem ruint_val {i n : Nat} {c : Int} (h0 : 0 ≤ c) (h1 : c ≤ 255) (hb : n + (c % 128).toNat * 2 ^ (7 * i) < 2 ^ 64) :
    IntKind.u64.wrap ((n : Int) + IntKind.u64.wrap (c % 128 * 2 ^ (7 * i))) = ((n + (c % 128).toNat * 2 ^ (7 * i) : Nat) : Int) := by
  have e : c % 128 = (((c % 128).toNat : Nat) : Int) := by omega
  have e2 : (((c % 128).toNat : Nat) : Int) * 2 ^ (7 * i) = (((c % 128).toNat * 2 ^ (7 * i) : Nat) : Int) := by push_cast; rfl
  have e4 : (((c % 128).toNat : Nat) : Int).toNat = (c % 128).toNat := by omega
  rw [e, e2, e4, IntKind.wrap_u64, IntKind.wrap_u64]
  omega
theorem drop_cons {l : List Int} {i : Nat} (h : i < l.length) : l.drop i = l[i] :: l.drop (i + 1) := List.drop_eq_getElem_cons h
set_option maxRecDepth 100000 in
set_option maxHeartbeats 1000000 in
theorem ruint_any {w : World} {q : Nat} {r : Rdr} (hlen : r.rest.length ≤ 1000000) (h : RdrM 110 w q r) : Calls Try.prog 64 #[.pointer (some ⟨q, 0, none⟩)] w (UintPost 110 w q r) := by
  have H0 : Hid (RdrPost 110 w q r w) := ⟨h, Kept.refl _ _⟩
  clear h
  go_enter Try.func64, Try.ntmps64
  go_wp2
  go_loopw [4, 5] (fun s4 s5 wr => ∃ (i n : Nat), i ≤ 10 ∧ i ≤ r.rest.length ∧ s5 = .int .i64 i ∧ s4 = .int .u64 n ∧ n < 2 ^ (7 * i) ∧ n < 2 ^ 64 ∧ Hid (RdrPost 110 w q r wr) ∧ Hid (uintGo i n (r.rest.drop i) = uintD r.rest)) (fun _ v _ => 10 - (intOf v).toNat)
  case atStart => exact ⟨0, 0, by omega, by omega, rfl, rfl, by decide, by decide, H0, by simp [Hid, uintD]⟩
  case round =>
    obtain ⟨i, n, hi, hil, rfl, rfl, hn, hn64, HP, HE⟩ := hrel
    obtain ⟨A, c, hq, hr, hu, hok, hc, hcm, hnn⟩ := HP.out.1
    obtain ⟨c0, c1, f0, f1⟩ := heap_cells hq
    by_cases hx : i < r.rest.length
    · by_cases hi10 : i < 10
      · obtain ⟨g, o, rfl, _, hcell⟩ := byte_at hr.rd hx
        have hub := hu (r.rest[i]) (by simp)
        have HED : Hid (uintGo i n (r.rest[i] :: r.rest.drop (i + 1)) = uintD r.rest) := by unfold Hid; rw [← drop_cons hx]; exact HE.out
        have HW := Lib.hid (fun D d hD => RdrM.went (D := D) (d := d) (by decide) hq hr hu hok hc hcm hnn (i + 1) (by omega) hD)
        generalize r.rest[i] = b at *
        obtain ⟨hc0, hc1⟩ := hub
        clear hq hr hu hok hnn
        by_cases hA : i = 9 ∧ 1 < b
        · have HN : Hid (r.uint = (0, 5, Rdr.fail)) := by unfold Hid Rdr.uint; rw [← HED.out, uintGo_bad (.inr (.inl hA))]
          obtain ⟨rfl, hA2⟩ := hA
          have HP1 := HP
          go_wp2_with fail
          refine (rfail_any HP1.out.1).mono ?_
          rintro e w2 ⟨rfl, hp⟩
          have HP2 := Lib.hid (HP1.out.trans hp)
          clear hp
          go_wp2
          go_ret2
          exact ⟨by rw [HN.out]; rfl, by rw [HN.out]; exact HP2.out⟩
        · by_cases h128 : b < 128
          · by_cases hB : b = 0 ∧ 0 < i
            · have HN : Hid (r.uint = (0, 5, Rdr.fail)) := by unfold Hid Rdr.uint; rw [← HED.out, uintGo_bad (.inr (.inr ⟨h128, hB⟩))]
              obtain ⟨rfl, hB2⟩ := hB
              have HP1 := HP
              by_cases h9 : i = 9
              · subst h9
                go_wp2_with fail
                refine (rfail_any HP1.out.1).mono ?_
                rintro e w2 ⟨rfl, hp⟩
                have HP2 := Lib.hid (HP1.out.trans hp)
                clear hp
                go_wp2
                go_ret2
                exact ⟨by rw [HN.out]; rfl, by rw [HN.out]; exact HP2.out⟩
              · have h9' : (↑i == (9 : Int)) = false := by simp; omega
                go_wp2_with fail
                refine (rfail_any HP1.out.1).mono ?_
                rintro e w2 ⟨rfl, hp⟩
                have HP2 := Lib.hid (HP1.out.trans hp)
                clear hp
                go_wp2
                go_ret2
                exact ⟨by rw [HN.out]; rfl, by rw [HN.out]; exact HP2.out⟩
            · have hb := (uint_bnd (by omega) hn hc0 hA).2
              have HN : Hid (r.uint = (n + (b % 128).toNat * 2 ^ (7 * i), 0, ⟨r.rest.drop (i + 1), r.bad⟩)) := by unfold Hid Rdr.uint; rw [← HED.out, uintGo_end (by omega) hA h128 hB]
              have HV := Lib.hid (ruint_val (i := i) hc0 hc1 hb)
              by_cases hcn : c = i + 1
              · have HWW := Lib.hid (HW.out (some ⟨g, o, none⟩) 0 (.inl ⟨hcn, rfl, rfl⟩))
                clear HW
                have hcn' : (c : Int) = i + 1 := by omega
                by_cases h9 : i = 9
                · have h9' : (↑i == (9 : Int)) = true := by simp; omega
                  have hc1 : ¬ (1 < b) := fun h => hA ⟨h9, h⟩
                  have hc' : (b == (0 : Int)) = false := by have : b ≠ 0 := fun h => hB ⟨h, by omega⟩; simpa using this
                  have hi0 : 0 < (i : Int) := by omega
                  clear h9
                  go_wp2
                  go_ret2
                  exact ⟨by rw [HN.out]; simp only; rw [← HV.out]; rfl, by rw [HN.out]; exact HP.out.trans HWW.out⟩
                · have h9' : (↑i == (9 : Int)) = false := by simp; omega
                  by_cases hi0 : i = 0
                  · have hi0' : ¬ (0 < (i : Int)) := by omega
                    clear hi0
                    go_wp2
                    go_ret2
                    exact ⟨by rw [HN.out]; simp only; rw [← HV.out]; rfl, by rw [HN.out]; exact HP.out.trans HWW.out⟩
                  · have hi0' : 0 < (i : Int) := by omega
                    have hc' : (b == (0 : Int)) = false := by have : b ≠ 0 := fun h => hB ⟨h, by omega⟩; simpa using this
                    go_wp2
                    go_ret2
                    exact ⟨by rw [HN.out]; simp only; rw [← HV.out]; rfl, by rw [HN.out]; exact HP.out.trans HWW.out⟩
              · have HWW := Lib.hid (HW.out (some ⟨g, o + (i + 1), none⟩) (c - (i + 1)) (.inr ⟨hcn, by rw [Option.map_some, add_off], rfl⟩))
                clear HW
                have hcn' : ¬ (c : Int) = i + 1 := by omega
                by_cases h9 : i = 9
                · have h9' : (↑i == (9 : Int)) = true := by simp; omega
                  have hc1 : ¬ (1 < b) := fun h => hA ⟨h9, h⟩
                  have hc' : (b == (0 : Int)) = false := by have : b ≠ 0 := fun h => hB ⟨h, by omega⟩; simpa using this
                  have hi0 : 0 < (i : Int) := by omega
                  clear h9
                  go_wp2
                  go_ret2
                  exact ⟨by rw [HN.out]; simp only; rw [← HV.out]; rfl, by rw [HN.out]; exact HP.out.trans HWW.out⟩
                · have h9' : (↑i == (9 : Int)) = false := by simp; omega
                  by_cases hi0 : i = 0
                  · have hi0' : ¬ (0 < (i : Int)) := by omega
                    clear hi0
                    go_wp2
                    go_ret2
                    exact ⟨by rw [HN.out]; simp only; rw [← HV.out]; rfl, by rw [HN.out]; exact HP.out.trans HWW.out⟩
                  · have hi0' : 0 < (i : Int) := by omega
                    have hc' : (b == (0 : Int)) = false := by have : b ≠ 0 := fun h => hB ⟨h, by omega⟩; simpa using this
                    go_wp2
                    go_ret2
                    exact ⟨by rw [HN.out]; simp only; rw [← HV.out]; rfl, by rw [HN.out]; exact HP.out.trans HWW.out⟩
          · have hb := uint_bnd (by omega) hn hc0 hA
            have HE2 := Lib.hid ((uintGo_on (l := r.rest.drop (i + 1)) (n := n) (show ¬ 9 < i by omega) hA h128).symm.trans HED.out)
            have HV := Lib.hid (ruint_val (i := i) hc0 hc1 hb.2)
            have h9 : i ≠ 9 := fun h => hA ⟨h, by omega⟩
            have h9' : (↑i == (9 : Int)) = false := by simp; omega
            go_wp2
            rw [HV.out]
            go_roundw
            case rel => exact ⟨i + 1, _, by omega, by omega, by go_num, rfl, hb.1, hb.2, HP, HE2⟩
            case measure => simp [intOf]; omega
      · obtain rfl : i = 10 := by omega
        have HN : Hid (r.uint = (0, 5, Rdr.fail)) := by unfold Hid Rdr.uint; rw [← HE.out, uintGo_ten]
        have HP1 := HP
        clear hq hr hu hok hnn
        go_wp2_with fail
        refine (rfail_any HP1.out.1).mono ?_
        rintro e w2 ⟨rfl, hp⟩
        have HP2 := Lib.hid (HP1.out.trans hp)
        clear hp
        go_wp2
        go_ret2
        exact ⟨by rw [HN.out]; rfl, by rw [HN.out]; exact HP2.out⟩
    · have HN : Hid (r.uint = (0, 5, Rdr.fail)) := by unfold Hid Rdr.uint; rw [← HE.out, List.drop_eq_nil_of_le (by omega), uintGo_nil]
      have HP1 := HP
      clear hq hr hu hok hnn
      go_wp2_with fail
      refine (rfail_any HP1.out.1).mono ?_
      rintro e w2 ⟨rfl, hp⟩
      have HP2 := Lib.hid (HP1.out.trans hp)
      clear hp
      go_wp2
      go_ret2
      exact ⟨by rw [HN.out]; rfl, by rw [HN.out]; exact HP2.out⟩
end Go.Proofs.Ytndifkjenjfjpaa
