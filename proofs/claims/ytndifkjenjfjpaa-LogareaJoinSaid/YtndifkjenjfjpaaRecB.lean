/-
  WHAT IS SHOWN: plain facts, of no program: the sectors of a record are read as that record. Conditions: as each theorem names them.
-/
import Derived.Test.YtndifkjenjfjpaaRecX
import Derived.Test.YtndifkjenjfjpaaRec19
namespace Go.Proofs.Ytndifkjenjfjpaa
set_option linter.unusedVariables false

theorem insOk_yes' {b : List Int} (h0 : (rdK b 4).bytes.2.2.done = 0) (h1 : 1 ≤ numK b 1) (h2 : numK b 3 ≤ 4096) (h3 : numK b 2 < numK b 3) (h4 : 1 ≤ (rdK b 4).bytes.1.length) (h5 : (rdK b 4).bytes.1.length ≤ 28) : insOk b = true := by
  unfold insOk
  simp [h0, h1, h2, h3, h4, h5]
theorem insD_sec {gen seq k m : Nat} {ch : List Int} (hg : gen < 2 ^ 64) (hs : seq < 2 ^ 64) (h1 : 1 ≤ seq) (hk : k < m) (hm : m ≤ 4096) (hc1 : 1 ≤ ch.length) (hc2 : ch.length ≤ 28) : insD (secB gen seq k m ch) = ⟨gen, seq, k, m, ch, 0⟩ := by
  have hb8 : ∀ s, (be8 s).length = 8 := fun _ => rfl
  have hX : hdS gen seq k m ++ uintB ch.length ++ ch = 82 :: (uintB gen ++ (uintB seq ++ (uintB k ++ (uintB m ++ (uintB ch.length ++ ch))))) := by unfold hdS; simp
  obtain ⟨X, hXd⟩ : ∃ X, hdS gen seq k m ++ uintB ch.length ++ ch = X := ⟨_, rfl⟩
  have hb : secB gen seq k m ch = X ++ be8 (sumC X) := by unfold secB sealB; rw [hXd]
  rw [hXd] at hX
  have hlen : (secB gen seq k m ch).length = X.length + 8 := by rw [hb, List.length_append, hb8]
  have hXl : 1 ≤ X.length := by rw [hX]; simp
  have htk : (secB gen seq k m ch).take ((secB gen seq k m ch).length - 8) = X := by
    rw [hlen, Nat.add_sub_cancel, hb, List.take_left]
  have hseal : sealB X = secB gen seq k m ch := by rw [hb]; rfl
  obtain ⟨B, hB⟩ : ∃ B, secB gen seq k m ch = B := ⟨_, rfl⟩
  rw [hB] at hb hlen htk hseal ⊢
  clear hB
  have e0 : rdK B 0 = ⟨uintB gen ++ (uintB seq ++ (uintB k ++ (uintB m ++ (uintB ch.length ++ ch)))), false⟩ := by
    unfold rdK; rw [htk, hX]; rfl
  have u0 : (rdK B 0).uint = (gen, 0, ⟨uintB seq ++ (uintB k ++ (uintB m ++ (uintB ch.length ++ ch))), false⟩) := by rw [e0]; exact uint_good (uintD_B hg _)
  have e1 : rdK B 1 = ⟨uintB seq ++ (uintB k ++ (uintB m ++ (uintB ch.length ++ ch))), false⟩ := by show (rdK B 0).uint.2.2 = _; rw [u0]
  have u1 : (rdK B 1).uint = (seq, 0, ⟨uintB k ++ (uintB m ++ (uintB ch.length ++ ch)), false⟩) := by rw [e1]; exact uint_good (uintD_B hs _)
  have e2 : rdK B 2 = ⟨uintB k ++ (uintB m ++ (uintB ch.length ++ ch)), false⟩ := by show (rdK B 1).uint.2.2 = _; rw [u1]
  have u2 : (rdK B 2).uint = (k, 0, ⟨uintB m ++ (uintB ch.length ++ ch), false⟩) := by rw [e2]; exact uint_good (uintD_B (by omega) _)
  have e3 : rdK B 3 = ⟨uintB m ++ (uintB ch.length ++ ch), false⟩ := by show (rdK B 2).uint.2.2 = _; rw [u2]
  have u3 : (rdK B 3).uint = (m, 0, ⟨uintB ch.length ++ ch, false⟩) := by rw [e3]; exact uint_good (uintD_B (by omega) _)
  have e4 : rdK B 4 = ⟨uintB ch.length ++ ch, false⟩ := by show (rdK B 3).uint.2.2 = _; rw [u3]
  have b4 : (rdK B 4).bytes = (ch, 0, ⟨[], false⟩) := by
    rw [e4, bytes_good (uintD_B (by omega) _) (Nat.le_refl _)]; simp
  have n0 : numK B 0 = gen := by unfold numK; rw [u0]
  have n1 : numK B 1 = seq := by unfold numK; rw [u1]
  have n2 : numK B 2 = k := by unfold numK; rw [u2]
  have n3 : numK B 3 = m := by unfold numK; rw [u3]
  have hok : insOk B = true := insOk_yes' (by rw [b4]; rfl) (by rw [n1]; exact h1) (by rw [n3]; exact hm) (by rw [n2, n3]; exact hk) (by rw [b4]; exact hc1) (by rw [b4]; exact hc2)
  unfold insD
  rw [if_neg (by
    rintro (h | h)
    · omega
    · rw [hb, hX] at h; exact h rfl), if_neg (by rw [htk, hseal]; simp), if_neg (by omega), if_pos hok, n0, n1, n2, n3, b4]
theorem nCh_le {L : Nat} (h : L ≤ 6000) : nCh L ≤ 4096 := by unfold nCh; omega
theorem payR_pos (r : Rec) : 0 < (payR r).length := by unfold payR; have := uintB_pos r.gen; simp only [List.length_append]; omega
theorem encR_len (r : Rec) : (encR r).length = nCh (payR r).length := by unfold encR; simp
theorem encR_get (r : Rec) {k : Nat} (hk : k < nCh (payR r).length) : (encR r)[k]? = some (secB r.gen r.seq k (nCh (payR r).length) (((payR r).drop (28 * k)).take 28)) := by
  unfold encR; rw [List.getElem?_map, List.getElem?_range hk]; rfl
theorem chunk_len {p : List Int} {k : Nat} (hk : k < nCh p.length) : 1 ≤ ((p.drop (28 * k)).take 28).length ∧ ((p.drop (28 * k)).take 28).length ≤ 28 := by
  have : nCh p.length = (p.length + 27) / 28 := rfl
  rw [List.length_take, List.length_drop]; omega
/-- The answer of Inspect at the sectors of a record. -/
theorem ins_enc {r : Rec} (hv : Vld r) (hok : r.Ok) {k : Nat} (hk : k < nCh (payR r).length) : insD (secB r.gen r.seq k (nCh (payR r).length) (((payR r).drop (28 * k)).take 28)) = ⟨r.gen, r.seq, k, nCh (payR r).length, ((payR r).drop (28 * k)).take 28, 0⟩ :=
  insD_sec hok.gen hok.seq hv.seq hk (nCh_le (payR_len hv)) (chunk_len hk).1 (chunk_len hk).2
theorem get_app {r : Rec} {tail : List (List Int)} {k : Nat} (hk : k < nCh (payR r).length) : (encR r ++ tail)[k]? = some (secB r.gen r.seq k (nCh (payR r).length) (((payR r).drop (28 * k)).take 28)) := by
  rw [List.getElem?_append_left (by rw [encR_len]; exact hk), encR_get r hk]
theorem hd_enc {r : Rec} (hv : Vld r) (hok : r.Ok) (tail : List (List Int)) : hdD (encR r ++ tail) = ⟨r.gen, r.seq, 0, nCh (payR r).length, ((payR r).drop (28 * 0)).take 28, 0⟩ := by
  have h0 : 0 < nCh (payR r).length := by have := payR_pos r; unfold nCh; omega
  have hg := get_app (r := r) (tail := tail) h0
  unfold hdD
  rw [← ins_enc hv hok h0]
  congr 1
  cases h : encR r ++ tail with
  | nil => rw [h] at hg; cases hg
  | cons a l => rw [h] at hg; simpa using hg
theorem part_enc {r : Rec} (hv : Vld r) (hok : r.Ok) (tail : List (List Int)) {k : Nat} (hk : k < nCh (payR r).length) : partE (encR r ++ tail) k = 0 := by
  have hg := get_app (r := r) (tail := tail) hk
  have hkl : k < (encR r ++ tail).length := by
    rcases Nat.lt_or_ge k (encR r ++ tail).length with h | h
    · exact h
    · rw [List.getElem?_eq_none h] at hg; cases hg
  rw [List.getElem?_eq_getElem hkl] at hg
  injection hg with hg
  unfold partE
  rw [dif_pos hkl, hg, ins_enc hv hok hk, hd_enc hv hok]
  simp
theorem all_enc {r : Rec} (hv : Vld r) (hok : r.Ok) (tail : List (List Int)) : ∀ k, k ≤ nCh (payR r).length → allB (encR r ++ tail) k = (payR r).take (28 * k)
  | 0, _ => by simp [allB]
  | k + 1, hk => by
    unfold allB
    rw [all_enc hv hok tail k (by omega)]
    have hg := get_app (r := r) (tail := tail) (k := k) (by omega)
    have : (encR r ++ tail).getD k [] = secB r.gen r.seq k (nCh (payR r).length) (((payR r).drop (28 * k)).take 28) := by
      rw [List.getD_eq_getElem?_getD, hg]; rfl
    rw [this, ins_enc hv hok (by omega)]
    simp only
    rw [show 28 * (k + 1) = 28 * k + 28 by omega, List.take_add]
theorem dec_enc {r : Rec} (hv : validR r = true) (hok : r.Ok) (tail : List (List Int)) : decD (encR r ++ tail) = ⟨r, (encR r).length, 0⟩ := by
  have hvl := validR_vld hv
  have hh := hd_enc hvl hok tail
  have h0 : 0 < nCh (payR r).length := by have := payR_pos r; unfold nCh; omega
  have hp : (hdD (encR r ++ tail)).parts = nCh (payR r).length := by rw [hh]
  rw [decD_end (by rw [hp]; exact h0) (fun i hi => part_enc hvl hok tail (by rw [hp] at hi; exact hi)), hp]
  unfold decEnd
  have ha : allB (encR r ++ tail) (nCh (payR r).length) = payR r := by
    rw [all_enc hvl hok tail _ (Nat.le_refl _)]
    apply List.take_of_length_le
    unfold nCh; omega
  rw [ha, recD_pay hv hok]
  simp only
  rw [if_pos (by rw [← encR_len r, List.take_left]), encR_len]
end Go.Proofs.Ytndifkjenjfjpaa
