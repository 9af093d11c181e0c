/-
  WHAT IS SHOWN: plain facts, of no program: records of which a sector is missing or changed. Conditions: as each theorem names them.
-/
import Derived.Test.YtndifkjenjfjpaaRecB
namespace Go.Proofs.Ytndifkjenjfjpaa
set_option linter.unusedVariables false

theorem uintGo_ext : ∀ (l : List Int) (i n m : Nat) (r x : List Int), uintGo i n l = some (m, r) → uintGo i n (l ++ x) = some (m, r ++ x)
  | [], i, n, m, r, x, h => by rw [uintGo_nil] at h; cases h
  | c :: l, i, n, m, r, x, h => by
    unfold uintGo at h
    show uintGo i n (c :: (l ++ x)) = _
    unfold uintGo
    split at h
    · cases h
    · rename_i h1
      rw [if_neg h1]
      split at h
      · cases h
      · rename_i h2
        rw [if_neg h2]
        split at h
        · rename_i h3
          rw [if_pos h3]
          split at h
          · cases h
          · rename_i h4
            rw [if_neg h4]
            injection h with h; injection h with h5 h6; subst h5; subst h6; rfl
        · rename_i h3
          rw [if_neg h3]
          exact uintGo_ext l _ _ _ _ x h
theorem uintD_ext {l r : List Int} (x : List Int) {m : Nat} (h : uintD l = some (m, r)) : uintD (l ++ x) = some (m, r ++ x) := uintGo_ext l 0 0 m r x h
theorem uint_bad0 {r : Rdr} (h : r.uint.2.2.bad = false) : r.bad = false ∧ uintD r.rest = some (r.uint.1, r.uint.2.2.rest) := by
  unfold Rdr.uint at h ⊢
  cases he : uintD r.rest with
  | none => rw [he] at h; cases h
  | some p => rw [he] at h; exact ⟨h, rfl⟩
theorem uint_ext {r : Rdr} (x : List Int) (h : r.uint.2.2.bad = false) : (⟨r.rest ++ x, false⟩ : Rdr).uint = (r.uint.1, 0, ⟨r.uint.2.2.rest ++ x, false⟩) :=
  uint_good (uintD_ext x (uint_bad0 h).2)
theorem bytes_bad0 {r : Rdr} (h : r.bytes.2.2.bad = false) : r.uint.2.2.bad = false ∧ r.uint.1 ≤ r.uint.2.2.rest.length ∧ r.bytes.2.2.rest = r.uint.2.2.rest.drop r.uint.1 := by
  unfold Rdr.bytes at h ⊢
  split at h
  · rename_i h1
    rw [if_pos h1]
    unfold Rdr.take at h ⊢
    split at h
    · cases h
    · rename_i h2
      rw [if_neg h2]
      exact ⟨h, by omega, rfl⟩
  · rename_i h1
    exfalso
    apply h1
    unfold Rdr.uint at h ⊢
    cases he : uintD r.rest with
    | none => rw [he] at h; cases h
    | some p => rfl
theorem bytes_ext {r : Rdr} (x : List Int) (h : r.bytes.2.2.bad = false) : (⟨r.rest ++ x, false⟩ : Rdr).bytes.2.2.rest = r.bytes.2.2.rest ++ x := by
  obtain ⟨h1, h2, h3⟩ := bytes_bad0 h
  rw [bytes_good (uintD_ext x (uint_bad0 h1).2) (by rw [List.length_append]; omega), h3]
  show (r.uint.2.2.rest ++ x).drop r.uint.1 = _
  rw [List.drop_append_of_le_length h2]
theorem insD_ok {b : List Int} (h : (insD b).er = 0) : 9 ≤ b.length ∧ insOk b = true := by
  unfold insD at h
  split at h
  · exact absurd h (by decide)
  · split at h
    · exact absurd h (by decide)
    · split at h
      · exact absurd h (by decide)
      · split at h
        · rename_i h1; exact ⟨by omega, h1⟩
        · exact absurd h (by decide)
theorem insOk_done {b : List Int} (h : insOk b = true) : (rdK b 4).bytes.2.2.bad = false ∧ (rdK b 4).bytes.2.2.rest = [] := by
  unfold insOk at h
  simp only [Bool.and_eq_true, beq_iff_eq, decide_eq_true_eq] at h
  exact done_zero h.1.1.1.1.1
theorem rdK_bad {b : List Int} {k : Nat} (h : (rdK b (k + 1)).bad = false) : (rdK b k).bad = false := (uint_bad0 h).1
theorem rdK_ext {b x : List Int} {n : Nat} (hb : (b.take (b.length - 8)).drop 1 = ((b.take n).take ((b.take n).length - 8)).drop 1 ++ x) : ∀ k, (rdK (b.take n) k).bad = false → rdK b k = ⟨(rdK (b.take n) k).rest ++ x, false⟩
  | 0, _ => by unfold rdK; rw [hb]
  | k + 1, h => by
    have h1 := rdK_ext hb k (rdK_bad h)
    show (rdK b k).uint.2.2 = _
    rw [h1, uint_ext x h]; rfl
/-- What is shortened is refused. -/
theorem ins_short {b : List Int} {n : Nat} (h : (insD b).er = 0) (hn : n < b.length) : ¬ (insD (b.take n)).er = 0 := fun h2 => by
  obtain ⟨_, h3⟩ := insD_ok h
  obtain ⟨h4, h5⟩ := insD_ok h2
  obtain ⟨_, h7⟩ := insOk_done h3
  obtain ⟨h8, h9⟩ := insOk_done h5
  have hln : (b.take n).length = n := by rw [List.length_take]; omega
  rw [hln] at h4
  have hb : (b.take (b.length - 8)).drop 1 = ((b.take n).take ((b.take n).length - 8)).drop 1 ++ (b.take (b.length - 8)).drop (n - 8) := by
    rw [hln, List.take_take, show min (n - 8) n = n - 8 by omega]
    have e : b.take (n - 8) = (b.take (b.length - 8)).take (n - 8) := by rw [List.take_take, show min (n - 8) (b.length - 8) = n - 8 by omega]
    rw [e]
    have h1 : 1 ≤ ((b.take (b.length - 8)).take (n - 8)).length := by rw [List.length_take, List.length_take]; omega
    rw [← List.drop_append_of_le_length h1, List.take_append_drop]
  have hr : (rdK b 4).bytes.2.2.rest = (rdK (b.take n) 4).bytes.2.2.rest ++ (b.take (b.length - 8)).drop (n - 8) := by
    have h10 : (rdK (b.take n) 4).bad = false := (uint_bad0 (bytes_bad0 h8).1).1
    rw [rdK_ext hb 4 h10, bytes_ext _ h8]
  rw [h7, h9, List.nil_append] at hr
  have := congrArg List.length hr
  rw [List.length_drop, List.length_take] at this
  simp only [List.length_nil] at this
  omega
theorem hdD_get {ls : List (List Int)} {b : List Int} (h : ls[0]? = some b) : hdD ls = insD b := by
  unfold hdD
  cases ls with
  | nil => cases h
  | cons a l => simp at h; subst h; rfl
theorem partE_get {ls : List (List Int)} {i : Nat} (h : partE ls i = 0) : ∃ b, ls[i]? = some b ∧ (insD b).er = 0 ∧ (insD b).gen = (hdD ls).gen ∧ (insD b).seq = (hdD ls).seq ∧ (insD b).part = i ∧ (insD b).parts = (hdD ls).parts := by
  unfold partE at h
  split at h
  · rename_i hi
    split at h
    · rename_i h1; exact absurd h h1
    · rename_i h1
      split at h
      · rename_i h2
        exact ⟨_, List.getElem?_eq_getElem hi, by simpa using h1, h2⟩
      · exact absurd h (by decide)
  · exact absurd h (by decide)
theorem partE_er {ls : List (List Int)} {i : Nat} : partE ls i = 0 ∨ partE ls i = 5 ∨ partE ls i = 6 := by
  unfold partE
  split
  · split
    · exact insD_er
    · split
      · exact .inl rfl
      · exact .inr (.inl rfl)
  · exact .inr (.inl rfl)
theorem scan_ne {ls : List (List Int)} {e : Int} : ∀ {k : Nat}, scanE ls k = some e → e = 5 ∨ e = 6
  | 0, h => by cases h
  | k + 1, h => by
    unfold scanE at h
    cases h1 : scanE ls k with
    | some e' => rw [h1] at h; injection h with h; subst h; exact scan_ne h1
    | none =>
      rw [h1] at h
      simp only at h
      split at h
      · cases h
      · rename_i h2
        injection h with h; subst h
        rcases partE_er (ls := ls) (i := k) with h3 | h3
        · exact absurd h3 h2
        · exact h3
theorem scan_all {ls : List (List Int)} : ∀ {k : Nat}, scanE ls k = none → ∀ i, i < k → partE ls i = 0
  | 0, _, i, hi => by omega
  | k + 1, h, i, hi => by
    unfold scanE at h
    cases h1 : scanE ls k with
    | some e' => rw [h1] at h; cases h
    | none =>
      rw [h1] at h
      simp only at h
      split at h
      · rename_i h2
        by_cases hk : i = k
        · subst hk; exact h2
        · exact scan_all h1 i (by omega)
      · cases h
theorem dec_er (ls : List (List Int)) : (decD ls).er = 0 ∨ (((decD ls).er = 5 ∨ (decD ls).er = 6) ∧ (decD ls).n = 0) := by
  unfold decD
  split
  · rename_i h
    rcases partE_er (ls := ls) (i := 0) with h3 | h3
    · exact absurd h3 h
    · exact .inr ⟨h3, rfl⟩
  · cases h1 : scanE ls (hdD ls).parts with
    | some e => exact .inr ⟨scan_ne h1, rfl⟩
    | none =>
      simp only
      unfold decEnd
      split
      · exact .inr ⟨.inl rfl, rfl⟩
      · split
        · exact .inl rfl
        · exact .inr ⟨.inl rfl, rfl⟩
theorem dec_zero {ls : List (List Int)} (h : (decD ls).er = 0) : partE ls 0 = 0 ∧ (∀ i, i < (hdD ls).parts → partE ls i = 0) ∧ ∃ r, recD (allB ls (hdD ls).parts) = some r ∧ encR r = ls.take (hdD ls).parts ∧ decD ls = ⟨r, (hdD ls).parts, 0⟩ := by
  have h0 : partE ls 0 = 0 := by
    rcases Classical.em (partE ls 0 = 0) with h0 | h0
    · exact h0
    · unfold decD at h; rw [if_pos h0] at h; exact absurd h h0
  have hd : decD ls = match scanE ls (hdD ls).parts with
    | some e => .bad e
    | none => decEnd ls (hdD ls).parts := by
    unfold decD
    rw [if_neg (by rw [h0]; simp)]
    rfl
  cases h1 : scanE ls (hdD ls).parts with
  | some e =>
    rw [hd, h1] at h
    have h2 : e = 0 := h
    rcases scan_ne h1 with h3 | h3 <;> omega
  | none =>
    refine ⟨h0, scan_all h1, ?_⟩
    rw [hd, h1] at h ⊢
    simp only at h ⊢
    unfold decEnd at h ⊢
    cases h2 : recD (allB ls (hdD ls).parts) with
    | none => rw [h2] at h; exact absurd h (by show ¬ (5 : Int) = 0; decide)
    | some r =>
      rw [h2] at h
      simp only at h ⊢
      by_cases h3 : encR r = ls.take (hdD ls).parts
      · exact ⟨r, rfl, h3, by rw [if_pos h3]⟩
      · rw [if_neg h3] at h; exact absurd h (by show ¬ (5 : Int) = 0; decide)
/-- The sectors of RecordMissing: how 0 missing, 1 shortened, 2 replaced, else cut off. -/
def misL (how k j : Nat) (ls ms : List (List Int)) : List (List Int) :=
  if how = 0 then ls.set k []
  else if how = 1 then ls.set k ((ls.getD k []).take ((ls.getD k []).length / 2))
  else if how = 2 then ls.set k (ms.getD j [])
  else ls.take k
theorem enc_get {r : Rec} {k : Nat} (hk : k < (encR r).length) (hv : validR r = true) (hok : r.Ok) : ∃ s ch, (encR r)[k]? = some s ∧ insD s = ⟨r.gen, r.seq, k, (encR r).length, ch, 0⟩ ∧ 0 < s.length := by
  have hn : k < nCh (payR r).length := by rw [← encR_len]; exact hk
  refine ⟨_, ((payR r).drop (28 * k)).take 28, encR_get r hn, ?_, ?_⟩
  · rw [encR_len]; exact ins_enc (validR_vld hv) hok hn
  · unfold secB sealB; rw [List.length_append]; have : ∀ s, (be8 s).length = 8 := fun _ => rfl
    rw [this]; omega
theorem set_dec {a : Rec} (hv : validR a = true) (hok : a.Ok) {k : Nat} (hk : k < (encR a).length) {x : List Int} (h : (decD ((encR a).set k x)).er = 0) : (insD x).er = 0 ∧ (0 < k → (insD x).gen = a.gen ∧ (insD x).seq = a.seq) := by
  obtain ⟨h0, h1, _⟩ := dec_zero h
  have hx : ((encR a).set k x)[k]? = some x := by rw [List.getElem?_set_self hk]
  by_cases hk0 : k = 0
  · subst hk0
    obtain ⟨b, e, h2, _⟩ := partE_get h0
    rw [hx] at e; injection e with e; subst e
    exact ⟨h2, fun h => by omega⟩
  · obtain ⟨s, ch, hs, hi, _⟩ := enc_get (k := 0) (by omega) hv hok
    have hs' : ((encR a).set k x)[0]? = some s := by rw [List.getElem?_set_ne hk0, hs]
    have hh := hdD_get hs'
    rw [hi] at hh
    rw [hh] at h1
    obtain ⟨b, e, h2, h3, h4, _⟩ := partE_get (h1 k hk)
    rw [hx] at e; injection e with e; subst e
    rw [hh] at h3 h4
    exact ⟨h2, fun _ => ⟨h3, h4⟩⟩
theorem mis_ok {a b : Rec} (ha : validR a = true) (hao : a.Ok) (hb : validR b = true) (hbo : b.Ok) {how k j : Nat} (hk : k < (encR a).length) (hj : j < (encR b).length) (h : (decD (misL how k j (encR a) (encR b))).er = 0) :
    how = 2 ∧ ((a.gen = b.gen ∧ a.seq = b.seq) ∨ (k = 0 ∧ (encR b).length = 1 ∧ (decD (misL how k j (encR a) (encR b))).r = b)) := by
  obtain ⟨s, ch, hs, hi, hsl⟩ := enc_get hk ha hao
  have hgd : (encR a).getD k [] = s := by rw [List.getD_eq_getElem?_getD, hs]; rfl
  by_cases q0 : how = 0
  · subst q0
    have h' : (decD ((encR a).set k [])).er = 0 := h
    exact absurd (set_dec ha hao hk h').1 (by decide)
  by_cases q1 : how = 1
  · subst q1
    have h' : (decD ((encR a).set k (((encR a).getD k []).take (((encR a).getD k []).length / 2)))).er = 0 := h
    rw [hgd] at h'
    exact absurd (set_dec ha hao hk h').1 (ins_short (by rw [hi]) (by omega))
  by_cases q2 : how = 2
  · subst q2
    refine ⟨rfl, ?_⟩
    obtain ⟨t, ct, ht, hit, _⟩ := enc_get hj hb hbo
    have hgt : (encR b).getD j [] = t := by rw [List.getD_eq_getElem?_getD, ht]; rfl
    have hm : misL 2 k j (encR a) (encR b) = (encR a).set k t := by unfold misL; rw [if_neg (by decide), if_neg (by decide), if_pos rfl, hgt]
    rw [hm] at h ⊢
    obtain ⟨h1, h2⟩ := set_dec ha hao hk h
    by_cases hk0 : k = 0
    · subst hk0
      obtain ⟨h3, h4, _⟩ := dec_zero h
      have hx : ((encR a).set 0 t)[0]? = some t := by rw [List.getElem?_set_self hk]
      have hh := hdD_get hx
      rw [hit] at hh
      obtain ⟨t', e, _, _, _, h5, _⟩ := partE_get h3
      rw [hx] at e; injection e with e; subst e
      rw [hit] at h5
      have hj0 : j = 0 := h5
      subst hj0
      rw [hh] at h4
      by_cases hm1 : (encR b).length = 1
      · right
        refine ⟨rfl, hm1, ?_⟩
        have hl : (encR a).set 0 t = encR b ++ (encR a).drop 1 := by
          obtain ⟨u, hu⟩ := List.length_eq_one_iff.1 hm1
          rw [hu] at ht ⊢
          simp at ht
          subst ht
          cases h6 : encR a with
          | nil => rw [h6] at hk; simp at hk
          | cons c l => rfl
        rw [hl, dec_enc hb hbo]
      · left
        have h7 : 1 < (encR b).length := by omega
        obtain ⟨c, e, _, h8, h9, _⟩ := partE_get (h4 1 h7)
        rw [List.getElem?_set_ne (by decide)] at e
        have hla : 1 < (encR a).length := by
          rcases Nat.lt_or_ge 1 (encR a).length with h10 | h10
          · exact h10
          · rw [List.getElem?_eq_none h10] at e; cases e
        obtain ⟨s1, c1, hs1, hi1, _⟩ := enc_get hla ha hao
        rw [hs1] at e; injection e with e; subst e
        rw [hi1, hh] at h8 h9
        exact ⟨h8, h9⟩
    · left
      obtain ⟨h3, h4⟩ := h2 (by omega)
      rw [hit] at h3 h4
      exact ⟨h3.symm, h4.symm⟩
  · exfalso
    have hm : misL how k j (encR a) (encR b) = (encR a).take k := by unfold misL; rw [if_neg q0, if_neg q1, if_neg q2]
    rw [hm] at h
    obtain ⟨h3, h4, _⟩ := dec_zero h
    have hnone : ((encR a).take k)[k]? = none := by rw [List.getElem?_take]; simp
    by_cases hk0 : k = 0
    · subst hk0
      obtain ⟨t', e, _⟩ := partE_get h3
      rw [hnone] at e; cases e
    · obtain ⟨s0, c0, hs0, hi0, _⟩ := enc_get (k := 0) (by omega) ha hao
      have hs' : ((encR a).take k)[0]? = some s0 := by rw [List.getElem?_take, if_pos (by omega), hs0]
      have hh := hdD_get hs'
      rw [hi0] at hh
      rw [hh] at h4
      obtain ⟨t', e, _⟩ := partE_get (h4 k hk)
      rw [hnone] at e; cases e
theorem sec_num1 {gen seq k m : Nat} {ch : List Int} (hg : gen < 2 ^ 64) (hs : seq < 2 ^ 64) : numK (secB gen seq k m ch) 1 = seq := by
  have hb8 : ∀ s, (be8 s).length = 8 := fun _ => rfl
  have hX : hdS gen seq k m ++ uintB ch.length ++ ch = 82 :: (uintB gen ++ (uintB seq ++ (uintB k ++ (uintB m ++ (uintB ch.length ++ ch))))) := by unfold hdS; simp
  obtain ⟨X, hXd⟩ : ∃ X, hdS gen seq k m ++ uintB ch.length ++ ch = X := ⟨_, rfl⟩
  have hb : secB gen seq k m ch = X ++ be8 (sumC X) := by unfold secB sealB; rw [hXd]
  rw [hXd] at hX
  have hlen : (secB gen seq k m ch).length = X.length + 8 := by rw [hb, List.length_append, hb8]
  have htk : (secB gen seq k m ch).take ((secB gen seq k m ch).length - 8) = X := by
    rw [hlen, Nat.add_sub_cancel, hb, List.take_left]
  obtain ⟨B, hB⟩ : ∃ B, secB gen seq k m ch = B := ⟨_, rfl⟩
  rw [hB] at htk ⊢
  clear hB
  have e0 : rdK B 0 = ⟨uintB gen ++ (uintB seq ++ (uintB k ++ (uintB m ++ (uintB ch.length ++ ch)))), false⟩ := by
    unfold rdK; rw [htk, hX]; rfl
  have u0 : (rdK B 0).uint = (gen, 0, ⟨uintB seq ++ (uintB k ++ (uintB m ++ (uintB ch.length ++ ch))), false⟩) := by rw [e0]; exact uint_good (uintD_B hg _)
  have e1 : rdK B 1 = ⟨uintB seq ++ (uintB k ++ (uintB m ++ (uintB ch.length ++ ch))), false⟩ := by show (rdK B 0).uint.2.2 = _; rw [u0]
  have u1 : (rdK B 1).uint = (seq, 0, ⟨uintB k ++ (uintB m ++ (uintB ch.length ++ ch)), false⟩) := by rw [e1]; exact uint_good (uintD_B hs _)
  unfold numK; rw [u1]
/-- What was read from sectors of a payload is the record of that payload. -/
theorem dec_pay {gen seq : Nat} {p : List Int} (hg : gen < 2 ^ 64) (hs : seq < 2 ^ 64) (hp0 : 0 < p.length) (hp : p.length ≤ 6000) (hu : U8s p) (h : (decD ((List.range (nCh p.length)).map fun k => secB gen seq k (nCh p.length) ((p.drop (28 * k)).take 28))).er = 0) :
    ∃ r, decD ((List.range (nCh p.length)).map fun k => secB gen seq k (nCh p.length) ((p.drop (28 * k)).take 28)) = ⟨r, nCh p.length, 0⟩ ∧ payR r = p := by
  have hget : ∀ k, k < nCh p.length → ((List.range (nCh p.length)).map fun k => secB gen seq k (nCh p.length) ((p.drop (28 * k)).take 28))[k]? = some (secB gen seq k (nCh p.length) ((p.drop (28 * k)).take 28)) := fun k hk => by
    rw [List.getElem?_map, List.getElem?_range hk]; rfl
  have hlen : ((List.range (nCh p.length)).map fun k => secB gen seq k (nCh p.length) ((p.drop (28 * k)).take 28)).length = nCh p.length := by simp
  generalize hL : ((List.range (nCh p.length)).map fun k => secB gen seq k (nCh p.length) ((p.drop (28 * k)).take 28)) = L at *
  obtain ⟨h0, h1, r, hr, he, hd⟩ := dec_zero h
  have hn0 : 0 < nCh p.length := by unfold nCh; omega
  obtain ⟨b, e, h2, h3, h4, h5, h6⟩ := partE_get h0
  have hb := hget 0 hn0
  rw [e] at hb; injection hb with hb
  have hseq : 1 ≤ seq := by
    rcases Nat.lt_or_ge seq 1 with h7 | h7
    · exfalso
      obtain rfl : seq = 0 := by omega
      have h8 := (insD_ok h2).2
      unfold insOk at h8
      simp only [Bool.and_eq_true, beq_iff_eq, decide_eq_true_eq] at h8
      have h9 := h8.1.1.1.1.2
      rw [hb, sec_num1 hg hs] at h9
      omega
    · exact h7
  have hins : ∀ k, k < nCh p.length → insD (secB gen seq k (nCh p.length) ((p.drop (28 * k)).take 28)) = ⟨gen, seq, k, nCh p.length, (p.drop (28 * k)).take 28, 0⟩ := fun k hk => insD_sec hg hs hseq hk (nCh_le hp) (chunk_len hk).1 (chunk_len hk).2
  have hh : hdD L = ⟨gen, seq, 0, nCh p.length, (p.drop (28 * 0)).take 28, 0⟩ := by rw [hdD_get (hget 0 hn0), hins 0 hn0]
  have hall : ∀ k, k ≤ nCh p.length → allB L k = p.take (28 * k) := by
    intro k
    induction k with
    | zero => intro _; simp [allB]
    | succ k ih =>
      intro hk
      unfold allB
      rw [ih (by omega), List.getD_eq_getElem?_getD, hget k (by omega)]
      show _ ++ (insD (secB _ _ _ _ _)).ch = _
      rw [hins k (by omega), show 28 * (k + 1) = 28 * k + 28 by omega, List.take_add]
  rw [hh] at hr he hd
  have hap : allB L (nCh p.length) = p := by rw [hall _ (Nat.le_refl _)]; apply List.take_of_length_le; unfold nCh; omega
  have hr' : recD p = some r := by rw [hap] at hr; exact hr
  obtain ⟨hok, hv⟩ := recD_ok hu hr'
  refine ⟨r, hd, ?_⟩
  have he' : encR r = L := by rw [he]; apply List.take_of_length_le; show L.length ≤ nCh p.length; omega
  have hnr : nCh (payR r).length = nCh p.length := by rw [← encR_len, he', hlen]
  have ha2 := all_enc (validR_vld hv) hok [] (nCh (payR r).length) (Nat.le_refl _)
  rw [List.append_nil, he', hnr, hap] at ha2
  rw [ha2]
  symm
  apply List.take_of_length_le
  unfold nCh at hnr ⊢; omega
end Go.Proofs.Ytndifkjenjfjpaa
