/-
  WHAT IS SHOWN: Scan of logarea returns what tegularef28 says (LogareaScan). Conditions: none.
-/
import Derived.Test.YtndifkjenjfjpaaLogO
import Derived.Test.YtndifkjenjfjpaaLkA
import Derived.Test.YtndifkjenjfjpaaRows
namespace Go.Proofs.Ytndifkjenjfjpaa
set_option linter.unusedVariables false
open Go.ChangeShapes Go.WideShapes Go.ChangeAt Go.RowKit

theorem scan_tiny {ls : List (List Int)} {gen : Nat} : ∀ i, (∀ r ∈ (scanS ls gen i).1, Tiny r) ∧ (scanS ls gen i).1.length ≤ i
  | 0 => ⟨fun r hr => by simp [scanS] at hr, Nat.le_refl _⟩
  | i + 1 => by
    have hs : scanS ls gen (i + 1) = if stepOk ls gen (scanS ls gen i).2 (scanS ls gen i).1.length = true then ((scanS ls gen i).1 ++ [(decD (ls.drop (scanS ls gen i).2)).r], (scanS ls gen i).2 + (decD (ls.drop (scanS ls gen i).2)).n) else scanS ls gen i := rfl
    obtain ⟨h1, h2⟩ := scan_tiny (ls := ls) (gen := gen) i
    rw [hs]
    split
    · refine ⟨fun r hr => ?_, by rw [List.length_append, List.length_singleton]; omega⟩
      rcases List.mem_append.1 hr with hr | hr
      · exact h1 r hr
      · simp at hr; subst hr; exact (dec_small' _).tiny
    · exact ⟨h1, by omega⟩
theorem lrg_no {ls : List (List Int)} (h : lrgL ls = false) : ls.length ≤ 120 ∧ ∀ b ∈ ls, b.length ≤ 200 := by
  unfold lrgL at h
  rw [Bool.or_eq_false_iff] at h
  obtain ⟨h1, h2⟩ := h
  rw [List.any_eq_false] at h1
  exact ⟨by simpa using h2, fun b hb => by have := h1 b hb; simpa using this⟩
set_option maxRecDepth 100000 in
set_option maxHeartbeats 1000000 in
theorem logareaScan_walk (ss : List Sl) (A : Option Addr) (c : Nat) (gen : Nat) (w : World) (h : SlsR w w.heap.size A ss) (hok : ∀ s ∈ ss, U8s s.xs ∧ s.xs.length ≤ s.c ∧ s.c ≤ 9223372036854775807) (hc : ss.length ≤ c) (hcm : c ≤ 9223372036854775807) :
    Calls Try.prog 10 #[.slice A ss.length c, .int .u64 gen] w fun e w' => e = .returned (.bool true) ∧ Below w.heap.size w w' := by
  have HH := Lib.hid h
  have HK := Lib.hid hok
  clear h hok
  go_enter Try.func10, Try.ntmps10
  go_wp2_with fail
  refine (awake28_any _).mono ?_
  rintro e w1 ⟨rfl, hb1⟩
  have HB1 := Lib.hid hb1
  have HL := Lib.hid (large_any ss A c w1 (HH.out.up hb1) (by omega) (fun s hs => by have := HK.out s hs; omega))
  clear hb1
  go_wp2_with fail
  refine HL.out.mono ?_
  rintro e w2 ⟨rfl, hb2⟩
  have HB2 := Lib.hid (HB1.out.trans (hb2.mono HB1.out.size))
  clear hb2 HL HB1
  obtain hs | hs : lrgL (ss.map Sl.xs) = true ∨ lrgL (ss.map Sl.xs) = false := by cases lrgL (ss.map Sl.xs); exact .inr rfl; exact .inl rfl
  · rw [hs]
    clear hs
    go_wp2
    go_ret
    exact ⟨rfl, HB2.out⟩
  · obtain ⟨hl, hx⟩ := lrg_no hs
    rw [hs]
    rw [List.length_map] at hl
    have hso : ∀ s ∈ ss, SlOk s := fun s hs => by
      obtain ⟨q1, q2, q3⟩ := HK.out s hs
      exact ⟨q1, by have := hx s.xs (List.mem_map.2 ⟨s, hs, rfl⟩); omega, q2, q3⟩
    have HD := Lib.hid (fun W (hW : Below w.heap.size w W) => scan_any ss hso gen A c hc hcm (by omega) W (HH.out.up hW))
    have HE := Lib.hid (fun W (hW : Below w.heap.size w W) => rscan_any ss hso gen A c hc hcm (by omega) W (HH.out.up hW))
    have hti := scan_tiny (ls := ss.map Sl.xs) (gen := gen) ((ss.map Sl.xs).length + 1)
    have HTI : Hid ((∀ r ∈ (scanD (ss.map Sl.xs) gen).1, Tiny r) ∧ (scanD (ss.map Sl.xs) gen).1.length ≤ 1000000) := ⟨hti.1, by have := hti.2; rw [List.length_map] at this; unfold scanD; rw [List.length_map]; omega⟩
    generalize scanD (ss.map Sl.xs) gen = X at *
    obtain ⟨L, m⟩ := X
    clear hs hx hso hti
    go_wp2_with fail
    refine (HD.out _ HB2.out).mono ?_
    rintro e w3 ⟨A3, c3, l3, rfl, hl3, ho3, hb3⟩
    simp only at hl3 ⊢
    have HB3 := Lib.hid (HB2.out.trans (hb3.mono HB2.out.size))
    have HO3 := Lib.hid ho3
    have HL3 := Lib.hid hl3
    clear hl3 ho3 hb3 HD
    go_wp2_with fail
    refine (HE.out _ HB3.out).mono ?_
    rintro e w4 ⟨A4, c4, l4, rfl, hl4, ho4, hb4⟩
    simp only at hl4 ⊢
    have HB4 := Lib.hid (HB3.out.trans (hb4.mono HB3.out.size))
    have HSA := Lib.hid (sameall_any l3 l4 (by rw [HL3.out, hl4]) (fun x hx => HTI.out.1 _ (by show _ ∈ L; rw [← HL3.out]; exact List.mem_map.2 ⟨x, hx, rfl⟩)) A3 A4 c3 c4 w4 (HO3.out.rd.up hb4) ho4.rd (by have : L.length ≤ 1000000 := HTI.out.2; rw [← HL3.out, List.length_map] at this; exact this))
    clear hl4 ho4 hb4 HE
    go_wp2_with fail
    refine HSA.out.mono ?_
    rintro e w5 ⟨rfl, hb5⟩
    go_wp2
    go_ret
    exact ⟨rfl, HB4.out.trans (hb5.mono HB4.out.size)⟩

set_option maxRecDepth 100000 in
theorem logareaScan_lifted (os : Os) (started : os.Started) (H : Type) (enc : TypeId × Value → H) :
    ReturnsInHanded {} Try.checked os 10 .any (Rows.logareaScanSpec.pre6 enc Try.prog Try.f10 Rows.logareaScanRow.domain false) (Rows.logareaScanSpec.post enc Try.prog Try.f10 false true false false) := by
  refine returnsInHanded_of_change (C := Try.checked) own started (by kernel_rfl) Try.func10
    (ChangeSpec.witness6 (enc := enc) (C := Try.checked) false ⟨#[], #[.slice none 0 0, .int .u64 0], []⟩ 8 (by kernel_rfl) (by kernel_rfl) (by kernel_rfl) (by kernel_rfl)) ?_
  intro W base args ds gs before hval0 hW hcnd _
  have hval : ∀ (j : Nat) t v, Try.f10.params[j]? = some t → args[j]? = some v → Value.okWide Try.prog W .any base t v := hval0
  have hW' := hW
  obtain ⟨p, q, hA0, hV, rfl, hfz, hnd⟩ := hW
  have hA : DataW.TrodAll enc Try.prog W 0 (fun _ => true) true Try.f10.params.toList args.toList ds p := hA0
  rw [Try.params10] at hA hval
  obtain ⟨v0, vs0, d0, ds0, p0, q0, hargs, rfl, rfl, h0, r0⟩ := trodAll_cons hA
  obtain ⟨v1, vs1, d1, ds1, p1, q1, rfl, rfl, rfl, h1, r1⟩ := trodAll_cons r0
  obtain ⟨rfl, rfl, rfl⟩ := trodAll_nil r1
  obtain rfl : args = #[v0, v1] := by cases args; simp_all
  obtain ⟨rfl, rfl⟩ := trodVars_none hV
  have k0 := h0
  have lt0 : ∀ x ∈ p0, x.block < W.heap.size := by obtain ⟨m, hm⟩ := k0; exact DataW.trod_lt m _ _ _ hm
  have k1 := h1
  have lt1 : ∀ x ∈ p1, x.block < W.heap.size := by obtain ⟨m, hm⟩ := k1; exact DataW.trod_lt m _ _ _ hm
  obtain ⟨a0, n0, c0, rfl⟩ := Go.WideShapes.okWide_slice Try.underlying30 (hval 0 _ _ rfl rfl)
  obtain ⟨A, ss, c, hs⟩ : ∃ A ss c, SecsIn W (.slice a0 n0 c0) A ss c := by obtain ⟨fuel, hf⟩ := h0; exact open_secs hf
  have hsv := hs.val
  injection hsv with e1 e2 e3
  subst e1 e2 e3
  obtain ⟨g, rfl, _, _, wg⟩ := open_int Try.underlying22 (hval 1 _ _ rfl rfl) h1
  have hg := u64_of wg
  obtain ⟨gn, rfl⟩ := Int.eq_ofNat_of_zero_le hg.1
  clear hA0 hval0
  refine (logareaScan_walk ss _ _ gn W hs.rd hs.ok hs.cap hs.big).mono fun e W' ⟨he, bel⟩ => ?_
  subst he
  exact ⟨_, rfl, _, _, _, [], _, [], hW', trodAll_mk1 (shut_bool Try.underlying4 _), (trodAll_cons_mk (Below.trod laidOut (by kernel_rfl) (of_decide_eq_true (by kernel_rfl)) k0 bel lt0) (trodAll_cons_mk (Below.trod laidOut (by kernel_rfl) (of_decide_eq_true (by kernel_rfl)) k1 bel lt1) trodAll_mk0)), rfl, bel.frame _, fun h => by cases h⟩

/-- The statement. -/
theorem logareaScan_holds : Rows.LogareaScanSaid :=
  OpenClaim.holds_of_wide 10 Try.f10 rfl rfl rfl rfl rfl rfl rfl ⟨rfl, rfl, rfl, rfl, rfl⟩ rfl rfl rfl rfl rfl (by kernel_rfl) Try.func10 (by kernel_rfl)
    (of_decide_eq_true (by kernel_rfl)) (by unfold Func.isWrapper; first | (rw [if_pos (by decide +kernel)]; kernel_rfl) | (rw [if_neg (by decide +kernel)]; exact ⟨rfl, rfl⟩))
    (fun os started H enc _ => logareaScan_lifted os started H enc)
#print axioms logareaScan_holds
end Go.Proofs.Ytndifkjenjfjpaa
