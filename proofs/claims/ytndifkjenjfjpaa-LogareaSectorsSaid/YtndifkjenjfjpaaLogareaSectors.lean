/-
  WHAT IS SHOWN: Valid and Sectors of logarea return what tegularef28 says (LogareaSectors). Conditions: none.
-/
import Derived.Test.YtndifkjenjfjpaaLogO
import Derived.Test.YtndifkjenjfjpaaLkA
import Derived.Test.YtndifkjenjfjpaaRows
namespace Go.Proofs.Ytndifkjenjfjpaa
set_option linter.unusedVariables false
open Go.ChangeShapes Go.WideShapes Go.ChangeAt Go.RowKit

theorem few_yes {l : List RS} (h : fewL (l.map RS.r) = true) : l.length ≤ 20 ∧ ∀ x ∈ l, Tiny x.r := by
  unfold fewL at h
  rw [Bool.and_eq_true] at h
  obtain ⟨h1, h2⟩ := h
  rw [List.all_eq_true] at h1
  refine ⟨by simpa using h2, fun x hx => short_tiny (h1 _ (List.mem_map.2 ⟨x, hx, rfl⟩))⟩
theorem secLs_u8 {l : List Rec} (h : ∀ r ∈ l, r.Ok) : ∀ b ∈ secLs l, U8s b := fun b hb => by
  unfold secLs at hb
  split at hb
  · exact (secs_ok h b hb).1
  · simp at hb
theorem secLs_len {l : List Rec} (h : l.length ≤ 20) : (secLs l).length ≤ 100000 := by
  unfold secLs
  split
  · rename_i hv
    have h1 := secsL_len (logV_mem hv)
    omega
  · simp
set_option maxRecDepth 100000 in
set_option maxHeartbeats 1000000 in
theorem logareaSectors_walk (l : List RS) (A : Option Addr) (c : Nat) (w : World) (h : RcsR w w.heap.size A l) (hok : ∀ x ∈ l, x.r.Ok) (hl : l.length ≤ 9223372036854775807) :
    Calls Try.prog 14 #[.slice A l.length c] w fun e w' => e = .returned (.bool true) ∧ Below w.heap.size w w' := by
  have HH := Lib.hid h
  have HK := Lib.hid hok
  clear h hok
  go_enter Try.func14, Try.ntmps14
  go_wp2_with fail
  refine (awake28_any _).mono ?_
  rintro e w1 ⟨rfl, hb1⟩
  have HB1 := Lib.hid hb1
  have HL := Lib.hid (few_any l A c w1 (HH.out.up hb1) hl)
  clear hb1
  go_wp2_with fail
  refine HL.out.mono ?_
  rintro e w2 ⟨rfl, hb2⟩
  have HB2 := Lib.hid (HB1.out.trans (hb2.mono HB1.out.size))
  clear hb2 HL HB1
  obtain hs | hs : fewL (l.map RS.r) = false ∨ fewL (l.map RS.r) = true := by cases fewL (l.map RS.r); exact .inl rfl; exact .inr rfl
  · rw [hs]
    clear hs
    go_wp2
    go_ret
    exact ⟨rfl, HB2.out⟩
  · obtain ⟨hl20, hti⟩ := few_yes hs
    rw [hs]
    have HTI := Lib.hid hti
    have HD := Lib.hid (sectors_any l hti HK.out A c w2 (HH.out.up HB2.out) (by omega))
    clear hs hti
    go_wp2_with fail
    refine HD.out.mono ?_
    rintro e w3 ⟨A3, c3, ss, rfl, hss, ho3, hb3⟩
    have HB3 := Lib.hid (HB2.out.trans (hb3.mono HB2.out.size))
    have HE := Lib.hid (rsectors_any l HTI.out HK.out A c w3 (HH.out.up HB3.out) (by omega))
    have HO3 := Lib.hid ho3
    have HS3 := Lib.hid hss
    clear hss ho3 hb3 HD
    go_wp2_with fail
    refine HE.out.mono ?_
    rintro e w4 ⟨A4, c4, tt, rfl, htt, ho4, hb4⟩
    have HB4 := Lib.hid (HB3.out.trans (hb4.mono HB3.out.size))
    have HO4 := Lib.hid ho4
    have HO3' := Lib.hid (HO3.out.below hb4)
    have HS4 := Lib.hid htt
    have hmem : ∀ r ∈ l.map RS.r, r.Ok := fun r hr => by obtain ⟨x, hx, rfl⟩ := List.mem_map.1 hr; exact HK.out x hx
    have hlen3 : ss.length ≤ 100000 := by have := congrArg List.length HS3.out; rw [List.length_map] at this; have := secLs_len (l := l.map RS.r) (by rw [List.length_map]; exact hl20); omega
    have HSM := Lib.hid (fun W (hW : Below w4.heap.size w4 W) => same_any ss tt A3 A4 c3 c4 W (HO3'.out.rd.up hW) (HO4.out.rd.up hW) hlen3 (fun s hs => secLs_u8 hmem _ (by rw [← HS3.out]; exact List.mem_map.2 ⟨s, hs, rfl⟩)) (fun s hs => secLs_u8 hmem _ (by rw [← HS4.out]; exact List.mem_map.2 ⟨s, hs, rfl⟩)))
    rw [HS3.out, HS4.out, decide_eq_true rfl] at HSM
    have HV1 := Lib.hid (fun W (hW : Below w4.heap.size w4 W) => logv_any l HTI.out A c W (HH.out.up (HB4.out.trans (hW.mono HB4.out.size))) (by omega))
    have HV2 := Lib.hid (fun W (hW : Below w4.heap.size w4 W) => rlogv_any l HTI.out A c W (HH.out.up (HB4.out.trans (hW.mono HB4.out.size))) (by omega))
    generalize logV (l.map RS.r) = lv at *
    generalize secE (l.map RS.r) = se at *
    clear htt ho4 hb4 HE hmem hlen3
    go_wp2_with fail
    refine (HSM.out _ (Below.refl _ _)).mono ?_
    rintro e w5 ⟨rfl, hb5⟩
    have HB5 := Lib.hid hb5
    clear hb5 HSM
    go_wp2_with fail
    refine (HV1.out _ HB5.out).mono ?_
    rintro e w6 ⟨rfl, hb6⟩
    have HB6 := Lib.hid (HB5.out.trans (hb6.mono HB5.out.size))
    clear hb6 HV1
    go_wp2_with fail
    refine (HV2.out _ HB6.out).mono ?_
    rintro e w7 ⟨rfl, hb7⟩
    go_wp2
    go_ret
    exact ⟨rfl, HB4.out.trans ((HB6.out.trans (hb7.mono HB6.out.size)).mono HB4.out.size)⟩

set_option maxRecDepth 100000 in
theorem logareaSectors_lifted (os : Os) (started : os.Started) (H : Type) (enc : TypeId × Value → H) :
    ReturnsInHanded {} Try.checked os 14 .any (Rows.logareaSectorsSpec.pre6 enc Try.prog Try.f14 Rows.logareaSectorsRow.domain false) (Rows.logareaSectorsSpec.post enc Try.prog Try.f14 false true false false) := by
  refine returnsInHanded_of_change (C := Try.checked) own started (by kernel_rfl) Try.func14
    (ChangeSpec.witness6 (enc := enc) (C := Try.checked) false ⟨#[], #[.slice none 0 0], []⟩ 8 (by kernel_rfl) (by kernel_rfl) (by kernel_rfl) (by kernel_rfl)) ?_
  intro W base args ds gs before hval0 hW hcnd _
  have hval : ∀ (j : Nat) t v, Try.f14.params[j]? = some t → args[j]? = some v → Value.okWide Try.prog W .any base t v := hval0
  have hW' := hW
  obtain ⟨p, q, hA0, hV, rfl, hfz, hnd⟩ := hW
  have hA : DataW.TrodAll enc Try.prog W 0 (fun _ => true) true Try.f14.params.toList args.toList ds p := hA0
  rw [Try.params14] at hA hval
  obtain ⟨v0, vs0, d0, ds0, p0, q0, hargs, rfl, rfl, h0, r0⟩ := trodAll_cons hA
  obtain ⟨rfl, rfl, rfl⟩ := trodAll_nil r0
  obtain rfl : args = #[v0] := by cases args; simp_all
  obtain ⟨rfl, rfl⟩ := trodVars_none hV
  have k0 := h0
  have lt0 : ∀ x ∈ p0, x.block < W.heap.size := by obtain ⟨m, hm⟩ := k0; exact DataW.trod_lt m _ _ _ hm
  obtain ⟨a0, n0, c0, rfl⟩ := Go.WideShapes.okWide_slice Try.underlying53 (hval 0 _ _ rfl rfl)
  obtain ⟨A, l, c, hs⟩ : ∃ A l c, RcsIn W (.slice a0 n0 c0) A l c := by obtain ⟨fuel, hf⟩ := h0; exact open_recs hf
  have hsv := hs.val
  injection hsv with e1 e2 e3
  subst e1 e2 e3
  clear hA0 hval0
  refine (logareaSectors_walk l _ _ W hs.rd (fun x hx => (hs.each x hx).ok) (Nat.le_trans hs.len hs.cap)).mono fun e W' ⟨he, bel⟩ => ?_
  subst he
  exact ⟨_, rfl, _, _, _, [], _, [], hW', trodAll_mk1 (shut_bool Try.underlying4 _), (trodAll_cons_mk (Below.trod laidOut (by kernel_rfl) (of_decide_eq_true (by kernel_rfl)) k0 bel lt0) trodAll_mk0), rfl, bel.frame _, fun h => by cases h⟩

/-- The statement. -/
theorem logareaSectors_holds : Rows.LogareaSectorsSaid :=
  OpenClaim.holds_of_wide 14 Try.f14 rfl rfl rfl rfl rfl rfl rfl ⟨rfl, rfl, rfl, rfl, rfl⟩ rfl rfl rfl rfl rfl (by kernel_rfl) Try.func14 (by kernel_rfl)
    (of_decide_eq_true (by kernel_rfl)) (by unfold Func.isWrapper; first | (rw [if_pos (by decide +kernel)]; kernel_rfl) | (rw [if_neg (by decide +kernel)]; exact ⟨rfl, rfl⟩))
    (fun os started H enc _ => logareaSectors_lifted os started H enc)
#print axioms logareaSectors_holds
end Go.Proofs.Ytndifkjenjfjpaa
