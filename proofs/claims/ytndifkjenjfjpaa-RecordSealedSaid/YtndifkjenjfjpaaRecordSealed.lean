/-
  WHAT IS SHOWN: Inspect of record returns what tegularef27 says for sealed bytes (RecordSealed). Conditions: none.
-/
import Derived.Test.YtndifkjenjfjpaaRec33
import Derived.Test.YtndifkjenjfjpaaRec18
import Derived.Test.YtndifkjenjfjpaaRecO
import Derived.Test.YtndifkjenjfjpaaRec34
import Derived.Test.YtndifkjenjfjpaaRows
namespace Go.Proofs.Ytndifkjenjfjpaa
set_option linter.unusedVariables false
open Go.ChangeShapes Go.WideShapes Go.ChangeAt Go.RowKit

set_option maxRecDepth 100000 in
set_option maxHeartbeats 1000000 in
theorem recordSealed_walk (b : List Int) (hu : U8s b) (A : Option Addr) (c : Nat) (w : World) (h : Rd w w.heap.size A (b.map (Value.int .u8))) (hc : b.length ≤ c) (hcm : c ≤ 9223372036854775807) :
    Calls Try.prog 5 #[.slice A b.length c] w fun e w' => e = .returned (.bool true) ∧ Below w.heap.size w w' := by
  have HH := Lib.hid h
  clear h
  go_enter Try.func5, Try.ntmps5
  go_wp2_with fail
  refine (awake_any _).mono ?_
  rintro e w1 ⟨rfl, hb1⟩
  have HB1 := Lib.hid hb1
  clear hb1
  by_cases hl : 200 < b.length
  · go_wp2
    go_ret
    exact ⟨rfl, HB1.out⟩
  · have HSE := Lib.hid (rsealed_any b A c w1 ((HH.out.below HB1.out (Nat.le_refl _)).more HB1.out.size) (by omega))
    go_wp2_with fail
    refine HSE.out.mono ?_
    rintro e w0 ⟨A0, c0, rfl, ho0, hb0⟩
    have HB1 : Hid (Below w.heap.size w w0) := HB1.out.trans (hb0.mono HB1.out.size)
    have hls : (sealB b).length ≤ 100000 := by unfold sealB; rw [List.length_append]; have : ∀ s, (be8 s).length = 8 := fun _ => rfl; rw [this]; omega
    have hus : U8s (sealB b) := by unfold sealB; exact u8_append hu (be8_u8 _)
    have hc0 := (own_cap0 ho0).1
    have hcm0 : c0 ≤ 9223372036854775807 := by have := (own_cap0 ho0).2.1; unfold maxLen at this; omega
    have HO := Lib.hid (RdT.of_own ho0)
    clear hb0 ho0 HSE HH hu hc hcm
    generalize sealB b = b0 at *
    have HI := Lib.hid (inspect_any b0 hus A0 c0 w0 HO.out.rd hls hc0 hcm0)
    go_wp2_with fail
    refine HI.out.mono ?_
    rintro e w2 ⟨A2, c2, rfl, hr2, hb2⟩
    have HB2 := Lib.hid (HB1.out.trans (hb2.mono HB1.out.size))
    have HR2 := Lib.hid hr2
    clear hr2 HI
    have hbx : Below w2.heap.size w2 (w2.alloc (.cells #[.int .u64 (insD b0).gen, .int .u64 (insD b0).seq, .int .i64 (insD b0).part, .int .i64 (insD b0).parts] 36)) := (Below.refl _ _).alloc (Nat.le_refl _) _
    have HB2x : Hid (Below w.heap.size w (w2.alloc (.cells #[.int .u64 (insD b0).gen, .int .u64 (insD b0).seq, .int .i64 (insD b0).part, .int .i64 (insD b0).parts] 36))) := HB2.out.alloc HB2.out.size _
    have HR2x := Lib.hid (HR2.out.below0 hbx)
    have PB2 := Cells4.new w2 36 (.int .u64 (insD b0).gen) (.int .u64 (insD b0).seq) (.int .i64 (insD b0).part) (.int .i64 (insD b0).parts)
    have hz2 : w2.heap.size < (w2.alloc (.cells #[.int .u64 (insD b0).gen, .int .u64 (insD b0).seq, .int .i64 (insD b0).part, .int .i64 (insD b0).parts] 36)).heap.size := by simp
    have HI := Lib.hid (rinspect_any b0 hus A0 c0 (w2.alloc (.cells #[.int .u64 (insD b0).gen, .int .u64 (insD b0).seq, .int .i64 (insD b0).part, .int .i64 (insD b0).parts] 36)) ((HO.out.below0 hb2).below0 hbx).rd hls hc0 hcm0)
    clear hbx HR2 hb2
    go_wp2_with fail
    refine HI.out.mono ?_
    rintro e w3 ⟨A3, c3, rfl, hr3, hb3⟩
    have hbx : Below w3.heap.size w3 (w3.alloc (.cells #[.int .u64 (insD b0).gen, .int .u64 (insD b0).seq, .int .i64 (insD b0).part, .int .i64 (insD b0).parts] 39)) := (Below.refl _ _).alloc (Nat.le_refl _) _
    have HB3 := Lib.hid ((HB2x.out.trans (hb3.mono HB2x.out.size)).trans (hbx.mono (HB2x.out.trans (hb3.mono HB2x.out.size)).size))
    have v2 := conv_bytes c2 ((HR2x.out.below0 hb3).below0 hbx).rd
    have v3 := conv_bytes c3 (hr3.below0 hbx).rd
    have PB3 := Cells4.new w3 39 (.int .u64 (insD b0).gen) (.int .u64 (insD b0).seq) (.int .i64 (insD b0).part) (.int .i64 (insD b0).parts)
    have PB2' := PB2.below (hb3.trans (hbx.mono hb3.size)) hz2
    have x0 := PB2'.c0; have x1 := PB2'.c1; have x2 := PB2'.c2; have x3 := PB2'.c3
    have y0 := PB3.c0; have y1 := PB3.c1; have y2 := PB3.c2; have y3 := PB3.c3
    clear hb3 hr3 HI HR2x HO hbx PB2 PB3 PB2' HB2 HB2x hz2
    go_upto_region 6 with fail
    generalize (w3.alloc (.cells #[.int .u64 (insD b0).gen, .int .u64 (insD b0).seq, .int .i64 (insD b0).part, .int .i64 (insD b0).parts] 39)) = w4 at *
    generalize (insD b0) = I at *
    obtain ⟨gen, seq, part, parts, ch, er⟩ := I
    simp only at *
    generalize strOfNums ch = S at *
    go_wp2
    go_ret
    exact ⟨rfl, HB3.out⟩

set_option maxRecDepth 100000 in
theorem recordSealed_lifted (os : Os) (started : os.Started) (H : Type) (enc : TypeId × Value → H) :
    ReturnsInHanded {} Try.checked os 5 .any (Rows.recordSealedSpec.pre6 enc Try.prog Try.f5 Rows.recordSealedRow.domain false) (Rows.recordSealedSpec.post enc Try.prog Try.f5 false true false false) := by
  refine returnsInHanded_of_change (C := Try.checked) own started (by kernel_rfl) Try.func5
    (ChangeSpec.witness6 (enc := enc) (C := Try.checked) false ⟨#[], #[.slice none 0 0], []⟩ 8 (by kernel_rfl) (by kernel_rfl) (by kernel_rfl) (by kernel_rfl)) ?_
  intro W base args ds gs before hval0 hW hcnd _
  have hval : ∀ (j : Nat) t v, Try.f5.params[j]? = some t → args[j]? = some v → Value.okWide Try.prog W .any base t v := hval0
  have hW' := hW
  obtain ⟨p, q, hA0, hV, rfl, hfz, hnd⟩ := hW
  have hA : DataW.TrodAll enc Try.prog W 0 (fun _ => true) true Try.f5.params.toList args.toList ds p := hA0
  rw [Try.params5] at hA hval
  obtain ⟨v0, vs0, d0, ds0, p0, q0, hargs, rfl, rfl, h0, r0⟩ := trodAll_cons hA
  obtain ⟨rfl, rfl, rfl⟩ := trodAll_nil r0
  obtain rfl : args = #[v0] := by cases args; simp_all
  obtain ⟨rfl, rfl⟩ := trodVars_none hV
  have k0 := h0
  have lt0 : ∀ x ∈ p0, x.block < W.heap.size := by obtain ⟨m, hm⟩ := k0; exact DataW.trod_lt m _ _ _ hm
  obtain ⟨a0, n0, c0, rfl⟩ := Go.WideShapes.okWide_slice Try.underlying25 (hval 0 _ _ rfl rfl)
  obtain ⟨s, hs⟩ : ∃ s, BytesIn W (.slice a0 n0 c0) s := by obtain ⟨fuel, hf⟩ := h0; exact open_bytes hf
  have hsv := hs.val
  unfold Sl.v at hsv
  injection hsv with e1 e2 e3
  subst e1 e2 e3
  clear hA0 hval0
  refine (recordSealed_walk s.xs hs.ok s.A s.c W hs.rd hs.cap hs.big).mono fun e W' ⟨he, bel⟩ => ?_
  subst he
  exact ⟨_, rfl, _, _, _, [], _, [], hW', trodAll_mk1 (shut_bool Try.underlying4 _), (trodAll_cons_mk (Below.trod laidOut (by kernel_rfl) (of_decide_eq_true (by kernel_rfl)) k0 bel lt0) trodAll_mk0), rfl, bel.frame _, fun h => by cases h⟩

/-- The statement. -/
theorem recordSealed_holds : Rows.RecordSealedSaid :=
  OpenClaim.holds_of_wide 5 Try.f5 rfl rfl rfl rfl rfl rfl rfl ⟨rfl, rfl, rfl, rfl, rfl⟩ rfl rfl rfl rfl rfl (by kernel_rfl) Try.func5 (by kernel_rfl)
    (of_decide_eq_true (by kernel_rfl)) (by unfold Func.isWrapper; first | (rw [if_pos (by decide +kernel)]; kernel_rfl) | (rw [if_neg (by decide +kernel)]; exact ⟨rfl, rfl⟩))
    (fun os started H enc _ => recordSealed_lifted os started H enc)
#print axioms recordSealed_holds
end Go.Proofs.Ytndifkjenjfjpaa
