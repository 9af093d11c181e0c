/-
  WHAT IS SHOWN: Inspect of record returns what tegularef27 says (RecordInspect). Conditions: none.
-/
import Derived.Test.YtndifkjenjfjpaaRec33
import Derived.Test.YtndifkjenjfjpaaRecO
import Derived.Test.YtndifkjenjfjpaaRecD
import Derived.Test.YtndifkjenjfjpaaRows
namespace Go.Proofs.Ytndifkjenjfjpaa
set_option linter.unusedVariables false
open Go.ChangeShapes Go.WideShapes Go.ChangeAt Go.RowKit

set_option maxRecDepth 100000 in
set_option maxHeartbeats 1000000 in
theorem recordInspect_walk (b : List Int) (hu : U8s b) (A : Option Addr) (c : Nat) (w : World) (h : Rd w w.heap.size A (b.map (Value.int .u8))) (hc : b.length ≤ c) (hcm : c ≤ 9223372036854775807) :
    Calls Try.prog 4 #[.slice A b.length c] w fun e w' => e = .returned (.bool true) ∧ Below w.heap.size w w' := by
  have HH := Lib.hid h
  clear h
  go_enter Try.func4, Try.ntmps4
  go_wp2_with fail
  refine (awake_any _).mono ?_
  rintro e w1 ⟨rfl, hb1⟩
  have HB1 := Lib.hid hb1
  clear hb1
  by_cases hl : 200 < b.length
  · go_wp2
    go_ret
    exact ⟨rfl, HB1.out⟩
  · have HI := Lib.hid (inspect_any b hu A c w1 ((HH.out.below HB1.out (Nat.le_refl _)).more HB1.out.size) (by omega) hc hcm)
    go_wp2_with fail
    refine HI.out.mono ?_
    rintro e w2 ⟨A2, c2, rfl, hr2, hb2⟩
    have HB2 := Lib.hid (HB1.out.trans (hb2.mono HB1.out.size))
    have HR2 := Lib.hid hr2
    clear hb2 hr2 HI
    have hbx : Below w2.heap.size w2 (w2.alloc (.cells #[.int .u64 (insD b).gen, .int .u64 (insD b).seq, .int .i64 (insD b).part, .int .i64 (insD b).parts] 36)) := (Below.refl _ _).alloc (Nat.le_refl _) _
    have HB2x : Hid (Below w.heap.size w (w2.alloc (.cells #[.int .u64 (insD b).gen, .int .u64 (insD b).seq, .int .i64 (insD b).part, .int .i64 (insD b).parts] 36))) := HB2.out.alloc HB2.out.size _
    have HR2x := Lib.hid (HR2.out.below0 hbx)
    have PB2 := Cells4.new w2 36 (.int .u64 (insD b).gen) (.int .u64 (insD b).seq) (.int .i64 (insD b).part) (.int .i64 (insD b).parts)
    have hz2 : w2.heap.size < (w2.alloc (.cells #[.int .u64 (insD b).gen, .int .u64 (insD b).seq, .int .i64 (insD b).part, .int .i64 (insD b).parts] 36)).heap.size := by simp
    have HI := Lib.hid (rinspect_any b hu A c (w2.alloc (.cells #[.int .u64 (insD b).gen, .int .u64 (insD b).seq, .int .i64 (insD b).part, .int .i64 (insD b).parts] 36)) ((HH.out.below HB2x.out (Nat.le_refl _)).more HB2x.out.size) (by omega) hc hcm)
    clear hbx HR2
    go_wp2_with fail
    refine HI.out.mono ?_
    rintro e w3 ⟨A3, c3, rfl, hr3, hb3⟩
    have hbx : Below w3.heap.size w3 (w3.alloc (.cells #[.int .u64 (insD b).gen, .int .u64 (insD b).seq, .int .i64 (insD b).part, .int .i64 (insD b).parts] 39)) := (Below.refl _ _).alloc (Nat.le_refl _) _
    have HB3 := Lib.hid ((HB2x.out.trans (hb3.mono HB2x.out.size)).trans (hbx.mono (HB2x.out.trans (hb3.mono HB2x.out.size)).size))
    have v2 := conv_bytes c2 ((HR2x.out.below0 hb3).below0 hbx).rd
    have v3 := conv_bytes c3 (hr3.below0 hbx).rd
    have PB3 := Cells4.new w3 39 (.int .u64 (insD b).gen) (.int .u64 (insD b).seq) (.int .i64 (insD b).part) (.int .i64 (insD b).parts)
    have PB2' := PB2.below (hb3.trans (hbx.mono hb3.size)) hz2
    have x0 := PB2'.c0; have x1 := PB2'.c1; have x2 := PB2'.c2; have x3 := PB2'.c3
    have y0 := PB3.c0; have y1 := PB3.c1; have y2 := PB3.c2; have y3 := PB3.c3
    clear hb3 hr3 HI HR2x HH hbx PB2 PB3 PB2' HB2 HB2x hz2
    go_upto_region 5 with fail
    generalize (w3.alloc (.cells #[.int .u64 (insD b).gen, .int .u64 (insD b).seq, .int .i64 (insD b).part, .int .i64 (insD b).parts] 39)) = w4 at *
    generalize (insD b) = I at *
    obtain ⟨gen, seq, part, parts, ch, er⟩ := I
    simp only at *
    generalize strOfNums ch = S at *
    go_wp2
    go_ret
    exact ⟨rfl, HB3.out⟩

set_option maxRecDepth 100000 in
theorem recordInspect_lifted (os : Os) (started : os.Started) (H : Type) (enc : TypeId × Value → H) :
    ReturnsInHanded {} Try.checked os 4 .any (Rows.recordInspectSpec.pre6 enc Try.prog Try.f4 Rows.recordInspectRow.domain false) (Rows.recordInspectSpec.post enc Try.prog Try.f4 false true false false) := by
  refine returnsInHanded_of_change (C := Try.checked) own started (by kernel_rfl) Try.func4
    (ChangeSpec.witness6 (enc := enc) (C := Try.checked) false ⟨#[], #[.slice none 0 0], []⟩ 8 (by kernel_rfl) (by kernel_rfl) (by kernel_rfl) (by kernel_rfl)) ?_
  intro W base args ds gs before hval0 hW hcnd _
  have hval : ∀ (j : Nat) t v, Try.f4.params[j]? = some t → args[j]? = some v → Value.okWide Try.prog W .any base t v := hval0
  have hW' := hW
  obtain ⟨p, q, hA0, hV, rfl, hfz, hnd⟩ := hW
  have hA : DataW.TrodAll enc Try.prog W 0 (fun _ => true) true Try.f4.params.toList args.toList ds p := hA0
  rw [Try.params4] at hA hval
  obtain ⟨v0, vs0, d0, ds0, p0, q0, hargs, rfl, rfl, h0, r0⟩ := trodAll_cons hA
  obtain ⟨rfl, rfl, rfl⟩ := trodAll_nil r0
  obtain rfl : args = #[v0] := by cases args; simp_all
  obtain ⟨rfl, rfl⟩ := trodVars_none hV
  have k0 := h0
  have lt0 : ∀ x ∈ p0, x.block < W.heap.size := by obtain ⟨m, hm⟩ := k0; exact DataW.trod_lt m _ _ _ hm
  obtain ⟨a0, n0, c0, rfl⟩ := Go.WideShapes.okWide_slice Try.underlying25 (hval 0 _ _ rfl rfl)
  obtain ⟨s, hs⟩ : ∃ s, BytesIn W (.slice a0 n0 c0) s := by obtain ⟨fuel, hf⟩ := h0; exact open_bytes hf
  have hsv := hs.val
  unfold Sl.v at hsv
  injection hsv with e1 e2 e3
  subst e1 e2 e3
  clear hA0 hval0
  refine (recordInspect_walk s.xs hs.ok s.A s.c W hs.rd hs.cap hs.big).mono fun e W' ⟨he, bel⟩ => ?_
  subst he
  exact ⟨_, rfl, _, _, _, [], _, [], hW', trodAll_mk1 (shut_bool Try.underlying4 _), (trodAll_cons_mk (Below.trod laidOut (by kernel_rfl) (of_decide_eq_true (by kernel_rfl)) k0 bel lt0) trodAll_mk0), rfl, bel.frame _, fun h => by cases h⟩

/-- The statement. -/
theorem recordInspect_holds : Rows.RecordInspectSaid :=
  OpenClaim.holds_of_wide 4 Try.f4 rfl rfl rfl rfl rfl rfl rfl ⟨rfl, rfl, rfl, rfl, rfl⟩ rfl rfl rfl rfl rfl (by kernel_rfl) Try.func4 (by kernel_rfl)
    (of_decide_eq_true (by kernel_rfl)) (by unfold Func.isWrapper; first | (rw [if_pos (by decide +kernel)]; kernel_rfl) | (rw [if_neg (by decide +kernel)]; exact ⟨rfl, rfl⟩))
    (fun os started H enc _ => recordInspect_lifted os started H enc)
#print axioms recordInspect_holds
end Go.Proofs.Ytndifkjenjfjpaa
