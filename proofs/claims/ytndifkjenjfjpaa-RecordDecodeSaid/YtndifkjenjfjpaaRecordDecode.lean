/-
  WHAT IS SHOWN: Decode of record returns what tegularef27 says (RecordDecode). Conditions: none.
-/
import Derived.Test.YtndifkjenjfjpaaRec33
import Derived.Test.YtndifkjenjfjpaaRecO
import Derived.Test.YtndifkjenjfjpaaRecE
import Derived.Test.YtndifkjenjfjpaaRows
namespace Go.Proofs.Ytndifkjenjfjpaa
set_option linter.unusedVariables false
open Go.ChangeShapes Go.WideShapes Go.ChangeAt Go.RowKit

set_option maxRecDepth 100000 in
set_option maxHeartbeats 1000000 in
theorem recordDecode_walk (ss : List Sl) (A : Option Addr) (c : Nat) (w : World) (h : SlsR w w.heap.size A ss) (hok : ∀ s ∈ ss, U8s s.xs ∧ s.xs.length ≤ s.c ∧ s.c ≤ 9223372036854775807) (hc : ss.length ≤ c) (hcm : c ≤ 9223372036854775807) :
    Calls Try.prog 6 #[.slice A ss.length c] w fun e w' => e = .returned (.bool true) ∧ Below w.heap.size w w' := by
  have HH := Lib.hid h
  have HK := Lib.hid hok
  clear h hok
  go_enter Try.func6, Try.ntmps6
  go_wp2_with fail
  refine (awake_any _).mono ?_
  rintro e w1 ⟨rfl, hb1⟩
  have HB1 := Lib.hid hb1
  have HL := Lib.hid (long_any ss A c w1 (HH.out.up hb1) (by omega) (fun s hs => by have := HK.out s hs; omega))
  clear hb1
  go_wp2_with fail
  refine HL.out.mono ?_
  rintro e w2 ⟨rfl, hb2⟩
  have HB2 := Lib.hid (HB1.out.trans (hb2.mono HB1.out.size))
  clear hb2 HL HB1
  obtain hs | hs : longL (ss.map Sl.xs) = true ∨ longL (ss.map Sl.xs) = false := by cases longL (ss.map Sl.xs); exact .inr rfl; exact .inl rfl
  · rw [hs]
    clear hs
    go_wp2
    go_ret
    exact ⟨rfl, HB2.out⟩
  · obtain ⟨hl, hx⟩ := long_no hs
    rw [hs]
    rw [List.length_map] at hl
    have hso : ∀ s ∈ ss, SlOk s := fun s hs => by
      obtain ⟨q1, q2, q3⟩ := HK.out s hs
      exact ⟨q1, by have := hx s.xs (List.mem_map.2 ⟨s, hs, rfl⟩); omega, q2, q3⟩
    have HSO := Lib.hid hso
    have HD := Lib.hid (fun W (hW : Below w.heap.size w W) => decode_r ss hso A c hc hcm (by omega) W (HH.out.up hW))
    have HE := Lib.hid (fun W (hW : Below w.heap.size w W) => rdecode_r ss hso A c hc hcm (by omega) W (HH.out.up hW))
    have HSM := Lib.hid (dec_small' (ss.map Sl.xs))
    generalize decD (ss.map Sl.xs) = X at *
    obtain ⟨r, m, er⟩ := X
    clear hs hx hso
    go_wp2_with fail
    refine (HD.out _ HB2.out).mono ?_
    rintro e w3 ⟨A3, c3, D3, d3, N3, n3, rfl, hr3, hb3⟩
    simp only at *
    have hbx : Below w3.heap.size w3 (w3.alloc (.cells #[.int .u64 r.gen, .int .u64 r.seq, .slice A3 r.ws.length c3, .slice D3 r.ms.length d3, .slice N3 r.note.length n3] 27)) := (Below.refl _ _).alloc (Nat.le_refl _) _
    have hb3w := HB2.out.trans (hb3.mono HB2.out.size)
    have HB3 := Lib.hid (hb3w.trans (hbx.mono hb3w.size))
    have HR3 := Lib.hid (hr3.below0 hbx)
    have PB3 := (Cells5.new w3 27 (.int .u64 r.gen) (.int .u64 r.seq) (.slice A3 r.ws.length c3) (.slice D3 r.ms.length d3) (.slice N3 r.note.length n3))
    have hz3 : w3.heap.size < (w3.alloc (.cells #[.int .u64 r.gen, .int .u64 r.seq, .slice A3 r.ws.length c3, .slice D3 r.ms.length d3, .slice N3 r.note.length n3] 27)).heap.size := by simp
    clear hr3 hbx hb3 hb3w HD
    go_wp2_with fail
    refine (HE.out _ HB3.out).mono ?_
    rintro e w4 ⟨A4, c4, D4, d4, N4, n4, rfl, hr4, hb4⟩
    simp only at *
    have hbx : Below w4.heap.size w4 (w4.alloc (.cells #[.int .u64 r.gen, .int .u64 r.seq, .slice A4 r.ws.length c4, .slice D4 r.ms.length d4, .slice N4 r.note.length n4] 27)) := (Below.refl _ _).alloc (Nat.le_refl _) _
    have hb4w := HB3.out.trans (hb4.mono HB3.out.size)
    have hb4x := hb4.trans (hbx.mono hb4.size)
    have HB4 := Lib.hid (hb4w.trans (hbx.mono hb4w.size))
    have HR4 := Lib.hid (hr4.below0 hbx)
    have HR3' := Lib.hid (HR3.out.below0 hb4x)
    have PB4 := (Cells5.new w4 27 (.int .u64 r.gen) (.int .u64 r.seq) (.slice A4 r.ws.length c4) (.slice D4 r.ms.length d4) (.slice N4 r.note.length n4))
    have PB3' := PB3.below hb4x hz3
    have x0 := PB3'.c0; have x1 := PB3'.c1; have x2 := PB3'.c2; have x3 := PB3'.c3; have x4 := PB3'.c4
    have y0 := PB4.c0; have y1 := PB4.c1; have y2 := PB4.c2; have y3 := PB4.c3; have y4 := PB4.c4
    have HSA := Lib.hid (same_rec r A3 D3 N3 A4 D4 N4 c3 d3 n3 c4 d4 n4 _ HR3'.out.rec_ HR4.out.rec_ (by have := HSM.out.ws; omega) (by have := HSM.out.ms; omega) (by have := HSM.out.note; omega))
    clear hr4 hbx hb4 hb4w hb4x HE PB4 PB3 PB3' HR3 HR4 HR3'
    go_wp2_with fail
    refine HSA.out.mono ?_
    rintro e w5 ⟨rfl, hb5⟩
    go_wp2
    go_ret
    exact ⟨rfl, HB4.out.trans (hb5.mono HB4.out.size)⟩

set_option maxRecDepth 100000 in
theorem recordDecode_lifted (os : Os) (started : os.Started) (H : Type) (enc : TypeId × Value → H) :
    ReturnsInHanded {} Try.checked os 6 .any (Rows.recordDecodeSpec.pre6 enc Try.prog Try.f6 Rows.recordDecodeRow.domain false) (Rows.recordDecodeSpec.post enc Try.prog Try.f6 false true false false) := by
  refine returnsInHanded_of_change (C := Try.checked) own started (by kernel_rfl) Try.func6
    (ChangeSpec.witness6 (enc := enc) (C := Try.checked) false ⟨#[], #[.slice none 0 0], []⟩ 8 (by kernel_rfl) (by kernel_rfl) (by kernel_rfl) (by kernel_rfl)) ?_
  intro W base args ds gs before hval0 hW hcnd _
  have hval : ∀ (j : Nat) t v, Try.f6.params[j]? = some t → args[j]? = some v → Value.okWide Try.prog W .any base t v := hval0
  have hW' := hW
  obtain ⟨p, q, hA0, hV, rfl, hfz, hnd⟩ := hW
  have hA : DataW.TrodAll enc Try.prog W 0 (fun _ => true) true Try.f6.params.toList args.toList ds p := hA0
  rw [Try.params6] at hA hval
  obtain ⟨v0, vs0, d0, ds0, p0, q0, hargs, rfl, rfl, h0, r0⟩ := trodAll_cons hA
  obtain ⟨rfl, rfl, rfl⟩ := trodAll_nil r0
  obtain rfl : args = #[v0] := by cases args; simp_all
  obtain ⟨rfl, rfl⟩ := trodVars_none hV
  have k0 := h0
  have lt0 : ∀ x ∈ p0, x.block < W.heap.size := by obtain ⟨m, hm⟩ := k0; exact DataW.trod_lt m _ _ _ hm
  obtain ⟨a0, n0, c0, rfl⟩ := Go.WideShapes.okWide_slice Try.underlying30 (hval 0 _ _ rfl rfl)
  obtain ⟨A, ss, c, hs⟩ : ∃ A ss c, SecsIn W (.slice a0 n0 c0) A ss c := by obtain ⟨fuel, hf⟩ := h0; exact open_secs hf
  have hsv := hs.val
  injection hsv with e1 e2 e3
  subst e1 e2 e3
  clear hA0 hval0
  refine (recordDecode_walk ss _ _ W hs.rd hs.ok hs.cap hs.big).mono fun e W' ⟨he, bel⟩ => ?_
  subst he
  exact ⟨_, rfl, _, _, _, [], _, [], hW', trodAll_mk1 (shut_bool Try.underlying4 _), (trodAll_cons_mk (Below.trod laidOut (by kernel_rfl) (of_decide_eq_true (by kernel_rfl)) k0 bel lt0) trodAll_mk0), rfl, bel.frame _, fun h => by cases h⟩

/-- The statement. -/
theorem recordDecode_holds : Rows.RecordDecodeSaid :=
  OpenClaim.holds_of_wide 6 Try.f6 rfl rfl rfl rfl rfl rfl rfl ⟨rfl, rfl, rfl, rfl, rfl⟩ rfl rfl rfl rfl rfl (by kernel_rfl) Try.func6 (by kernel_rfl)
    (of_decide_eq_true (by kernel_rfl)) (by unfold Func.isWrapper; first | (rw [if_pos (by decide +kernel)]; kernel_rfl) | (rw [if_neg (by decide +kernel)]; exact ⟨rfl, rfl⟩))
    (fun os started H enc _ => recordDecode_lifted os started H enc)
#print axioms recordDecode_holds
end Go.Proofs.Ytndifkjenjfjpaa
