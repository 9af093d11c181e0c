/-
  WHAT IS SHOWN: Fits of logarea returns what tegularef28 says (LogareaFits). Conditions: none.
-/
import Derived.Test.YtndifkjenjfjpaaLogO
import Derived.Test.YtndifkjenjfjpaaLkA
import Derived.Test.YtndifkjenjfjpaaRows
namespace Go.Proofs.Ytndifkjenjfjpaa
set_option linter.unusedVariables false
open Go.ChangeShapes Go.WideShapes Go.ChangeAt Go.RowKit

set_option maxRecDepth 100000 in
set_option maxHeartbeats 1000000 in
theorem logareaFits_walk (area used : Int) (ha : I64 area) (hu : I64 used) (r : Rec) (hok : r.Ok) (A D N : Option Addr) (c d n : Nat) (w : World) (h : RecR w w.heap.size r A c D d N n) (hw : r.ws.length ≤ 9223372036854775807) (hm : r.ms.length ≤ 9223372036854775807) (hn : r.note.length ≤ 9223372036854775807) :
    Calls Try.prog 12 #[.int .i64 area, .int .i64 used, .agg #[.int .u64 r.gen, .int .u64 r.seq, .slice A r.ws.length c, .slice D r.ms.length d, .slice N r.note.length n]] w fun e w' => e = .returned (.bool true) ∧ Below w.heap.size w w' := by
  have HB : Hid (∀ W, Below (w.heap.size + 1) (w.alloc (.cells #[.int .u64 r.gen, .int .u64 r.seq, .slice A r.ws.length c, .slice D r.ms.length d, .slice N r.note.length n] 27)) W → Below w.heap.size w W) := fun W hW => ((Below.refl w.heap.size w).alloc (Nat.le_refl _) _).trans (hW.mono (by omega))
  have HP0 : Hid (∀ W, Below (w.heap.size + 1) (w.alloc (.cells #[.int .u64 r.gen, .int .u64 r.seq, .slice A r.ws.length c, .slice D r.ms.length d, .slice N r.note.length n] 27)) W → Cells5 W w.heap.size (.int .u64 r.gen) (.int .u64 r.seq) (.slice A r.ws.length c) (.slice D r.ms.length d) (.slice N r.note.length n)) := fun W hW => (Cells5.new w 27 _ _ _ _ _).below hW (by simp)
  have HH := Lib.hid h
  have HA := Lib.hid ha
  have HU := Lib.hid hu
  have hz0 : (w.alloc (.cells #[.int .u64 r.gen, .int .u64 r.seq, .slice A r.ws.length c, .slice D r.ms.length d, .slice N r.note.length n] 27)).heap.size = w.heap.size + 1 := by simp
  clear h ha hu
  go_enter Try.func12, Try.ntmps12
  go_wp2_with fail
  refine (awake28_any _).mono ?_
  rintro e w1 ⟨rfl, hb1⟩
  rw [hz0] at hb1
  have HB1 := Lib.hid hb1
  have PB := HP0.out _ hb1
  have p0 := PB.c0
  have p1 := PB.c1
  have p2 := PB.c2
  have p3 := PB.c3
  have p4 := PB.c4
  clear PB
  clear hb1
  go_wp2_with fail
  refine (short_any r A D N c d n _).mono ?_
  rintro e w2 ⟨rfl, hb2⟩
  have HB2 := Lib.hid (HB1.out.trans (hb2.mono (by have := HB1.out.size; omega)))
  clear p0 p1 p2 p3 p4
  have PB := HP0.out _ HB2.out
  have p0 := PB.c0
  have p1 := PB.c1
  have p2 := PB.c2
  have p3 := PB.c3
  have p4 := PB.c4
  clear PB
  clear hb2 HB1
  obtain hs | hs : shortR r = false ∨ shortR r = true := by cases shortR r; exact .inl rfl; exact .inr rfl
  · rw [hs]
    clear hs
    go_wp2
    go_ret
    exact ⟨rfl, HB.out _ HB2.out⟩
  · rw [hs]
    clear hs
    have HV1 := Lib.hid (fun W (hW : Below w2.heap.size w2 W) => fits_any area used HA.out HU.out r hok A D N c d n W (HH.out.up ((HB.out _ HB2.out).trans (hW.mono (by have := HB2.out.size; omega)))) hw hm hn)
    have HV2 := Lib.hid (fun W (hW : Below w2.heap.size w2 W) => rfits_any area used HA.out HU.out r hok A D N c d n W (HH.out.up ((HB.out _ HB2.out).trans (hW.mono (by have := HB2.out.size; omega)))) hw hm hn)
    generalize fitB area used r = fb at *
    have hz4 : w.heap.size < w2.heap.size := by have := HB2.out.size; omega
    have k0 := Held.cell p0 hz4
    have k1 := Held.cell p1 hz4
    have k2 := Held.cell p2 hz4
    have k3 := Held.cell p3 hz4
    have k4 := Held.cell p4 hz4
    clear p0 p1 p2 p3 p4
    go_wp2_with fail
    have hne : Nonempty (Held (Below w2.heap.size w2)) := ⟨⟨_, (Held.drew_below (Nat.le_refl _))⟩⟩
    refine wp_region_heldq (S := (Below w2.heap.size w2)) (by kernel_rfl) (by kernel_rfl) (Held.drew_below (Nat.le_refl _)) ?_
    repeat (go_big_quiet_step ((first
      | (go_at_call 40; exact Calls.held_below (Nat.le_refl _) (HV1.out _ (Held.h _)))
      | (go_at_call 41; exact Calls.held_below (Nat.le_refl _) (HV2.out _ (Held.h _))))))
    refine wpQuiet_nil ?_
    intro _ hw'
    obtain ⟨sq, hw''⟩ := hw'
    subst hw''
    clear hne
    go_wp2
    go_ret
    exact ⟨rfl, HB.out _ (HB2.out.trans (sq.h.mono (by omega)))⟩

set_option maxRecDepth 100000 in
theorem logareaFits_lifted (os : Os) (started : os.Started) (H : Type) (enc : TypeId × Value → H) :
    ReturnsInHanded {} Try.checked os 12 .any (Rows.logareaFitsSpec.pre6 enc Try.prog Try.f12 Rows.logareaFitsRow.domain false) (Rows.logareaFitsSpec.post enc Try.prog Try.f12 false true false false) := by
  refine returnsInHanded_of_change (C := Try.checked) own started (by kernel_rfl) Try.func12
    (ChangeSpec.witness6 (enc := enc) (C := Try.checked) false ⟨#[], #[.int .i64 0, .int .i64 0, .agg #[.int .u64 0, .int .u64 0, .slice none 0 0, .slice none 0 0, .slice none 0 0]], []⟩ 8 (by kernel_rfl) (by kernel_rfl) (by kernel_rfl) (by kernel_rfl)) ?_
  intro W base args ds gs before hval0 hW hcnd _
  have hval : ∀ (j : Nat) t v, Try.f12.params[j]? = some t → args[j]? = some v → Value.okWide Try.prog W .any base t v := hval0
  have hW' := hW
  obtain ⟨p, q, hA0, hV, rfl, hfz, hnd⟩ := hW
  have hA : DataW.TrodAll enc Try.prog W 0 (fun _ => true) true Try.f12.params.toList args.toList ds p := hA0
  rw [Try.params12] at hA hval
  obtain ⟨v0, vs0, d0, ds0, p0, q0, hargs, rfl, rfl, h0, r0⟩ := trodAll_cons hA
  obtain ⟨v1, vs1, d1, ds1, p1, q1, rfl, rfl, rfl, h1, r1⟩ := trodAll_cons r0
  obtain ⟨v2, vs2, d2, ds2, p2, q2, rfl, rfl, rfl, h2, r2⟩ := trodAll_cons r1
  obtain ⟨rfl, rfl, rfl⟩ := trodAll_nil r2
  obtain rfl : args = #[v0, v1, v2] := by cases args; simp_all
  obtain ⟨rfl, rfl⟩ := trodVars_none hV
  have k0 := h0
  have lt0 : ∀ x ∈ p0, x.block < W.heap.size := by obtain ⟨m, hm⟩ := k0; exact DataW.trod_lt m _ _ _ hm
  have k1 := h1
  have lt1 : ∀ x ∈ p1, x.block < W.heap.size := by obtain ⟨m, hm⟩ := k1; exact DataW.trod_lt m _ _ _ hm
  have k2 := h2
  have lt2 : ∀ x ∈ p2, x.block < W.heap.size := by obtain ⟨m, hm⟩ := k2; exact DataW.trod_lt m _ _ _ hm
  obtain ⟨a, rfl, _, _, wa⟩ := open_int Try.underlying3 (hval 0 _ _ rfl rfl) h0
  obtain ⟨b, rfl, _, _, wb⟩ := open_int Try.underlying3 (hval 1 _ _ rfl rfl) h1
  obtain ⟨r, A, c, D, d, N, n, hr⟩ := open_rec (hval 2 _ _ rfl rfl) h2
  have hrv := hr.val
  subst hrv
  clear hA0 hval0
  refine (logareaFits_walk a b (i64_of wa) (i64_of wb) r hr.ok A D N c d n W hr.rd hr.nw hr.nm hr.nn).mono fun e W' ⟨he, bel⟩ => ?_
  subst he
  exact ⟨_, rfl, _, _, _, [], _, [], hW', trodAll_mk1 (shut_bool Try.underlying4 _), (trodAll_cons_mk (Below.trod laidOut (by kernel_rfl) (of_decide_eq_true (by kernel_rfl)) k0 bel lt0) (trodAll_cons_mk (Below.trod laidOut (by kernel_rfl) (of_decide_eq_true (by kernel_rfl)) k1 bel lt1) (trodAll_cons_mk (Below.trod laidOut (by kernel_rfl) (of_decide_eq_true (by kernel_rfl)) k2 bel lt2) trodAll_mk0))), rfl, bel.frame _, fun h => by cases h⟩

/-- The statement. -/
theorem logareaFits_holds : Rows.LogareaFitsSaid :=
  OpenClaim.holds_of_wide 12 Try.f12 rfl rfl rfl rfl rfl rfl rfl ⟨rfl, rfl, rfl, rfl, rfl⟩ rfl rfl rfl rfl rfl (by kernel_rfl) Try.func12 (by kernel_rfl)
    (of_decide_eq_true (by kernel_rfl)) (by unfold Func.isWrapper; first | (rw [if_pos (by decide +kernel)]; kernel_rfl) | (rw [if_neg (by decide +kernel)]; exact ⟨rfl, rfl⟩))
    (fun os started H enc _ => logareaFits_lifted os started H enc)
#print axioms logareaFits_holds
end Go.Proofs.Ytndifkjenjfjpaa
