/-
  WHAT IS SHOWN: Valid and Encode of record return what tegularef27 says (RecordEncode). Conditions: none.
-/
import Derived.Test.YtndifkjenjfjpaaRec33
import Derived.Test.YtndifkjenjfjpaaRecO
import Derived.Test.YtndifkjenjfjpaaRec34
import Derived.Test.YtndifkjenjfjpaaRows
namespace Go.Proofs.Ytndifkjenjfjpaa
set_option linter.unusedVariables false
open Go.ChangeShapes Go.WideShapes Go.ChangeAt Go.RowKit

theorem encL_u8 {r : Rec} (h : r.Ok) : ∀ b ∈ encL r, U8s b := fun b hb => by
  unfold encL at hb
  split at hb
  · exact encR_u8 h b hb
  · simp at hb
theorem encL_len {r : Rec} : (encL r).length ≤ 4096 := by
  unfold encL
  split
  · rename_i h
    rw [encR_len]; exact nCh_le (payR_len (validR_vld h))
  · simp
set_option maxRecDepth 100000 in
set_option maxHeartbeats 1000000 in
theorem recordEncode_walk (r : Rec) (hok : r.Ok) (A D N : Option Addr) (c d n : Nat) (w : World) (h : RecR w w.heap.size r A c D d N n) (hw : r.ws.length ≤ 9223372036854775807) (hm : r.ms.length ≤ 9223372036854775807) (hn : r.note.length ≤ 9223372036854775807) :
    Calls Try.prog 3 #[.agg #[.int .u64 r.gen, .int .u64 r.seq, .slice A r.ws.length c, .slice D r.ms.length d, .slice N r.note.length n]] w fun e w' => e = .returned (.bool true) ∧ Below w.heap.size w w' := by
  have HB : Hid (∀ W, Below (w.heap.size + 1) (w.alloc (.cells #[.int .u64 r.gen, .int .u64 r.seq, .slice A r.ws.length c, .slice D r.ms.length d, .slice N r.note.length n] 27)) W → Below w.heap.size w W) := fun W hW => ((Below.refl w.heap.size w).alloc (Nat.le_refl _) _).trans (hW.mono (by omega))
  have HP0 : Hid (∀ W, Below (w.heap.size + 1) (w.alloc (.cells #[.int .u64 r.gen, .int .u64 r.seq, .slice A r.ws.length c, .slice D r.ms.length d, .slice N r.note.length n] 27)) W → Cells5 W w.heap.size (.int .u64 r.gen) (.int .u64 r.seq) (.slice A r.ws.length c) (.slice D r.ms.length d) (.slice N r.note.length n)) := fun W hW => (Cells5.new w 27 _ _ _ _ _).below hW (by simp)
  have HH := Lib.hid h
  have hz0 : (w.alloc (.cells #[.int .u64 r.gen, .int .u64 r.seq, .slice A r.ws.length c, .slice D r.ms.length d, .slice N r.note.length n] 27)).heap.size = w.heap.size + 1 := by simp
  go_enter Try.func3, Try.ntmps3
  go_wp2_with fail
  refine (awake_any _).mono ?_
  rintro e w1 ⟨rfl, hb1⟩
  rw [hz0] at hb1
  have HB1 := Lib.hid hb1
  have PB := HP0.out _ hb1
  have p0 := PB.c0
  have p1 := PB.c1
  have p2 := PB.c2
  have p3 := PB.c3
  have p4 := PB.c4
  clear PB
  clear hb1
  go_wp2_with fail
  refine (short_any r A D N c d n _).mono ?_
  rintro e w2 ⟨rfl, hb2⟩
  have HB2 := Lib.hid (HB1.out.trans (hb2.mono (by have := HB1.out.size; omega)))
  clear p0 p1 p2 p3 p4
  have PB := HP0.out _ HB2.out
  have p0 := PB.c0
  have p1 := PB.c1
  have p2 := PB.c2
  have p3 := PB.c3
  have p4 := PB.c4
  clear PB
  clear hb2 HB1
  obtain hs | hs : shortR r = false ∨ shortR r = true := by cases shortR r; exact .inl rfl; exact .inr rfl
  · rw [hs]
    clear hs
    go_wp2
    go_ret
    exact ⟨rfl, HB.out _ HB2.out⟩
  · rw [hs]
    clear hs
    have HE := Lib.hid (encode_any r hok A D N c d n w2 (HH.out.up (HB.out _ HB2.out)) hw hm hn)
    go_wp2_with fail
    refine HE.out.mono ?_
    rintro e w3 ⟨A3, c3, ss, rfl, hss, ho3, hb3⟩
    have HB3 := Lib.hid (HB2.out.trans (hb3.mono (by have := HB2.out.size; omega)))
    have HS3 := Lib.hid hss
    have HO3 := Lib.hid ho3
    clear p0 p1 p2 p3 p4
    have PB := HP0.out _ HB3.out
    have p0 := PB.c0
    have p1 := PB.c1
    have p2 := PB.c2
    have p3 := PB.c3
    have p4 := PB.c4
    clear PB
    clear hb3 hss ho3 HE HB2
    have HE := Lib.hid (rencode_any r hok A D N c d n w3 (HH.out.up (HB.out _ HB3.out)) hw hm hn)
    go_wp2_with fail
    refine HE.out.mono ?_
    rintro e w4 ⟨A4, c4, tt, rfl, htt, ho4, hb4⟩
    have HB4 := Lib.hid (HB3.out.trans (hb4.mono (by have := HB3.out.size; omega)))
    have HS4 := Lib.hid htt
    have HO4 := Lib.hid ho4
    have HO3' := Lib.hid (HO3.out.below hb4)
    clear p0 p1 p2 p3 p4
    have PB := HP0.out _ HB4.out
    have p0 := PB.c0
    have p1 := PB.c1
    have p2 := PB.c2
    have p3 := PB.c3
    have p4 := PB.c4
    clear PB
    clear hb4 htt ho4 HE HB3 HO3
    have hlen3 : ss.length ≤ 100000 := by have := congrArg List.length HS3.out; rw [List.length_map] at this; have := encL_len (r := r); omega
    have HSM := Lib.hid (fun W (hW : Below w4.heap.size w4 W) => same_any ss tt A3 A4 c3 c4 W (HO3'.out.rd.up hW) (HO4.out.rd.up hW) hlen3 (fun s hs => encL_u8 hok _ (by rw [← HS3.out]; exact List.mem_map.2 ⟨s, hs, rfl⟩)) (fun s hs => encL_u8 hok _ (by rw [← HS4.out]; exact List.mem_map.2 ⟨s, hs, rfl⟩)))
    rw [HS3.out, HS4.out, decide_eq_true rfl] at HSM
    have HV1 := Lib.hid (fun W (hW : Below w4.heap.size w4 W) => rvalid_any r A D N c d n W (HH.out.up ((HB.out _ HB4.out).trans (hW.mono (by have := HB4.out.size; omega)))) hw hm hn)
    have HV2 := Lib.hid (fun W (hW : Below w4.heap.size w4 W) => qvalid_any r A D N c d n W (HH.out.up ((HB.out _ HB4.out).trans (hW.mono (by have := HB4.out.size; omega)))) hw hm hn)
    have hz4 : w.heap.size < w4.heap.size := by have := HB4.out.size; omega
    have k0 := Held.cell p0 hz4
    have k1 := Held.cell p1 hz4
    have k2 := Held.cell p2 hz4
    have k3 := Held.cell p3 hz4
    have k4 := Held.cell p4 hz4
    clear p0 p1 p2 p3 p4
    go_wp2_with fail
    have hne : Nonempty (Held (Below w4.heap.size w4)) := ⟨⟨_, (Held.drew_below (Nat.le_refl _))⟩⟩
    refine wp_region_heldq (S := (Below w4.heap.size w4)) (by kernel_rfl) (by kernel_rfl) (Held.drew_below (Nat.le_refl _)) ?_
    repeat (go_big_quiet_step ((first
      | (go_at_call 20; exact Calls.held_below (Nat.le_refl _) (HSM.out _ (Held.h _)))
      | (go_at_call 21; exact Calls.held_below (Nat.le_refl _) (HV1.out _ (Held.h _)))
      | (go_at_call 22; exact Calls.held_below (Nat.le_refl _) (HV2.out _ (Held.h _))))))
    refine wpQuiet_nil ?_
    intro _ hw'
    obtain ⟨sq, hw''⟩ := hw'
    subst hw''
    clear hne
    go_wp2
    go_ret
    exact ⟨rfl, HB.out _ (HB4.out.trans (sq.h.mono (by omega)))⟩

set_option maxRecDepth 100000 in
theorem recordEncode_lifted (os : Os) (started : os.Started) (H : Type) (enc : TypeId × Value → H) :
    ReturnsInHanded {} Try.checked os 3 .any (Rows.recordEncodeSpec.pre6 enc Try.prog Try.f3 Rows.recordEncodeRow.domain false) (Rows.recordEncodeSpec.post enc Try.prog Try.f3 false true false false) := by
  refine returnsInHanded_of_change (C := Try.checked) own started (by kernel_rfl) Try.func3
    (ChangeSpec.witness6 (enc := enc) (C := Try.checked) false ⟨#[], #[.agg #[.int .u64 0, .int .u64 0, .slice none 0 0, .slice none 0 0, .slice none 0 0]], []⟩ 8 (by kernel_rfl) (by kernel_rfl) (by kernel_rfl) (by kernel_rfl)) ?_
  intro W base args ds gs before hval0 hW hcnd _
  have hval : ∀ (j : Nat) t v, Try.f3.params[j]? = some t → args[j]? = some v → Value.okWide Try.prog W .any base t v := hval0
  have hW' := hW
  obtain ⟨p, q, hA0, hV, rfl, hfz, hnd⟩ := hW
  have hA : DataW.TrodAll enc Try.prog W 0 (fun _ => true) true Try.f3.params.toList args.toList ds p := hA0
  rw [Try.params3] at hA hval
  obtain ⟨v0, vs0, d0, ds0, p0, q0, hargs, rfl, rfl, h0, r0⟩ := trodAll_cons hA
  obtain ⟨rfl, rfl, rfl⟩ := trodAll_nil r0
  obtain rfl : args = #[v0] := by cases args; simp_all
  obtain ⟨rfl, rfl⟩ := trodVars_none hV
  have k0 := h0
  have lt0 : ∀ x ∈ p0, x.block < W.heap.size := by obtain ⟨m, hm⟩ := k0; exact DataW.trod_lt m _ _ _ hm
  obtain ⟨r, A, c, D, d, N, n, hr⟩ := open_rec (hval 0 _ _ rfl rfl) h0
  have hrv := hr.val
  subst hrv
  clear hA0 hval0
  refine (recordEncode_walk r hr.ok A D N c d n W hr.rd hr.nw hr.nm hr.nn).mono fun e W' ⟨he, bel⟩ => ?_
  subst he
  exact ⟨_, rfl, _, _, _, [], _, [], hW', trodAll_mk1 (shut_bool Try.underlying4 _), (trodAll_cons_mk (Below.trod laidOut (by kernel_rfl) (of_decide_eq_true (by kernel_rfl)) k0 bel lt0) trodAll_mk0), rfl, bel.frame _, fun h => by cases h⟩

/-- The statement. -/
theorem recordEncode_holds : Rows.RecordEncodeSaid :=
  OpenClaim.holds_of_wide 3 Try.f3 rfl rfl rfl rfl rfl rfl rfl ⟨rfl, rfl, rfl, rfl, rfl⟩ rfl rfl rfl rfl rfl (by kernel_rfl) Try.func3 (by kernel_rfl)
    (of_decide_eq_true (by kernel_rfl)) (by unfold Func.isWrapper; first | (rw [if_pos (by decide +kernel)]; kernel_rfl) | (rw [if_neg (by decide +kernel)]; exact ⟨rfl, rfl⟩))
    (fun os started H enc _ => recordEncode_lifted os started H enc)
#print axioms recordEncode_holds
end Go.Proofs.Ytndifkjenjfjpaa
