/-
  WHAT IS SHOWN: tegulalaw12.CacheNil returns true for any number, and changes nothing. No condition.
-/
import Derived.Test.YtmjkpnplfeafeaaCac10
namespace Go.Proofs.Ytmjkpnplfeafeaa
set_option linter.unusedVariables false
open Go.ChangeShapes Go.WideShapes Go.ChangeAt Go.RowKit

section
variable (w : World)
theorem ncut_any (a : Int) : Calls Try.prog 48 #[.pointer none, .int .i64 a] w fun e w' => e = .returned (.tuple #[]) ∧ w = w' := by
  go_enter Try.func48, Try.ntmps48
  go_wp2
  first | go_end0 | refine bodyPost_ret (results_none rfl _ _ _) rfl ?_
  exact ⟨rfl, rfl⟩
theorem nflush_any : Calls Try.prog 40 #[.pointer none] w fun e w' => e = .returned (.tuple #[]) ∧ w = w' := by
  go_enter Try.func40, Try.ntmps40
  go_wp2
  first | go_end0 | refine bodyPost_ret (results_none rfl _ _ _) rfl ?_
  exact ⟨rfl, rfl⟩
theorem nread_any (a : Int) : Calls Try.prog 54 #[.pointer none, .int .i64 a] w fun e w' => e = .returned (.tuple #[.slice none 0 0, .int .i64 8]) ∧ w = w' := by
  go_enter Try.func54, Try.ntmps54
  go_wp2
  go_ret2
  exact ⟨rfl, rfl⟩
theorem nstate_any (a : Int) : Calls Try.prog 55 #[.pointer none, .int .i64 a] w fun e w' => e = .returned (.int .i64 0) ∧ w = w' := by
  go_enter Try.func55, Try.ntmps55
  go_wp2
  go_ret
  exact ⟨rfl, rfl⟩
theorem npending_any : Calls Try.prog 42 #[.pointer none] w fun e w' => e = .returned (.int .i64 0) ∧ w = w' := by
  go_enter Try.func42, Try.ntmps42
  go_wp2
  go_ret
  exact ⟨rfl, rfl⟩
theorem ndurable_any : Calls Try.prog 50 #[.pointer none] w fun e w' => e = .returned (.pointer none) ∧ w = w' := by
  go_enter Try.func50, Try.ntmps50
  go_wp2
  go_ret
  exact ⟨rfl, rfl⟩
theorem nclone_any : Calls Try.prog 52 #[.pointer none] w fun e w' => e = .returned (.pointer none) ∧ w = w' := by
  go_enter Try.func52, Try.ntmps52
  go_wp2
  go_ret
  exact ⟨rfl, rfl⟩
theorem nnew_any : Calls Try.prog 38 #[.pointer none] w fun e w' => e = .returned (.pointer none) ∧ w = w' := by
  go_enter Try.func38, Try.ntmps38
  go_wp2
  go_ret
  exact ⟨rfl, rfl⟩
theorem ndo_any (v : Value) : Calls Try.prog 70 #[.pointer none, v] w fun e w' => e = .returned (.int .i64 8) ∧ w = w' := by
  go_enter Try.func70, Try.ntmps70
  go_wp2
  go_ret
  exact ⟨rfl, rfl⟩
theorem nerase_any (a : Int) : Calls Try.prog 56 #[.pointer none, .int .i64 a] w fun e w' => e = .returned (.int .i64 8) ∧ Below w.heap.size w w' := by
  have HD := Lib.hid (fun W v => ndo_any W v)
  go_enter Try.func56, Try.ntmps56
  go_wp2_with fail
  refine (HD.out _ _).mono ?_
  rintro e w1 ⟨rfl, rfl⟩
  go_wp2
  go_ret
  exact ⟨rfl, (Below.refl _ _).alloc (Nat.le_refl _) _⟩
theorem nwrite_any (a : Int) : Calls Try.prog 39 #[.pointer none, .int .i64 a, .slice none 0 0] w fun e w' => e = .returned (.int .i64 8) ∧ Below w.heap.size w w' := by
  have HD := Lib.hid (fun W v => ndo_any W v)
  have hb0 : Below w.heap.size w ((w.alloc (.cells #[.int .i64 a] 3)).alloc (.cells #[.slice none 0 0] 24)) := ((Below.refl _ _).alloc (Nat.le_refl _) _).alloc (by simp) _
  have o1 : ((w.alloc (.cells #[.int .i64 a] 3)).alloc (.cells #[.slice none 0 0] 24)).heap[w.heap.size + 1]? = some (.cells #[.slice none 0 0] 24 (0, 0)) := by
    have := heap_alloc_new (w.alloc (.cells #[.int .i64 a] 3)) (.cells #[.slice none 0 0] 24)
    simpa using this
  have HC := Lib.hid (cloneb_any [] none 0 ((w.alloc (.cells #[.int .i64 a] 3)).alloc (.cells #[.slice none 0 0] 24)) (Rd.nil_ _ _ _) (by simp))
  have HO1 : Hid (∀ w1, Below ((w.alloc (.cells #[.int .i64 a] 3)).alloc (.cells #[.slice none 0 0] 24)).heap.size ((w.alloc (.cells #[.int .i64 a] 3)).alloc (.cells #[.slice none 0 0] 24)) w1 → w1.heap[w.heap.size + 1]? = some (.cells #[.slice none 0 0] 24 (0, 0))) := by
    unfold Hid; intro w1 hb1; exact belObj hb1 o1 (by simp)
  clear o1
  go_enter Try.func39, Try.ntmps39
  go_wp2_with fail
  refine HC.out.mono ?_
  rintro e w1 ⟨v, rfl, hv, hb1⟩
  have q1 := HO1.out w1 hb1
  have r0 := cell_of_one q1
  have r1 := free_of_one q1
  obtain ⟨A', c', rfl, _, _⟩ := hv
  have hbl : Below w.heap.size w (w1.setCell ⟨w.heap.size + 1, 0, none⟩ (.slice A' ([] : List Int).length c')) := (hb0.trans (hb1.mono hb0.size)).setCell (p := ⟨w.heap.size + 1, 0, none⟩) (by simp) _
  clear q1
  go_wp2_with fail
  refine (HD.out _ _).mono ?_
  rintro e w2 ⟨rfl, rfl⟩
  go_wp2
  go_ret
  exact ⟨rfl, hbl⟩
end
set_option maxRecDepth 100000 in
set_option maxHeartbeats 1000000 in
theorem cacheNil_walk (a : Int) (w : World) :
    Calls Try.prog 14 #[.int .i64 a] w fun e w' => e = .returned (.bool true) ∧ Below w.heap.size w w' := by
  go_enter Try.func14, Try.ntmps14
  go_wp2_with fail
  refine (nflush_any _).mono ?_
  rintro e w1 ⟨rfl, rfl⟩
  go_wp2_with fail
  refine (ncut_any _ a).mono ?_
  rintro e w1 ⟨rfl, rfl⟩
  go_wp2_with fail
  refine (nread_any _ a).mono ?_
  rintro e w1 ⟨rfl, rfl⟩
  go_wp2_with fail
  refine (awake12_any _).mono ?_
  rintro e w1 ⟨rfl, hb1⟩
  go_wp2_with fail
  refine (nnew_any _).mono ?_
  rintro e w2 ⟨rfl, rfl⟩
  go_wp2_with fail
  refine (nstate_any _ a).mono ?_
  rintro e w2 ⟨rfl, rfl⟩
  go_wp2_with fail
  refine (nwrite_any _ a).mono ?_
  rintro e w2 ⟨rfl, hb2⟩
  have hbl2 := hb1.trans (hb2.mono hb1.size)
  go_wp2_with fail
  refine (nerase_any _ a).mono ?_
  rintro e w3 ⟨rfl, hb3⟩
  have hbl3 := hbl2.trans (hb3.mono hbl2.size)
  go_wp2_with fail
  refine (npending_any _).mono ?_
  rintro e w4 ⟨rfl, rfl⟩
  go_wp2_with fail
  refine (ndurable_any _).mono ?_
  rintro e w4 ⟨rfl, rfl⟩
  go_wp2_with fail
  refine (nclone_any _).mono ?_
  rintro e w4 ⟨rfl, rfl⟩
  go_wp2
  go_ret
  exact ⟨rfl, hbl3⟩

set_option maxRecDepth 100000 in
theorem cacheNil_lifted (os : Os) (started : os.Started) (H : Type) (enc : TypeId × Value → H) :
    ReturnsInHanded {} Try.checked os 14 .any (Rows.cacheNilSpec.pre6 enc Try.prog Try.f14 Rows.cacheNilRow.domain false) (Rows.cacheNilSpec.post enc Try.prog Try.f14 false true false false) := by
  refine returnsInHanded_of_change (C := Try.checked) own started (by kernel_rfl) Try.func14
    (ChangeSpec.witness6 (enc := enc) (C := Try.checked) false ⟨#[], #[.int .i64 0], []⟩ 8 (by kernel_rfl) (by kernel_rfl) (by kernel_rfl) (by kernel_rfl)) ?_
  intro W base args ds gs before hval0 hW hcnd _
  have hval : ∀ (j : Nat) t v, Try.f14.params[j]? = some t → args[j]? = some v → Value.okWide Try.prog W .any base t v := hval0
  have hW' := hW
  obtain ⟨p, q, hA0, hV, rfl, hfz, hnd⟩ := hW
  have hA : DataW.TrodAll enc Try.prog W 0 (fun _ => true) true Try.f14.params.toList args.toList ds p := hA0
  rw [Try.params14] at hA hval
  obtain ⟨v0, vs0, d0, ds0, p0, q0, hargs, rfl, rfl, h0, r0⟩ := trodAll_cons hA
  obtain ⟨rfl, rfl, rfl⟩ := trodAll_nil r0
  obtain rfl : args = #[v0] := by cases args; simp_all
  obtain ⟨rfl, rfl⟩ := trodVars_none hV
  have k0 := h0
  have lt0 : ∀ x ∈ p0, x.block < W.heap.size := by obtain ⟨m, hm⟩ := k0; exact DataW.trod_lt m _ _ _ hm
  obtain ⟨a, rfl, _, _, w2⟩ := open_int Try.underlying3 (hval 0 _ _ rfl rfl) h0
  clear hA0 hval0
  refine (cacheNil_walk a W).mono fun e W' ⟨he, bel⟩ => ?_
  subst he
  exact ⟨_, rfl, _, _, _, [], _, [], hW', trodAll_mk1 (shut_bool Try.underlying4 _), (trodAll_cons_mk (Below.trod laidOut (by kernel_rfl) (of_decide_eq_true (by kernel_rfl)) k0 bel lt0) trodAll_mk0), rfl, bel.frame _, fun h => by cases h⟩

/-- The statement. -/
theorem cacheNil_holds : Rows.CacheNilSaid :=
  OpenClaim.holds_of_wide 14 Try.f14 rfl rfl rfl rfl rfl rfl rfl ⟨rfl, rfl, rfl, rfl, rfl⟩ rfl rfl rfl rfl rfl (by kernel_rfl) Try.func14 (by kernel_rfl)
    (of_decide_eq_true (by kernel_rfl)) (by unfold Func.isWrapper; first | (rw [if_pos (by decide +kernel)]; kernel_rfl) | (rw [if_neg (by decide +kernel)]; exact ⟨rfl, rfl⟩))
    (fun os started H enc _ => cacheNil_lifted os started H enc)
#print axioms cacheNil_holds
end Go.Proofs.Ytmjkpnplfeafeaa
