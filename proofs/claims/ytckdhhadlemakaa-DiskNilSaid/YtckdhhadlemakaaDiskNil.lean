/-
  WHAT IS SHOWN: tegulalaw14.DiskNil returns true for any key and number, and changes nothing. No condition.
-/
import Derived.Test.YtckdhhadlemakaaDisk10
import Derived.Test.YtckdhhadlemakaaMedOpen
namespace Go.Proofs.Ytckdhhadlemakaa
set_option linter.unusedVariables false
open Go.ChangeShapes Go.WideShapes Go.ChangeAt Go.RowKit

section
variable (w : World)
theorem nstate14_any : Calls Try.prog 84 #[.pointer none] w fun e w' => e = .returned (.int .i64 8) ∧ w = w' := by
  go_enter Try.func84, Try.ntmps84
  go_wp2
  go_ret
  exact ⟨rfl, rfl⟩
theorem nperform_any (key : Int) (v : Value) : Calls Try.prog 82 #[.pointer none, .int .u64 key, v] w fun e w' => e = .returned (.int .i64 8) ∧ w = w' := by
  go_enter Try.func82, Try.ntmps82
  go_wp2_with fail
  refine (nstate14_any _).mono ?_
  rintro e w1 ⟨rfl, rfl⟩
  go_wp2
  go_ret
  exact ⟨rfl, rfl⟩
theorem nacquire_any (key : Int) : Calls Try.prog 44 #[.pointer none, .int .u64 key] w fun e w' => e = .returned (.int .i64 8) ∧ w = w' := by
  go_enter Try.func44, Try.ntmps44
  go_wp2_with fail
  refine (nstate14_any _).mono ?_
  rintro e w1 ⟨rfl, rfl⟩
  go_wp2
  go_ret
  exact ⟨rfl, rfl⟩
theorem nrestart_any (a : Int) : Calls Try.prog 40 #[.pointer none, .int .i64 a] w fun e w' => e = .returned (.int .i64 8) ∧ w = w' := by
  go_enter Try.func40, Try.ntmps40
  go_wp2
  go_ret
  exact ⟨rfl, rfl⟩
theorem nflush14_any (key : Int) : Calls Try.prog 38 #[.pointer none, .int .u64 key] w fun e w' => e = .returned (.int .i64 8) ∧ Below w.heap.size w w' := by
  have HP := Lib.hid (fun W v => nperform_any W key v)
  go_enter Try.func38, Try.ntmps38
  go_wp2_with fail
  refine (HP.out _ _).mono ?_
  rintro e w1 ⟨rfl, rfl⟩
  go_wp2
  go_ret
  exact ⟨rfl, (Below.refl _ _).alloc (Nat.le_refl _) _⟩
theorem nerase14_any (key a : Int) : Calls Try.prog 53 #[.pointer none, .int .u64 key, .int .i64 a] w fun e w' => e = .returned (.int .i64 8) ∧ Below w.heap.size w w' := by
  have HP := Lib.hid (fun W v => nperform_any W key v)
  go_enter Try.func53, Try.ntmps53
  go_wp2_with fail
  refine (HP.out _ _).mono ?_
  rintro e w1 ⟨rfl, rfl⟩
  go_wp2
  go_ret
  exact ⟨rfl, ((Below.refl _ _).alloc (Nat.le_refl _) _).alloc (by simp) _⟩
theorem nwrite14_any (key a : Int) : Calls Try.prog 52 #[.pointer none, .int .u64 key, .int .i64 a, .slice none 0 0, .bool true] w fun e w' => e = .returned (.int .i64 8) ∧ Below w.heap.size w w' := by
  have HP := Lib.hid (fun W v => nperform_any W key v)
  go_enter Try.func52, Try.ntmps52
  go_wp2_with fail
  refine (HP.out _ _).mono ?_
  rintro e w1 ⟨rfl, rfl⟩
  go_wp2
  go_ret
  exact ⟨rfl, ((((Below.refl _ _).alloc (Nat.le_refl _) _).alloc (by simp) _).alloc (by first | (simp; done) | (simp; omega)) _).alloc (by first | (simp; done) | (simp; omega)) _⟩
theorem nread14_any (key a : Int) : Calls Try.prog 48 #[.pointer none, .int .u64 key, .int .i64 a] w fun e w' => e = .returned (.tuple #[.slice none 0 0, .int .i64 8]) ∧ Below w.heap.size w w' := by
  have HP := Lib.hid (fun W v => nperform_any W key v)
  go_enter Try.func48, Try.ntmps48
  go_wp2_with fail
  refine (HP.out _ _).mono ?_
  rintro e w1 ⟨rfl, rfl⟩
  go_wp2
  go_ret2
  exact ⟨rfl, (((Below.refl _ _).alloc (Nat.le_refl _) _).alloc (by simp) _).alloc (by first | (simp; done) | (simp; omega)) _⟩
theorem narm_any (a : Int) : Calls Try.prog 37 #[.pointer none, .int .i64 a] w fun e w' => e = .returned (.tuple #[]) ∧ w = w' := by
  go_enter Try.func37, Try.ntmps37
  go_wp2
  first | go_end0 | refine bodyPost_ret (results_none rfl _ _ _) rfl ?_
  exact ⟨rfl, rfl⟩
theorem non_any : Calls Try.prog 41 #[.pointer none] w fun e w' => e = .returned (.tuple #[]) ∧ w = w' := by
  go_enter Try.func41, Try.ntmps41
  go_wp2
  first | go_end0 | refine bodyPost_ret (results_none rfl _ _ _) rfl ?_
  exact ⟨rfl, rfl⟩
theorem nkill_any : Calls Try.prog 51 #[.pointer none] w fun e w' => e = .returned (.tuple #[]) ∧ w = w' := by
  go_enter Try.func51, Try.ntmps51
  go_wp2
  first | go_end0 | refine bodyPost_ret (results_none rfl _ _ _) rfl ?_
  exact ⟨rfl, rfl⟩
theorem noff_any : Calls Try.prog 39 #[.pointer none] w fun e w' => e = .returned (.bool false) ∧ w = w' := by
  go_enter Try.func39, Try.ntmps39
  go_wp2
  go_ret
  exact ⟨rfl, rfl⟩
theorem ndead_any : Calls Try.prog 30 #[.pointer none] w fun e w' => e = .returned (.bool false) ∧ w = w' := by
  go_enter Try.func30, Try.ntmps30
  go_wp2
  go_ret
  exact ⟨rfl, rfl⟩
theorem nops_any : Calls Try.prog 31 #[.pointer none] w fun e w' => e = .returned (.int .i64 0) ∧ w = w' := by
  go_enter Try.func31, Try.ntmps31
  go_wp2
  go_ret
  exact ⟨rfl, rfl⟩
theorem npending14_any : Calls Try.prog 32 #[.pointer none] w fun e w' => e = .returned (.int .i64 0) ∧ w = w' := by
  go_enter Try.func32, Try.ntmps32
  go_wp2
  go_ret
  exact ⟨rfl, rfl⟩
theorem nst14_any (a : Int) : Calls Try.prog 33 #[.pointer none, .int .i64 a] w fun e w' => e = .returned (.int .i64 0) ∧ w = w' := by
  go_enter Try.func33, Try.ntmps33
  go_wp2
  go_ret
  exact ⟨rfl, rfl⟩
theorem ngeo14_any : Calls Try.prog 29 #[.pointer none] w fun e w' => e = .returned (.agg #[.int .i64 0, .int .i64 0, .int .i64 0, .int .i64 0, .int .i64 0]) ∧ Below w.heap.size w w' := by
  go_enter Try.func29, Try.ntmps29
  go_wp2
  exact bodyPost_ret (v := .agg #[.int .i64 0, .int .i64 0, .int .i64 0, .int .i64 0, .int .i64 0]) (by simp [results, Try.results29, go_sem]) rfl ⟨rfl, (Below.refl _ _).alloc (Nat.le_refl _) _⟩
theorem nstats14_any : Calls Try.prog 34 #[.pointer none] w fun e w' => e = .returned (.agg #[.int .i64 0, .int .i64 0, .int .i64 0, .int .i64 0]) ∧ Below w.heap.size w w' := by
  go_enter Try.func34, Try.ntmps34
  go_wp2
  exact bodyPost_ret (v := .agg #[.int .i64 0, .int .i64 0, .int .i64 0, .int .i64 0]) (by simp [results, Try.results34, go_sem]) rfl ⟨rfl, (Below.refl _ _).alloc (Nat.le_refl _) _⟩
end
set_option maxRecDepth 100000 in
set_option maxHeartbeats 2000000 in
theorem diskNil_walk (key a : Int) (w : World) :
    Calls Try.prog 10 #[.int .u64 key, .int .i64 a] w fun e w' => e = .returned (.bool true) ∧ Below w.heap.size w w' := by
  go_enter Try.func10, Try.ntmps10
  go_wp2_with fail
  refine (narm_any _ a).mono ?_
  rintro e wn ⟨rfl, rfl⟩
  go_wp2_with fail
  refine (non_any _).mono ?_
  rintro e wn ⟨rfl, rfl⟩
  go_wp2_with fail
  refine (nkill_any _).mono ?_
  rintro e wn ⟨rfl, rfl⟩
  go_wp2_with fail
  refine (nread14_any _ key a).mono ?_
  rintro e w1 ⟨rfl, hb1⟩
  go_wp2_with fail
  refine (nwrite14_any _ key a).mono ?_
  rintro e w2 ⟨rfl, hbn2⟩
  have hb2 := hb1.trans (hbn2.mono hb1.size)
  go_wp2_with fail
  refine (nerase14_any _ key a).mono ?_
  rintro e w3 ⟨rfl, hbn3⟩
  have hb3 := hb2.trans (hbn3.mono hb2.size)
  go_wp2_with fail
  refine (nflush14_any _ key).mono ?_
  rintro e w4 ⟨rfl, hbn4⟩
  have hb4 := hb3.trans (hbn4.mono hb3.size)
  go_wp2_with fail
  refine (nacquire_any _ key).mono ?_
  rintro e wn ⟨rfl, rfl⟩
  go_wp2_with fail
  refine (nrestart_any _ a).mono ?_
  rintro e wn ⟨rfl, rfl⟩
  go_wp2_with fail
  refine (awake14_any _).mono ?_
  rintro e w5 ⟨rfl, hbn5⟩
  have hb5 := hb4.trans (hbn5.mono hb4.size)
  go_wp2_with fail
  refine (noff_any _).mono ?_
  rintro e wn ⟨rfl, rfl⟩
  go_wp2_with fail
  refine (ngeo14_any _).mono ?_
  rintro e w6 ⟨rfl, hbn6⟩
  have hb6 := hb5.trans (hbn6.mono hb5.size)
  go_wp2_with fail
  refine (ndead_any _).mono ?_
  rintro e wn ⟨rfl, rfl⟩
  go_wp2_with fail
  refine (nstats14_any _).mono ?_
  rintro e w7 ⟨rfl, hbn7⟩
  have hb7 := hb6.trans (hbn7.mono hb6.size)
  go_wp2_with fail
  refine (nops_any _).mono ?_
  rintro e wn ⟨rfl, rfl⟩
  go_wp2_with fail
  refine (npending14_any _).mono ?_
  rintro e wn ⟨rfl, rfl⟩
  go_wp2_with fail
  refine (nst14_any _ a).mono ?_
  rintro e wn ⟨rfl, rfl⟩
  go_wp2
  go_ret
  exact ⟨by first | rfl | simp, hb7⟩

set_option maxRecDepth 100000 in
theorem diskNil_lifted (os : Os) (started : os.Started) (H : Type) (enc : TypeId × Value → H) :
    ReturnsInHanded {} Try.checked os 10 .any (Rows.diskNilSpec.pre6 enc Try.prog Try.f10 Rows.diskNilRow.domain false) (Rows.diskNilSpec.post enc Try.prog Try.f10 false true false false) := by
  refine returnsInHanded_of_change (C := Try.checked) own started (by kernel_rfl) Try.func10
    (ChangeSpec.witness6 (enc := enc) (C := Try.checked) false ⟨#[], #[.int .u64 0, .int .i64 0], []⟩ 8 (by kernel_rfl) (by kernel_rfl) (by kernel_rfl) (by kernel_rfl)) ?_
  intro W base args ds gs before hval0 hW hcnd _
  have hval : ∀ (j : Nat) t v, Try.f10.params[j]? = some t → args[j]? = some v → Value.okWide Try.prog W .any base t v := hval0
  have hW' := hW
  obtain ⟨p, q, hA0, hV, rfl, hfz, hnd⟩ := hW
  have hA : DataW.TrodAll enc Try.prog W 0 (fun _ => true) true Try.f10.params.toList args.toList ds p := hA0
  rw [Try.params10] at hA hval
  obtain ⟨v0, vs0, d0, ds0, p0, q0, hargs, rfl, rfl, h0, r0⟩ := trodAll_cons hA
  obtain ⟨v1, vs1, d1, ds1, p1, q1, rfl, rfl, rfl, h1, r1⟩ := trodAll_cons r0
  obtain ⟨rfl, rfl, rfl⟩ := trodAll_nil r1
  obtain rfl : args = #[v0, v1] := by cases args; simp_all
  obtain ⟨rfl, rfl⟩ := trodVars_none hV
  have k0 := h0
  have lt0 : ∀ x ∈ p0, x.block < W.heap.size := by obtain ⟨m, hm⟩ := k0; exact DataW.trod_lt m _ _ _ hm
  have k1 := h1
  have lt1 : ∀ x ∈ p1, x.block < W.heap.size := by obtain ⟨m, hm⟩ := k1; exact DataW.trod_lt m _ _ _ hm
  obtain ⟨key, rfl, _, _, _⟩ := open_int Try.underlying73 (hval 0 _ _ rfl rfl) h0
  obtain ⟨a, rfl, _, _, _⟩ := open_int Try.underlying3 (hval 1 _ _ rfl rfl) h1
  clear hA0 hval0
  refine (diskNil_walk key a W).mono fun e W' ⟨he, bel⟩ => ?_
  subst he
  exact ⟨_, rfl, _, _, _, [], _, [], hW', trodAll_mk1 (shut_bool Try.underlying4 _), (trodAll_cons_mk (Below.trod laidOut (by kernel_rfl) (of_decide_eq_true (by kernel_rfl)) k0 bel lt0) (trodAll_cons_mk (Below.trod laidOut (by kernel_rfl) (of_decide_eq_true (by kernel_rfl)) k1 bel lt1) trodAll_mk0)), rfl, bel.frame _, fun h => by cases h⟩

/-- The statement. -/
theorem diskNil_holds : Rows.DiskNilSaid :=
  OpenClaim.holds_of_wide 10 Try.f10 rfl rfl rfl rfl rfl rfl rfl ⟨rfl, rfl, rfl, rfl, rfl⟩ rfl rfl rfl rfl rfl (by kernel_rfl) Try.func10 (by kernel_rfl)
    (of_decide_eq_true (by kernel_rfl)) (by unfold Func.isWrapper; first | (rw [if_pos (by decide +kernel)]; kernel_rfl) | (rw [if_neg (by decide +kernel)]; exact ⟨rfl, rfl⟩))
    (fun os started H enc _ => diskNil_lifted os started H enc)
#print axioms diskNil_holds
end Go.Proofs.Ytckdhhadlemakaa
