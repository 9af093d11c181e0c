/-
  WHAT IS SHOWN: tegulalaw18.VictimBetter returns true for any bands, size and time, and changes nothing. No condition.
-/
import Derived.Test.YtbnkpknoknenjaaVictim7
namespace Go.Proofs.Ytbnkpknoknenjaa
set_option linter.unusedVariables false
open Go.ChangeShapes Go.WideShapes Go.ChangeAt Go.RowKit

set_option maxHeartbeats 1000000 in
theorem victimBetter_walk (a b : BI) (ha : a.Ok) (hb : b.Ok) (x y : Int) (hx : U64 x) (hy : U64 y) (w : World) :
    Calls Try.prog 9 #[.agg #[.int .i64 a.used, .int .i64 a.live, .int .u64 a.age, .int .u64 a.wear], .agg #[.int .i64 b.used, .int .i64 b.live, .int .u64 b.age, .int .u64 b.wear], .agg #[.int .u64 x, .int .u64 y]] w fun e w' => e = .returned (.bool true) ∧ Below w.heap.size w w' := by
  go_enter Try.func9, Try.ntmps9
  go_wp2
  have hA : Cells4 (((w.alloc (.cells #[.int .i64 a.used, .int .i64 a.live, .int .u64 a.age, .int .u64 a.wear] 35)).alloc (.cells #[.int .i64 b.used, .int .i64 b.live, .int .u64 b.age, .int .u64 b.wear] 35)).alloc (.cells #[.int .u64 x, .int .u64 y] 39)) w.heap.size (.int .i64 a.used) (.int .i64 a.live) (.int .u64 a.age) (.int .u64 a.wear) :=
    (Cells4.new w 35 _ _ _ _).below (((Below.refl _ _).alloc (Nat.le_refl _) _).alloc (by simp) _) (by simp)
  have hB : Cells4 (((w.alloc (.cells #[.int .i64 a.used, .int .i64 a.live, .int .u64 a.age, .int .u64 a.wear] 35)).alloc (.cells #[.int .i64 b.used, .int .i64 b.live, .int .u64 b.age, .int .u64 b.wear] 35)).alloc (.cells #[.int .u64 x, .int .u64 y] 39)) (w.heap.size + 1) (.int .i64 b.used) (.int .i64 b.live) (.int .u64 b.age) (.int .u64 b.wear) :=
    (Cells4.new_at (w.alloc (.cells #[.int .i64 a.used, .int .i64 a.live, .int .u64 a.age, .int .u64 a.wear] 35)) 35 _ _ _ _ _ (by simp)).below ((Below.refl _ _).alloc (Nat.le_refl _) _) (by simp)
  have hW : Below w.heap.size w (((w.alloc (.cells #[.int .i64 a.used, .int .i64 a.live, .int .u64 a.age, .int .u64 a.wear] 35)).alloc (.cells #[.int .i64 b.used, .int .i64 b.live, .int .u64 b.age, .int .u64 b.wear] 35)).alloc (.cells #[.int .u64 x, .int .u64 y] 39)) :=
    (((Below.refl _ _).alloc (Nat.le_refl _) _).alloc (by simp) _).alloc (by simp; omega) _
  have hT : (((w.alloc (.cells #[.int .i64 a.used, .int .i64 a.live, .int .u64 a.age, .int .u64 a.wear] 35)).alloc (.cells #[.int .i64 b.used, .int .i64 b.live, .int .u64 b.age, .int .u64 b.wear] 35)).alloc (.cells #[.int .u64 x, .int .u64 y] 39)).cell? ⟨w.heap.size + 1 + 1, 1, none⟩ = some (.int .u64 y) := cell_new _ _ _ _ _ _ (by simp) rfl
  generalize ((w.alloc (.cells #[.int .i64 a.used, .int .i64 a.live, .int .u64 a.age, .int .u64 a.wear] 35)).alloc (.cells #[.int .i64 b.used, .int .i64 b.live, .int .u64 b.age, .int .u64 b.wear] 35)).alloc (.cells #[.int .u64 x, .int .u64 y] 39) = W0 at *
  have s0 := Held.cell hA.c0 (block_lt_of_cell hA.c0)
  have s1 := Held.cell hA.c1 (block_lt_of_cell hA.c1)
  have s2 := Held.cell hA.c2 (block_lt_of_cell hA.c2)
  have s3 := Held.cell hA.c3 (block_lt_of_cell hA.c3)
  have r0 := Held.cell hB.c0 (block_lt_of_cell hB.c0)
  have r1 := Held.cell hB.c1 (block_lt_of_cell hB.c1)
  have r2 := Held.cell hB.c2 (block_lt_of_cell hB.c2)
  have r3 := Held.cell hB.c3 (block_lt_of_cell hB.c3)
  have q1 := Held.cell hT (block_lt_of_cell hT)
  clear hA hB hT
  have hne : Nonempty (Held (Below W0.heap.size W0)) := ⟨⟨_, (Held.drew_below (Nat.le_refl _))⟩⟩
  refine wp_region_heldq (S := (Below W0.heap.size W0)) (by kernel_rfl) (by kernel_rfl) (Held.drew_below (Nat.le_refl _)) ?_
  repeat (go_big_quiet_step ((first
    | (go_at_call 31; exact Calls.held_below (Nat.le_refl _) (awake18_any _))
    | (go_at_call 32; exact Calls.held_below (Nat.le_refl _) (better_any a b ha hb _ y hy _))
    | (go_at_call 33; exact Calls.held_below (Nat.le_refl _) (rbetter_any a b ha hb _ y hy _)))))
  refine wpQuiet_nil ?_
  intro _ hw'
  obtain ⟨sq, hw''⟩ := hw'
  subst hw''
  clear hne
  go_wp2
  go_ret
  exact ⟨by simp, hW.trans (sq.h.mono hW.size)⟩

set_option maxRecDepth 100000 in
theorem victimBetter_lifted (os : Os) (started : os.Started) (H : Type) (enc : TypeId × Value → H) :
    ReturnsInHanded {} Try.checked os 9 .any (Rows.victimBetterSpec.pre6 enc Try.prog Try.f9 Rows.victimBetterRow.domain false) (Rows.victimBetterSpec.post enc Try.prog Try.f9 false true false false) := by
  refine returnsInHanded_of_change (C := Try.checked) own started (by kernel_rfl) Try.func9
    (ChangeSpec.witness6 (enc := enc) (C := Try.checked) false ⟨#[], #[.agg #[.int .i64 0, .int .i64 0, .int .u64 0, .int .u64 0], .agg #[.int .i64 0, .int .i64 0, .int .u64 0, .int .u64 0], .agg #[.int .u64 0, .int .u64 0]], []⟩ 8 (by kernel_rfl) (by kernel_rfl) (by kernel_rfl) (by kernel_rfl)) ?_
  intro W base args ds gs before hval0 hW hcnd _
  have hval : ∀ (j : Nat) t v, Try.f9.params[j]? = some t → args[j]? = some v → Value.okWide Try.prog W .any base t v := hval0
  have hW' := hW
  obtain ⟨p, q, hA0, hV, rfl, hfz, hnd⟩ := hW
  have hA : DataW.TrodAll enc Try.prog W 0 (fun _ => true) true Try.f9.params.toList args.toList ds p := hA0
  rw [Try.params9] at hA hval
  obtain ⟨v0, vs0, d0, ds0, p0, q0, hargs, rfl, rfl, h0, r0⟩ := trodAll_cons hA
  obtain ⟨v1, vs1, d1, ds1, p1, q1, rfl, rfl, rfl, h1, r1⟩ := trodAll_cons r0
  obtain ⟨v2, vs2, d2, ds2, p2, q2, rfl, rfl, rfl, h2, r2⟩ := trodAll_cons r1
  obtain ⟨rfl, rfl, rfl⟩ := trodAll_nil r2
  obtain rfl : args = #[v0, v1, v2] := by cases args; simp_all
  obtain ⟨rfl, rfl⟩ := trodVars_none hV
  have k0 := h0
  have lt0 : ∀ x ∈ p0, x.block < W.heap.size := by obtain ⟨m, hm⟩ := k0; exact DataW.trod_lt m _ _ _ hm
  have k1 := h1
  have lt1 : ∀ x ∈ p1, x.block < W.heap.size := by obtain ⟨m, hm⟩ := k1; exact DataW.trod_lt m _ _ _ hm
  have k2 := h2
  have lt2 : ∀ x ∈ p2, x.block < W.heap.size := by obtain ⟨m, hm⟩ := k2; exact DataW.trod_lt m _ _ _ hm
  obtain ⟨a, rfl, ha⟩ := open_band (hval 0 _ _ rfl rfl) h0
  obtain ⟨b, rfl, hb⟩ := open_band (hval 1 _ _ rfl rfl) h1
  obtain ⟨x, y, rfl, hx, hy⟩ := open_pair (hval 2 _ _ rfl rfl) h2
  clear hA0 hval0
  refine (victimBetter_walk a b ha hb x y hx hy W).mono fun e W' ⟨he, bel⟩ => ?_
  subst he
  exact ⟨_, rfl, _, _, _, [], _, [], hW', trodAll_mk1 (shut_bool Try.underlying4 _), (trodAll_cons_mk (Below.trod laidOut (by kernel_rfl) (of_decide_eq_true (by kernel_rfl)) k0 bel lt0) (trodAll_cons_mk (Below.trod laidOut (by kernel_rfl) (of_decide_eq_true (by kernel_rfl)) k1 bel lt1) (trodAll_cons_mk (Below.trod laidOut (by kernel_rfl) (of_decide_eq_true (by kernel_rfl)) k2 bel lt2) trodAll_mk0))), rfl, bel.frame _, fun h => by cases h⟩

/-- The statement. -/
theorem victimBetter_holds : Rows.VictimBetterSaid :=
  OpenClaim.holds_of_wide 9 Try.f9 rfl rfl rfl rfl rfl rfl rfl ⟨rfl, rfl, rfl, rfl, rfl⟩ rfl rfl rfl rfl rfl (by kernel_rfl) Try.func9 (by kernel_rfl)
    (of_decide_eq_true (by kernel_rfl)) (by unfold Func.isWrapper; first | (rw [if_pos (by decide +kernel)]; kernel_rfl) | (rw [if_neg (by decide +kernel)]; exact ⟨rfl, rfl⟩))
    (fun os started H enc _ => victimBetter_lifted os started H enc)
#print axioms victimBetter_holds
end Go.Proofs.Ytbnkpknoknenjaa
