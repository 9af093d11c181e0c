/-
  WHAT IS SHOWN: tegulalaw18.VictimChoose returns true for any list of bands, any size, time and band, and changes nothing. No condition.
-/
import Derived.Test.YtbnkpknoknenjaaVictim7
namespace Go.Proofs.Ytbnkpknoknenjaa
set_option linter.unusedVariables false
open Go.ChangeShapes Go.WideShapes Go.ChangeAt Go.RowKit

set_option maxHeartbeats 1000000 in
theorem victimChoose_walk (A : Option Addr) (n c : Nat) (l : List BI) (x y z : Int) (w : World) (hb : Bands w A n c l) (hu : U64 z) :
    Calls Try.prog 10 #[.agg #[.slice A n c, .int .i64 x, .int .i64 y, .int .u64 z]] w fun e w' => e = .returned (.bool true) ∧ Below w.heap.size w w' := by
  obtain ⟨rfl, hl, hok, _, hbig⟩ := hb
  have hbl0 : Below w.heap.size w (w.alloc (.cells #[.slice A l.length c, .int .i64 x, .int .i64 y, .int .u64 z] 43)) := (Below.refl _ _).alloc (Nat.le_refl _) _
  by_cases hn : l.length ≤ 100
  · go_enter Try.func10, Try.ntmps10
    go_wp2_with fail
    refine (awake18_any _).mono ?_
    rintro e w1 ⟨rfl, hb1⟩
    have hbl1 := hbl0.trans (hb1.mono hbl0.size)
    have PB1 := Cells4.below (Cells4.new w 43 _ _ _ _) hb1 (by simp)
    have hz1 : w.heap.size < w1.heap.size := by have := hb1.size; simp at this; omega
    clear hb1 hbl0
    have p0 := PB1.c0
    have p1 := PB1.c1
    have p2 := PB1.c2
    have p3 := PB1.c3
    go_wp2_with fail
    refine (choose_any l hok x z y hu A c _ ((hl.below hbl1 (Nat.le_refl _)).more hbl1.size) hbig).mono ?_
    rintro e w2 ⟨rfl, hb2⟩
    have hbl2 := hbl1.trans (hb2.mono hbl1.size)
    clear p0 p1 p2 p3
    have hz2 := Nat.lt_of_lt_of_le hz1 hb2.size
    have PB2 := PB1.below hb2 hz1
    have p0 := PB2.c0
    have p1 := PB2.c1
    have p2 := PB2.c2
    have p3 := PB2.c3
    go_wp2_with fail
    refine (rchoose_any l hok x z y hu A c _ ((hl.below hbl2 (Nat.le_refl _)).more hbl2.size) hbig).mono ?_
    rintro e w3 ⟨rfl, hb3⟩
    have hbl3 := hbl2.trans (hb3.mono hbl2.size)
    generalize (chooseN l x z y).1 = R at *
    generalize (chooseN l x z y).2 = E at *
    go_wp2
    go_ret
    exact ⟨by simp, hbl3⟩
  · go_enter Try.func10, Try.ntmps10
    go_wp2_with fail
    refine (awake18_any _).mono ?_
    rintro e w1 ⟨rfl, hb1⟩
    have hbl1 := hbl0.trans (hb1.mono hbl0.size)
    have PB1 := Cells4.below (Cells4.new w 43 _ _ _ _) hb1 (by simp)
    have hz1 : w.heap.size < w1.heap.size := by have := hb1.size; simp at this; omega
    clear hb1 hbl0
    have p0 := PB1.c0
    have p1 := PB1.c1
    have p2 := PB1.c2
    have p3 := PB1.c3
    go_wp2_with fail
    refine (awake18_any _).mono ?_
    rintro e w2 ⟨rfl, hb2⟩
    go_wp2
    go_ret
    exact ⟨rfl, hbl1.trans (hb2.mono hbl1.size)⟩

set_option maxRecDepth 100000 in
theorem victimChoose_lifted (os : Os) (started : os.Started) (H : Type) (enc : TypeId × Value → H) :
    ReturnsInHanded {} Try.checked os 10 .any (Rows.victimChooseSpec.pre6 enc Try.prog Try.f10 Rows.victimChooseRow.domain false) (Rows.victimChooseSpec.post enc Try.prog Try.f10 false true false false) := by
  refine returnsInHanded_of_change (C := Try.checked) own started (by kernel_rfl) Try.func10
    (ChangeSpec.witness6 (enc := enc) (C := Try.checked) false ⟨#[], #[.agg #[.slice none 0 0, .int .i64 0, .int .i64 0, .int .u64 0]], []⟩ 8 (by kernel_rfl) (by kernel_rfl) (by kernel_rfl) (by kernel_rfl)) ?_
  intro W base args ds gs before hval0 hW hcnd _
  have hval : ∀ (j : Nat) t v, Try.f10.params[j]? = some t → args[j]? = some v → Value.okWide Try.prog W .any base t v := hval0
  have hW' := hW
  obtain ⟨p, q, hA0, hV, rfl, hfz, hnd⟩ := hW
  have hA : DataW.TrodAll enc Try.prog W 0 (fun _ => true) true Try.f10.params.toList args.toList ds p := hA0
  rw [Try.params10] at hA hval
  obtain ⟨v0, vs0, d0, ds0, p0, q0, hargs, rfl, rfl, h0, r0⟩ := trodAll_cons hA
  obtain ⟨rfl, rfl, rfl⟩ := trodAll_nil r0
  obtain rfl : args = #[v0] := by cases args; simp_all
  obtain ⟨rfl, rfl⟩ := trodVars_none hV
  have k0 := h0
  have lt0 : ∀ x ∈ p0, x.block < W.heap.size := by obtain ⟨m, hm⟩ := k0; exact DataW.trod_lt m _ _ _ hm
  obtain ⟨A, n, c, l, x, y, z, rfl, hb, hx, hy, hz⟩ := open_list (hval 0 _ _ rfl rfl) h0
  clear hA0 hval0
  refine (victimChoose_walk A n c l x y z W hb hz).mono fun e W' ⟨he, bel⟩ => ?_
  subst he
  exact ⟨_, rfl, _, _, _, [], _, [], hW', trodAll_mk1 (shut_bool Try.underlying4 _), (trodAll_cons_mk (Below.trod laidOut (by kernel_rfl) (of_decide_eq_true (by kernel_rfl)) k0 bel lt0) trodAll_mk0), rfl, bel.frame _, fun h => by cases h⟩

/-- The statement. -/
theorem victimChoose_holds : Rows.VictimChooseSaid :=
  OpenClaim.holds_of_wide 10 Try.f10 rfl rfl rfl rfl rfl rfl rfl ⟨rfl, rfl, rfl, rfl, rfl⟩ rfl rfl rfl rfl rfl (by kernel_rfl) Try.func10 (by kernel_rfl)
    (of_decide_eq_true (by kernel_rfl)) (by unfold Func.isWrapper; first | (rw [if_pos (by decide +kernel)]; kernel_rfl) | (rw [if_neg (by decide +kernel)]; exact ⟨rfl, rfl⟩))
    (fun os started H enc _ => victimChoose_lifted os started H enc)
#print axioms victimChoose_holds
end Go.Proofs.Ytbnkpknoknenjaa
