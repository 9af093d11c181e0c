/-
  WHAT IS SHOWN: nil logs and nil disks lead to the results that the document says (WalNil). Conditions: none.
-/
import Derived.Test.YtaggiceejcegdaaGreatNb26
import Derived.Test.YtaggiceejcegdaaGreatNb37
import Derived.Test.YtaggiceejcegdaaGreatRows
namespace Go.Proofs.YtaggiceejcegdaaGreat
set_option linter.unusedVariables false
open Go.ChangeShapes Go.WideShapes Go.ChangeAt Go.RowKit

set_option maxRecDepth 100000 in
set_option maxHeartbeats 4000000 in
theorem walNil_walk (m : Int) (r : Rec) (A D N : Option Addr) (c d n : Nat) (w : World) :
    Calls Tryz.prog 7 #[.int .i64 m, .agg #[.int .u64 r.gen, .int .u64 r.seq, .slice A r.ws.length c, .slice D r.ms.length d, .slice N r.note.length n]] w fun e w' => e = .returned (.bool true) ∧ Below w.heap.size w w' := by
  have hb0 : Below w.heap.size w (w.alloc (.cells #[.int .u64 r.gen, .int .u64 r.seq, .slice A r.ws.length c, .slice D r.ms.length d, .slice N r.note.length n] 28)) := (Below.refl _ _).alloc (Nat.le_refl _) _
  have HP : Hid (∀ W, Below (w.heap.size + 1) (w.alloc (.cells #[.int .u64 r.gen, .int .u64 r.seq, .slice A r.ws.length c, .slice D r.ms.length d, .slice N r.note.length n] 28)) W → Cells5 W w.heap.size (.int .u64 r.gen) (.int .u64 r.seq) (.slice A r.ws.length c) (.slice D r.ms.length d) (.slice N r.note.length n)) := fun W hW => (Cells5.new w 28 _ _ _ _ _).below hW (by omega)
  have hz0 : ((w.alloc (.cells #[.int .u64 r.gen, .int .u64 r.seq, .slice A r.ws.length c, .slice D r.ms.length d, .slice N r.note.length n] 28))).heap.size = w.heap.size + 1 := by simp
  have HB0 := Lib.hid hb0
  clear hb0
  go_enter Tryz.func7, Tryz.ntmps7
  go_wp2_with fail
  refine (awake49_any _).mono ?_
  rintro e w1 ⟨rfl, hb1⟩
  rw [hz0] at hb1
  have hz1 : w.heap.size + 1 ≤ w1.heap.size := by have := hb1.size; omega
  have PB := HP.out w1 hb1
  have p0 := PB.c0; have p1 := PB.c1; have p2 := PB.c2; have p3 := PB.c3; have p4 := PB.c4
  clear PB
  go_wp2_with fail
  refine (nappend_any _ (.slice none 0 0) 0 r A D N c d n none 0 0 rfl).mono ?_
  rintro e w2 ⟨rfl, hb2⟩
  have hx2 := hb1.trans (hb2.mono hz1)
  have hz2 := Nat.le_trans hz1 hb2.size
  clear p0 p1 p2 p3 p4
  go_wp2_with fail
  refine (nread_any _ _ _ _).mono ?_
  rintro e w3 ⟨rfl, hb3⟩
  have hx3 := hx2.trans (hb3.mono hz2)
  have hz3 := Nat.le_trans hz2 hb3.size
  go_wp2_with fail
  refine (nrewrite_any _ _).mono ?_
  rintro e w4 ⟨rfl, hb4⟩
  have hx4 := hx3.trans (hb4.mono hz3)
  have hz4 := Nat.le_trans hz3 hb4.size
  go_wp2_with fail
  refine (nrecords_any _).mono ?_
  rintro e w5 ⟨rfl, hb5⟩
  have hx5 := hx4.trans (hb5.mono hz4)
  have hz5 := Nat.le_trans hz4 hb5.size
  go_wp2_with fail
  refine (nused_any _).mono ?_
  rintro e w6 ⟨rfl, hb6⟩
  have hx6 := hx5.trans (hb6.mono hz5)
  have hz6 := Nat.le_trans hz5 hb6.size
  go_wp2_with fail
  refine (nnext_any _).mono ?_
  rintro e w7 ⟨rfl, hb7⟩
  have hx7 := hx6.trans (hb7.mono hz6)
  have hz7 := Nat.le_trans hz6 hb7.size
  have PB := HP.out w7 hx7
  have p0 := PB.c0; have p1 := PB.c1; have p2 := PB.c2; have p3 := PB.c3; have p4 := PB.c4
  clear PB
  go_wp2_with fail
  refine (nfits_any _ r A D N c d n).mono ?_
  rintro e w8 ⟨rfl, hb8⟩
  have hx8 := hx7.trans (hb8.mono hz7)
  have hz8 := Nat.le_trans hz7 hb8.size
  clear p0 p1 p2 p3 p4
  go_wp2_with fail
  refine (nwrite_any _ _ _).mono ?_
  rintro e w9 ⟨rfl, hb9⟩
  have hx9 := hx8.trans (hb9.mono hz8)
  have hz9 := Nat.le_trans hz8 hb9.size
  go_wp2_with fail
  refine (nflush_any _ _).mono ?_
  rintro e w10 ⟨rfl, hb10⟩
  have hx10 := hx9.trans (hb10.mono hz9)
  go_wp2
  go_ret
  exact ⟨rfl, HB0.out.trans (hx10.mono (by omega))⟩

set_option maxRecDepth 100000 in
theorem walNil_lifted (os : Os) (started : os.Started) (H : Type) (enc : TypeId × Value → H) :
    ReturnsInHanded {} Tryz.checked os 7 .any (Rows.walNilSpec.pre6 enc Tryz.prog Tryz.f7 Rows.walNilRow.domain false) (Rows.walNilSpec.post enc Tryz.prog Tryz.f7 false true false false) := by
  refine returnsInHanded_of_change (C := Tryz.checked) own started (by kernel_rfl) Tryz.func7
    (ChangeSpec.witness6 (enc := enc) (C := Tryz.checked) false ⟨#[], #[.int .i64 0, .agg #[.int .u64 0, .int .u64 0, .slice none 0 0, .slice none 0 0, .slice none 0 0]], []⟩ 8 (by kernel_rfl) (by kernel_rfl) (by kernel_rfl) (by kernel_rfl)) ?_
  intro W base args ds gs before hval0 hW hcnd _
  have hval : ∀ (j : Nat) t v, Tryz.f7.params[j]? = some t → args[j]? = some v → Value.okWide Tryz.prog W .any base t v := hval0
  have hW' := hW
  obtain ⟨p, q, hA0, hV, rfl, hfz, hnd⟩ := hW
  have hA : DataW.TrodAll enc Tryz.prog W 0 (fun _ => true) true Tryz.f7.params.toList args.toList ds p := hA0
  rw [Tryz.params7] at hA hval
  obtain ⟨v0, vs0, d0, ds0, p0, q0, hargs, rfl, rfl, h0, r0⟩ := trodAll_cons hA
  obtain ⟨v1, vs1, d1, ds1, p1, q1, rfl, rfl, rfl, h1, r1⟩ := trodAll_cons r0
  obtain ⟨rfl, rfl, rfl⟩ := trodAll_nil r1
  obtain rfl : args = #[v0, v1] := by cases args; simp_all
  obtain ⟨rfl, rfl⟩ := trodVars_none hV
  have k0 := h0
  have lt0 : ∀ x ∈ p0, x.block < W.heap.size := by obtain ⟨m, hm⟩ := k0; exact DataW.trod_lt m _ _ _ hm
  have k1 := h1
  have lt1 : ∀ x ∈ p1, x.block < W.heap.size := by obtain ⟨m, hm⟩ := k1; exact DataW.trod_lt m _ _ _ hm
  obtain ⟨a, rfl, _, _, wa⟩ := open_int Tryz.underlying3 (hval 0 _ _ rfl rfl) h0
  obtain ⟨r, A, c, D, d, N, n, hr⟩ := open_rec (hval 1 _ _ rfl rfl) h1
  have hrv := hr.val
  subst hrv
  clear hA0 hval0
  refine (walNil_walk a r A D N c d n W).mono fun e W' ⟨he, bel⟩ => ?_
  subst he
  exact ⟨_, rfl, _, _, _, [], _, [], hW', trodAll_mk1 (shut_bool Tryz.underlying4 _), (trodAll_cons_mk (Below.trod laidOut (by kernel_rfl) (of_decide_eq_true (by kernel_rfl)) k0 bel lt0) (trodAll_cons_mk (Below.trod laidOut (by kernel_rfl) (of_decide_eq_true (by kernel_rfl)) k1 bel lt1) trodAll_mk0)), rfl, bel.frame _, fun h => by cases h⟩

/-- The statement. -/
theorem walNil_holds : Rows.WalNilSaid :=
  OpenClaim.holds_of_wide 7 Tryz.f7 rfl rfl rfl rfl rfl rfl rfl ⟨rfl, rfl, rfl, rfl, rfl⟩ rfl rfl rfl rfl rfl (by kernel_rfl) Tryz.func7 (by kernel_rfl)
    (of_decide_eq_true (by kernel_rfl)) (by unfold Func.isWrapper; first | (rw [if_pos (by decide +kernel)]; kernel_rfl) | (rw [if_neg (by decide +kernel)]; exact ⟨rfl, rfl⟩))
    (fun os started H enc _ => walNil_lifted os started H enc)
#print axioms walNil_holds
end Go.Proofs.YtaggiceejcegdaaGreat
