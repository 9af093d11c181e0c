/-
  WHAT IS SHOWN: tegulalaw18.VictimOrder returns true for any three bands, any size and time, and changes nothing. No condition.
-/
import Derived.Test.YtbnkpknoknenjaaVictim7
import Derived.Deep.RegionHeld3
import Derived.Deep.DeepCutAuto
namespace Go.Proofs.Ytbnkpknoknenjaa
set_option linter.unusedVariables false
open Go.ChangeShapes Go.WideShapes Go.ChangeAt Go.RowKit

section
variable (w : World) (t : TypeId) (v0 v1 v2 v3 : Value) (o o' : Obj)
theorem C3a : Cells4 (((w.alloc (.cells #[v0, v1, v2, v3] t)).alloc o).alloc o').drew w.heap.size v0 v1 v2 v3 :=
  (Cells4.new w t v0 v1 v2 v3).below (((((Below.refl _ _).alloc (Nat.le_refl _) o).alloc (by simp) o')).drew) (by simp)
theorem C3b : Cells4 (((w.alloc o).alloc (.cells #[v0, v1, v2, v3] t)).alloc o').drew (w.heap.size + 1) v0 v1 v2 v3 :=
  (Cells4.new_at (w.alloc o) t _ v0 v1 v2 v3 (by simp)).below ((((Below.refl _ _).alloc (Nat.le_refl _) o')).drew) (by simp)
theorem C3c : Cells4 (((w.alloc o).alloc o').alloc (.cells #[v0, v1, v2, v3] t)).drew (w.heap.size + 1 + 1) v0 v1 v2 v3 :=
  (Cells4.new_at ((w.alloc o).alloc o') t _ v0 v1 v2 v3 (by simp)).below ((Below.refl (w.heap.size + 1 + 1 + 1) _).drew) (by omega)
end
set_option maxRecDepth 100000 in
set_option maxHeartbeats 4000000 in
theorem victimOrder_walk (a b c : BI) (ha : a.Ok) (hb : b.Ok) (hc : c.Ok) (x y : Int) (hy : U64 y) (w : World) :
    Calls Try.prog 11 #[.agg #[.int .i64 a.used, .int .i64 a.live, .int .u64 a.age, .int .u64 a.wear, .int .i64 b.used, .int .i64 b.live, .int .u64 b.age, .int .u64 b.wear, .int .i64 c.used, .int .i64 c.live, .int .u64 c.age, .int .u64 c.wear], .int .i64 x, .int .u64 y] w fun e w' => e = .returned (.bool true) ∧ Below w.heap.size w w' := by
  have hbl0 : Below w.heap.size w (w.alloc (.cells #[.int .i64 a.used, .int .i64 a.live, .int .u64 a.age, .int .u64 a.wear, .int .i64 b.used, .int .i64 b.live, .int .u64 b.age, .int .u64 b.wear, .int .i64 c.used, .int .i64 c.live, .int .u64 c.age, .int .u64 c.wear] 47)) := (Below.refl _ _).alloc (Nat.le_refl _) _
  have hr := rd_row w #[.int .i64 a.used, .int .i64 a.live, .int .u64 a.age, .int .u64 a.wear, .int .i64 b.used, .int .i64 b.live, .int .u64 b.age, .int .u64 b.wear, .int .i64 c.used, .int .i64 c.live, .int .u64 c.age, .int .u64 c.wear] 47 (flat [a, b, c]) rfl
  go_enter Try.func11, Try.ntmps11
  go_wp2_with fail
  refine (awake18_any _).mono ?_
  rintro e w1 ⟨rfl, hb1⟩
  have hbl1 := hbl0.trans (hb1.mono hbl0.size)
  have hr1 := hr.below hb1 (by simp)
  have hz1 : w.heap.size < w1.heap.size := by have := hb1.size; simp at this; omega
  clear hb1 hbl0 hr
  have ka : ∀ j u, (flat [a, b, c])[j]? = some u → w1.cell? ⟨w.heap.size, j, none⟩ = some u := by
    intro j u hu
    obtain ⟨g, o, e, _, h⟩ := hr1 j u hu
    injection e with e; injection e with e1 e2; subst e1; subst e2
    rw [Nat.zero_add] at h; exact h
  have k0 : w1.cell? ⟨w.heap.size, 0, none⟩ = some (.int .i64 a.used) := ka 0 _ rfl
  have k1 : w1.cell? ⟨w.heap.size, 1, none⟩ = some (.int .i64 a.live) := ka 1 _ rfl
  have k2 : w1.cell? ⟨w.heap.size, 2, none⟩ = some (.int .u64 a.age) := ka 2 _ rfl
  have k3 : w1.cell? ⟨w.heap.size, 3, none⟩ = some (.int .u64 a.wear) := ka 3 _ rfl
  have k4 : w1.cell? ⟨w.heap.size, 4, none⟩ = some (.int .i64 b.used) := ka 4 _ rfl
  have k5 : w1.cell? ⟨w.heap.size, 5, none⟩ = some (.int .i64 b.live) := ka 5 _ rfl
  have k6 : w1.cell? ⟨w.heap.size, 6, none⟩ = some (.int .u64 b.age) := ka 6 _ rfl
  have k7 : w1.cell? ⟨w.heap.size, 7, none⟩ = some (.int .u64 b.wear) := ka 7 _ rfl
  have k8 : w1.cell? ⟨w.heap.size, 8, none⟩ = some (.int .i64 c.used) := ka 8 _ rfl
  have k9 : w1.cell? ⟨w.heap.size, 9, none⟩ = some (.int .i64 c.live) := ka 9 _ rfl
  have k10 : w1.cell? ⟨w.heap.size, 10, none⟩ = some (.int .u64 c.age) := ka 10 _ rfl
  have k11 : w1.cell? ⟨w.heap.size, 11, none⟩ = some (.int .u64 c.wear) := ka 11 _ rfl
  clear ka
  have RR : Hid (∀ o1 o2 o3, Rd (((w1.alloc o1).alloc o2).alloc o3).drew (((w1.alloc o1).alloc o2).alloc o3).drew.heap.size (some ⟨w.heap.size, 0, none⟩) (flat [a, b, c])) := by
    unfold Hid; intro o1 o2 o3
    exact (hr1.below ((((((Below.refl _ _).alloc (by omega) _).alloc (by simp; omega) _).alloc (by simp; omega) _).drew)) (Nat.le_refl _)).more (by simp; omega)
  have hs1 := hbl1.size
  go_upto_region 3 with fail
  go_cut [7, 8, 9] (fun s7 s8 s9 wx => ∃ p q r : Nat, s7 = .pointer (some ⟨p, 0, none⟩) ∧ s8 = .pointer (some ⟨q, 0, none⟩) ∧ s9 = .pointer (some ⟨r, 0, none⟩) ∧ Cells4 wx p (.int .i64 a.used) (.int .i64 a.live) (.int .u64 a.age) (.int .u64 a.wear) ∧ Cells4 wx q (.int .i64 b.used) (.int .i64 b.live) (.int .u64 b.age) (.int .u64 b.wear) ∧ Cells4 wx r (.int .i64 c.used) (.int .i64 c.live) (.int .u64 c.age) (.int .u64 c.wear) ∧ Below w.heap.size w wx ∧ Rd wx wx.heap.size (some ⟨w.heap.size, 0, none⟩) (flat [a, b, c]))
  case first =>
    go_region_held3 (fun W => W.cell? ⟨w.heap.size, 0, none⟩ = some (.int .i64 a.used) ∧ W.cell? ⟨w.heap.size, 1, none⟩ = some (.int .i64 a.live) ∧ W.cell? ⟨w.heap.size, 2, none⟩ = some (.int .u64 a.age) ∧ W.cell? ⟨w.heap.size, 3, none⟩ = some (.int .u64 a.wear) ∧ W.cell? ⟨w.heap.size, 4, none⟩ = some (.int .i64 b.used) ∧ W.cell? ⟨w.heap.size, 5, none⟩ = some (.int .i64 b.live) ∧ W.cell? ⟨w.heap.size, 6, none⟩ = some (.int .u64 b.age) ∧ W.cell? ⟨w.heap.size, 7, none⟩ = some (.int .u64 b.wear) ∧ W.cell? ⟨w.heap.size, 8, none⟩ = some (.int .i64 c.used) ∧ W.cell? ⟨w.heap.size, 9, none⟩ = some (.int .i64 c.live) ∧ W.cell? ⟨w.heap.size, 10, none⟩ = some (.int .u64 c.age) ∧ W.cell? ⟨w.heap.size, 11, none⟩ = some (.int .u64 c.wear)) (simp (maxDischargeDepth := 20) [World.cell?_alloc_some, k0, k1, k2, k3, k4, k5, k6, k7, k8, k9, k10, k11]) (fail)
    all_goals
      clear k0 k1 k2 k3 k4 k5 k6 k7 k8 k9 k10 k11
      go_wp2_with fail
      go_meet
      refine ⟨_, _, _, rfl, rfl, rfl, ?_, ?_, ?_, ((((hbl1.alloc hbl1.size _).alloc (by simp; omega) _).alloc (by simp; omega) _).drew), RR.out _ _ _⟩
      all_goals first | exact C3a .. | exact C3b .. | exact C3c ..
  case rest =>
    obtain ⟨p, q, r, rfl, rfl, rfl, PA, PB, PC, hbc, hrc⟩ := hcut
    clear RR hs1 hr1 hbl1 hz1 k0 k1 k2 k3 k4 k5 k6 k7 k8 k9 k10 k11
    have hpa := block_lt_of_cell PA.c0
    have hpb := block_lt_of_cell PB.c0
    have hpc := block_lt_of_cell PC.c0
    simp only at hpa hpb hpc
    have hx0 := Below.refl wc.heap.size wc
    have PAj := PA; have PBj := PB; have PCj := PC
    have p0 := PAj.c0; have p1 := PAj.c1; have p2 := PAj.c2; have p3 := PAj.c3; have q0 := PBj.c0; have q1 := PBj.c1; have q2 := PBj.c2; have q3 := PBj.c3; have r0 := PCj.c0; have r1 := PCj.c1; have r2 := PCj.c2; have r3 := PCj.c3
    have DA := Lib.hid (fun W => better_any a a ha ha x y hy W)
    rw [better_irrefl] at DA
    have DP0 := Lib.hid (fun W => better_any a b ha hb x y hy W)
    have DN0 := Lib.hid (fun W => better_any b a hb ha x y hy W)
    have DQ0 := Lib.hid (fun W => better_any b c hb hc x y hy W)
    have DR0 := Lib.hid (fun W => better_any a c ha hc x y hy W)
    cases hP : betterB a b x y
    · have DP : Hid (∀ W, Calls Try.prog 32 #[.agg #[.int .i64 a.used, .int .i64 a.live, .int .u64 a.age, .int .u64 a.wear], .agg #[.int .i64 b.used, .int .i64 b.live, .int .u64 b.age, .int .u64 b.wear], .int .i64 x, .int .u64 y] W fun e w' => e = .returned (.bool false) ∧ Below W.heap.size W w') := by
        unfold Hid; intro W; have := DP0.out W; rw [hP] at this; exact this
      have HP := Lib.hid hP
      clear hP DP0 DN0
      go_wp2_with fail
      refine (DA.out _).mono ?_
      rintro e w1 ⟨rfl, hb1⟩
      have hx1 := hx0.trans (hb1.mono hx0.size)
      clear hb1
      clear p0 p1 p2 p3 q0 q1 q2 q3 r0 r1 r2 r3 PAj PBj PCj
      have PAj := PA.below hx1 hpa
      have PBj := PB.below hx1 hpb
      have PCj := PC.below hx1 hpc
      have p0 := PAj.c0; have p1 := PAj.c1; have p2 := PAj.c2; have p3 := PAj.c3; have q0 := PBj.c0; have q1 := PBj.c1; have q2 := PBj.c2; have q3 := PBj.c3; have r0 := PCj.c0; have r1 := PCj.c1; have r2 := PCj.c2; have r3 := PCj.c3
      go_wp2_with fail
      refine (DP.out _).mono ?_
      rintro e w2 ⟨rfl, hb2⟩
      have hx2 := hx1.trans (hb2.mono hx1.size)
      clear hb2
      clear p0 p1 p2 p3 q0 q1 q2 q3 r0 r1 r2 r3 PAj PBj PCj
      have PAj := PA.below hx2 hpa
      have PBj := PB.below hx2 hpb
      have PCj := PC.below hx2 hpc
      have p0 := PAj.c0; have p1 := PAj.c1; have p2 := PAj.c2; have p3 := PAj.c3; have q0 := PBj.c0; have q1 := PBj.c1; have q2 := PBj.c2; have q3 := PBj.c3; have r0 := PCj.c0; have r1 := PCj.c1; have r2 := PCj.c2; have r3 := PCj.c3
      by_cases g1 : x < 1
      · go_wp2
        go_ret
        exact ⟨by first | rfl | simp, hbc.trans (hx2.mono hbc.size)⟩
      · by_cases g2 : 1048576 < x
        · go_wp2
          go_ret
          exact ⟨by first | rfl | simp, hbc.trans (hx2.mono hbc.size)⟩
        · go_wp2
          go_loop [10] (fun i => ∃ k : Nat, k ≤ 3 ∧ i = .int .i64 k ∧ Hid (∀ b' ∈ [a, b, c].take k, 0 ≤ b'.live ∧ b'.live ≤ 1048576)) (fun i => 3 - (intOf i).toNat)
          case atStart => exact ⟨0, by omega, rfl, by unfold Hid; simp⟩
          case round =>
            obtain ⟨k, hk, rfl, HF⟩ := hrel
            by_cases hlt : k < 3
            · have hlt2 : k < [a, b, c].length := hlt
              have hrj := (hrc.below hx2 (Nat.le_refl _)).more hx2.size
              obtain ⟨g, o, e, _, _, h1, _, _⟩ := hrj.band (get_some hlt2)
              simp only [Option.some.injEq, Addr.mk.injEq, and_true] at e
              obtain ⟨rfl, rfl⟩ := e
              rw [Nat.zero_add] at h1
              have HT := Lib.hid (List.take_succ_eq_append_getElem hlt2)
              generalize hX : [a, b, c][k] = X at *
              have HX := Lib.hid hX
              clear hX hrj
              by_cases f1 : X.live < 0
              · go_wp2
                go_ret
                exact ⟨by first | rfl | simp, hbc.trans (hx2.mono hbc.size)⟩
              · by_cases f2 : 1048576 < X.live
                · go_wp2
                  go_ret
                  exact ⟨by first | rfl | simp, hbc.trans (hx2.mono hbc.size)⟩
                · go_wp2
                  go_round
                  case rel =>
                    refine ⟨k + 1, by omega, by go_num, ?_⟩
                    unfold Hid
                    intro b' hb'
                    rw [HT.out, List.mem_append] at hb'
                    rcases hb' with hb' | hb'
                    · exact HF.out b' hb'
                    · simp only [List.mem_singleton] at hb'
                      subst hb'; omega
                  case measure => simp [intOf]; omega
            · obtain rfl : k = 3 := by omega
              have fa : Fine a x := by have := HF.out a (by simp); exact ⟨this.1, this.2, by omega, by omega⟩
              have fb : Fine b x := by have := HF.out b (by simp); exact ⟨this.1, this.2, by omega, by omega⟩
              have fc : Fine c x := by have := HF.out c (by simp); exact ⟨this.1, this.2, by omega, by omega⟩
              clear HF
              cases hQ : betterB b c x y
              · have DQ : Hid (∀ W, Calls Try.prog 32 #[.agg #[.int .i64 b.used, .int .i64 b.live, .int .u64 b.age, .int .u64 b.wear], .agg #[.int .i64 c.used, .int .i64 c.live, .int .u64 c.age, .int .u64 c.wear], .int .i64 x, .int .u64 y] W fun e w' => e = .returned (.bool false) ∧ Below W.heap.size W w') := by
                  unfold Hid; intro W; have := DQ0.out W; rw [hQ] at this; exact this
                have DR : Hid (∀ W, Calls Try.prog 32 #[.agg #[.int .i64 a.used, .int .i64 a.live, .int .u64 a.age, .int .u64 a.wear], .agg #[.int .i64 c.used, .int .i64 c.live, .int .u64 c.age, .int .u64 c.wear], .int .i64 x, .int .u64 y] W fun e w' => e = .returned (.bool false) ∧ Below W.heap.size W w') := by
                  unfold Hid; intro W; have := DR0.out W; rw [better_neg_trans fa fb fc HP.out hQ] at this; exact this
                clear hQ fa fb fc DQ0 DR0
                go_wp2_with fail
                refine (DP.out _).mono ?_
                rintro e w3 ⟨rfl, hb3⟩
                have hx3 := hx2.trans (hb3.mono hx2.size)
                clear hb3
                clear p0 p1 p2 p3 q0 q1 q2 q3 r0 r1 r2 r3 PAj PBj PCj
                have PAj := PA.below hx3 hpa
                have PBj := PB.below hx3 hpb
                have PCj := PC.below hx3 hpc
                have p0 := PAj.c0; have p1 := PAj.c1; have p2 := PAj.c2; have p3 := PAj.c3; have q0 := PBj.c0; have q1 := PBj.c1; have q2 := PBj.c2; have q3 := PBj.c3; have r0 := PCj.c0; have r1 := PCj.c1; have r2 := PCj.c2; have r3 := PCj.c3
                go_wp2_with fail
                refine (DP.out _).mono ?_
                rintro e w4 ⟨rfl, hb4⟩
                have hx4 := hx3.trans (hb4.mono hx3.size)
                clear hb4
                clear p0 p1 p2 p3 q0 q1 q2 q3 r0 r1 r2 r3 PAj PBj PCj
                have PAj := PA.below hx4 hpa
                have PBj := PB.below hx4 hpb
                have PCj := PC.below hx4 hpc
                have p0 := PAj.c0; have p1 := PAj.c1; have p2 := PAj.c2; have p3 := PAj.c3; have q0 := PBj.c0; have q1 := PBj.c1; have q2 := PBj.c2; have q3 := PBj.c3; have r0 := PCj.c0; have r1 := PCj.c1; have r2 := PCj.c2; have r3 := PCj.c3
                go_wp2_with fail
                refine (DQ.out _).mono ?_
                rintro e w5 ⟨rfl, hb5⟩
                have hx5 := hx4.trans (hb5.mono hx4.size)
                clear hb5
                clear p0 p1 p2 p3 q0 q1 q2 q3 r0 r1 r2 r3 PAj PBj PCj
                have PAj := PA.below hx5 hpa
                have PBj := PB.below hx5 hpb
                have PCj := PC.below hx5 hpc
                have p0 := PAj.c0; have p1 := PAj.c1; have p2 := PAj.c2; have p3 := PAj.c3; have q0 := PBj.c0; have q1 := PBj.c1; have q2 := PBj.c2; have q3 := PBj.c3; have r0 := PCj.c0; have r1 := PCj.c1; have r2 := PCj.c2; have r3 := PCj.c3
                go_wp2_with fail
                refine (DR.out _).mono ?_
                rintro e w6 ⟨rfl, hb6⟩
                have hx6 := hx5.trans (hb6.mono hx5.size)
                clear hb6
                clear p0 p1 p2 p3 q0 q1 q2 q3 r0 r1 r2 r3 PAj PBj PCj
                have PAj := PA.below hx6 hpa
                have PBj := PB.below hx6 hpb
                have PCj := PC.below hx6 hpc
                have p0 := PAj.c0; have p1 := PAj.c1; have p2 := PAj.c2; have p3 := PAj.c3; have q0 := PBj.c0; have q1 := PBj.c1; have q2 := PBj.c2; have q3 := PBj.c3; have r0 := PCj.c0; have r1 := PCj.c1; have r2 := PCj.c2; have r3 := PCj.c3
                go_wp2
                go_ret
                exact ⟨by first | rfl | simp, hbc.trans (hx6.mono hbc.size)⟩
              · have DQ : Hid (∀ W, Calls Try.prog 32 #[.agg #[.int .i64 b.used, .int .i64 b.live, .int .u64 b.age, .int .u64 b.wear], .agg #[.int .i64 c.used, .int .i64 c.live, .int .u64 c.age, .int .u64 c.wear], .int .i64 x, .int .u64 y] W fun e w' => e = .returned (.bool true) ∧ Below W.heap.size W w') := by
                  unfold Hid; intro W; have := DQ0.out W; rw [hQ] at this; exact this
                clear hQ fa fb fc DQ0 DR0
                go_wp2_with fail
                refine (DP.out _).mono ?_
                rintro e w3 ⟨rfl, hb3⟩
                have hx3 := hx2.trans (hb3.mono hx2.size)
                clear hb3
                clear p0 p1 p2 p3 q0 q1 q2 q3 r0 r1 r2 r3 PAj PBj PCj
                have PAj := PA.below hx3 hpa
                have PBj := PB.below hx3 hpb
                have PCj := PC.below hx3 hpc
                have p0 := PAj.c0; have p1 := PAj.c1; have p2 := PAj.c2; have p3 := PAj.c3; have q0 := PBj.c0; have q1 := PBj.c1; have q2 := PBj.c2; have q3 := PBj.c3; have r0 := PCj.c0; have r1 := PCj.c1; have r2 := PCj.c2; have r3 := PCj.c3
                go_wp2_with fail
                refine (DP.out _).mono ?_
                rintro e w4 ⟨rfl, hb4⟩
                have hx4 := hx3.trans (hb4.mono hx3.size)
                clear hb4
                clear p0 p1 p2 p3 q0 q1 q2 q3 r0 r1 r2 r3 PAj PBj PCj
                have PAj := PA.below hx4 hpa
                have PBj := PB.below hx4 hpb
                have PCj := PC.below hx4 hpc
                have p0 := PAj.c0; have p1 := PAj.c1; have p2 := PAj.c2; have p3 := PAj.c3; have q0 := PBj.c0; have q1 := PBj.c1; have q2 := PBj.c2; have q3 := PBj.c3; have r0 := PCj.c0; have r1 := PCj.c1; have r2 := PCj.c2; have r3 := PCj.c3
                go_wp2_with fail
                refine (DQ.out _).mono ?_
                rintro e w5 ⟨rfl, hb5⟩
                have hx5 := hx4.trans (hb5.mono hx4.size)
                clear hb5
                clear p0 p1 p2 p3 q0 q1 q2 q3 r0 r1 r2 r3 PAj PBj PCj
                have PAj := PA.below hx5 hpa
                have PBj := PB.below hx5 hpb
                have PCj := PC.below hx5 hpc
                have p0 := PAj.c0; have p1 := PAj.c1; have p2 := PAj.c2; have p3 := PAj.c3; have q0 := PBj.c0; have q1 := PBj.c1; have q2 := PBj.c2; have q3 := PBj.c3; have r0 := PCj.c0; have r1 := PCj.c1; have r2 := PCj.c2; have r3 := PCj.c3
                go_wp2
                go_ret
                exact ⟨by first | rfl | simp, hbc.trans (hx5.mono hbc.size)⟩
    · have DP : Hid (∀ W, Calls Try.prog 32 #[.agg #[.int .i64 a.used, .int .i64 a.live, .int .u64 a.age, .int .u64 a.wear], .agg #[.int .i64 b.used, .int .i64 b.live, .int .u64 b.age, .int .u64 b.wear], .int .i64 x, .int .u64 y] W fun e w' => e = .returned (.bool true) ∧ Below W.heap.size W w') := by
        unfold Hid; intro W; have := DP0.out W; rw [hP] at this; exact this
      have DN : Hid (∀ W, Calls Try.prog 32 #[.agg #[.int .i64 b.used, .int .i64 b.live, .int .u64 b.age, .int .u64 b.wear], .agg #[.int .i64 a.used, .int .i64 a.live, .int .u64 a.age, .int .u64 a.wear], .int .i64 x, .int .u64 y] W fun e w' => e = .returned (.bool false) ∧ Below W.heap.size W w') := by
        unfold Hid; intro W; have := DN0.out W; rw [better_asymm hP] at this; exact this
      have HP := Lib.hid hP
      clear hP DP0 DN0
      go_wp2_with fail
      refine (DA.out _).mono ?_
      rintro e w1 ⟨rfl, hb1⟩
      have hx1 := hx0.trans (hb1.mono hx0.size)
      clear hb1
      clear p0 p1 p2 p3 q0 q1 q2 q3 r0 r1 r2 r3 PAj PBj PCj
      have PAj := PA.below hx1 hpa
      have PBj := PB.below hx1 hpb
      have PCj := PC.below hx1 hpc
      have p0 := PAj.c0; have p1 := PAj.c1; have p2 := PAj.c2; have p3 := PAj.c3; have q0 := PBj.c0; have q1 := PBj.c1; have q2 := PBj.c2; have q3 := PBj.c3; have r0 := PCj.c0; have r1 := PCj.c1; have r2 := PCj.c2; have r3 := PCj.c3
      go_wp2_with fail
      refine (DP.out _).mono ?_
      rintro e w2 ⟨rfl, hb2⟩
      have hx2 := hx1.trans (hb2.mono hx1.size)
      clear hb2
      clear p0 p1 p2 p3 q0 q1 q2 q3 r0 r1 r2 r3 PAj PBj PCj
      have PAj := PA.below hx2 hpa
      have PBj := PB.below hx2 hpb
      have PCj := PC.below hx2 hpc
      have p0 := PAj.c0; have p1 := PAj.c1; have p2 := PAj.c2; have p3 := PAj.c3; have q0 := PBj.c0; have q1 := PBj.c1; have q2 := PBj.c2; have q3 := PBj.c3; have r0 := PCj.c0; have r1 := PCj.c1; have r2 := PCj.c2; have r3 := PCj.c3
      go_wp2_with fail
      refine (DN.out _).mono ?_
      rintro e w3 ⟨rfl, hb3⟩
      have hx3 := hx2.trans (hb3.mono hx2.size)
      clear hb3
      clear p0 p1 p2 p3 q0 q1 q2 q3 r0 r1 r2 r3 PAj PBj PCj
      have PAj := PA.below hx3 hpa
      have PBj := PB.below hx3 hpb
      have PCj := PC.below hx3 hpc
      have p0 := PAj.c0; have p1 := PAj.c1; have p2 := PAj.c2; have p3 := PAj.c3; have q0 := PBj.c0; have q1 := PBj.c1; have q2 := PBj.c2; have q3 := PBj.c3; have r0 := PCj.c0; have r1 := PCj.c1; have r2 := PCj.c2; have r3 := PCj.c3
      by_cases g1 : x < 1
      · go_wp2
        go_ret
        exact ⟨by first | rfl | simp, hbc.trans (hx3.mono hbc.size)⟩
      · by_cases g2 : 1048576 < x
        · go_wp2
          go_ret
          exact ⟨by first | rfl | simp, hbc.trans (hx3.mono hbc.size)⟩
        · go_wp2
          go_loop [10] (fun i => ∃ k : Nat, k ≤ 3 ∧ i = .int .i64 k ∧ Hid (∀ b' ∈ [a, b, c].take k, 0 ≤ b'.live ∧ b'.live ≤ 1048576)) (fun i => 3 - (intOf i).toNat)
          case atStart => exact ⟨0, by omega, rfl, by unfold Hid; simp⟩
          case round =>
            obtain ⟨k, hk, rfl, HF⟩ := hrel
            by_cases hlt : k < 3
            · have hlt2 : k < [a, b, c].length := hlt
              have hrj := (hrc.below hx3 (Nat.le_refl _)).more hx3.size
              obtain ⟨g, o, e, _, _, h1, _, _⟩ := hrj.band (get_some hlt2)
              simp only [Option.some.injEq, Addr.mk.injEq, and_true] at e
              obtain ⟨rfl, rfl⟩ := e
              rw [Nat.zero_add] at h1
              have HT := Lib.hid (List.take_succ_eq_append_getElem hlt2)
              generalize hX : [a, b, c][k] = X at *
              have HX := Lib.hid hX
              clear hX hrj
              by_cases f1 : X.live < 0
              · go_wp2
                go_ret
                exact ⟨by first | rfl | simp, hbc.trans (hx3.mono hbc.size)⟩
              · by_cases f2 : 1048576 < X.live
                · go_wp2
                  go_ret
                  exact ⟨by first | rfl | simp, hbc.trans (hx3.mono hbc.size)⟩
                · go_wp2
                  go_round
                  case rel =>
                    refine ⟨k + 1, by omega, by go_num, ?_⟩
                    unfold Hid
                    intro b' hb'
                    rw [HT.out, List.mem_append] at hb'
                    rcases hb' with hb' | hb'
                    · exact HF.out b' hb'
                    · simp only [List.mem_singleton] at hb'
                      subst hb'; omega
                  case measure => simp [intOf]; omega
            · obtain rfl : k = 3 := by omega
              have fa : Fine a x := by have := HF.out a (by simp); exact ⟨this.1, this.2, by omega, by omega⟩
              have fb : Fine b x := by have := HF.out b (by simp); exact ⟨this.1, this.2, by omega, by omega⟩
              have fc : Fine c x := by have := HF.out c (by simp); exact ⟨this.1, this.2, by omega, by omega⟩
              clear HF
              cases hQ : betterB b c x y
              · have DQ : Hid (∀ W, Calls Try.prog 32 #[.agg #[.int .i64 b.used, .int .i64 b.live, .int .u64 b.age, .int .u64 b.wear], .agg #[.int .i64 c.used, .int .i64 c.live, .int .u64 c.age, .int .u64 c.wear], .int .i64 x, .int .u64 y] W fun e w' => e = .returned (.bool false) ∧ Below W.heap.size W w') := by
                  unfold Hid; intro W; have := DQ0.out W; rw [hQ] at this; exact this
                clear hQ fa fb fc DQ0 DR0
                go_wp2_with fail
                refine (DP.out _).mono ?_
                rintro e w4 ⟨rfl, hb4⟩
                have hx4 := hx3.trans (hb4.mono hx3.size)
                clear hb4
                clear p0 p1 p2 p3 q0 q1 q2 q3 r0 r1 r2 r3 PAj PBj PCj
                have PAj := PA.below hx4 hpa
                have PBj := PB.below hx4 hpb
                have PCj := PC.below hx4 hpc
                have p0 := PAj.c0; have p1 := PAj.c1; have p2 := PAj.c2; have p3 := PAj.c3; have q0 := PBj.c0; have q1 := PBj.c1; have q2 := PBj.c2; have q3 := PBj.c3; have r0 := PCj.c0; have r1 := PCj.c1; have r2 := PCj.c2; have r3 := PCj.c3
                go_wp2_with fail
                refine (DQ.out _).mono ?_
                rintro e w5 ⟨rfl, hb5⟩
                have hx5 := hx4.trans (hb5.mono hx4.size)
                clear hb5
                clear p0 p1 p2 p3 q0 q1 q2 q3 r0 r1 r2 r3 PAj PBj PCj
                have PAj := PA.below hx5 hpa
                have PBj := PB.below hx5 hpb
                have PCj := PC.below hx5 hpc
                have p0 := PAj.c0; have p1 := PAj.c1; have p2 := PAj.c2; have p3 := PAj.c3; have q0 := PBj.c0; have q1 := PBj.c1; have q2 := PBj.c2; have q3 := PBj.c3; have r0 := PCj.c0; have r1 := PCj.c1; have r2 := PCj.c2; have r3 := PCj.c3
                go_wp2_with fail
                refine (DP.out _).mono ?_
                rintro e w6 ⟨rfl, hb6⟩
                have hx6 := hx5.trans (hb6.mono hx5.size)
                clear hb6
                clear p0 p1 p2 p3 q0 q1 q2 q3 r0 r1 r2 r3 PAj PBj PCj
                have PAj := PA.below hx6 hpa
                have PBj := PB.below hx6 hpb
                have PCj := PC.below hx6 hpc
                have p0 := PAj.c0; have p1 := PAj.c1; have p2 := PAj.c2; have p3 := PAj.c3; have q0 := PBj.c0; have q1 := PBj.c1; have q2 := PBj.c2; have q3 := PBj.c3; have r0 := PCj.c0; have r1 := PCj.c1; have r2 := PCj.c2; have r3 := PCj.c3
                go_wp2
                go_ret
                exact ⟨by first | rfl | simp, hbc.trans (hx6.mono hbc.size)⟩
              · have DQ : Hid (∀ W, Calls Try.prog 32 #[.agg #[.int .i64 b.used, .int .i64 b.live, .int .u64 b.age, .int .u64 b.wear], .agg #[.int .i64 c.used, .int .i64 c.live, .int .u64 c.age, .int .u64 c.wear], .int .i64 x, .int .u64 y] W fun e w' => e = .returned (.bool true) ∧ Below W.heap.size W w') := by
                  unfold Hid; intro W; have := DQ0.out W; rw [hQ] at this; exact this
                have DR : Hid (∀ W, Calls Try.prog 32 #[.agg #[.int .i64 a.used, .int .i64 a.live, .int .u64 a.age, .int .u64 a.wear], .agg #[.int .i64 c.used, .int .i64 c.live, .int .u64 c.age, .int .u64 c.wear], .int .i64 x, .int .u64 y] W fun e w' => e = .returned (.bool true) ∧ Below W.heap.size W w') := by
                  unfold Hid; intro W; have := DR0.out W; rw [better_trans HP.out hQ] at this; exact this
                clear hQ fa fb fc DQ0 DR0
                go_wp2_with fail
                refine (DP.out _).mono ?_
                rintro e w4 ⟨rfl, hb4⟩
                have hx4 := hx3.trans (hb4.mono hx3.size)
                clear hb4
                clear p0 p1 p2 p3 q0 q1 q2 q3 r0 r1 r2 r3 PAj PBj PCj
                have PAj := PA.below hx4 hpa
                have PBj := PB.below hx4 hpb
                have PCj := PC.below hx4 hpc
                have p0 := PAj.c0; have p1 := PAj.c1; have p2 := PAj.c2; have p3 := PAj.c3; have q0 := PBj.c0; have q1 := PBj.c1; have q2 := PBj.c2; have q3 := PBj.c3; have r0 := PCj.c0; have r1 := PCj.c1; have r2 := PCj.c2; have r3 := PCj.c3
                go_wp2_with fail
                refine (DQ.out _).mono ?_
                rintro e w5 ⟨rfl, hb5⟩
                have hx5 := hx4.trans (hb5.mono hx4.size)
                clear hb5
                clear p0 p1 p2 p3 q0 q1 q2 q3 r0 r1 r2 r3 PAj PBj PCj
                have PAj := PA.below hx5 hpa
                have PBj := PB.below hx5 hpb
                have PCj := PC.below hx5 hpc
                have p0 := PAj.c0; have p1 := PAj.c1; have p2 := PAj.c2; have p3 := PAj.c3; have q0 := PBj.c0; have q1 := PBj.c1; have q2 := PBj.c2; have q3 := PBj.c3; have r0 := PCj.c0; have r1 := PCj.c1; have r2 := PCj.c2; have r3 := PCj.c3
                go_wp2_with fail
                refine (DR.out _).mono ?_
                rintro e w6 ⟨rfl, hb6⟩
                have hx6 := hx5.trans (hb6.mono hx5.size)
                clear hb6
                clear p0 p1 p2 p3 q0 q1 q2 q3 r0 r1 r2 r3 PAj PBj PCj
                have PAj := PA.below hx6 hpa
                have PBj := PB.below hx6 hpb
                have PCj := PC.below hx6 hpc
                have p0 := PAj.c0; have p1 := PAj.c1; have p2 := PAj.c2; have p3 := PAj.c3; have q0 := PBj.c0; have q1 := PBj.c1; have q2 := PBj.c2; have q3 := PBj.c3; have r0 := PCj.c0; have r1 := PCj.c1; have r2 := PCj.c2; have r3 := PCj.c3
                go_wp2_with fail
                refine (DP.out _).mono ?_
                rintro e w7 ⟨rfl, hb7⟩
                have hx7 := hx6.trans (hb7.mono hx6.size)
                clear hb7
                clear p0 p1 p2 p3 q0 q1 q2 q3 r0 r1 r2 r3 PAj PBj PCj
                have PAj := PA.below hx7 hpa
                have PBj := PB.below hx7 hpb
                have PCj := PC.below hx7 hpc
                have p0 := PAj.c0; have p1 := PAj.c1; have p2 := PAj.c2; have p3 := PAj.c3; have q0 := PBj.c0; have q1 := PBj.c1; have q2 := PBj.c2; have q3 := PBj.c3; have r0 := PCj.c0; have r1 := PCj.c1; have r2 := PCj.c2; have r3 := PCj.c3
                go_wp2
                go_ret
                exact ⟨by first | rfl | simp, hbc.trans (hx7.mono hbc.size)⟩

set_option maxRecDepth 100000 in
theorem victimOrder_lifted (os : Os) (started : os.Started) (H : Type) (enc : TypeId × Value → H) :
    ReturnsInHanded {} Try.checked os 11 .any (Rows.victimOrderSpec.pre6 enc Try.prog Try.f11 Rows.victimOrderRow.domain false) (Rows.victimOrderSpec.post enc Try.prog Try.f11 false true false false) := by
  refine returnsInHanded_of_change (C := Try.checked) own started (by kernel_rfl) Try.func11
    (ChangeSpec.witness6 (enc := enc) (C := Try.checked) false ⟨#[], #[.agg #[.int .i64 0, .int .i64 0, .int .u64 0, .int .u64 0, .int .i64 0, .int .i64 0, .int .u64 0, .int .u64 0, .int .i64 0, .int .i64 0, .int .u64 0, .int .u64 0], .int .i64 0, .int .u64 0], []⟩ 8 (by kernel_rfl) (by kernel_rfl) (by kernel_rfl) (by kernel_rfl)) ?_
  intro W base args ds gs before hval0 hW hcnd _
  have hval : ∀ (j : Nat) t v, Try.f11.params[j]? = some t → args[j]? = some v → Value.okWide Try.prog W .any base t v := hval0
  have hW' := hW
  obtain ⟨p, q, hA0, hV, rfl, hfz, hnd⟩ := hW
  have hA : DataW.TrodAll enc Try.prog W 0 (fun _ => true) true Try.f11.params.toList args.toList ds p := hA0
  rw [Try.params11] at hA hval
  obtain ⟨v0, vs0, d0, ds0, p0, q0, hargs, rfl, rfl, h0, r0⟩ := trodAll_cons hA
  obtain ⟨v1, vs1, d1, ds1, p1, q1, rfl, rfl, rfl, h1, r1⟩ := trodAll_cons r0
  obtain ⟨v2, vs2, d2, ds2, p2, q2, rfl, rfl, rfl, h2, r2⟩ := trodAll_cons r1
  obtain ⟨rfl, rfl, rfl⟩ := trodAll_nil r2
  obtain rfl : args = #[v0, v1, v2] := by cases args; simp_all
  obtain ⟨rfl, rfl⟩ := trodVars_none hV
  have k0 := h0
  have lt0 : ∀ x ∈ p0, x.block < W.heap.size := by obtain ⟨m, hm⟩ := k0; exact DataW.trod_lt m _ _ _ hm
  have k1 := h1
  have lt1 : ∀ x ∈ p1, x.block < W.heap.size := by obtain ⟨m, hm⟩ := k1; exact DataW.trod_lt m _ _ _ hm
  have k2 := h2
  have lt2 : ∀ x ∈ p2, x.block < W.heap.size := by obtain ⟨m, hm⟩ := k2; exact DataW.trod_lt m _ _ _ hm
  obtain ⟨a, b, c, rfl, ha, hb, hc⟩ := open_three (hval 0 _ _ rfl rfl) h0
  obtain ⟨x, rfl, _, _, w1⟩ := open_int Try.underlying3 (hval 1 _ _ rfl rfl) h1
  obtain ⟨y, rfl, _, _, w2⟩ := open_int Try.underlying27 (hval 2 _ _ rfl rfl) h2
  clear hA0 hval0
  refine (victimOrder_walk a b c ha hb hc x y (u64_of w2) W).mono fun e W' ⟨he, bel⟩ => ?_
  subst he
  exact ⟨_, rfl, _, _, _, [], _, [], hW', trodAll_mk1 (shut_bool Try.underlying4 _), (trodAll_cons_mk (Below.trod laidOut (by kernel_rfl) (of_decide_eq_true (by kernel_rfl)) k0 bel lt0) (trodAll_cons_mk (Below.trod laidOut (by kernel_rfl) (of_decide_eq_true (by kernel_rfl)) k1 bel lt1) (trodAll_cons_mk (Below.trod laidOut (by kernel_rfl) (of_decide_eq_true (by kernel_rfl)) k2 bel lt2) trodAll_mk0))), rfl, bel.frame _, fun h => by cases h⟩

/-- The statement. -/
theorem victimOrder_holds : Rows.VictimOrderSaid :=
  OpenClaim.holds_of_wide 11 Try.f11 rfl rfl rfl rfl rfl rfl rfl ⟨rfl, rfl, rfl, rfl, rfl⟩ rfl rfl rfl rfl rfl (by kernel_rfl) Try.func11 (by kernel_rfl)
    (of_decide_eq_true (by kernel_rfl)) (by unfold Func.isWrapper; first | (rw [if_pos (by decide +kernel)]; kernel_rfl) | (rw [if_neg (by decide +kernel)]; exact ⟨rfl, rfl⟩))
    (fun os started H enc _ => victimOrder_lifted os started H enc)
#print axioms victimOrder_holds
end Go.Proofs.Ytbnkpknoknenjaa
